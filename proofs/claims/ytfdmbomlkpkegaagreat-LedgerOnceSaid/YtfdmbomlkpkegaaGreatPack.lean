/- Package pack: numbers as bytes. Package pack: In. Package pack: In.Num. Package pack: Of, Bytes, In.Bytes. Package pack: In.Bytes. -/
import Derived.Test.YtfdmbomlkpkegaaGreatFound
import Derived.Deep.AppendLies
import Derived.Test.YtfdmbomlkpkegaaGreatLogX
import Derived.Laws.BitsAllLaws

/-! ## PackA -/
namespace Go.Proofs.YtfdmbomlkpkegaaGreat
open Go Go.RowKit

/-- A number's bytes. -/
def numB (n : Nat) : List UInt8 := if n < 128 then [UInt8.ofNat n] else UInt8.ofNat (n % 128 + 128) :: numB (n / 128)
termination_by n
decreasing_by omega
theorem numB_lt {n : Nat} (h : n < 128) : numB n = [UInt8.ofNat n] := by rw [numB, if_pos h]
theorem numB_ge {n : Nat} (h : 128 ≤ n) : numB n = UInt8.ofNat (n % 128 + 128) :: numB (n / 128) := by rw [numB, if_neg (by omega)]
theorem numB_len : ∀ (k n : Nat), n < 128 ^ (k + 1) → (numB n).length ≤ k + 1
  | 0, n, h => by rw [numB_lt (by simpa using h)]; simp
  | k + 1, n, h => by
    by_cases h1 : n < 128
    · rw [numB_lt h1]; simp
    · rw [numB_ge (by omega)]
      have h2 : n / 128 < 128 ^ (k + 1) := by
        rw [Nat.div_lt_iff_lt_mul (by decide)]
        rw [Nat.pow_succ] at h
        exact h
      have := numB_len k (n / 128) h2
      simp
      omega
theorem numB_len64 {n : Nat} (h : n < 18446744073709551616) : (numB n).length ≤ 10 := numB_len 9 n (Nat.lt_of_lt_of_le h (by decide))

/-- A byte that was just laid. -/
theorem byte_lit (w : World) (m : Nat) (hm : m < 256) : BytesAt (bn := noBan) 0 (w.alloc (.cells #[.int .u8 m] 5)) (.slice (some ⟨w.heap.size, 0, none⟩) 1 1) [UInt8.ofNat m] := by
  have hb : (((UInt8.ofNat m).toNat : Nat) : Int) = (m : Int) := by simp; omega
  have h : OwnB (w.alloc (.cells #[.int .u8 m] 5)) w.heap.size (.slice (some ⟨w.heap.size, 0, none⟩) 1 1) [UInt8.ofNat m] :=
    ⟨rfl, .inr ⟨w.heap.size, 1, _, rfl, Nat.le_refl _, heap_new _ _, Nat.le_refl _, by decide, rfl, by
      show [Value.int .u8 (m : Int)] = [u8v (UInt8.ofNat m)]
      unfold u8v
      rw [hb]⟩⟩
  exact h.bytes (bn := noBan) (fun _ => Nat.zero_le _)
/-- A slice behind which append makes a row of its own: full, or a row of the call's own. -/
def AppB [bn : Inhabited Ban] (base : Nat) (w : World) (B : Nat) (v : Value) (l : Bytes) : Prop := (∃ ao, v = .slice ao l.length l.length ∧ BytesAt base w v l) ∨ OwnB w B v l
theorem AppB.form [bn : Inhabited Ban] {base B : Nat} {w : World} {v : Value} {l : Bytes} (h : AppB base w B v l) : ∃ ao cap, v = .slice ao l.length cap := by
  rcases h with ⟨ao, e, _⟩ | h
  · exact ⟨_, _, e⟩
  · exact h.form
theorem or128 (m : Nat) : bits .or .u8 ((m : Int) % 256) 128 = ((m % 128 + 128 : Nat) : Int) := by
  have h : ∀ k : Fin 256, bits .or .u8 (k.val : Int) 128 = ((k.val % 128 + 128 : Nat) : Int) := by decide +kernel
  have h1 := h ⟨m % 256, Nat.mod_lt _ (by decide)⟩
  simp only at h1
  have e1 : ((m % 256 : Nat) : Int) = (m : Int) % 256 := by omega
  have e2 : m % 256 % 128 = m % 128 := by omega
  rw [e1, e2] at h1
  exact h1
theorem AppB.no [bn : Inhabited Ban] {base B : Nat} {w w' : World} {v : Value} {l : Bytes} (h : AppB base w B v l) (k : Keep No w w') : AppB base w' B v l := by
  rcases h with ⟨ao, e, hb⟩ | h
  · exact .inl ⟨ao, e, hb.no k⟩
  · exact .inr (h.keep k (fun _ _ e => e))
theorem wpList_append_full [bn : Inhabited Ban] {w : World} {ops : Array Oper} {rest : List Oper} {o : Oper} {a : Act} {Q : Exit → Act → World → Prop}
    (hg : o.guard = none) (s x : Operand) (hop : o.op = Op.call { callee := Callee.builtin Builtin.append, args := #[s, x], argTypes := #[59, 59] })
    (B : Nat) {v u : Value} {l m : Bytes} {base base' : Nat} (happ : AppB base w B v l) (hsrc : BytesAt (bn := noBan) base' w u m) (hm : m ≠ []) (hs : a.eval s = v) (hx : a.eval x = u)
    (hlen : l.length + m.length ≤ 70368744177664) (hB : B ≤ w.heap.size)
    (hK : ∀ v' w', OwnB w' B v' (l ++ m) → Keep (fun b => B ≤ b) w w' → wpList Tryz.prog ops Q rest (a.put o.dst v') w') :
    wpList Tryz.prog ops Q (o :: rest) a w := by
  have hown : OwnB w B v l → wpList Tryz.prog ops Q (o :: rest) a w := fun hown =>
    wpList_append_bytes (bn := noBan) hg s x hop B hown hsrc hs hx hlen hB (fun v' w' h1 k => hK v' w' h1 (k.mono fun b _ hb => (hown.lt b hb).1))
  rcases happ with ⟨ao, rfl, hb⟩ | h
  · obtain ⟨ao', cap', he, hc', hm', hn', hcell'⟩ := hb
    simp only [Value.slice.injEq] at he
    obtain ⟨rfl, _, rfl⟩ := he
    cases ao with
    | none =>
      have hl := hn' rfl
      have : l = [] := List.eq_nil_of_length_eq_zero hl
      subst this
      exact hown (OwnB.nil _ _)
    | some ad =>
      refine wpList_plain hg fun K hK' => ?_
      obtain ⟨i0, hi, hz0, hz1, hz2⟩ := info_parts info_u8
      obtain ⟨bo, bc, rfl, hc, hmx, hn, hcell⟩ := hsrc
      cases bo with
      | none =>
        have := hn rfl
        have hl0 : m.length = 0 := by omega
        exact (hm (List.eq_nil_of_length_eq_zero hl0)).elim
      | some bd =>
        have hpos : 0 < m.length := List.length_pos_iff.2 hm
        have hrun := run_append_grow (P := Tryz.prog) w 59 o.type 5 i0 (.int .u8 0) Tryz.underlying59 hi hz0 ad l.length l.length (l.map u8v) (by rw [hz1]; simp) (fun j y hj => by
            rw [List.getElem?_map] at hj
            cases hmj : l[j]? with
            | none => simp [hmj] at hj
            | some z =>
              obtain ⟨ad', e, _, hcl⟩ := hcell' j z hmj
              cases e
              simp [hmj] at hj
              rw [hcl, hj])
          bd m.length bc (m.map u8v) (by rw [hz1]; simp) (fun j y hj => by
            rw [List.getElem?_map] at hj
            cases hmj : m[j]? with
            | none => simp [hmj] at hj
            | some z =>
              obtain ⟨ad', e, _, hcl⟩ := hcell j z hmj
              cases e
              simp [hmj] at hj
              rw [hcl, hj]) (by omega) (by omega) (growslice_fits (by omega) (by rw [hz2]; omega))
        have hge := grownCap_ge w (l.length + m.length) l.length 5
        have hcm2 : grownCap w (l.length + m.length) l.length 5 ≤ maxLen := grownCap_le_maxLen w (l.length + m.length) l.length 5 (by unfold maxLen; omega)
        unfold Oper.wp
        simp [execOp, hop, resolve, invoke, builtin, hs, hx, hrun, Result.andThen]
        refine hK' _ _ (hK _ _ ?_ ((Keep.refl _ _).drew.alloc _))
        refine ⟨by simp, .inr ⟨w.heap.size, _, _, by rw [List.length_append], hB, heap_alloc_new w.drew _, by rw [List.length_append]; exact hge, hcm2, ?_, ?_⟩⟩
        · simp [size_zeroCells, Value.cells]
          omega
        · simp
          rw [← List.append_assoc, List.take_append_of_le_length (by simp), List.take_of_length_le (by simp)]
  · exact hown h
set_option maxRecDepth 100000 in
set_option maxHeartbeats 1000000 in
theorem pnum_spec [bn : Inhabited Ban] {base : Nat} {w : World} {v : Value} {l : Bytes} (h : BytesAt base w v l) (n : Nat) (hn : n < 18446744073709551616) (hl : l.length ≤ 1099511627776) :
    Calls Tryz.prog 59 #[v, .int .u64 n] w fun e w' => ∃ v', e = .returned v' ∧ OwnB w' w.heap.size v' (l ++ numB n) ∧ Keep No w w' := by
  obtain ⟨ao, cap, rfl⟩ := h.form
  have hcap : l.length ≤ cap ∧ cap ≤ maxLen := by obtain ⟨_, _, hq, h1, h2, _⟩ := h; simp at hq; omega
  unfold maxLen at hcap
  have hf : AppB base w w.heap.size (.slice ao l.length l.length) l := by
    obtain ⟨ao', cap', he, h1, h2, h3, h4⟩ := h
    simp only [Value.slice.injEq] at he
    obtain ⟨rfl, _, rfl⟩ := he
    refine .inl ⟨ao, rfl, ao, l.length, rfl, Nat.le_refl _, by unfold maxLen; omega, fun e => by have := h3 e; omega, h4⟩
  have HH := Lib.hid (And.intro hf (And.intro hn hl))
  clear hf h hn hl
  go_enter Tryz.func59, Tryz.ntmps59
  go_wp2_with fail
  go_loopw [0, 1] (fun v0 nv wr => ∃ (d : List UInt8) (m : Nat), nv = .int .u64 m ∧ numB n = d ++ numB m ∧ m ≤ n ∧ AppB base wr w.heap.size v0 (l ++ d) ∧ Keep No w wr) (fun _ nv _ => (intOf nv).toNat)
  case atStart => exact ⟨[], n, rfl, rfl, Nat.le_refl _, by rw [List.append_nil]; exact HH.out.1, Keep.refl _ _⟩
  case round =>
    obtain ⟨d, m, rfl, hd, hmn, happ, hk⟩ := hrel
    have hm64 : (m : Int) ≤ 18446744073709551615 := by have := HH.out.2.1; omega
    obtain ⟨va, vc, rfl⟩ := happ.form
    have hdl : d.length ≤ 10 := by have := numB_len64 HH.out.2.1; rw [hd, List.length_append] at this; omega
    have HB := Lib.hid (And.intro hd (And.intro hmn (And.intro happ (And.intro hk hdl))))
    have kA := fun (w : World) o => (Keep.refl No w).alloc o
    by_cases h128 : m < 128
    · have hlt : ¬ (128 : Int) ≤ (m : Int) := by omega
      have hlit := byte_lit wr m (by omega)
      have happ2 : AppB base (wr.alloc (.cells #[.int .u8 m] 5)) w.heap.size (.slice va (l ++ d).length vc) (l ++ d) := happ.no (kA _ _)
      have hlen : (l ++ d).length + [UInt8.ofNat m].length ≤ 70368744177664 := by have := HH.out.2.2; simp; omega
      have hsz : w.heap.size ≤ (wr.alloc (.cells #[.int .u8 m] 5)).heap.size := (hk.then (kA _ _)).size
      clear hd hmn happ hk hdl
      go_wp2_with (at_builtin; refine wpList_append_full rfl _ _ rfl w.heap.size happ2 hlit (by simp) rfl rfl hlen hsz ?_; intro v' w7 hown7 k7)
      go_ret
      refine ⟨v', rfl, ?_, (HB.out.2.2.2.1.then (kA _ _)).trans k7 (fun x hx e => by omega)⟩
      rw [HB.out.1, numB_lt h128, ← List.append_assoc]
      exact hown7
    · have hlt : (128 : Int) ≤ (m : Int) := by omega
      obtain ⟨r, hr⟩ : ∃ r, r = m % 128 + 128 := ⟨_, rfl⟩
      have hor := or128 m
      rw [← hr] at hor
      have hlit := byte_lit wr r (by omega)
      have happ2 : AppB base (wr.alloc (.cells #[.int .u8 r] 5)) w.heap.size (.slice va (l ++ d).length vc) (l ++ d) := happ.no (kA _ _)
      have hlen : (l ++ d).length + [UInt8.ofNat r].length ≤ 70368744177664 := by have := HH.out.2.2; simp; omega
      have hsz : w.heap.size ≤ (wr.alloc (.cells #[.int .u8 r] 5)).heap.size := (hk.then (kA _ _)).size
      have HR := Lib.hid hr
      clear hd hmn happ hk hdl hr
      go_wp2_with (at_builtin; refine wpList_append_full rfl _ _ rfl w.heap.size happ2 hlit (by simp) rfl rfl hlen hsz ?_; intro v' w7 hown7 k7)
      go_roundw
      case rel =>
        refine ⟨d ++ [UInt8.ofNat r], m / 128, by rw [show ((m / 128 : Nat) : Int) = (m : Int) / 128 by omega], ?_, by have := HB.out.2.1; omega, .inr (by rw [← List.append_assoc]; exact hown7), (HB.out.2.2.2.1.then (kA _ _)).trans k7 (fun x hx e => by omega)⟩
        rw [HB.out.1, numB_ge (by omega), HR.out, List.append_assoc]
        rfl
      case measure =>
        simp only [intOf]
        omega
end Go.Proofs.YtfdmbomlkpkegaaGreat

/-! ## PackB -/
namespace Go.Proofs.YtfdmbomlkpkegaaGreat
open Go Go.RowKit

/-- What is left, the first error. -/
structure InS where
  l : List UInt8
  e : Int
structure InAt [bn : Inhabited Ban] (base : Nat) (w : World) (g : Nat) (s : InS) : Prop where
  at' : base ≤ g
  blk : ∃ v, w.heap[g]? = some (.cells #[v, .int .i64 s.e] 269 (0, 0)) ∧ BytesAt base w v s.l
def InS.fail (s : InS) (c : Int) : InS := { s with e := if s.e = 0 then c else s.e }
def InS.end' (s : InS) : InS := if s.l = [] then s else s.fail 2
def InS.byte (s : InS) : Nat × InS := if s.e = 0 then (match s.l with
  | [] => (0, s.fail 2)
  | b :: r => (b.toNat, { s with l := r })) else (0, s)
theorem InAt.no [bn : Inhabited Ban] {base g : Nat} {w w' : World} {s : InS} (h : InAt base w g s) (k : Keep No w w') : InAt base w' g s := by
  obtain ⟨h1, v, h2, h3⟩ := h
  exact ⟨h1, v, k.heap h2 (fun e => e), h3.no k⟩
theorem InAt.foot [bn : Inhabited Ban] {base g : Nat} {w : World} {s : InS} (h : InAt base w g s) : Foot base w (· = g) := by
  obtain ⟨h1, v, h2, h3⟩ := h
  rintro b rfl
  exact ⟨h1, heap_lt h2, fun cs fr e => by rw [h2] at e; simp at e⟩
theorem InAt.setErr [bn : Inhabited Ban] {base g : Nat} {w : World} {s : InS} (h : InAt base w g s) (c : Int) : InAt base (w.setCell ⟨g, 1, none⟩ (.int .i64 c)) g { s with e := c } := by
  have hF := h.foot
  obtain ⟨h1, v, h2, h3⟩ := h
  have k : Keep (· = g) w (w.setCell ⟨g, 1, none⟩ (.int .i64 c)) := Keep.setCell (F := (· = g)) (Keep.refl _ _) (.inl rfl) _
  exact ⟨h1, v, heap_setCell_same (i := 1) (u := .int .i64 c) h2, h3.keep hF k⟩
theorem InAt.setRest [bn : Inhabited Ban] {base g : Nat} {w : World} {s : InS} (h : InAt base w g s) {v : Value} {r : List UInt8} (hv : BytesAt base w v r) : InAt base (w.setCell ⟨g, 0, none⟩ v) g { s with l := r } := by
  have hF := h.foot
  obtain ⟨h1, u, h2, h3⟩ := h
  have k : Keep (· = g) w (w.setCell ⟨g, 0, none⟩ v) := Keep.setCell (F := (· = g)) (Keep.refl _ _) (.inl rfl) _
  exact ⟨h1, v, heap_setCell_same (i := 0) (u := v) h2, hv.keep hF k⟩
theorem keep_cell {g i : Nat} (w : World) (v : Value) : Keep (· = g) w (w.setCell ⟨g, i, none⟩ v) := Keep.setCell (F := (· = g)) (Keep.refl _ _) (.inl rfl) _

theorem iErr_spec [bn : Inhabited Ban] {base g : Nat} {w : World} {s : InS} (h : InAt base w g s) : Calls Tryz.prog 156 #[.pointer (some ⟨g, 0, none⟩)] w fun e w' => e = .returned (.int .i64 s.e) ∧ w' = w := by
  obtain ⟨_, v, h2, _⟩ := h
  have c1 := cell_of h2 1
  simp at c1
  clear h2
  go_enter Tryz.func156, Tryz.ntmps156
  go_wp2
  go_ret
  exact ⟨rfl, rfl⟩
theorem iLeft_spec [bn : Inhabited Ban] {base g : Nat} {w : World} {s : InS} (h : InAt base w g s) : Calls Tryz.prog 198 #[.pointer (some ⟨g, 0, none⟩)] w fun e w' => e = .returned (.int .i64 s.l.length) ∧ w' = w := by
  obtain ⟨_, v, h2, h3⟩ := h
  obtain ⟨ao, cap, rfl⟩ := h3.form
  have c0 := cell_of h2 0
  simp at c0
  clear h2
  go_enter Tryz.func198, Tryz.ntmps198
  go_wp2
  go_ret
  exact ⟨rfl, rfl⟩
theorem iFail_spec [bn : Inhabited Ban] {base g : Nat} {w : World} {s : InS} (h : InAt base w g s) (c : Int) : Calls Tryz.prog 157 #[.pointer (some ⟨g, 0, none⟩), .int .i64 c] w fun e w' => e = .returned (.tuple #[]) ∧ InAt base w' g (s.fail c) ∧ Keep (· = g) w w' := by
  obtain ⟨h1, v, h2, h3⟩ := id h
  have c1 := cell_of h2 1
  have f1 := frozen_of h2
  simp at c1
  have HH := Lib.hid h
  clear h2 h h3 h1
  by_cases he : s.e = 0
  · have hs : s.fail c = { s with e := c } := by unfold InS.fail; rw [if_pos he]
    rw [hs]
    rw [he] at c1
    have HE := Lib.hid he
    clear hs he
    go_enter Tryz.func157, Tryz.ntmps157
    go_wp2
    go_end0
    exact ⟨rfl, HH.out.setErr c, keep_cell _ _⟩
  · have hs : s.fail c = s := by unfold InS.fail; rw [if_neg he]
    have hq : (s.e == 0) = false := by simpa using he
    rw [hs]
    clear hs
    go_enter Tryz.func157, Tryz.ntmps157
    go_wp2
    go_end0
    exact ⟨rfl, HH.out, Keep.refl _ _⟩
theorem iEnd_spec [bn : Inhabited Ban] {base g : Nat} {w : World} {s : InS} (h : InAt base w g s) : Calls Tryz.prog 159 #[.pointer (some ⟨g, 0, none⟩)] w fun e w' => e = .returned (.int .i64 s.end'.e) ∧ InAt base w' g s.end' ∧ Keep (· = g) w w' := by
  have hl := iLeft_spec h
  by_cases h0 : s.l = []
  · have hs : s.end' = s := by unfold InS.end'; rw [if_pos h0]
    have he := iErr_spec h
    rw [hs]
    rw [h0] at hl
    have HH := Lib.hid h
    clear hs h0 h
    go_enter Tryz.func159, Tryz.ntmps159
    go_wp2_with (first
      | (go_at_call 156; refine he.mono ?_; rintro e w2 ⟨rfl, rfl⟩)
      | (go_at_call 198; refine hl.mono ?_; rintro e w1 ⟨rfl, rfl⟩))
    go_ret
    exact ⟨rfl, HH.out, Keep.refl _ _⟩
  · have hs : s.end' = s.fail 2 := by unfold InS.end'; rw [if_neg h0]
    have hf := iFail_spec h 2
    have hpos : (0 : Int) < (s.l.length : Int) := by have := List.length_pos_iff.2 h0; omega
    rw [hs]
    clear hs h0 h
    go_enter Tryz.func159, Tryz.ntmps159
    go_wp2_with (first
      | (go_at_call 156; refine (iErr_spec hi).mono ?_; rintro e w2 ⟨rfl, rfl⟩)
      | (go_at_call 157; refine hf.mono ?_; rintro e w2 ⟨rfl, hi, k2⟩)
      | (go_at_call 198; refine hl.mono ?_; rintro e w1 ⟨rfl, rfl⟩))
    go_ret
    exact ⟨rfl, hi, k2⟩
theorem iByte_spec [bn : Inhabited Ban] {base g : Nat} {w : World} {s : InS} (h : InAt base w g s) : Calls Tryz.prog 108 #[.pointer (some ⟨g, 0, none⟩)] w fun e w' => e = .returned (.int .u8 s.byte.1) ∧ InAt base w' g s.byte.2 ∧ Keep (· = g) w w' := by
  have he := iErr_spec h
  by_cases h0 : s.e = 0
  · cases hl : s.l with
    | nil =>
      have hs : s.byte = (0, s.fail 2) := by unfold InS.byte; rw [if_pos h0, hl]
      have hf := iFail_spec h 2
      obtain ⟨h1, v, h2, h3⟩ := id h
      obtain ⟨ao, cap, rfl⟩ := h3.form
      have c0 := cell_of h2 0
      simp at c0
      rw [hl] at c0
      rw [hs]
      rw [h0] at he
      clear hs h h2 h3
      go_enter Tryz.func108, Tryz.ntmps108
      go_wp2_with (first
        | (go_at_call 157; refine hf.mono ?_; rintro e w2 ⟨rfl, hi, k2⟩)
        | (go_at_call 156; refine he.mono ?_; rintro e w1 ⟨rfl, rfl⟩))
      go_ret
      exact ⟨rfl, hi, k2⟩
    | cons b r =>
      have hs : s.byte = (b.toNat, { s with l := r }) := by unfold InS.byte; rw [if_pos h0, hl]
      obtain ⟨h1, v, h2, h3⟩ := id h
      obtain ⟨ao, cap, rfl⟩ := h3.form
      rw [hl] at h2 h3
      obtain ⟨hcl, hcm⟩ : (b :: r).length ≤ cap ∧ cap ≤ maxLen := by obtain ⟨_, _, hq, q1, q2, _⟩ := h3; simp at hq; omega
      obtain ⟨o, c, hsl, hsub⟩ := slice_l ao (b :: r).length cap 1 1 rfl (by simp) hcl
      have hrest := hsub base w (b :: r) h3
      have e1 : ((b :: r).take (b :: r).length).drop 1 = r := by simp
      rw [e1] at hrest
      have hlr : (b :: r).length - 1 = r.length := by simp
      rw [hlr] at hrest
      simp only [hlr] at hsl
      simp only [List.length_cons] at hsl
      obtain ⟨ad, hao, _, hcell⟩ : ∃ ad, ao = some ad ∧ True ∧ w.cell? ad = some (u8v b) := by
        obtain ⟨_, _, hq, _, _, _, hc⟩ := h3
        simp only [Value.slice.injEq] at hq
        obtain ⟨rfl, _, rfl⟩ := hq
        obtain ⟨ad, e, _, hc⟩ := hc 0 b rfl
        have e0 : ad.add 0 = ad := by simp [Addr.add]
        rw [e0] at hc
        exact ⟨ad, e, trivial, hc⟩
      subst hao
      have c0 := cell_of h2 0
      have f0 := frozen_of h2
      simp at c0
      have hset := h.setRest hrest
      rw [hs]
      rw [h0] at he
      have HH := Lib.hid hset
      clear hs h h2 h3 hset hrest hsub hl h0 e1 hlr
      unfold u8v at hcell
      go_enter Tryz.func108, Tryz.ntmps108
      go_wp2_with (go_at_call 156; refine he.mono ?_; rintro e w1 ⟨rfl, rfl⟩)
      go_ret
      exact ⟨rfl, HH.out, keep_cell _ _⟩
  · have hs : s.byte = (0, s) := by unfold InS.byte; rw [if_neg h0]
    have hq : (s.e == 0) = false := by simpa using h0
    have HH := Lib.hid h
    rw [hs]
    clear hs h
    go_enter Tryz.func108, Tryz.ntmps108
    go_wp2_with (go_at_call 156; refine he.mono ?_; rintro e w1 ⟨rfl, rfl⟩)
    go_ret
    exact ⟨rfl, HH.out, Keep.refl _ _⟩
end Go.Proofs.YtfdmbomlkpkegaaGreat

/-! ## PackC -/
namespace Go.Proofs.YtfdmbomlkpkegaaGreat
open Go Go.RowKit

/-- The number ahead: it and what is left, or the error. -/
def numP : Nat → Nat → List UInt8 → Except Int (Nat × List UInt8)
  | _, _, [] => .error 2
  | i, acc, b :: r =>
    if i = 9 ∧ 1 < b.toNat then .error 7 else if b.toNat = 0 ∧ 0 < i then .error 2
    else if b.toNat < 128 then .ok (acc + b.toNat * 128 ^ i, r) else numP (i + 1) (acc + b.toNat % 128 * 128 ^ i) r
def InS.numR (s : InS) : Except Int (Nat × List UInt8) → Nat × InS
  | .ok (n, r) => (n, { s with l := r })
  | .error c => (0, s.fail c)
def InS.num (s : InS) : Nat × InS := if s.e = 0 then s.numR (numP 0 0 s.l) else (0, s)
theorem andNot128 (b : UInt8) : bits .andNot .u8 (b.toNat : Int) 128 = ((b.toNat % 128 : Nat) : Int) := by
  have h : ∀ k : Fin 256, bits .andNot .u8 (k.val : Int) 128 = ((k.val % 128 : Nat) : Int) := by decide +kernel
  exact h ⟨b.toNat, b.toNat_lt⟩
theorem num_step {k acc c : Nat} (hk : k ≤ 9) (hacc : acc < 128 ^ k) (h9 : k = 9 → c ≤ 1) :
    bits .or .u64 (acc : Int) (IntKind.u64.wrap ((c : Int) % 128 * 2 ^ (7 * k))) = ((acc + c % 128 * 128 ^ k : Nat) : Int) ∧ acc + c % 128 * 128 ^ k < 128 ^ (k + 1) := by
  have e1 : (128 : Nat) ^ k = 2 ^ (7 * k) := by rw [Nat.pow_mul]
  have hm : c % 128 < 128 := Nat.mod_lt _ (by decide)
  have hX : c % 128 * 2 ^ (7 * k) < 18446744073709551616 := by
    by_cases h : k = 9
    · have := h9 h
      subst h
      have h2 : c % 128 ≤ 1 := by omega
      have := Nat.mul_le_mul_right (2 ^ (7 * 9)) h2
      exact Nat.lt_of_le_of_lt this (by decide)
    · have h2 : (2 : Nat) ^ (7 * k) ≤ 2 ^ 56 := Nat.pow_le_pow_right (by decide) (by omega)
      have := Nat.mul_le_mul (Nat.le_of_lt hm) h2
      exact Nat.lt_of_le_of_lt this (by decide)
  have hA : acc < 18446744073709551616 := by
    have h2 : (128 : Nat) ^ k ≤ 128 ^ 9 := Nat.pow_le_pow_right (by decide) hk
    have h3 : (128 : Nat) ^ 9 < 18446744073709551616 := by decide
    omega
  have e2 : (c : Int) % 128 * 2 ^ (7 * k) = ((c % 128 * 2 ^ (7 * k) : Nat) : Int) := by push_cast; rfl
  constructor
  · rw [e2, wraps_u64 _ (by omega) (by omega), u64_or_nat acc _ hA hX]
    congr 1
    rw [Nat.or_comm, ← Nat.shiftLeft_eq, ← Nat.shiftLeft_add_eq_or_of_lt (by rw [← e1]; exact hacc), Nat.shiftLeft_eq, ← e1]
    exact Nat.add_comm _ _
  · rw [Nat.pow_succ]
    have h2 : c % 128 * 128 ^ k ≤ 127 * 128 ^ k := Nat.mul_le_mul_right _ (by omega)
    generalize (128 : Nat) ^ k = z at *
    omega
set_option maxRecDepth 100000 in
set_option maxHeartbeats 2000000 in
theorem iNum_spec [bn : Inhabited Ban] {base g : Nat} {w : World} {s : InS} (h : InAt base w g s) (hlen : s.l.length ≤ 1099511627776) : Calls Tryz.prog 161 #[.pointer (some ⟨g, 0, none⟩)] w fun e w' => e = .returned (.int .u64 s.num.1) ∧ InAt base w' g s.num.2 ∧ Keep (· = g) w w' := by
  have he := iErr_spec h
  by_cases h0 : s.e = 0
  · obtain ⟨h1, v, h2, h3⟩ := id h
    obtain ⟨ao, cap, rfl⟩ := h3.form
    obtain ⟨hcl, hcm⟩ : s.l.length ≤ cap ∧ cap ≤ maxLen := by obtain ⟨_, _, hq, q1, q2, _⟩ := h3; simp at hq; omega
    have c0 := cell_of h2 0
    have f0 := frozen_of h2
    simp at c0
    have hli : (s.l.length : Int) ≤ 1099511627776 := by omega
    have hfail := fun c => iFail_spec h c
    rw [h0] at he
    obtain ⟨N, hN⟩ : ∃ N, N = numP 0 0 s.l := ⟨_, rfl⟩
    have hnum : s.num = s.numR N := by rw [hN]; unfold InS.num; rw [if_pos h0]
    rw [hnum]
    have HH := Lib.hid (And.intro h (And.intro h3 (And.intro hcl (And.intro hcm hN))))
    clear hnum h h2 h3 hcl hcm hN h0 h1 hlen
    go_enter Tryz.func161, Tryz.ntmps161
    go_wp2_with (go_at_call 156; refine he.mono ?_; rintro e w1 ⟨rfl, rfl⟩)
    go_loopw [3, 14] (fun nv iv wr => ∃ (k acc : Nat), nv = .int .u64 acc ∧ iv = .int .i64 k ∧ k ≤ s.l.length ∧ k ≤ 9 ∧ acc < 128 ^ k ∧ N = numP k acc (s.l.drop k) ∧ wr = w1) (fun _ iv _ => s.l.length - (intOf iv).toNat)
    case atStart => exact ⟨0, 0, rfl, rfl, Nat.zero_le _, Nat.zero_le _, by decide, HH.out.2.2.2.2, rfl⟩
    case round =>
      obtain ⟨k, acc, rfl, rfl, hkl, hk9, hacc, hNk, rfl⟩ := hrel
      by_cases hlt : k < s.l.length
      · obtain ⟨b, hb⟩ : ∃ b, s.l[k]? = some b := ⟨_, List.getElem?_eq_getElem hlt⟩
        have hdrop : s.l.drop k = b :: s.l.drop (k + 1) := by
          obtain ⟨q1, q2⟩ := List.getElem?_eq_some_iff.1 hb
          rw [List.drop_eq_getElem_cons q1, q2]
        rw [hdrop] at hNk
        obtain ⟨ad, hao, hcell⟩ : ∃ ad, ao = some ad ∧ wr.cell? (ad.add k) = some (.int .u8 b.toNat) := by
          obtain ⟨_, _, hq, _, _, _, hc⟩ := HH.out.2.1
          simp only [Value.slice.injEq] at hq
          obtain ⟨rfl, _, rfl⟩ := hq
          obtain ⟨ad, e, _, hc⟩ := hc k b hb
          exact ⟨ad, e, hc⟩
        subst hao
        have hlti : (k : Int) < (s.l.length : Int) := by omega
        have hb256 := b.toNat_lt
        have hbi : (b.toNat : Int) ≤ 255 := by omega
        have han := andNot128 b
        obtain ⟨c, hc⟩ : ∃ c, c = b.toNat := ⟨_, rfl⟩
        rw [← hc] at hcell han hbi hb256
        unfold numP at hNk
        rw [← hc] at hNk
        have HB := Lib.hid (And.intro hNk (And.intro hkl (And.intro hacc (And.intro hb hdrop))))
        have HCC := Lib.hid hc
        clear hNk hkl hacc hb hdrop hc hlt
        have hdone : c < 128 → (k = 9 → c ≤ 1) → ¬ (c = 0 ∧ 0 < k) → N = .ok (acc + c * 128 ^ k, s.l.drop (k + 1)) := fun h1 h2 h3 => by
          rw [HB.out.1, if_neg (by omega), if_neg h3, if_pos h1]
        obtain ⟨o, c', hsl, hsub⟩ := slice_l (some ad) s.l.length cap (k + 1) ((k : Int) + 1) (by simp) (by omega) HH.out.2.2.1
        have hrest := hsub base wr s.l HH.out.2.1
        rw [List.take_length] at hrest
        have hset := HH.out.1.setRest hrest
        have HS := Lib.hid hset
        have hst := fun h => num_step (k := k) (acc := acc) (c := c) hk9 HB.out.2.2.1 h
        have HN := Lib.hid (And.intro hdone hst)
        clear hset hrest hsub hdone hst
        have fin : c < 128 → (k = 9 → c ≤ 1) → ¬ (c = 0 ∧ 0 < k) → (s.numR N).1 = acc + c % 128 * 128 ^ k ∧ (s.numR N).2 = { s with l := s.l.drop (k + 1) } := fun h1 h2 h3 => by
          rw [HN.out.1 h1 h2 h3, Nat.mod_eq_of_lt h1]
          exact ⟨rfl, rfl⟩
        have HF := Lib.hid fin
        clear fin
        by_cases h9 : k = 9
        · have q9 : ((k : Int) == 9) = true := by rw [h9]; rfl
          have hk0i : (0 : Int) < (k : Int) := by omega
          by_cases hc1 : 1 < c
          · have hc1i : (1 : Int) < (c : Int) := by omega
            have hNe : N = .error 7 := by rw [HB.out.1, if_pos ⟨h9, hc1⟩]
            have hf := hfail 7
            have HE := Lib.hid hNe
            clear hNe
            try clear h9
            try clear hz
            go_wp2_with (go_at_call 157; refine hf.mono ?_; rintro e w2 ⟨rfl, hi, k2⟩)
            go_ret
            rw [HE.out]
            exact ⟨rfl, hi, k2⟩
          · have hc1i : ¬ (1 : Int) < (c : Int) := by omega
            by_cases hz : c = 0
            · have qz : ((c : Int) == 0) = true := by rw [hz]; rfl
              have hNe : N = .error 2 := by rw [HB.out.1, if_neg (by omega), if_pos ⟨hz, by omega⟩]
              have hf := hfail 2
              have HE := Lib.hid hNe
              clear hNe
              try clear h9
              try clear hz
              go_wp2_with (go_at_call 157; refine hf.mono ?_; rintro e w2 ⟨rfl, hi, k2⟩)
              go_ret
              rw [HE.out]
              exact ⟨rfl, hi, k2⟩
            · have qz : ((c : Int) == 0) = false := by rw [beq_eq_false_iff_ne]; omega
              have hci : (c : Int) < 128 := by omega
              have hor := (HN.out.2 (fun _ => by omega)).1
              obtain ⟨f1, f2⟩ := HF.out (by omega) (fun _ => by omega) (by omega)
              obtain ⟨M, hM⟩ : ∃ M, M = (s.numR N).1 := ⟨_, rfl⟩
              rw [← f1, ← hM] at hor
              have HE := Lib.hid (And.intro f2 hM)
              clear f1 f2 hM
              try clear h9
              try clear hz
              go_wp2_with fail
              go_ret
              rw [HE.out.1, ← HE.out.2]
              exact ⟨rfl, HS.out, keep_cell _ _⟩
        · have q9 : ((k : Int) == 9) = false := by rw [beq_eq_false_iff_ne]; omega
          by_cases hz : c = 0
          · have qz : ((c : Int) == 0) = true := by rw [hz]; rfl
            have hci : (c : Int) < 128 := by omega
            by_cases hk0 : 0 < k
            · have hk0i : (0 : Int) < (k : Int) := by omega
              have hNe : N = .error 2 := by rw [HB.out.1, if_neg (by omega), if_pos ⟨hz, hk0⟩]
              have hf := hfail 2
              have HE := Lib.hid hNe
              clear hNe
              try clear h9
              try clear hz
              go_wp2_with (go_at_call 157; refine hf.mono ?_; rintro e w2 ⟨rfl, hi, k2⟩)
              go_ret
              rw [HE.out]
              exact ⟨rfl, hi, k2⟩
            · have hk0i : ¬ (0 : Int) < (k : Int) := by omega
              have hor := (HN.out.2 (fun h => by omega)).1
              obtain ⟨f1, f2⟩ := HF.out (by omega) (fun h => by omega) (by omega)
              obtain ⟨M, hM⟩ : ∃ M, M = (s.numR N).1 := ⟨_, rfl⟩
              rw [← f1, ← hM] at hor
              have HE := Lib.hid (And.intro f2 hM)
              clear f1 f2 hM
              try clear h9
              try clear hz
              go_wp2_with fail
              go_ret
              rw [HE.out.1, ← HE.out.2]
              exact ⟨rfl, HS.out, keep_cell _ _⟩
          · have qz : ((c : Int) == 0) = false := by rw [beq_eq_false_iff_ne]; omega
            by_cases h128 : c < 128
            · have hci : (c : Int) < 128 := by omega
              have hor := (HN.out.2 (fun h => by omega)).1
              obtain ⟨f1, f2⟩ := HF.out (by omega) (fun h => by omega) (by omega)
              obtain ⟨M, hM⟩ : ∃ M, M = (s.numR N).1 := ⟨_, rfl⟩
              rw [← f1, ← hM] at hor
              have HE := Lib.hid (And.intro f2 hM)
              clear f1 f2 hM
              try clear h9
              try clear hz
              go_wp2_with fail
              go_ret
              rw [HE.out.1, ← HE.out.2]
              exact ⟨rfl, HS.out, keep_cell _ _⟩
            · have hci : ¬ (c : Int) < 128 := by omega
              obtain ⟨hor, hlt2⟩ := HN.out.2 (fun h => by omega)
              obtain ⟨M, hM⟩ : ∃ M, M = acc + c % 128 * 128 ^ k := ⟨_, rfl⟩
              rw [← hM] at hor hlt2
              have hN2 : N = numP (k + 1) M (s.l.drop (k + 1)) := by rw [HB.out.1, if_neg (by omega), if_neg (by omega), if_neg h128, hM]
              have HE := Lib.hid (And.intro hlt2 hN2)
              clear hlt2 hN2 hM
              go_wp2_with fail
              go_roundw
              case rel => exact ⟨k + 1, M, rfl, by go_num, by omega, by omega, HE.out.1, HE.out.2, trivial⟩
              case measure => simp [intOf]; omega
      · obtain rfl : k = s.l.length := by omega
        have hkk : ¬ (s.l.length : Int) < (s.l.length : Int) := by omega
        have hNe : N = .error 2 := by rw [hNk, List.drop_length]; rfl
        have hf := hfail 2
        have HE := Lib.hid hNe
        clear hNe hNk hkl hk9 hacc hlt
        go_wp2_with (go_at_call 157; refine hf.mono ?_; rintro e w2 ⟨rfl, hi, k2⟩)
        go_ret
        rw [HE.out]
        exact ⟨rfl, hi, k2⟩
  · have hs : s.num = (0, s) := by unfold InS.num; rw [if_neg h0]
    have hq : (s.e == 0) = false := by simpa using h0
    have HH := Lib.hid h
    rw [hs]
    clear hs h
    go_enter Tryz.func161, Tryz.ntmps161
    go_wp2_with (go_at_call 156; refine he.mono ?_; rintro e w1 ⟨rfl, rfl⟩)
    go_ret
    exact ⟨rfl, HH.out, Keep.refl _ _⟩
end Go.Proofs.YtfdmbomlkpkegaaGreat

/-! ## PackD -/
namespace Go.Proofs.YtfdmbomlkpkegaaGreat
open Go Go.RowKit

theorem pOf_spec [bn : Inhabited Ban] {base : Nat} {w : World} {v : Value} {l : Bytes} (h : BytesAt base w v l) (hb : base ≤ w.heap.size) (hT : ban.top ≤ w.heap.size) (hl : l.length ≤ 1099511627776) :
    Calls Tryz.prog 107 #[v] w fun e w' => ∃ g, e = .returned (.pointer (some ⟨g, 0, none⟩)) ∧ w.heap.size ≤ g ∧ InAt base w' g ⟨l, 0⟩ ∧ Keep No w w' := by
  obtain ⟨ao, cap, rfl⟩ := h.form
  have hc := clone_spec h (by omega)
  clear h
  go_enter Tryz.func107, Tryz.ntmps107
  go_wp2_with (go_at_call 99; refine hc.mono ?_; rintro e w1 ⟨v1, rfl, own1, k1⟩; obtain ⟨o1, c1, rfl⟩ := own1.form)
  go_ret
  have kA : Keep No w1 (w1.alloc (.cells #[.slice o1 l.length c1, .int .i64 0] 269)) := (Keep.refl _ _).alloc _
  exact ⟨w1.heap.size, rfl, k1.size, ⟨Nat.le_trans hb k1.size, _, heap_new _ _, (own1.bytes (base := base) (fun _ => hT)).no kA⟩, k1.then kA⟩
theorem pBytes_spec [bn : Inhabited Ban] {base base' : Nat} {w : World} {v u : Value} {l m : Bytes} (h : BytesAt base w v l) (hu : BytesAt base' w u m) (hl : l.length ≤ 1099511627776) (hm : m.length ≤ 1099511627776) :
    Calls Tryz.prog 171 #[v, u] w fun e w' => ∃ v', e = .returned v' ∧ OwnB w' w.heap.size v' (l ++ (numB m.length ++ m)) ∧ Keep No w w' := by
  obtain ⟨ao, cap, rfl⟩ := h.form
  obtain ⟨bo, bc, rfl⟩ := hu.form
  have hn := pnum_spec h m.length (by omega) hl
  have hnl : (numB m.length).length ≤ 10 := numB_len64 (by omega)
  have hmi : (m.length : Int) ≤ 1099511627776 := by omega
  have HU := Lib.hid hu
  clear h hu
  go_enter Tryz.func171, Tryz.ntmps171
  go_wp2_with (first
    | (at_builtin; refine wpList_append_bytes rfl _ _ rfl w.heap.size own1 (HU.out.no k1) rfl rfl hlen k1.size ?_; intro v2 w2 own2 k2)
    | (go_at_call 59; refine hn.mono ?_; rintro e w1 ⟨v1, rfl, own1, k1⟩; have hlen : (l ++ numB m.length).length + m.length ≤ 70368744177664 := by simp; omega))
  go_ret
  exact ⟨_, rfl, by rw [← List.append_assoc]; exact own2, k1.trans k2 (fun x hx e => by have := (own1.lt x e).1; omega)⟩

theorem slice_hu [bn : Inhabited Ban] (ao : Option Addr) (n cap hi : Nat) (h2 : hi ≤ n) (h3 : n ≤ cap) :
    ∃ o c, (∀ w, (Instr.slice 59 (.slice ao n cap) none (some (.int .u64 (hi : Int))) none).run Tryz.prog w = .ok (.slice o hi c) w) ∧
      ∀ base w l, BytesAt base w (.slice ao n cap) l → BytesAt base w (.slice o hi c) (l.take hi) := by
  refine ⟨_, _, fun w => ?_, fun base w l h => bytes_sub h (Nat.zero_le hi) h2⟩
  rw [run_slice_h w 59 ao n cap elem_bytes .u64 _ (by omega) (by omega), Int.toNat_natCast, size_bytes]
  rfl
theorem slice_lu [bn : Inhabited Ban] (ao : Option Addr) (n cap lo : Nat) (h1 : lo ≤ n) (_h3 : n ≤ cap) :
    ∃ o c, (∀ w, (Instr.slice 59 (.slice ao n cap) (some (.int .u64 (lo : Int))) none none).run Tryz.prog w = .ok (.slice o (n - lo) c) w) ∧
      ∀ base w l, BytesAt base w (.slice ao n cap) l → BytesAt base w (.slice o (n - lo) c) ((l.take n).drop lo) := by
  refine ⟨_, _, fun w => ?_, fun base w l h => bytes_sub h h1 (Nat.le_refl _)⟩
  rw [run_slice_l w 59 ao n cap elem_bytes .u64 _ (by omega) (by omega), Int.toNat_natCast, size_bytes]
  rfl
end Go.Proofs.YtfdmbomlkpkegaaGreat

/-! ## PackE -/
namespace Go.Proofs.YtfdmbomlkpkegaaGreat
open Go Go.RowKit

theorem numP_len : ∀ (l : List UInt8) (i acc n : Nat) (r : List UInt8), numP i acc l = .ok (n, r) → r.length < l.length
  | [], i, acc, n, r, h => by simp [numP] at h
  | b :: t, i, acc, n, r, h => by
    unfold numP at h
    split at h
    · cases h
    · split at h
      · cases h
      · split at h
        · simp only [Except.ok.injEq, Prod.mk.injEq] at h
          rw [← h.2]
          simp
        · have := numP_len t _ _ n r h
          simp
          omega
theorem num_len (s : InS) : s.num.2.l.length ≤ s.l.length := by
  unfold InS.num
  split
  · cases h : numP 0 0 s.l with
    | error c => exact Nat.le_refl _
    | ok q => exact Nat.le_of_lt (numP_len s.l 0 0 q.1 q.2 h)
  · exact Nat.le_refl _
def InS.some (s : InS) (most : Nat) : List UInt8 × InS := if s.e = 0 then (
  if s.num.2.e = 0 then (if most < s.num.1 then ([], { s with e := 6 }) else if s.num.2.l.length < s.num.1 then ([], { s with e := 2 })
    else (s.num.2.l.take s.num.1, { s.num.2 with l := s.num.2.l.drop s.num.1 })) else ([], { s with e := s.num.2.e })) else ([], s)
set_option maxRecDepth 100000 in
set_option maxHeartbeats 2000000 in
theorem iBytes_spec [bn : Inhabited Ban] {base g : Nat} {w : World} {s : InS} (h : InAt base w g s) (hlen : s.l.length ≤ 1099511627776) (most : Nat) (hmost : most ≤ 1099511627776) :
    Calls Tryz.prog 214 #[.pointer (some ⟨g, 0, none⟩), .int .i64 most] w fun e w' => ∃ v, e = .returned v ∧ OwnB w' w.heap.size v (s.some most).1 ∧ InAt base w' g (s.some most).2 ∧ Keep (· = g) w w' := by
  have he := iErr_spec h
  by_cases h0 : s.e = 0
  · obtain ⟨n, hn⟩ : ∃ n, n = s.num.1 := ⟨_, rfl⟩
    obtain ⟨s1, hs1⟩ : ∃ s1, s1 = s.num.2 := ⟨_, rfl⟩
    have hnum := iNum_spec h hlen
    rw [← hn, ← hs1] at hnum
    have hl1 : s1.l.length ≤ 1099511627776 := by rw [hs1]; exact Nat.le_trans (num_len s) hlen
    have hli1 : (s1.l.length : Int) ≤ 1099511627776 := by omega
    have hs : s.some most = (if s1.e = 0 then (if most < n then ([], { s with e := 6 }) else if s1.l.length < n then ([], { s with e := 2 })
      else (s1.l.take n, { s1 with l := s1.l.drop n })) else ([], { s with e := s1.e })) := by unfold InS.some; rw [if_pos h0, ← hn, ← hs1]
    rw [hs]
    obtain ⟨h1, v, h2, h3⟩ := id h
    obtain ⟨ao, cap, rfl⟩ := h3.form
    have c0 := cell_of h2 0
    simp at c0
    rw [h0] at he
    have hF := h.foot
    have hmi : (most : Int) ≤ 1099511627776 := by omega
    have HH := Lib.hid (And.intro h (And.intro h3 (And.intro hF h0)))
    have HL := Lib.hid hl1
    clear hl1 hn hs1 hs h h2 h3 hF h0 h1 hlen hmost
    by_cases e1 : s1.e = 0
    · by_cases hm : most < n
      · have hmn : (most : Int) < (n : Int) := by omega
        rw [if_pos e1, if_pos hm]
        have HE := Lib.hid (And.intro e1 hm)
        clear e1 hm
        go_enter Tryz.func214, Tryz.ntmps214
        go_wp2_with (first
          | (go_at_call 157; refine hf.mono ?_; rintro e w2 ⟨rfl, hi2, k2⟩; obtain ⟨_, v2, hh2, hv2⟩ := id hi2; obtain ⟨o2, cp2, rfl⟩ := hv2.form; have d1 := cell_of hh2 1; have d0 := cell_of hh2 0; have fd := frozen_of hh2; simp [InS.fail, HE.out.1] at d1 d0)
          | (go_at_call 161; refine hnum.mono ?_; rintro e w1 ⟨rfl, hi1, k1⟩; obtain ⟨_, v1, hh1, hv1⟩ := id hi1; obtain ⟨o1, cp1, rfl⟩ := hv1.form; have c1 := cell_of hh1 1; have c01 := cell_of hh1 0; simp at c1 c01; rw [HE.out.1] at c1; have hf := iFail_spec hi1 6)
          | (go_at_call 156; refine he.mono ?_; rintro e w0 ⟨rfl, rfl⟩))
        go_ret
        have k12 : Keep (· = g) w0 w2 := k1.trans k2 (fun _ _ e => e)
        have hset := hi2.setRest (HH.out.2.1.keep HH.out.2.2.1 k12)
        have e6 : (s1.fail 6).e = 6 := by simp [InS.fail, HE.out.1]
        refine ⟨_, rfl, OwnB.nil _ _, ?_, k12.trans (keep_cell _ _) (fun _ _ e => e)⟩
        simp only [e6] at hset
        exact hset
      · by_cases hl : s1.l.length < n
        · have hmn : ¬ (most : Int) < (n : Int) := by omega
          have hln : (s1.l.length : Int) < (n : Int) := by omega
          rw [if_pos e1, if_neg hm, if_pos hl]
          have HE := Lib.hid (And.intro e1 hm)
          clear e1 hm hl
          go_enter Tryz.func214, Tryz.ntmps214
          go_wp2_with (first
            | (go_at_call 157; refine hf.mono ?_; rintro e w2 ⟨rfl, hi2, k2⟩; obtain ⟨_, v2, hh2, hv2⟩ := id hi2; obtain ⟨o2, cp2, rfl⟩ := hv2.form; have d1 := cell_of hh2 1; have d0 := cell_of hh2 0; have fd := frozen_of hh2; simp [InS.fail, HE.out.1] at d1 d0)
            | (go_at_call 161; refine hnum.mono ?_; rintro e w1 ⟨rfl, hi1, k1⟩; obtain ⟨_, v1, hh1, hv1⟩ := id hi1; obtain ⟨o1, cp1, rfl⟩ := hv1.form; have c1 := cell_of hh1 1; have c01 := cell_of hh1 0; simp at c1 c01; rw [HE.out.1] at c1; have hf := iFail_spec hi1 2)
            | (go_at_call 156; refine he.mono ?_; rintro e w0 ⟨rfl, rfl⟩))
          go_ret
          have k12 : Keep (· = g) w0 w2 := k1.trans k2 (fun _ _ e => e)
          have hset := hi2.setRest (HH.out.2.1.keep HH.out.2.2.1 k12)
          have e6 : (s1.fail 2).e = 2 := by simp [InS.fail, HE.out.1]
          refine ⟨_, rfl, OwnB.nil _ _, ?_, k12.trans (keep_cell _ _) (fun _ _ e => e)⟩
          simp only [e6] at hset
          exact hset
        · have hmn : ¬ (most : Int) < (n : Int) := by omega
          have hln : ¬ (s1.l.length : Int) < (n : Int) := by omega
          rw [if_pos e1, if_neg hm, if_neg hl]
          have hnl : n ≤ s1.l.length := by omega
          have HE := Lib.hid (And.intro e1 (And.intro hm hnl))
          clear e1 hm hl hnl
          go_enter Tryz.func214, Tryz.ntmps214
          go_wp2_with (go_at_call 156; refine he.mono ?_; rintro e w0 ⟨rfl, rfl⟩)
          refine hnum.mono ?_
          rintro e w1 ⟨rfl, hi1, k1⟩
          obtain ⟨_, v1, hh1, hv1⟩ := id hi1
          obtain ⟨o1, cp1, rfl⟩ := hv1.form
          have c1 := cell_of hh1 1
          have c01 := cell_of hh1 0
          simp at c1 c01
          rw [HE.out.1] at c1
          have hcp : s1.l.length ≤ cp1 := by obtain ⟨_, _, hq, q1, q2, _⟩ := hv1; simp at hq; omega
          obtain ⟨o3, c3, hs3, hb3⟩ := slice_hu o1 s1.l.length cp1 n HE.out.2.2 hcp
          obtain ⟨o4, c4, hs4, hb4⟩ := slice_lu o1 s1.l.length cp1 n HE.out.2.2 hcp
          have hb3 := hb3 base w1 s1.l hv1
          have hb4 := hb4 base w1 s1.l hv1
          rw [List.take_length] at hb4
          have hlt : (s1.l.take n).length = n := by rw [List.length_take]; exact Nat.min_eq_left HE.out.2.2
          have hcl := clone_spec hb3 (by rw [hlt]; have := HE.out.2.1; omega)
          have HI := Lib.hid (And.intro hi1 (And.intro hb4 (And.intro hh1 (And.intro k1 hlt))))
          clear hi1 hv1 hh1 hb3 hb4 k1 hnum he hlt
          go_wp2_with fail
          refine hcl.mono ?_
          rintro e w2 ⟨v2, rfl, own2, k2⟩
          obtain ⟨o2, cp2, rfl⟩ := own2.form
          rw [HI.out.2.2.2.2] at own2 ⊢
          have d0 := k2.cell c01 (fun e => e)
          have fd := frozen_of (k2.heap HI.out.2.2.1 (fun e => e))
          go_wp2_with fail
          go_ret
          have hset := (HI.out.1.no k2).setRest (HI.out.2.1.no k2)
          refine ⟨_, rfl, ?_, hset, (HI.out.2.2.2.1.then k2).trans (keep_cell _ _) (fun _ _ e => e)⟩
          exact (own2.keep (keep_cell _ _) (fun b hb e => by have h1 := (own2.lt b hb).1; have h2 := heap_lt HI.out.2.2.1; have h3 : b = g := e; omega)).mono HI.out.2.2.2.1.size
    · have hq : (s1.e == 0) = false := by simpa using e1
      rw [if_neg e1]
      clear e1
      go_enter Tryz.func214, Tryz.ntmps214
      go_wp2_with (first
        | (go_at_call 161; refine hnum.mono ?_; rintro e w1 ⟨rfl, hi1, k1⟩; obtain ⟨_, v1, hh1, hv1⟩ := id hi1; obtain ⟨o1, cp1, rfl⟩ := hv1.form; have c1 := cell_of hh1 1; have c01 := cell_of hh1 0; have fd := frozen_of hh1; simp at c1 c01)
        | (go_at_call 156; refine he.mono ?_; rintro e w0 ⟨rfl, rfl⟩))
      go_ret
      exact ⟨_, rfl, OwnB.nil _ _, hi1.setRest (HH.out.2.1.keep HH.out.2.2.1 k1), k1.trans (keep_cell _ _) (fun _ _ e => e)⟩
  · have hs : s.some most = ([], s) := by unfold InS.some; rw [if_neg h0]
    have hq : (s.e == 0) = false := by simpa using h0
    have HH := Lib.hid h
    rw [hs]
    clear hs h
    go_enter Tryz.func214, Tryz.ntmps214
    go_wp2_with (go_at_call 156; refine he.mono ?_; rintro e w1 ⟨rfl, rfl⟩)
    go_ret
    exact ⟨_, rfl, OwnB.nil _ _, HH.out, Keep.refl _ _⟩
end Go.Proofs.YtfdmbomlkpkegaaGreat
