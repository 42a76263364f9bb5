/- Package pack: numbers as bytes. -/
import Derived.Test.YtgogfnafbeahoaaGreatFound
import Derived.Deep.AppendLies
namespace Go.Proofs.YtgogfnafbeahoaaGreat
open Go Go.RowKit

/-- A number's bytes. -/
def numB (n : Nat) : List UInt8 := if n < 128 then [UInt8.ofNat n] else UInt8.ofNat (n % 128 + 128) :: numB (n / 128)
termination_by n
decreasing_by omega
theorem numB_lt {n : Nat} (h : n < 128) : numB n = [UInt8.ofNat n] := by rw [numB, if_pos h]
theorem numB_ge {n : Nat} (h : 128 ≤ n) : numB n = UInt8.ofNat (n % 128 + 128) :: numB (n / 128) := by rw [numB, if_neg (by omega)]
theorem numB_len : ∀ (k n : Nat), n < 128 ^ (k + 1) → (numB n).length ≤ k + 1
  | 0, n, h => by rw [numB_lt (by simpa using h)]; simp
  | k + 1, n, h => by
    by_cases h1 : n < 128
    · rw [numB_lt h1]; simp
    · rw [numB_ge (by omega)]
      have h2 : n / 128 < 128 ^ (k + 1) := by
        rw [Nat.div_lt_iff_lt_mul (by decide)]
        rw [Nat.pow_succ] at h
        exact h
      have := numB_len k (n / 128) h2
      simp
      omega
theorem numB_len64 {n : Nat} (h : n < 18446744073709551616) : (numB n).length ≤ 10 := numB_len 9 n (Nat.lt_of_lt_of_le h (by decide))

/-- A byte that was just laid. -/
theorem byte_lit (w : World) (m : Nat) (hm : m < 256) : BytesAt (bn := noBan) 0 (w.alloc (.cells #[.int .u8 m] 5)) (.slice (some ⟨w.heap.size, 0, none⟩) 1 1) [UInt8.ofNat m] := by
  have hb : (((UInt8.ofNat m).toNat : Nat) : Int) = (m : Int) := by simp; omega
  have h : OwnB (w.alloc (.cells #[.int .u8 m] 5)) w.heap.size (.slice (some ⟨w.heap.size, 0, none⟩) 1 1) [UInt8.ofNat m] :=
    ⟨rfl, .inr ⟨w.heap.size, 1, _, rfl, Nat.le_refl _, heap_new _ _, Nat.le_refl _, by decide, rfl, by
      show [Value.int .u8 (m : Int)] = [u8v (UInt8.ofNat m)]
      unfold u8v
      rw [hb]⟩⟩
  exact h.bytes (bn := noBan) (fun _ => Nat.zero_le _)
/-- A slice behind which append makes a row of its own: full, or a row of the call's own. -/
def AppB [bn : Inhabited Ban] (base : Nat) (w : World) (B : Nat) (v : Value) (l : Bytes) : Prop := (∃ ao, v = .slice ao l.length l.length ∧ BytesAt base w v l) ∨ OwnB w B v l
theorem AppB.form [bn : Inhabited Ban] {base B : Nat} {w : World} {v : Value} {l : Bytes} (h : AppB base w B v l) : ∃ ao cap, v = .slice ao l.length cap := by
  rcases h with ⟨ao, e, _⟩ | h
  · exact ⟨_, _, e⟩
  · exact h.form
theorem or128 (m : Nat) : bits .or .u8 ((m : Int) % 256) 128 = ((m % 128 + 128 : Nat) : Int) := by
  have h : ∀ k : Fin 256, bits .or .u8 (k.val : Int) 128 = ((k.val % 128 + 128 : Nat) : Int) := by decide +kernel
  have h1 := h ⟨m % 256, Nat.mod_lt _ (by decide)⟩
  simp only at h1
  have e1 : ((m % 256 : Nat) : Int) = (m : Int) % 256 := by omega
  have e2 : m % 256 % 128 = m % 128 := by omega
  rw [e1, e2] at h1
  exact h1
theorem AppB.no [bn : Inhabited Ban] {base B : Nat} {w w' : World} {v : Value} {l : Bytes} (h : AppB base w B v l) (k : Keep No w w') : AppB base w' B v l := by
  rcases h with ⟨ao, e, hb⟩ | h
  · exact .inl ⟨ao, e, hb.no k⟩
  · exact .inr (h.keep k (fun _ _ e => e))
theorem wpList_append_full [bn : Inhabited Ban] {w : World} {ops : Array Oper} {rest : List Oper} {o : Oper} {a : Act} {Q : Exit → Act → World → Prop}
    (hg : o.guard = none) (s x : Operand) (hop : o.op = Op.call { callee := Callee.builtin Builtin.append, args := #[s, x], argTypes := #[49, 49] })
    (B : Nat) {v u : Value} {l m : Bytes} {base base' : Nat} (happ : AppB base w B v l) (hsrc : BytesAt (bn := noBan) base' w u m) (hm : m ≠ []) (hs : a.eval s = v) (hx : a.eval x = u)
    (hlen : l.length + m.length ≤ 70368744177664) (hB : B ≤ w.heap.size)
    (hK : ∀ v' w', OwnB w' B v' (l ++ m) → Keep (fun b => B ≤ b) w w' → wpList Tryz.prog ops Q rest (a.put o.dst v') w') :
    wpList Tryz.prog ops Q (o :: rest) a w := by
  have hown : OwnB w B v l → wpList Tryz.prog ops Q (o :: rest) a w := fun hown =>
    wpList_append_bytes (bn := noBan) hg s x hop B hown hsrc hs hx hlen hB (fun v' w' h1 k => hK v' w' h1 (k.mono fun b _ hb => (hown.lt b hb).1))
  rcases happ with ⟨ao, rfl, hb⟩ | h
  · obtain ⟨ao', cap', he, hc', hm', hn', hcell'⟩ := hb
    simp only [Value.slice.injEq] at he
    obtain ⟨rfl, _, rfl⟩ := he
    cases ao with
    | none =>
      have hl := hn' rfl
      have : l = [] := List.eq_nil_of_length_eq_zero hl
      subst this
      exact hown (OwnB.nil _ _)
    | some ad =>
      refine wpList_plain hg fun K hK' => ?_
      obtain ⟨i0, hi, hz0, hz1, hz2⟩ := info_parts info_u8
      obtain ⟨bo, bc, rfl, hc, hmx, hn, hcell⟩ := hsrc
      cases bo with
      | none =>
        have := hn rfl
        have hl0 : m.length = 0 := by omega
        exact (hm (List.eq_nil_of_length_eq_zero hl0)).elim
      | some bd =>
        have hpos : 0 < m.length := List.length_pos_iff.2 hm
        have hrun := run_append_grow (P := Tryz.prog) w 49 o.type 5 i0 (.int .u8 0) Tryz.underlying49 hi hz0 ad l.length l.length (l.map u8v) (by rw [hz1]; simp) (fun j y hj => by
            rw [List.getElem?_map] at hj
            cases hmj : l[j]? with
            | none => simp [hmj] at hj
            | some z =>
              obtain ⟨ad', e, _, hcl⟩ := hcell' j z hmj
              cases e
              simp [hmj] at hj
              rw [hcl, hj])
          bd m.length bc (m.map u8v) (by rw [hz1]; simp) (fun j y hj => by
            rw [List.getElem?_map] at hj
            cases hmj : m[j]? with
            | none => simp [hmj] at hj
            | some z =>
              obtain ⟨ad', e, _, hcl⟩ := hcell j z hmj
              cases e
              simp [hmj] at hj
              rw [hcl, hj]) (by omega) (by omega) (growslice_fits (by omega) (by rw [hz2]; omega))
        have hge := grownCap_ge w (l.length + m.length) l.length 5
        have hcm2 : grownCap w (l.length + m.length) l.length 5 ≤ maxLen := grownCap_le_maxLen w (l.length + m.length) l.length 5 (by unfold maxLen; omega)
        unfold Oper.wp
        simp [execOp, hop, resolve, invoke, builtin, hs, hx, hrun, Result.andThen]
        refine hK' _ _ (hK _ _ ?_ ((Keep.refl _ _).drew.alloc _))
        refine ⟨by simp, .inr ⟨w.heap.size, _, _, by rw [List.length_append], hB, heap_alloc_new w.drew _, by rw [List.length_append]; exact hge, hcm2, ?_, ?_⟩⟩
        · simp [size_zeroCells, Value.cells]
          omega
        · simp
          rw [← List.append_assoc, List.take_append_of_le_length (by simp), List.take_of_length_le (by simp)]
  · exact hown h
set_option maxRecDepth 100000 in
set_option maxHeartbeats 1000000 in
theorem pnum_spec [bn : Inhabited Ban] {base : Nat} {w : World} {v : Value} {l : Bytes} (h : BytesAt base w v l) (n : Nat) (hn : n < 18446744073709551616) (hl : l.length ≤ 1099511627776) :
    Calls Tryz.prog 43 #[v, .int .u64 n] w fun e w' => ∃ v', e = .returned v' ∧ OwnB w' w.heap.size v' (l ++ numB n) ∧ Keep No w w' := by
  obtain ⟨ao, cap, rfl⟩ := h.form
  have hcap : l.length ≤ cap ∧ cap ≤ maxLen := by obtain ⟨_, _, hq, h1, h2, _⟩ := h; simp at hq; omega
  unfold maxLen at hcap
  have hf : AppB base w w.heap.size (.slice ao l.length l.length) l := by
    obtain ⟨ao', cap', he, h1, h2, h3, h4⟩ := h
    simp only [Value.slice.injEq] at he
    obtain ⟨rfl, _, rfl⟩ := he
    refine .inl ⟨ao, rfl, ao, l.length, rfl, Nat.le_refl _, by unfold maxLen; omega, fun e => by have := h3 e; omega, h4⟩
  have HH := Lib.hid (And.intro hf (And.intro hn hl))
  clear hf h hn hl
  go_enter Tryz.func43, Tryz.ntmps43
  go_wp2_with fail
  go_loopw [0, 1] (fun v0 nv wr => ∃ (d : List UInt8) (m : Nat), nv = .int .u64 m ∧ numB n = d ++ numB m ∧ m ≤ n ∧ AppB base wr w.heap.size v0 (l ++ d) ∧ Keep No w wr) (fun _ nv _ => (intOf nv).toNat)
  case atStart => exact ⟨[], n, rfl, rfl, Nat.le_refl _, by rw [List.append_nil]; exact HH.out.1, Keep.refl _ _⟩
  case round =>
    obtain ⟨d, m, rfl, hd, hmn, happ, hk⟩ := hrel
    have hm64 : (m : Int) ≤ 18446744073709551615 := by have := HH.out.2.1; omega
    obtain ⟨va, vc, rfl⟩ := happ.form
    have hdl : d.length ≤ 10 := by have := numB_len64 HH.out.2.1; rw [hd, List.length_append] at this; omega
    have HB := Lib.hid (And.intro hd (And.intro hmn (And.intro happ (And.intro hk hdl))))
    have kA := fun (w : World) o => (Keep.refl No w).alloc o
    by_cases h128 : m < 128
    · have hlt : ¬ (128 : Int) ≤ (m : Int) := by omega
      have hlit := byte_lit wr m (by omega)
      have happ2 : AppB base (wr.alloc (.cells #[.int .u8 m] 5)) w.heap.size (.slice va (l ++ d).length vc) (l ++ d) := happ.no (kA _ _)
      have hlen : (l ++ d).length + [UInt8.ofNat m].length ≤ 70368744177664 := by have := HH.out.2.2; simp; omega
      have hsz : w.heap.size ≤ (wr.alloc (.cells #[.int .u8 m] 5)).heap.size := (hk.then (kA _ _)).size
      clear hd hmn happ hk hdl
      go_wp2_with (at_builtin; refine wpList_append_full rfl _ _ rfl w.heap.size happ2 hlit (by simp) rfl rfl hlen hsz ?_; intro v' w7 hown7 k7)
      go_ret
      refine ⟨v', rfl, ?_, (HB.out.2.2.2.1.then (kA _ _)).trans k7 (fun x hx e => by omega)⟩
      rw [HB.out.1, numB_lt h128, ← List.append_assoc]
      exact hown7
    · have hlt : (128 : Int) ≤ (m : Int) := by omega
      obtain ⟨r, hr⟩ : ∃ r, r = m % 128 + 128 := ⟨_, rfl⟩
      have hor := or128 m
      rw [← hr] at hor
      have hlit := byte_lit wr r (by omega)
      have happ2 : AppB base (wr.alloc (.cells #[.int .u8 r] 5)) w.heap.size (.slice va (l ++ d).length vc) (l ++ d) := happ.no (kA _ _)
      have hlen : (l ++ d).length + [UInt8.ofNat r].length ≤ 70368744177664 := by have := HH.out.2.2; simp; omega
      have hsz : w.heap.size ≤ (wr.alloc (.cells #[.int .u8 r] 5)).heap.size := (hk.then (kA _ _)).size
      have HR := Lib.hid hr
      clear hd hmn happ hk hdl hr
      go_wp2_with (at_builtin; refine wpList_append_full rfl _ _ rfl w.heap.size happ2 hlit (by simp) rfl rfl hlen hsz ?_; intro v' w7 hown7 k7)
      go_roundw
      case rel =>
        refine ⟨d ++ [UInt8.ofNat r], m / 128, by rw [show ((m / 128 : Nat) : Int) = (m : Int) / 128 by omega], ?_, by have := HB.out.2.1; omega, .inr (by rw [← List.append_assoc]; exact hown7), (HB.out.2.2.2.1.then (kA _ _)).trans k7 (fun x hx e => by omega)⟩
        rw [HB.out.1, numB_ge (by omega), HR.out, List.append_assoc]
        rfl
      case measure =>
        simp only [intOf]
        omega
end Go.Proofs.YtgogfnafbeahoaaGreat
