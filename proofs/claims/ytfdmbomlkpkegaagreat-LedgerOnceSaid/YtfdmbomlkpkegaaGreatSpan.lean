/- Package span: Right, Put. Package span: Item.Put, Get, GetItem. Package span: Get. Package span: GetItem. -/
import Derived.Test.YtfdmbomlkpkegaaGreatPack

/-! ## SpanA -/
namespace Go.Proofs.YtfdmbomlkpkegaaGreat
open Go Go.RowKit Go.Dr

theorem run_app [bn : Inhabited Ban] {w : World} (ty : TypeId) (B : Nat) {v u : Value} {l m : Bytes} {base base' : Nat} (happ : AppB base w B v l) (hsrc : BytesAt (bn := noBan) base' w u m) (hm : m ≠ [])
    (hlen : l.length + m.length ≤ 70368744177664) (hB : B ≤ w.heap.size) :
    ∃ v' w', (Builtin.append_ #[59, 59] ty #[v, u]).run Tryz.prog w = .ok v' w' ∧ OwnB w' B v' (l ++ m) ∧ Keep (fun b => B ≤ b) w w' := by
  obtain ⟨i0, hi, hz0, hz1, hz2⟩ := info_parts info_u8
  obtain ⟨bo, bc, rfl, hc, hmx, hn, hcell⟩ := hsrc
  obtain ⟨bd, rfl⟩ : ∃ bd, bo = some bd := by
    cases bo with
    | none =>
      have := hn rfl
      have hl0 : m.length = 0 := by omega
      exact (hm (List.eq_nil_of_length_eq_zero hl0)).elim
    | some bd => exact ⟨bd, rfl⟩
  have hnews : ∀ (j : Nat) y, (m.map u8v)[j]? = some y → w.cell? (bd.add j) = some y := fun j y hj => by
    rw [List.getElem?_map] at hj
    cases hmj : m[j]? with
    | none => simp [hmj] at hj
    | some z =>
      obtain ⟨ad', e, _, hcl⟩ := hcell j z hmj
      cases e
      simp [hmj] at hj
      rw [hcl, hj]
  have hpos : 0 < m.length := List.length_pos_iff.2 hm
  have hown : OwnB w B v l → ∃ v' w', (Builtin.append_ #[59, 59] ty #[v, .slice (some bd) m.length bc]).run Tryz.prog w = .ok v' w' ∧ OwnB w' B v' (l ++ m) ∧ Keep (fun b => B ≤ b) w w' := fun hown => by
    obtain ⟨v', w', hrun, h1, h2, _⟩ := run_append_own (P := Tryz.prog) w B 59 ty 5 i0 (.int .u8 0) 1 1 Tryz.underlying59 hi hz0 hz1 hz2 rfl (by decide) v l.length (l.map u8v) hown
      bd m.length bc (m.map u8v) (by simp) hnews (u8_one m) (by unfold maxLen; omega) (by omega) hB
    refine ⟨v', w', hrun, ?_, (Keep.refl _ w).grown h2 (fun k hk => .inl (hown.lt k hk).1)⟩
    unfold OwnB
    rw [List.length_append, List.map_append]
    exact h1
  rcases happ with ⟨ao, rfl, hb⟩ | h
  · obtain ⟨ao', cap', he, hc', hm', hn', hcell'⟩ := hb
    simp only [Value.slice.injEq] at he
    obtain ⟨rfl, _, rfl⟩ := he
    cases ao with
    | none =>
      have hl := hn' rfl
      have : l = [] := List.eq_nil_of_length_eq_zero hl
      subst this
      exact hown (OwnB.nil _ _)
    | some ad =>
      have hrun := run_append_grow (P := Tryz.prog) w 59 ty 5 i0 (.int .u8 0) Tryz.underlying59 hi hz0 ad l.length l.length (l.map u8v) (by rw [hz1]; simp) (fun j y hj => by
          rw [List.getElem?_map] at hj
          cases hmj : l[j]? with
          | none => simp [hmj] at hj
          | some z =>
            obtain ⟨ad', e, _, hcl⟩ := hcell' j z hmj
            cases e
            simp [hmj] at hj
            rw [hcl, hj])
        bd m.length bc (m.map u8v) (by rw [hz1]; simp) hnews (by omega) (by omega) (growslice_fits (by omega) (by rw [hz2]; omega))
      have hge := grownCap_ge w (l.length + m.length) l.length 5
      have hcm2 : grownCap w (l.length + m.length) l.length 5 ≤ maxLen := grownCap_le_maxLen w (l.length + m.length) l.length 5 (by unfold maxLen; omega)
      refine ⟨_, _, hrun, ?_, (Keep.refl _ _).drew.alloc _⟩
      refine ⟨by simp, .inr ⟨w.heap.size, _, _, by rw [List.length_append], hB, heap_alloc_new w.drew _, by rw [List.length_append]; exact hge, hcm2, ?_, ?_⟩⟩
      · simp [size_zeroCells, Value.cells]
        omega
      · simp
        rw [← List.append_assoc, List.take_append_of_le_length (by simp), List.take_of_length_le (by simp)]
  · exact hown h
theorem wp_append_app [bn : Inhabited Ban] {w : World} {o : Oper} {a : Act} {K : Act → World → Prop} {Q : Exit → Act → World → Prop} (s x : Operand)
    (ho : o.op = Op.call { callee := Callee.builtin Builtin.append, args := #[s, x], argTypes := #[59, 59] })
    (B : Nat) {v u : Value} {l m : Bytes} {base base' : Nat} (happ : AppB base w B v l) (hsrc : BytesAt (bn := noBan) base' w u m) (hm : m ≠ []) (hs : a.eval s = v) (hx : a.eval x = u)
    (hlen : l.length + m.length ≤ 70368744177664) (hB : B ≤ w.heap.size)
    (hK : ∀ v' w', OwnB w' B v' (l ++ m) → Keep (fun b => B ≤ b) w w' → K (a.put o.dst v') w') : o.wp Tryz.prog a w K Q := by
  obtain ⟨v', w', hr, h1, h2⟩ := run_app o.type B happ hsrc hm hlen hB
  unfold Oper.wp execOp
  simp only [ho, resolve, invoke, builtin, Sem.run_bind, Sem.run_pure, Result.andThen_ok, List.map_toArray, List.map_cons, List.map_nil, hs, hx, hr]
  exact hK _ _ h1 h2
structure SpanS where
  c : Int
  body : List UInt8
def SpanS.right (s : SpanS) : Bool := decide (0 ≤ s.c ∧ s.c < 8 ∧ s.body.length ≤ 4096)
def SpanS.bytes (s : SpanS) : List UInt8 := UInt8.ofNat (s.c % 256).toNat :: (numB s.body.length ++ s.body)
theorem sRight_spec {w : World} {s : SpanS} {ao : Option Addr} {cap : Nat} (hl : s.body.length ≤ 1099511627776) : Calls Tryz.prog 115 #[.agg #[.int .i64 s.c, .slice ao s.body.length cap]] w fun e w' => e = .returned (.bool s.right) ∧ Keep No w w' := by
  have kA : Keep No w (w.alloc (.cells #[.int .i64 s.c, .slice ao s.body.length cap] 61)) := (Keep.refl _ _).alloc _
  by_cases h1 : 0 ≤ s.c
  · by_cases h2 : s.c < 8
    · by_cases h3 : s.body.length ≤ 4096
      · have h3i : (s.body.length : Int) ≤ 4096 := by omega
        have hs : s.right = true := by simp [SpanS.right, h1, h2, h3]
        rw [hs]
        clear hs
        go_enter Tryz.func115, Tryz.ntmps115
        go_wp2
        go_ret
        exact ⟨rfl, kA⟩
      · have h3i : ¬ (s.body.length : Int) ≤ 4096 := by omega
        have hs : s.right = false := by simp [SpanS.right]; omega
        rw [hs]
        clear hs
        go_enter Tryz.func115, Tryz.ntmps115
        go_wp2
        go_ret
        exact ⟨rfl, kA⟩
    · have hs : s.right = false := by simp [SpanS.right]; omega
      rw [hs]
      clear hs
      go_enter Tryz.func115, Tryz.ntmps115
      go_wp2
      go_ret
      exact ⟨rfl, kA⟩
  · have hs : s.right = false := by simp [SpanS.right]; omega
    rw [hs]
    clear hs
    go_enter Tryz.func115, Tryz.ntmps115
    go_wp2
    go_ret
    exact ⟨rfl, kA⟩
set_option maxRecDepth 100000 in
set_option maxHeartbeats 2000000 in
theorem sPut_spec [bn : Inhabited Ban] {base base' : Nat} {w : World} (hT : ban.top ≤ w.heap.size) {s : SpanS} {sv pv : Value} {l : Bytes} (hs : BytesAt base w sv s.body) (hp : BytesAt base' w pv l) (hl : l.length ≤ 1073741824) (hb : s.body.length ≤ 1073741824) :
    Calls Tryz.prog 118 #[.agg #[.int .i64 s.c, sv], pv] w fun e w' => ∃ v', e = .returned v' ∧ OwnB w' w.heap.size v' (l ++ s.bytes) ∧ Keep No w w' := by
  obtain ⟨ao, cap, rfl⟩ := hs.form
  obtain ⟨po, pc, rfl⟩ := hp.form
  obtain ⟨hpl, hpm⟩ : l.length ≤ pc ∧ pc ≤ maxLen := by obtain ⟨_, _, hq, h1, h2, _⟩ := hp; simp at hq; omega
  unfold maxLen at hpm
  obtain ⟨W, hW⟩ : ∃ W, W = w.alloc (.cells #[.int .i64 s.c, .slice ao s.body.length cap] 61) := ⟨_, rfl⟩
  have kW : Keep No w W := by rw [hW]; exact (Keep.refl _ _).alloc _
  have hA : W.heap[w.heap.size]? = some (.cells #[.int .i64 s.c, .slice ao s.body.length cap] 61 (0, 0)) := by rw [hW]; exact heap_new _ _
  have c0 := cell_of hA 0
  have c1 := cell_of hA 1
  simp at c0 c1
  have hf : AppB base' W W.heap.size (.slice po l.length l.length) l := by
    obtain ⟨ao', cap', he, h1, h2, h3, h4⟩ := hp.no kW
    simp only [Value.slice.injEq] at he
    obtain ⟨rfl, _, rfl⟩ := he
    refine .inl ⟨po, rfl, po, l.length, rfl, Nat.le_refl _, by unfold maxLen; omega, fun e => by have := h3 e; omega, h4⟩
  obtain ⟨r, hr⟩ : ∃ r : Nat, (r : Int) = s.c % 256 := ⟨(s.c % 256).toNat, by omega⟩
  have hr256 : r < 256 := by omega
  have hwr : IntKind.u8.wrap s.c = (r : Int) := by rw [hr]; rfl
  have HH := Lib.hid (And.intro hs (And.intro hf (And.intro hl (And.intro hb (And.intro kW (And.intro hT hr))))))
  clear hs hp hf hl hb kW hA hT hr
  go_enter Tryz.func118, Tryz.ntmps118
  go_wp2_with fail
  show Code.wp _ _ _ _ (w.alloc (.cells #[.int .i64 s.c, .slice ao s.body.length cap] 61))
  rw [← hW]
  clear hW
  have kd : Keep No W W.drew := (Keep.refl _ _).drew
  refine wp_drawN (fun w' => Keep No W w') [0, 1, 2, 3, 4, 5, 6, 7, 8, 11, 12] [9, 10, 13] [14] (by kernel_rfl) (by kernel_rfl) (fun _ _ _ _ _ h => h) kd ?_
  iterate 11 (refine earlyN_cons (v := ?_) rfl rfl rfl ?_ ?_; rotate_left; focus (
    intro w' hS
    have d0 := hS.cell c0 (fun e => e)
    have d1 := hS.cell c1 (fun e => e)
    go_simp
    try with_reducible rfl))
  refine earlyN_nil (midN_cons rfl rfl (fun K hK => ?_))
  go_simp
  have k1 := kd.alloc (.cells #[.int .u8 r] 5)
  refine hK _ _ k1 ?_
  clear hK K
  refine midN_cons rfl rfl (fun K hK => ?_)
  refine wp_append_app _ _ rfl W.heap.size (HH.out.2.1.no k1) (byte_lit W.drew r hr256) (by simp) rfl rfl (by have := HH.out.2.2.1; simp; omega) (by simp) ?_
  intro v1 w1 own1 k2
  have k12 : Keep No W w1 := k1.trans k2 (fun x hx e => by omega)
  refine hK _ _ k12 ?_
  clear hK K
  refine midN_cons rfl rfl (fun K hK => ?_)
  go_simp
  refine (pBytes_spec (own1.bytes (base := 0) (fun _ => Nat.le_trans HH.out.2.2.2.2.2.1 HH.out.2.2.2.2.1.size)) (HH.out.1.no (HH.out.2.2.2.2.1.then k12)) (by have := HH.out.2.2.1; simp; omega) (by have := HH.out.2.2.2.1; omega)).mono ?_
  rintro e w2 ⟨v2, rfl, own2, k3⟩
  have k13 := k12.then k3
  refine hK _ _ k13 ?_
  clear hK K
  refine midN_nil (tailN_cons rfl (tailN_nil ?_))
  go_wp2
  go_ret
  refine ⟨v2, rfl, ?_, HH.out.2.2.2.2.1.then k13⟩
  have e1 : l ++ s.bytes = (l ++ [UInt8.ofNat r]) ++ (numB s.body.length ++ s.body) := by
    unfold SpanS.bytes
    rw [← HH.out.2.2.2.2.2.2, Int.toNat_natCast, List.append_assoc]
    rfl
  rw [e1]
  exact own2.mono (Nat.le_trans HH.out.2.2.2.2.1.size k12.size)
end Go.Proofs.YtfdmbomlkpkegaaGreat

/-! ## SpanB -/
namespace Go.Proofs.YtfdmbomlkpkegaaGreat
open Go Go.RowKit Go.Dr

structure ItemS where
  n : Nat
  s : SpanS
def ItemS.bytes (i : ItemS) : List UInt8 := numB i.n ++ i.s.bytes
set_option maxRecDepth 100000 in
set_option maxHeartbeats 2000000 in
theorem tPut_spec [bn : Inhabited Ban] {base base' : Nat} {w : World} (hT : ban.top ≤ w.heap.size) {i : ItemS} {sv pv : Value} {l : Bytes} (hs : BytesAt base w sv i.s.body) (hp : BytesAt base' w pv l) (hn : i.n < 18446744073709551616) (hl : l.length ≤ 536870912) (hb : i.s.body.length ≤ 1073741824) :
    Calls Tryz.prog 67 #[.agg #[.int .u64 i.n, .int .i64 i.s.c, sv], pv] w fun e w' => ∃ v', e = .returned v' ∧ OwnB w' w.heap.size v' (l ++ i.bytes) ∧ Keep No w w' := by
  obtain ⟨ao, cap, rfl⟩ := hs.form
  obtain ⟨po, pc, rfl⟩ := hp.form
  obtain ⟨W, hW⟩ : ∃ W, W = w.alloc (.cells #[.int .u64 i.n, .int .i64 i.s.c, .slice ao i.s.body.length cap] 111) := ⟨_, rfl⟩
  have kW : Keep No w W := by rw [hW]; exact (Keep.refl _ _).alloc _
  have hA : W.heap[w.heap.size]? = some (.cells #[.int .u64 i.n, .int .i64 i.s.c, .slice ao i.s.body.length cap] 111 (0, 0)) := by rw [hW]; exact heap_new _ _
  have c0 := cell_of hA 0
  have c1 := cell_of hA 1
  have c2 := cell_of hA 2
  simp at c0 c1 c2
  have HH := Lib.hid (And.intro hs (And.intro hp (And.intro hl (And.intro hb (And.intro kW (And.intro hT hn))))))
  clear hs hp hl hb kW hA hT hn
  go_enter Tryz.func67, Tryz.ntmps67
  go_wp2_with fail
  show Code.wp _ _ _ _ (w.alloc (.cells #[.int .u64 i.n, .int .i64 i.s.c, .slice ao i.s.body.length cap] 111))
  rw [← hW]
  clear hW
  have kd : Keep No W W.drew := (Keep.refl _ _).drew
  refine wp_drawN (fun w' => Keep No W w') [0, 1, 2, 3, 4] [5, 6] [7] (by kernel_rfl) (by kernel_rfl) (fun _ _ _ _ _ h => h) kd ?_
  iterate 5 (refine earlyN_cons (v := ?_) rfl rfl rfl ?_ ?_; rotate_left; focus (
    intro w' hS
    have d0 := hS.cell c0 (fun e => e)
    have d1 := hS.cell c1 (fun e => e)
    have d2 := hS.cell c2 (fun e => e)
    go_simp
    try with_reducible rfl))
  refine earlyN_nil (midN_cons rfl rfl (fun K hK => ?_))
  go_simp
  refine (pnum_spec (HH.out.2.1.no (HH.out.2.2.2.2.1.then kd)) i.n HH.out.2.2.2.2.2.2 (by have := HH.out.2.2.1; omega)).mono ?_
  rintro e w1 ⟨v1, rfl, own1, k1⟩
  have k1 := kd.then k1
  refine hK _ _ k1 ?_
  clear hK K
  refine midN_cons rfl rfl (fun K hK => ?_)
  go_simp
  refine (sPut_spec (base := base) (base' := 0) (s := i.s) (Nat.le_trans HH.out.2.2.2.2.2.1 (HH.out.2.2.2.2.1.then k1).size) (HH.out.1.no (HH.out.2.2.2.2.1.then k1)) (own1.bytes (fun _ => Nat.le_trans HH.out.2.2.2.2.2.1 HH.out.2.2.2.2.1.size)) (by have := HH.out.2.2.1; have := numB_len64 HH.out.2.2.2.2.2.2; simp; omega) HH.out.2.2.2.1).mono ?_
  rintro e w2 ⟨v2, rfl, own2, k2⟩
  have k12 := k1.then k2
  refine hK _ _ k12 ?_
  clear hK K
  refine midN_nil (tailN_cons rfl (tailN_nil ?_))
  go_wp2
  go_ret
  refine ⟨v2, rfl, ?_, HH.out.2.2.2.2.1.then k12⟩
  unfold ItemS.bytes
  rw [← List.append_assoc]
  exact own2.mono (Nat.le_trans HH.out.2.2.2.2.1.size k1.size)
end Go.Proofs.YtfdmbomlkpkegaaGreat

/-! ## SpanC -/
namespace Go.Proofs.YtfdmbomlkpkegaaGreat
open Go Go.RowKit

def InS.cls (s : InS) : InS := if s.byte.1 < 8 then s.byte.2 else s.byte.2.fail 2
def InS.span (s : InS) : SpanS × InS := if (s.cls.some 4096).2.e = 0 then (⟨s.byte.1, (s.cls.some 4096).1⟩, (s.cls.some 4096).2) else (⟨0, []⟩, (s.cls.some 4096).2)
theorem byte_len (s : InS) : s.byte.2.l.length ≤ s.l.length ∧ s.byte.1 < 256 := by
  unfold InS.byte
  split
  · split
    · rename_i h
      simp [InS.fail]
    · rename_i b r h
      rw [h]
      have := b.toNat_lt
      simp
      exact this
  · exact ⟨Nat.le_refl _, by show (0 : Nat) < 256; decide⟩
theorem cls_len (s : InS) : s.cls.l.length ≤ s.l.length := by
  unfold InS.cls
  split
  · exact (byte_len s).1
  · exact (byte_len s).1
theorem InAt.keepF [bn : Inhabited Ban] {base g : Nat} {w w' : World} {s : InS} {F : Nat → Prop} (h : InAt base w g s) (k : Keep F w w') (hF : Foot base w F) (hg : ¬ F g) : InAt base w' g s := by
  obtain ⟨h1, v, h2, h3⟩ := h
  exact ⟨h1, v, k.heap h2 hg, h3.keep hF k⟩
set_option maxRecDepth 100000 in
set_option maxHeartbeats 2000000 in
theorem sGet_spec [bn : Inhabited Ban] {base g : Nat} {w : World} {s : InS} (h : InAt base w g s) (hlen : s.l.length ≤ 1099511627776) :
    Calls Tryz.prog 199 #[.pointer (some ⟨g, 0, none⟩)] w fun e w' => ∃ v, e = .returned (.agg #[.int .i64 s.span.1.c, v]) ∧ OwnB w' w.heap.size v s.span.1.body ∧ InAt base w' g s.span.2 ∧ Keep (· = g) w w' := by
  obtain ⟨b2, hb2⟩ : ∃ b, b = w.heap.size := ⟨_, rfl⟩
  have hgl : g < w.heap.size := by obtain ⟨_, v, h2, _⟩ := h; exact heap_lt h2
  obtain ⟨W, hW⟩ : ∃ W, W = w.alloc (.cells #[.int .i64 0, .slice none 0 0] 61) := ⟨_, rfl⟩
  have kW : Keep No w W := by rw [hW]; exact (Keep.refl _ _).alloc _
  have hA : W.heap[b2]? = some (.cells #[.int .i64 0, .slice none 0 0] 61 (0, 0)) := by rw [hW, hb2]; exact heap_new _ _
  have hby := iByte_spec (h.no kW)
  obtain ⟨k, hk⟩ : ∃ k, k = s.byte.1 := ⟨_, rfl⟩
  obtain ⟨s1, hs1⟩ : ∃ s1, s1 = s.byte.2 := ⟨_, rfl⟩
  obtain ⟨s2, hs2⟩ : ∃ s2, s2 = s.cls := ⟨_, rfl⟩
  rw [← hk, ← hs1] at hby
  have hk256 : k < 256 := by rw [hk]; exact (byte_len s).2
  have hki : (k : Int) ≤ 255 := by omega
  have hc : s2 = if k < 8 then s1 else s1.fail 2 := by rw [hs2, hk, hs1]; rfl
  have hl2 : s2.l.length ≤ 1099511627776 := by rw [hs2]; exact Nat.le_trans (cls_len s) hlen
  have hsp : s.span = if (s2.some 4096).2.e = 0 then (⟨k, (s2.some 4096).1⟩, (s2.some 4096).2) else (⟨0, []⟩, (s2.some 4096).2) := by rw [hs2, hk]; rfl
  obtain ⟨bb, hbb⟩ : ∃ bb, bb = (s2.some 4096).1 := ⟨_, rfl⟩
  obtain ⟨s3, hs3⟩ : ∃ s3, s3 = (s2.some 4096).2 := ⟨_, rfl⟩
  rw [← hbb, ← hs3] at hsp
  have HH := Lib.hid (And.intro kW (And.intro hA (And.intro hc (And.intro hl2 (And.intro hsp (And.intro hbb (And.intro hs3 (And.intro hgl (And.intro hb2 h)))))))))
  clear kW hA hc hl2 hsp hbb hs3 hgl h hk hs1 hs2 hk256 hlen
  subst hb2
  go_enter Tryz.func199, Tryz.ntmps199
  go_wp2_with fail
  rw [← hW]
  clear hW
  refine hby.mono ?_
  rintro e w1 ⟨rfl, hi1, k1⟩
  clear hby
  have kA := fun (w : World) o => (Keep.refl No w).alloc o
  have hB3 := heap_new w1 (.cells #[.int .i64 k, .slice none 0 0] 61)
  have hi3 := hi1.no (kA w1 (.cells #[.int .i64 k, .slice none 0 0] 61))
  have hb1 := hi1.at'
  have HB := Lib.hid (And.intro hB3 (And.intro hi3 (And.intro k1 hb1)))
  clear hB3 hi3 k1 hi1 hb1
  by_cases h8 : k < 8
  · have h8i : ¬ (8 : Int) ≤ (k : Int) := by omega
    have hc := HH.out.2.2.1
    rw [if_pos h8] at hc
    subst hc
    have hbs := iBytes_spec HB.out.2.1 HH.out.2.2.2.1 4096 (by decide)
    rw [← HH.out.2.2.2.2.2.1, ← HH.out.2.2.2.2.2.2.1] at hbs
    go_wp2_with fail
    refine hbs.mono ?_
    rintro e w4 ⟨v4, rfl, own4, hi4, k4⟩
    clear hbs
    obtain ⟨vo, vc, rfl⟩ := own4.form
    have hgl := HH.out.2.2.2.2.2.2.2.1
    have hs1 := HB.out.2.2.1.size
    have hsW := HH.out.1.size
    have hne : ¬ w1.heap.size = g := fun e => by omega
    have hne2 : ¬ w.heap.size = g := fun e => by omega
    have hB4 := k4.heap HB.out.1 hne
    have hA4 := k4.heap ((kA w1 _).heap (HB.out.2.2.1.heap HH.out.2.1 hne2) (fun e => e)) hne2
    have c4 := cell_of hB4 1
    have f4 := frozen_of hB4
    simp at c4
    obtain ⟨Y, hY⟩ : ∃ Y, w4.setCell ⟨w1.heap.size, 1, none⟩ (.slice vo bb.length vc) = Y := ⟨_, rfl⟩
    have kE : Keep (· = w1.heap.size) w4 (w4.setCell ⟨w1.heap.size, 1, none⟩ (.slice vo bb.length vc)) := keep_cell _ _
    have hBY := heap_setCell_same (i := 1) (u := .slice vo bb.length vc) hB4
    have hiY := hi4.keepF kE (by rintro b rfl; exact ⟨by have := hi4.at'; omega, heap_lt hB4, fun cs fr e => by rw [hB4] at e; simp at e⟩) (fun e => hne e.symm)
    rw [hY] at hBY kE hiY
    have hlA := heap_lt HH.out.2.1
    have hAY := kE.heap hA4 (fun e => by omega)
    have hie := iErr_spec hiY
    have hsp := HH.out.2.2.2.2.1
    have hsz4 := k4.size
    have cY := cell_of hBY 0
    have cY1 := cell_of hBY 1
    have cA := cell_of hAY 0
    have cA1 := cell_of hAY 1
    have fA := frozen_of hAY
    simp at cY cY1 cA cA1
    go_wp2_with fail
    refine hie.mono ?_
    rintro e w5 ⟨rfl, hw5⟩
    subst hw5
    by_cases he : s3.e = 0
    · rw [if_pos he] at hsp
      rw [he]
      go_wp2_with fail
      have hZ := heap_setCell_same (i := 1) (u := .slice vo bb.length vc) (heap_setCell_same (i := 0) (u := .int .i64 k) hAY)
      have kZ := (keep_cell (g := w.heap.size) (i := 0) w5 (.int .i64 k)).setCell (p := ⟨w.heap.size, 1, none⟩) (.inl rfl) (.slice vo bb.length vc)
      have z0 := cell_of hZ 0
      have z1 := cell_of hZ 1
      simp at z0 z1
      refine bodyPost_ret (v := .agg #[.int .i64 k, .slice vo bb.length vc]) (by simp [results, Tryz.results199, go_sem, z0, z1]) rfl ?_
      rw [hsp]
      have hFZ : Foot base w5 (· = w.heap.size) := by
        rintro b rfl
        exact ⟨by have := hi4.at'; omega, heap_lt hAY, fun cs fr e => by rw [hAY] at e; simp at e⟩
      have kW1 : Keep (· = g) w w1 := (HH.out.1.no (F := (· = g))).trans HB.out.2.2.1 (fun x _ h => h)
      have kAll := (((kW1.trans (kA w1 (.cells #[.int .i64 k, .slice none 0 0] 61)) (fun x _ h => h.elim)).trans k4 (fun x _ h => h)).trans kE (fun x hx h => by omega)).trans kZ (fun x hx h => by omega)
      have hiZ := hiY.keepF kZ hFZ (by omega)
      have ho4 := own4.lt
      simp at ho4
      exact ⟨_, rfl, (((own4.mono (by simp; omega)).keep kE (fun b hb => by have := ho4 b hb; omega)).keep kZ (fun b hb => by have := ho4 b hb; omega)), hiZ, kAll⟩
    · rw [if_neg he] at hsp
      have hq : (s3.e == 0) = false := by simpa using he
      go_wp2_with fail
      have hZ := heap_setCell_same (i := 1) (u := .slice none 0 0) (heap_setCell_same (i := 0) (u := .int .i64 0) hAY)
      have kZ := (keep_cell (g := w.heap.size) (i := 0) w5 (.int .i64 0)).setCell (p := ⟨w.heap.size, 1, none⟩) (.inl rfl) (.slice none 0 0)
      have z0 := cell_of hZ 0
      have z1 := cell_of hZ 1
      simp at z0 z1
      refine bodyPost_ret (v := .agg #[.int .i64 0, .slice none 0 0]) (by simp [results, Tryz.results199, go_sem, z0, z1]) rfl ?_
      rw [hsp]
      have hFZ : Foot base w5 (· = w.heap.size) := by
        rintro b rfl
        exact ⟨by have := hi4.at'; omega, heap_lt hAY, fun cs fr e => by rw [hAY] at e; simp at e⟩
      have kW1 : Keep (· = g) w w1 := (HH.out.1.no (F := (· = g))).trans HB.out.2.2.1 (fun x _ h => h)
      have kAll := (((kW1.trans (kA w1 (.cells #[.int .i64 k, .slice none 0 0] 61)) (fun x _ h => h.elim)).trans k4 (fun x _ h => h)).trans kE (fun x hx h => by omega)).trans kZ (fun x hx h => by omega)
      have hiZ := hiY.keepF kZ hFZ (by omega)
      exact ⟨_, rfl, OwnB.nil _ _, hiZ, kAll⟩
  · have h8i : (8 : Int) ≤ (k : Int) := by omega
    have hc := HH.out.2.2.1
    rw [if_neg h8] at hc
    have hf := iFail_spec HB.out.2.1 2
    rw [← hc] at hf
    go_wp2_with fail
    refine hf.mono ?_
    rintro e w2 ⟨rfl, hi2, k2⟩
    clear hf
    have hbs := iBytes_spec hi2 HH.out.2.2.2.1 4096 (by decide)
    rw [← HH.out.2.2.2.2.2.1, ← HH.out.2.2.2.2.2.2.1] at hbs
    go_wp2_with fail
    refine hbs.mono ?_
    rintro e w4 ⟨v4, rfl, own40, hi4, k40⟩
    clear hbs
    have own4 := own40.mono k2.size
    have k4 := k2.trans k40 (fun x _ h => h)
    clear own40 k40
    obtain ⟨vo, vc, rfl⟩ := own4.form
    have hgl := HH.out.2.2.2.2.2.2.2.1
    have hs1 := HB.out.2.2.1.size
    have hsW := HH.out.1.size
    have hne : ¬ w1.heap.size = g := fun e => by omega
    have hne2 : ¬ w.heap.size = g := fun e => by omega
    have hB4 := k4.heap HB.out.1 hne
    have hA4 := k4.heap ((kA w1 _).heap (HB.out.2.2.1.heap HH.out.2.1 hne2) (fun e => e)) hne2
    have c4 := cell_of hB4 1
    have f4 := frozen_of hB4
    simp at c4
    obtain ⟨Y, hY⟩ : ∃ Y, w4.setCell ⟨w1.heap.size, 1, none⟩ (.slice vo bb.length vc) = Y := ⟨_, rfl⟩
    have kE : Keep (· = w1.heap.size) w4 (w4.setCell ⟨w1.heap.size, 1, none⟩ (.slice vo bb.length vc)) := keep_cell _ _
    have hBY := heap_setCell_same (i := 1) (u := .slice vo bb.length vc) hB4
    have hiY := hi4.keepF kE (by rintro b rfl; exact ⟨by have := hi4.at'; omega, heap_lt hB4, fun cs fr e => by rw [hB4] at e; simp at e⟩) (fun e => hne e.symm)
    rw [hY] at hBY kE hiY
    have hlA := heap_lt HH.out.2.1
    have hAY := kE.heap hA4 (fun e => by omega)
    have hie := iErr_spec hiY
    have hsp := HH.out.2.2.2.2.1
    have hsz4 := k4.size
    have cY := cell_of hBY 0
    have cY1 := cell_of hBY 1
    have cA := cell_of hAY 0
    have cA1 := cell_of hAY 1
    have fA := frozen_of hAY
    simp at cY cY1 cA cA1
    go_wp2_with fail
    refine hie.mono ?_
    rintro e w5 ⟨rfl, hw5⟩
    subst hw5
    by_cases he : s3.e = 0
    · rw [if_pos he] at hsp
      rw [he]
      go_wp2_with fail
      have hZ := heap_setCell_same (i := 1) (u := .slice vo bb.length vc) (heap_setCell_same (i := 0) (u := .int .i64 k) hAY)
      have kZ := (keep_cell (g := w.heap.size) (i := 0) w5 (.int .i64 k)).setCell (p := ⟨w.heap.size, 1, none⟩) (.inl rfl) (.slice vo bb.length vc)
      have z0 := cell_of hZ 0
      have z1 := cell_of hZ 1
      simp at z0 z1
      refine bodyPost_ret (v := .agg #[.int .i64 k, .slice vo bb.length vc]) (by simp [results, Tryz.results199, go_sem, z0, z1]) rfl ?_
      rw [hsp]
      have hFZ : Foot base w5 (· = w.heap.size) := by
        rintro b rfl
        exact ⟨by have := hi4.at'; omega, heap_lt hAY, fun cs fr e => by rw [hAY] at e; simp at e⟩
      have kW1 : Keep (· = g) w w1 := (HH.out.1.no (F := (· = g))).trans HB.out.2.2.1 (fun x _ h => h)
      have kAll := (((kW1.trans (kA w1 (.cells #[.int .i64 k, .slice none 0 0] 61)) (fun x _ h => h.elim)).trans k4 (fun x _ h => h)).trans kE (fun x hx h => by omega)).trans kZ (fun x hx h => by omega)
      have hiZ := hiY.keepF kZ hFZ (by omega)
      have ho4 := own4.lt
      simp at ho4
      exact ⟨_, rfl, (((own4.mono (by simp; omega)).keep kE (fun b hb => by have := ho4 b hb; omega)).keep kZ (fun b hb => by have := ho4 b hb; omega)), hiZ, kAll⟩
    · rw [if_neg he] at hsp
      have hq : (s3.e == 0) = false := by simpa using he
      go_wp2_with fail
      have hZ := heap_setCell_same (i := 1) (u := .slice none 0 0) (heap_setCell_same (i := 0) (u := .int .i64 0) hAY)
      have kZ := (keep_cell (g := w.heap.size) (i := 0) w5 (.int .i64 0)).setCell (p := ⟨w.heap.size, 1, none⟩) (.inl rfl) (.slice none 0 0)
      have z0 := cell_of hZ 0
      have z1 := cell_of hZ 1
      simp at z0 z1
      refine bodyPost_ret (v := .agg #[.int .i64 0, .slice none 0 0]) (by simp [results, Tryz.results199, go_sem, z0, z1]) rfl ?_
      rw [hsp]
      have hFZ : Foot base w5 (· = w.heap.size) := by
        rintro b rfl
        exact ⟨by have := hi4.at'; omega, heap_lt hAY, fun cs fr e => by rw [hAY] at e; simp at e⟩
      have kW1 : Keep (· = g) w w1 := (HH.out.1.no (F := (· = g))).trans HB.out.2.2.1 (fun x _ h => h)
      have kAll := (((kW1.trans (kA w1 (.cells #[.int .i64 k, .slice none 0 0] 61)) (fun x _ h => h.elim)).trans k4 (fun x _ h => h)).trans kE (fun x hx h => by omega)).trans kZ (fun x hx h => by omega)
      have hiZ := hiY.keepF kZ hFZ (by omega)
      exact ⟨_, rfl, OwnB.nil _ _, hiZ, kAll⟩
end Go.Proofs.YtfdmbomlkpkegaaGreat

/-! ## SpanD -/
namespace Go.Proofs.YtfdmbomlkpkegaaGreat
open Go Go.RowKit

def InS.item (s : InS) : ItemS × InS := if s.num.2.span.2.e = 0 then (⟨s.num.1, s.num.2.span.1⟩, s.num.2.span.2) else (⟨0, ⟨0, []⟩⟩, s.num.2.span.2)
set_option maxRecDepth 100000 in
set_option maxHeartbeats 2000000 in
theorem tGet_spec [bn : Inhabited Ban] {base g : Nat} {w : World} {s : InS} (h : InAt base w g s) (hlen : s.l.length ≤ 1099511627776) :
    Calls Tryz.prog 162 #[.pointer (some ⟨g, 0, none⟩)] w fun e w' => ∃ v, e = .returned (.agg #[.int .u64 s.item.1.n, .int .i64 s.item.1.s.c, v]) ∧ OwnB w' w.heap.size v s.item.1.s.body ∧ InAt base w' g s.item.2 ∧ Keep (· = g) w w' := by
  obtain ⟨b2, hb2⟩ : ∃ b, b = w.heap.size := ⟨_, rfl⟩
  have hgl : g < w.heap.size := by obtain ⟨_, v, h2, _⟩ := h; exact heap_lt h2
  obtain ⟨W, hW⟩ : ∃ W, W = w.alloc (.cells #[.int .u64 0, .int .i64 0, .slice none 0 0] 111) := ⟨_, rfl⟩
  have kW : Keep No w W := by rw [hW]; exact (Keep.refl _ _).alloc _
  have hA : W.heap[b2]? = some (.cells #[.int .u64 0, .int .i64 0, .slice none 0 0] 111 (0, 0)) := by rw [hW, hb2]; exact heap_new _ _
  have hn := iNum_spec (h.no kW) hlen
  obtain ⟨k, hk⟩ : ∃ k, k = s.num.1 := ⟨_, rfl⟩
  obtain ⟨s1, hs1⟩ : ∃ s1, s1 = s.num.2 := ⟨_, rfl⟩
  have hl1 : s1.l.length ≤ 1099511627776 := by rw [hs1]; exact Nat.le_trans (num_len s) hlen
  have hit : s.item = if s1.span.2.e = 0 then (⟨k, s1.span.1⟩, s1.span.2) else (⟨0, ⟨0, []⟩⟩, s1.span.2) := by rw [hs1, hk]; rfl
  rw [← hk, ← hs1] at hn
  have HH := Lib.hid (And.intro kW (And.intro hA (And.intro hl1 (And.intro hit (And.intro hgl h)))))
  clear kW hA hl1 hit hgl h hk hs1 hlen
  subst hb2
  go_enter Tryz.func162, Tryz.ntmps162
  go_wp2_with fail
  rw [← hW]
  clear hW
  refine hn.mono ?_
  rintro e w1 ⟨rfl, hi1, k1⟩
  clear hn
  have kA := fun (w : World) o => (Keep.refl No w).alloc o
  have hB3 := heap_new w1 (.cells #[.int .u64 k, .int .i64 0, .slice none 0 0] 111)
  have hi3 := hi1.no (kA w1 (.cells #[.int .u64 k, .int .i64 0, .slice none 0 0] 111))
  have hs := sGet_spec hi3 HH.out.2.2.1
  have HB := Lib.hid (And.intro hB3 (And.intro hi3 k1))
  clear hB3 hi3 k1 hi1
  go_wp2_with fail
  refine hs.mono ?_
  rintro e w4 ⟨v4, rfl, own4, hi4, k4⟩
  clear hs
  obtain ⟨vo, vc, rfl⟩ := own4.form
  have hit := HH.out.2.2.2.1
  have hgl := HH.out.2.2.2.2.1
  have hz1 := HB.out.2.2.size
  have hzW := HH.out.1.size
  have hne : ¬ w1.heap.size = g := fun e => by omega
  have hne2 : ¬ w.heap.size = g := fun e => by omega
  have hB4 := k4.heap HB.out.1 hne
  have hA4 := k4.heap ((kA w1 _).heap (HB.out.2.2.heap HH.out.2.1 hne2) (fun e => e)) hne2
  have c4 := cell_of hB4 1
  have c5 := cell_of hB4 2
  have f4 := frozen_of hB4
  simp at c4 c5
  have kE := (keep_cell (g := w1.heap.size) (i := 1) w4 (.int .i64 s1.span.1.c)).setCell (p := ⟨w1.heap.size, 2, none⟩) (.inl rfl) (.slice vo s1.span.1.body.length vc)
  have hBY := heap_setCell_same (i := 2) (u := .slice vo s1.span.1.body.length vc) (heap_setCell_same (i := 1) (u := .int .i64 s1.span.1.c) hB4)
  obtain ⟨Y, hY⟩ : ∃ Y, (w4.setCell ⟨w1.heap.size, 1, none⟩ (.int .i64 s1.span.1.c)).setCell ⟨w1.heap.size, 2, none⟩ (.slice vo s1.span.1.body.length vc) = Y := ⟨_, rfl⟩
  have hiY := hi4.keepF kE (by rintro b rfl; exact ⟨by have := hi4.at'; omega, heap_lt hB4, fun cs fr e => by rw [hB4] at e; simp at e⟩) (fun e => hne e.symm)
  rw [hY] at hBY kE hiY
  have hlA := heap_lt HH.out.2.1
  have hAY := kE.heap hA4 (fun e => by omega)
  have hie := iErr_spec hiY
  have cY := cell_of hBY 0
  have cY1 := cell_of hBY 1
  have cY2 := cell_of hBY 2
  have cA := cell_of hAY 0
  have cA1 := cell_of hAY 1
  have cA2 := cell_of hAY 2
  have fA := frozen_of hAY
  simp at cY cY1 cY2 cA cA1 cA2
  go_wp2_with fail
  refine hie.mono ?_
  rintro e w5 ⟨rfl, hw5⟩
  subst hw5
  have hFZ : Foot base w5 (· = w.heap.size) := by
    rintro b rfl
    exact ⟨by have := hi4.at'; omega, heap_lt hAY, fun cs fr e => by rw [hAY] at e; simp at e⟩
  have kW1 : Keep (· = g) w w1 := (HH.out.1.no (F := (· = g))).trans HB.out.2.2 (fun x _ h => h)
  have ho4 := own4.lt
  simp at ho4
  have own5 := own4.mono (B' := w.heap.size) (by simp; omega)
  have own6 := own5.keep kE (fun b hb => by have := ho4 b hb; omega)
  clear hY
  by_cases he : s1.span.2.e = 0
  · rw [if_pos he] at hit
    rw [he]
    go_wp2_with fail
    have hZ := heap_setCell_same (i := 2) (u := .slice vo s1.span.1.body.length vc) (heap_setCell_same (i := 1) (u := .int .i64 s1.span.1.c) (heap_setCell_same (i := 0) (u := .int .u64 k) hAY))
    have kZ := ((keep_cell (g := w.heap.size) (i := 0) w5 (.int .u64 k)).setCell (p := ⟨w.heap.size, 1, none⟩) (.inl rfl) (.int .i64 s1.span.1.c)).setCell (p := ⟨w.heap.size, 2, none⟩) (.inl rfl) (.slice vo s1.span.1.body.length vc)
    have z0 := cell_of hZ 0
    have z1 := cell_of hZ 1
    have z2 := cell_of hZ 2
    simp at z0 z1 z2
    refine bodyPost_ret (v := .agg #[.int .u64 k, .int .i64 s1.span.1.c, .slice vo s1.span.1.body.length vc]) (by simp [results, Tryz.results162, go_sem, z0, z1, z2]) rfl ?_
    rw [hit]
    have kAll := (((kW1.trans (kA w1 (.cells #[.int .u64 k, .int .i64 0, .slice none 0 0] 111)) (fun x _ h => h.elim)).trans k4 (fun x _ h => h)).trans kE (fun x hx h => by omega)).trans kZ (fun x hx h => by omega)
    have hiZ := hiY.keepF kZ hFZ (by omega)
    exact ⟨_, rfl, own6.keep kZ (fun b hb => by have := ho4 b hb; omega), hiZ, kAll⟩
  · rw [if_neg he] at hit
    have hq : (s1.span.2.e == 0) = false := by simpa using he
    go_wp2_with fail
    have hZ := heap_setCell_same (i := 2) (u := .slice none 0 0) (heap_setCell_same (i := 1) (u := .int .i64 0) (heap_setCell_same (i := 0) (u := .int .u64 0) hAY))
    have kZ := ((keep_cell (g := w.heap.size) (i := 0) w5 (.int .u64 0)).setCell (p := ⟨w.heap.size, 1, none⟩) (.inl rfl) (.int .i64 0)).setCell (p := ⟨w.heap.size, 2, none⟩) (.inl rfl) (.slice none 0 0)
    have z0 := cell_of hZ 0
    have z1 := cell_of hZ 1
    have z2 := cell_of hZ 2
    simp at z0 z1 z2
    refine bodyPost_ret (v := .agg #[.int .u64 0, .int .i64 0, .slice none 0 0]) (by simp [results, Tryz.results162, go_sem, z0, z1, z2]) rfl ?_
    rw [hit]
    have kAll := (((kW1.trans (kA w1 (.cells #[.int .u64 k, .int .i64 0, .slice none 0 0] 111)) (fun x _ h => h.elim)).trans k4 (fun x _ h => h)).trans kE (fun x hx h => by omega)).trans kZ (fun x hx h => by omega)
    have hiZ := hiY.keepF kZ hFZ (by omega)
    exact ⟨_, rfl, OwnB.nil _ _, hiZ, kAll⟩
end Go.Proofs.YtfdmbomlkpkegaaGreat
