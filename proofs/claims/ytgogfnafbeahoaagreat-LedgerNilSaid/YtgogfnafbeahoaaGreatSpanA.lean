/- Package span: Right, Put. -/
import Derived.Test.YtgogfnafbeahoaaGreatPackE
namespace Go.Proofs.YtgogfnafbeahoaaGreat
open Go Go.RowKit Go.Dr

theorem run_app [bn : Inhabited Ban] {w : World} (ty : TypeId) (B : Nat) {v u : Value} {l m : Bytes} {base base' : Nat} (happ : AppB base w B v l) (hsrc : BytesAt (bn := noBan) base' w u m) (hm : m ≠ [])
    (hlen : l.length + m.length ≤ 70368744177664) (hB : B ≤ w.heap.size) :
    ∃ v' w', (Builtin.append_ #[49, 49] ty #[v, u]).run Tryz.prog w = .ok v' w' ∧ OwnB w' B v' (l ++ m) ∧ Keep (fun b => B ≤ b) w w' := by
  obtain ⟨i0, hi, hz0, hz1, hz2⟩ := info_parts info_u8
  obtain ⟨bo, bc, rfl, hc, hmx, hn, hcell⟩ := hsrc
  obtain ⟨bd, rfl⟩ : ∃ bd, bo = some bd := by
    cases bo with
    | none =>
      have := hn rfl
      have hl0 : m.length = 0 := by omega
      exact (hm (List.eq_nil_of_length_eq_zero hl0)).elim
    | some bd => exact ⟨bd, rfl⟩
  have hnews : ∀ (j : Nat) y, (m.map u8v)[j]? = some y → w.cell? (bd.add j) = some y := fun j y hj => by
    rw [List.getElem?_map] at hj
    cases hmj : m[j]? with
    | none => simp [hmj] at hj
    | some z =>
      obtain ⟨ad', e, _, hcl⟩ := hcell j z hmj
      cases e
      simp [hmj] at hj
      rw [hcl, hj]
  have hpos : 0 < m.length := List.length_pos_iff.2 hm
  have hown : OwnB w B v l → ∃ v' w', (Builtin.append_ #[49, 49] ty #[v, .slice (some bd) m.length bc]).run Tryz.prog w = .ok v' w' ∧ OwnB w' B v' (l ++ m) ∧ Keep (fun b => B ≤ b) w w' := fun hown => by
    obtain ⟨v', w', hrun, h1, h2, _⟩ := run_append_own (P := Tryz.prog) w B 49 ty 5 i0 (.int .u8 0) 1 1 Tryz.underlying49 hi hz0 hz1 hz2 rfl (by decide) v l.length (l.map u8v) hown
      bd m.length bc (m.map u8v) (by simp) hnews (u8_one m) (by unfold maxLen; omega) (by omega) hB
    refine ⟨v', w', hrun, ?_, (Keep.refl _ w).grown h2 (fun k hk => .inl (hown.lt k hk).1)⟩
    unfold OwnB
    rw [List.length_append, List.map_append]
    exact h1
  rcases happ with ⟨ao, rfl, hb⟩ | h
  · obtain ⟨ao', cap', he, hc', hm', hn', hcell'⟩ := hb
    simp only [Value.slice.injEq] at he
    obtain ⟨rfl, _, rfl⟩ := he
    cases ao with
    | none =>
      have hl := hn' rfl
      have : l = [] := List.eq_nil_of_length_eq_zero hl
      subst this
      exact hown (OwnB.nil _ _)
    | some ad =>
      have hrun := run_append_grow (P := Tryz.prog) w 49 ty 5 i0 (.int .u8 0) Tryz.underlying49 hi hz0 ad l.length l.length (l.map u8v) (by rw [hz1]; simp) (fun j y hj => by
          rw [List.getElem?_map] at hj
          cases hmj : l[j]? with
          | none => simp [hmj] at hj
          | some z =>
            obtain ⟨ad', e, _, hcl⟩ := hcell' j z hmj
            cases e
            simp [hmj] at hj
            rw [hcl, hj])
        bd m.length bc (m.map u8v) (by rw [hz1]; simp) hnews (by omega) (by omega) (growslice_fits (by omega) (by rw [hz2]; omega))
      have hge := grownCap_ge w (l.length + m.length) l.length 5
      have hcm2 : grownCap w (l.length + m.length) l.length 5 ≤ maxLen := grownCap_le_maxLen w (l.length + m.length) l.length 5 (by unfold maxLen; omega)
      refine ⟨_, _, hrun, ?_, (Keep.refl _ _).drew.alloc _⟩
      refine ⟨by simp, .inr ⟨w.heap.size, _, _, by rw [List.length_append], hB, heap_alloc_new w.drew _, by rw [List.length_append]; exact hge, hcm2, ?_, ?_⟩⟩
      · simp [size_zeroCells, Value.cells]
        omega
      · simp
        rw [← List.append_assoc, List.take_append_of_le_length (by simp), List.take_of_length_le (by simp)]
  · exact hown h
theorem wp_append_app [bn : Inhabited Ban] {w : World} {o : Oper} {a : Act} {K : Act → World → Prop} {Q : Exit → Act → World → Prop} (s x : Operand)
    (ho : o.op = Op.call { callee := Callee.builtin Builtin.append, args := #[s, x], argTypes := #[49, 49] })
    (B : Nat) {v u : Value} {l m : Bytes} {base base' : Nat} (happ : AppB base w B v l) (hsrc : BytesAt (bn := noBan) base' w u m) (hm : m ≠ []) (hs : a.eval s = v) (hx : a.eval x = u)
    (hlen : l.length + m.length ≤ 70368744177664) (hB : B ≤ w.heap.size)
    (hK : ∀ v' w', OwnB w' B v' (l ++ m) → Keep (fun b => B ≤ b) w w' → K (a.put o.dst v') w') : o.wp Tryz.prog a w K Q := by
  obtain ⟨v', w', hr, h1, h2⟩ := run_app o.type B happ hsrc hm hlen hB
  unfold Oper.wp execOp
  simp only [ho, resolve, invoke, builtin, Sem.run_bind, Sem.run_pure, Result.andThen_ok, List.map_toArray, List.map_cons, List.map_nil, hs, hx, hr]
  exact hK _ _ h1 h2
structure SpanS where
  c : Int
  body : List UInt8
def SpanS.right (s : SpanS) : Bool := decide (0 ≤ s.c ∧ s.c < 8 ∧ s.body.length ≤ 4096)
def SpanS.bytes (s : SpanS) : List UInt8 := UInt8.ofNat (s.c % 256).toNat :: (numB s.body.length ++ s.body)
theorem sRight_spec {w : World} {s : SpanS} {ao : Option Addr} {cap : Nat} (hl : s.body.length ≤ 1099511627776) : Calls Tryz.prog 79 #[.agg #[.int .i64 s.c, .slice ao s.body.length cap]] w fun e w' => e = .returned (.bool s.right) ∧ Keep No w w' := by
  have kA : Keep No w (w.alloc (.cells #[.int .i64 s.c, .slice ao s.body.length cap] 51)) := (Keep.refl _ _).alloc _
  by_cases h1 : 0 ≤ s.c
  · by_cases h2 : s.c < 8
    · by_cases h3 : s.body.length ≤ 4096
      · have h3i : (s.body.length : Int) ≤ 4096 := by omega
        have hs : s.right = true := by simp [SpanS.right, h1, h2, h3]
        rw [hs]
        clear hs
        go_enter Tryz.func79, Tryz.ntmps79
        go_wp2
        go_ret
        exact ⟨rfl, kA⟩
      · have h3i : ¬ (s.body.length : Int) ≤ 4096 := by omega
        have hs : s.right = false := by simp [SpanS.right]; omega
        rw [hs]
        clear hs
        go_enter Tryz.func79, Tryz.ntmps79
        go_wp2
        go_ret
        exact ⟨rfl, kA⟩
    · have hs : s.right = false := by simp [SpanS.right]; omega
      rw [hs]
      clear hs
      go_enter Tryz.func79, Tryz.ntmps79
      go_wp2
      go_ret
      exact ⟨rfl, kA⟩
  · have hs : s.right = false := by simp [SpanS.right]; omega
    rw [hs]
    clear hs
    go_enter Tryz.func79, Tryz.ntmps79
    go_wp2
    go_ret
    exact ⟨rfl, kA⟩
set_option maxRecDepth 100000 in
set_option maxHeartbeats 2000000 in
theorem sPut_spec [bn : Inhabited Ban] {base base' : Nat} {w : World} (hT : ban.top ≤ w.heap.size) {s : SpanS} {sv pv : Value} {l : Bytes} (hs : BytesAt base w sv s.body) (hp : BytesAt base' w pv l) (hl : l.length ≤ 1073741824) (hb : s.body.length ≤ 1073741824) :
    Calls Tryz.prog 80 #[.agg #[.int .i64 s.c, sv], pv] w fun e w' => ∃ v', e = .returned v' ∧ OwnB w' w.heap.size v' (l ++ s.bytes) ∧ Keep No w w' := by
  obtain ⟨ao, cap, rfl⟩ := hs.form
  obtain ⟨po, pc, rfl⟩ := hp.form
  obtain ⟨hpl, hpm⟩ : l.length ≤ pc ∧ pc ≤ maxLen := by obtain ⟨_, _, hq, h1, h2, _⟩ := hp; simp at hq; omega
  unfold maxLen at hpm
  obtain ⟨W, hW⟩ : ∃ W, W = w.alloc (.cells #[.int .i64 s.c, .slice ao s.body.length cap] 51) := ⟨_, rfl⟩
  have kW : Keep No w W := by rw [hW]; exact (Keep.refl _ _).alloc _
  have hA : W.heap[w.heap.size]? = some (.cells #[.int .i64 s.c, .slice ao s.body.length cap] 51 (0, 0)) := by rw [hW]; exact heap_new _ _
  have c0 := cell_of hA 0
  have c1 := cell_of hA 1
  simp at c0 c1
  have hf : AppB base' W W.heap.size (.slice po l.length l.length) l := by
    obtain ⟨ao', cap', he, h1, h2, h3, h4⟩ := hp.no kW
    simp only [Value.slice.injEq] at he
    obtain ⟨rfl, _, rfl⟩ := he
    refine .inl ⟨po, rfl, po, l.length, rfl, Nat.le_refl _, by unfold maxLen; omega, fun e => by have := h3 e; omega, h4⟩
  obtain ⟨r, hr⟩ : ∃ r : Nat, (r : Int) = s.c % 256 := ⟨(s.c % 256).toNat, by omega⟩
  have hr256 : r < 256 := by omega
  have hwr : IntKind.u8.wrap s.c = (r : Int) := by rw [hr]; rfl
  have HH := Lib.hid (And.intro hs (And.intro hf (And.intro hl (And.intro hb (And.intro kW (And.intro hT hr))))))
  clear hs hp hf hl hb kW hA hT hr
  go_enter Tryz.func80, Tryz.ntmps80
  go_wp2_with fail
  show Code.wp _ _ _ _ (w.alloc (.cells #[.int .i64 s.c, .slice ao s.body.length cap] 51))
  rw [← hW]
  clear hW
  have kd : Keep No W W.drew := (Keep.refl _ _).drew
  refine wp_drawN (fun w' => Keep No W w') [0, 1, 2, 3, 4, 5, 6, 7, 8, 11, 12] [9, 10, 13] [14] (by kernel_rfl) (by kernel_rfl) (fun _ _ _ _ _ h => h) kd ?_
  iterate 11 (refine earlyN_cons (v := ?_) rfl rfl rfl ?_ ?_; rotate_left; focus (
    intro w' hS
    have d0 := hS.cell c0 (fun e => e)
    have d1 := hS.cell c1 (fun e => e)
    go_simp
    try with_reducible rfl))
  refine earlyN_nil (midN_cons rfl rfl (fun K hK => ?_))
  go_simp
  have k1 := kd.alloc (.cells #[.int .u8 r] 5)
  refine hK _ _ k1 ?_
  clear hK K
  refine midN_cons rfl rfl (fun K hK => ?_)
  refine wp_append_app _ _ rfl W.heap.size (HH.out.2.1.no k1) (byte_lit W.drew r hr256) (by simp) rfl rfl (by have := HH.out.2.2.1; simp; omega) (by simp) ?_
  intro v1 w1 own1 k2
  have k12 : Keep No W w1 := k1.trans k2 (fun x hx e => by omega)
  refine hK _ _ k12 ?_
  clear hK K
  refine midN_cons rfl rfl (fun K hK => ?_)
  go_simp
  refine (pBytes_spec (own1.bytes (base := 0) (fun _ => Nat.le_trans HH.out.2.2.2.2.2.1 HH.out.2.2.2.2.1.size)) (HH.out.1.no (HH.out.2.2.2.2.1.then k12)) (by have := HH.out.2.2.1; simp; omega) (by have := HH.out.2.2.2.1; omega)).mono ?_
  rintro e w2 ⟨v2, rfl, own2, k3⟩
  have k13 := k12.then k3
  refine hK _ _ k13 ?_
  clear hK K
  refine midN_nil (tailN_cons rfl (tailN_nil ?_))
  go_wp2
  go_ret
  refine ⟨v2, rfl, ?_, HH.out.2.2.2.2.1.then k13⟩
  have e1 : l ++ s.bytes = (l ++ [UInt8.ofNat r]) ++ (numB s.body.length ++ s.body) := by
    unfold SpanS.bytes
    rw [← HH.out.2.2.2.2.2.2, Int.toNat_natCast, List.append_assoc]
    rfl
  rw [e1]
  exact own2.mono (Nat.le_trans HH.out.2.2.2.2.1.size k12.size)
end Go.Proofs.YtgogfnafbeahoaaGreat
