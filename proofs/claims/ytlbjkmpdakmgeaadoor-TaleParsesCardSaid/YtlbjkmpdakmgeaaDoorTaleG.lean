/- TaleParses, walked. -/
import Derived.Test.YtlbjkmpdakmgeaaDoorTaleF
import Derived.Test.YtlbjkmpdakmgeaaDoorTaleY
namespace Go.Proofs.YtlbjkmpdakmgeaaDoor
open Go Go.RowKit Go.Dr

theorem slice_120 (S : ByteArray) (h : 120 < S.size) (w : World) : (Instr.slice 9 (.string S) none (some (.int .i64 120)) none).run Tryd.prog w = .ok (.string (S.extract 0 120)) w := by
  have := run_slice_string_h (P := Tryd.prog) (w := w) (t := 9) (s := S) (by kernel_rfl) .i64 120 (by omega) (by omega)
  simpa using this
set_option maxRecDepth 100000 in
set_option maxHeartbeats 1000000 in
theorem parses_walk {w : World} (hV : VarsAt w) (S : ByteArray) :
    Calls Tryd.prog 3 #[.string S] w fun e w' => e = .returned (.bool true) ∧ Keep No w w' := by
  obtain ⟨t, ht, hc1, hc2⟩ := str_cut S
  have ha := awake_spec hV
  have hp : ∀ w', Keep No w w' → Calls Tryd.prog 9 #[.string (strB t)] w' (ParsePost 0 w' (parseF t)) := fun w' k => parse_spec (hV.no k) (Nat.zero_le _) t (by omega)
  have hr : ∀ w' : World, Calls Tryd.prog 10 #[.string (strB t)] w' (RParsePost 0 w' (parseF t)) := fun w' => rparse_spec (Nat.zero_le _) t (by omega)
  obtain ⟨T, hT⟩ : ∃ T, T = strB t := ⟨_, rfl⟩
  rw [← hT] at hp hr hc1 hc2
  have HT := Lib.hid (And.intro hT ht)
  have HP := Lib.hid (And.intro hp hr)
  clear hp hr hT ht
  obtain ⟨big, hbig⟩ : ∃ b : Bool, b = decide (120 < S.size) := ⟨_, rfl⟩
  have hsl : big = true → ∀ w : World, (Instr.slice 9 (.string S) none (some (.int .i64 120)) none).run Tryd.prog w = .ok (.string T) w := fun hb w => by
    rw [hb] at hbig
    have h := of_decide_eq_true hbig.symm
    rw [slice_120 S h, hc1 h]
  have hsm : big = false → S = T := fun hb => by
    rw [hb] at hbig
    have h := of_decide_eq_false hbig.symm
    exact hc2 (by omega)
  have hq : decide ((120 : Int) < (S.size : Int)) = big := by rw [hbig]; apply decide_eq_decide.2; omega
  clear hc1 hc2 hbig
  have HV := Lib.hid hV
  clear hV
  cases big
  · obtain rfl : T = S := (hsm rfl).symm
    clear hsl hsm
    go_enter Tryd.func3, Tryd.ntmps3
    go_wp2_with fail
    refine ha.mono ?_
    rintro r w1 ⟨rfl, k1⟩
    clear ha
    go_wp2_with fail
    refine (HP.out.1 _ k1).mono ?_
    intro r w2 h2
    cases hx : parseF t with
    | none =>
      rw [hx] at h2
      obtain ⟨k2, rfl⟩ := h2
      unfold evV
      have k2' := k1.then k2
      go_wp2_with fail
      refine (HP.out.2 _).mono ?_
      intro r w3 h3
      rw [hx] at h3
      obtain ⟨k3, rfl⟩ := h3
      have hE := k3.heap (heap_new w2 _) (fun e => e)
      have k3' := (k2'.alloc (.cells (evC {} (.slice none 0 0) (.slice none 0 0)) 27)).then k3
      obtain ⟨c0, c1, c2, c3, c4, c5, c6, c7, c8, c9, c10⟩ := evCellsO (e := {}) (bv := .slice none 0 0) (pv := .slice none 0 0) hE
      have k4 : Keep No w (w3.alloc (.cells (dvC {} (.slice none 0 0) (.slice none 0 0)) 33)) := k3'.alloc _
      have ho := own_spec (w := w3.alloc (.cells (dvC {} (.slice none 0 0) (.slice none 0 0)) 33)) (e := {}) (bo := none) (po := none) (bn := 0) (bc := 0) (pn := 0) (pc := 0) (by decide)
      unfold dvV at ho ⊢
      clear hx hE
      go_wp2_with fail
      refine ho.mono ?_
      rintro r w5 ⟨rfl, k5⟩
      have hs := same_spec (bn := noBan) (base := 0) (w := w5) (e := {}) (bv := .slice none 0 0) (pv := .slice none 0 0) (bv' := .slice none 0 0) (pv' := .slice none 0 0) (BytesAt.nil (bn := noBan) _ _) (BytesAt.nil (bn := noBan) _ _) (BytesAt.nil (bn := noBan) _ _) (BytesAt.nil (bn := noBan) _ _)
      unfold dvV at hs
      clear ho c0 c1 c2 c3 c4 c5 c6 c7 c8 c9 c10
      go_wp2_with fail
      refine hs.mono ?_
      rintro r w6 ⟨rfl, k6⟩
      go_wp2_with fail
      go_ret
      exact ⟨rfl, (k4.then k5).then k6⟩
    | some x =>
      rw [hx] at h2
      obtain ⟨k2, bv, pv, rfl, hbv, hpv⟩ := h2
      obtain ⟨bo, bc, rfl⟩ := BytesAt.form (bn := noBan) hbv
      obtain ⟨po, pc, rfl⟩ := BytesAt.form (bn := noBan) hpv
      have hev := parse_evok hx (by have := HT.out.2; omega)
      have htx := (text_parse hx).1
      unfold evV
      have k2' := k1.then k2
      go_wp2_with fail
      refine (HP.out.2 _).mono ?_
      intro r w3 h3
      rw [hx] at h3
      obtain ⟨k3, bv2, pv2, rfl, hbv2, hpv2⟩ := h3
      obtain ⟨bo2, bc2, rfl⟩ := BytesAt.form (bn := noBan) hbv2
      obtain ⟨po2, pc2, rfl⟩ := BytesAt.form (bn := noBan) hpv2
      have hE := k3.heap (heap_new w2 (.cells (evC x (.slice bo x.body.length bc) (.slice po x.p.length pc)) 27)) (fun e => e)
      have kA : Keep No w2 (w2.alloc (.cells (evC x (.slice bo x.body.length bc) (.slice po x.p.length pc)) 27)) := (Keep.refl _ _).alloc _
      have k23 := kA.then k3
      have hbv := BytesAt.no (bn := noBan) hbv k23
      have hpv := BytesAt.no (bn := noBan) hpv k23
      have k3' := k2'.then k23
      unfold dvV
      go_wp2_with fail
      obtain ⟨W, hW⟩ : ∃ W, W = w3.alloc (.cells (dvC x (.slice bo2 x.body.length bc2) (.slice po2 x.p.length pc2)) 33) := ⟨_, rfl⟩
      have kW : Keep No w3 W := by rw [hW]; exact (Keep.refl _ _).alloc _
      have hD : W.heap[w3.heap.size]? = some (.cells (dvC x (.slice bo2 x.body.length bc2) (.slice po2 x.p.length pc2)) 33 (0, 0)) := by rw [hW]; exact heap_new _ _
      show Code.wp _ _ _ _ (w3.alloc (.cells (dvC x (.slice bo2 x.body.length bc2) (.slice po2 x.p.length pc2)) 33))
      rw [← hW]
      clear hW
      have hE := kW.heap hE (fun e => e)
      have hbv := BytesAt.no (bn := noBan) hbv kW
      have hpv := BytesAt.no (bn := noBan) hpv kW
      have hbv2 := BytesAt.no (bn := noBan) hbv2 kW
      have hpv2 := BytesAt.no (bn := noBan) hpv2 kW
      have kw := k3'.then kW
      have HB := Lib.hid (And.intro hbv (And.intro hpv (And.intro hbv2 (And.intro hpv2 (And.intro hev (And.intro htx (And.intro hE hD)))))))
      clear hbv hpv hbv2 hpv2 hev htx hE hD k23 kA k3' k2' hx kW
      have kd : Keep No W W.drew := (Keep.refl _ _).drew
      refine wp_drawN2 (fun w' => Keep No W w') [0, 1, 2, 3, 5] [4, 6, 7, 8] [9, 11] [10, 12, 13, 14] (by kernel_rfl) (by kernel_rfl) (fun _ _ _ _ _ h => h) kd ?_
      iterate 3 (refine earlyN_cons (v := ?_) rfl rfl rfl ?_ ?_; rotate_left; focus (
        intro w' hS
        go_simp
        try with_reducible rfl))
      iterate 2 (refine earlyN_guarded (v := ?_) rfl rfl (by first | kernel_rfl | simp [Region.wanted, yielded, Act.put, undef]) ?_ ?_; rotate_left; focus (
        intro w' hS
        obtain ⟨c0, c1, c2, c3, c4, c5, c6, c7, c8, c9, c10⟩ := evCells (hS.heap HB.out.2.2.2.2.2.2.1 (fun e => e))
        obtain ⟨d0, d1, d2, d3, d4, d5, d6, d7, d8, d9, d10⟩ := dvcCells (hS.heap HB.out.2.2.2.2.2.2.2 (fun e => e))
        go_simp
        try with_reducible rfl))
      refine earlyN_nil ?_
      refine midN_want rfl (by first | kernel_rfl | simp [Region.wanted, yielded, Act.put, undef]) (fun K hK => ?_)
      go_simp
      have ho := own_spec (w := W.drew) (e := x) (bo := bo) (po := po) (bn := x.body.length) (bc := bc) (pn := x.p.length) (pc := pc) HB.out.2.2.2.2.1.kind
      unfold evV at ho
      refine ho.mono ?_
      rintro r w5 ⟨rfl, k5⟩
      clear ho
      have kd := kd.then k5
      unfold dvV
      refine hK _ _ kd ?_
      clear hK K
      refine midN_want rfl (by first | kernel_rfl | simp [Region.wanted, yielded, Act.put, undef]) (fun K hK => ?_)
      go_simp
      have hs := same_spec (bn := noBan) (BytesAt.no (bn := noBan) HB.out.1 kd) (BytesAt.no (bn := noBan) HB.out.2.1 kd) (BytesAt.no (bn := noBan) HB.out.2.2.1 kd) (BytesAt.no (bn := noBan) HB.out.2.2.2.1 kd)
      unfold dvV at hs
      refine hs.mono ?_
      rintro r w6 ⟨rfl, k6⟩
      clear hs
      have kd := kd.then k6
      refine hK _ _ kd ?_
      clear hK K
      iterate 2 (refine midN_cons rfl rfl (fun K hK => ?_); go_simp; refine hK _ _ kd ?_; clear hK K)
      refine midN_nil ?_
      refine earlyN_guarded (v := ?_) rfl rfl (by first | kernel_rfl | simp [Region.wanted, yielded, Act.put, undef]) ?_ ?_
      rotate_left
      focus (
        intro w' hS
        obtain ⟨c0, c1, c2, c3, c4, c5, c6, c7, c8, c9, c10⟩ := evCells (hS.heap HB.out.2.2.2.2.2.2.1 (fun e => e))
        go_simp
        try with_reducible rfl)
      refine earlyN_guarded (v := ?_) rfl rfl (by first | kernel_rfl | simp [Region.wanted, yielded, Act.put, undef]) ?_ ?_
      rotate_left
      focus (
        intro w' hS
        go_simp
        try with_reducible rfl)
      refine earlyN_nil ?_
      refine midN_want rfl (by first | kernel_rfl | simp [Region.wanted, yielded, Act.put, undef]) (fun K hK => ?_)
      go_simp
      have ht := text_spec (bn := noBan) (HV.out.no (kw.then kd)) (BytesAt.no (bn := noBan) HB.out.1 kd) (BytesAt.no (bn := noBan) HB.out.2.1 kd) HB.out.2.2.2.2.1
      rw [HB.out.2.2.2.2.2.1, show strV t = .string T from by rw [HT.out.1]] at ht
      unfold evV at ht
      refine ht.mono ?_
      rintro r w7 ⟨rfl, k7⟩
      clear ht
      have kd := kd.then k7
      refine hK _ _ kd ?_
      clear hK K
      refine midN_want rfl (by first | kernel_rfl | simp [Region.wanted, yielded, Act.put, undef]) (fun K hK => ?_)
      go_simp
      refine hK _ _ kd ?_
      clear hK K
      iterate 2 (refine midN_cons rfl rfl (fun K hK => ?_); go_simp; refine hK _ _ kd ?_; clear hK K)
      refine midN_nil ?_
      go_wp2
      go_ret
      exact ⟨rfl, kw.then kd⟩
  · have hsl := hsl rfl
    clear hsm
    go_enter Tryd.func3, Tryd.ntmps3
    go_wp2_with fail
    refine ha.mono ?_
    rintro r w1 ⟨rfl, k1⟩
    clear ha
    go_wp2_with fail
    refine (HP.out.1 _ k1).mono ?_
    intro r w2 h2
    cases hx : parseF t with
    | none =>
      rw [hx] at h2
      obtain ⟨k2, rfl⟩ := h2
      unfold evV
      have k2' := k1.then k2
      go_wp2_with fail
      refine (HP.out.2 _).mono ?_
      intro r w3 h3
      rw [hx] at h3
      obtain ⟨k3, rfl⟩ := h3
      have hE := k3.heap (heap_new w2 _) (fun e => e)
      have k3' := (k2'.alloc (.cells (evC {} (.slice none 0 0) (.slice none 0 0)) 27)).then k3
      obtain ⟨c0, c1, c2, c3, c4, c5, c6, c7, c8, c9, c10⟩ := evCellsO (e := {}) (bv := .slice none 0 0) (pv := .slice none 0 0) hE
      have k4 : Keep No w (w3.alloc (.cells (dvC {} (.slice none 0 0) (.slice none 0 0)) 33)) := k3'.alloc _
      have ho := own_spec (w := w3.alloc (.cells (dvC {} (.slice none 0 0) (.slice none 0 0)) 33)) (e := {}) (bo := none) (po := none) (bn := 0) (bc := 0) (pn := 0) (pc := 0) (by decide)
      unfold dvV at ho ⊢
      clear hx hE
      go_wp2_with fail
      refine ho.mono ?_
      rintro r w5 ⟨rfl, k5⟩
      have hs := same_spec (bn := noBan) (base := 0) (w := w5) (e := {}) (bv := .slice none 0 0) (pv := .slice none 0 0) (bv' := .slice none 0 0) (pv' := .slice none 0 0) (BytesAt.nil (bn := noBan) _ _) (BytesAt.nil (bn := noBan) _ _) (BytesAt.nil (bn := noBan) _ _) (BytesAt.nil (bn := noBan) _ _)
      unfold dvV at hs
      clear ho c0 c1 c2 c3 c4 c5 c6 c7 c8 c9 c10
      go_wp2_with fail
      refine hs.mono ?_
      rintro r w6 ⟨rfl, k6⟩
      go_wp2_with fail
      go_ret
      exact ⟨rfl, (k4.then k5).then k6⟩
    | some x =>
      rw [hx] at h2
      obtain ⟨k2, bv, pv, rfl, hbv, hpv⟩ := h2
      obtain ⟨bo, bc, rfl⟩ := BytesAt.form (bn := noBan) hbv
      obtain ⟨po, pc, rfl⟩ := BytesAt.form (bn := noBan) hpv
      have hev := parse_evok hx (by have := HT.out.2; omega)
      have htx := (text_parse hx).1
      unfold evV
      have k2' := k1.then k2
      go_wp2_with fail
      refine (HP.out.2 _).mono ?_
      intro r w3 h3
      rw [hx] at h3
      obtain ⟨k3, bv2, pv2, rfl, hbv2, hpv2⟩ := h3
      obtain ⟨bo2, bc2, rfl⟩ := BytesAt.form (bn := noBan) hbv2
      obtain ⟨po2, pc2, rfl⟩ := BytesAt.form (bn := noBan) hpv2
      have hE := k3.heap (heap_new w2 (.cells (evC x (.slice bo x.body.length bc) (.slice po x.p.length pc)) 27)) (fun e => e)
      have kA : Keep No w2 (w2.alloc (.cells (evC x (.slice bo x.body.length bc) (.slice po x.p.length pc)) 27)) := (Keep.refl _ _).alloc _
      have k23 := kA.then k3
      have hbv := BytesAt.no (bn := noBan) hbv k23
      have hpv := BytesAt.no (bn := noBan) hpv k23
      have k3' := k2'.then k23
      unfold dvV
      go_wp2_with fail
      obtain ⟨W, hW⟩ : ∃ W, W = w3.alloc (.cells (dvC x (.slice bo2 x.body.length bc2) (.slice po2 x.p.length pc2)) 33) := ⟨_, rfl⟩
      have kW : Keep No w3 W := by rw [hW]; exact (Keep.refl _ _).alloc _
      have hD : W.heap[w3.heap.size]? = some (.cells (dvC x (.slice bo2 x.body.length bc2) (.slice po2 x.p.length pc2)) 33 (0, 0)) := by rw [hW]; exact heap_new _ _
      show Code.wp _ _ _ _ (w3.alloc (.cells (dvC x (.slice bo2 x.body.length bc2) (.slice po2 x.p.length pc2)) 33))
      rw [← hW]
      clear hW
      have hE := kW.heap hE (fun e => e)
      have hbv := BytesAt.no (bn := noBan) hbv kW
      have hpv := BytesAt.no (bn := noBan) hpv kW
      have hbv2 := BytesAt.no (bn := noBan) hbv2 kW
      have hpv2 := BytesAt.no (bn := noBan) hpv2 kW
      have kw := k3'.then kW
      have HB := Lib.hid (And.intro hbv (And.intro hpv (And.intro hbv2 (And.intro hpv2 (And.intro hev (And.intro htx (And.intro hE hD)))))))
      clear hbv hpv hbv2 hpv2 hev htx hE hD k23 kA k3' k2' hx kW
      have kd : Keep No W W.drew := (Keep.refl _ _).drew
      refine wp_drawN2 (fun w' => Keep No W w') [0, 1, 2, 3, 5] [4, 6, 7, 8] [9, 11] [10, 12, 13, 14] (by kernel_rfl) (by kernel_rfl) (fun _ _ _ _ _ h => h) kd ?_
      iterate 3 (refine earlyN_cons (v := ?_) rfl rfl rfl ?_ ?_; rotate_left; focus (
        intro w' hS
        go_simp
        try with_reducible rfl))
      iterate 2 (refine earlyN_guarded (v := ?_) rfl rfl (by first | kernel_rfl | simp [Region.wanted, yielded, Act.put, undef]) ?_ ?_; rotate_left; focus (
        intro w' hS
        obtain ⟨c0, c1, c2, c3, c4, c5, c6, c7, c8, c9, c10⟩ := evCells (hS.heap HB.out.2.2.2.2.2.2.1 (fun e => e))
        obtain ⟨d0, d1, d2, d3, d4, d5, d6, d7, d8, d9, d10⟩ := dvcCells (hS.heap HB.out.2.2.2.2.2.2.2 (fun e => e))
        go_simp
        try with_reducible rfl))
      refine earlyN_nil ?_
      refine midN_want rfl (by first | kernel_rfl | simp [Region.wanted, yielded, Act.put, undef]) (fun K hK => ?_)
      go_simp
      have ho := own_spec (w := W.drew) (e := x) (bo := bo) (po := po) (bn := x.body.length) (bc := bc) (pn := x.p.length) (pc := pc) HB.out.2.2.2.2.1.kind
      unfold evV at ho
      refine ho.mono ?_
      rintro r w5 ⟨rfl, k5⟩
      clear ho
      have kd := kd.then k5
      unfold dvV
      refine hK _ _ kd ?_
      clear hK K
      refine midN_want rfl (by first | kernel_rfl | simp [Region.wanted, yielded, Act.put, undef]) (fun K hK => ?_)
      go_simp
      have hs := same_spec (bn := noBan) (BytesAt.no (bn := noBan) HB.out.1 kd) (BytesAt.no (bn := noBan) HB.out.2.1 kd) (BytesAt.no (bn := noBan) HB.out.2.2.1 kd) (BytesAt.no (bn := noBan) HB.out.2.2.2.1 kd)
      unfold dvV at hs
      refine hs.mono ?_
      rintro r w6 ⟨rfl, k6⟩
      clear hs
      have kd := kd.then k6
      refine hK _ _ kd ?_
      clear hK K
      iterate 2 (refine midN_cons rfl rfl (fun K hK => ?_); go_simp; refine hK _ _ kd ?_; clear hK K)
      refine midN_nil ?_
      refine earlyN_guarded (v := ?_) rfl rfl (by first | kernel_rfl | simp [Region.wanted, yielded, Act.put, undef]) ?_ ?_
      rotate_left
      focus (
        intro w' hS
        obtain ⟨c0, c1, c2, c3, c4, c5, c6, c7, c8, c9, c10⟩ := evCells (hS.heap HB.out.2.2.2.2.2.2.1 (fun e => e))
        go_simp
        try with_reducible rfl)
      refine earlyN_guarded (v := ?_) rfl rfl (by first | kernel_rfl | simp [Region.wanted, yielded, Act.put, undef]) ?_ ?_
      rotate_left
      focus (
        intro w' hS
        go_simp
        try with_reducible rfl)
      refine earlyN_nil ?_
      refine midN_want rfl (by first | kernel_rfl | simp [Region.wanted, yielded, Act.put, undef]) (fun K hK => ?_)
      go_simp
      have ht := text_spec (bn := noBan) (HV.out.no (kw.then kd)) (BytesAt.no (bn := noBan) HB.out.1 kd) (BytesAt.no (bn := noBan) HB.out.2.1 kd) HB.out.2.2.2.2.1
      rw [HB.out.2.2.2.2.2.1, show strV t = .string T from by rw [HT.out.1]] at ht
      unfold evV at ht
      refine ht.mono ?_
      rintro r w7 ⟨rfl, k7⟩
      clear ht
      have kd := kd.then k7
      refine hK _ _ kd ?_
      clear hK K
      refine midN_want rfl (by first | kernel_rfl | simp [Region.wanted, yielded, Act.put, undef]) (fun K hK => ?_)
      go_simp
      refine hK _ _ kd ?_
      clear hK K
      iterate 2 (refine midN_cons rfl rfl (fun K hK => ?_); go_simp; refine hK _ _ kd ?_; clear hK K)
      refine midN_nil ?_
      go_wp2
      go_ret
      exact ⟨rfl, kw.then kd⟩
end Go.Proofs.YtlbjkmpdakmgeaaDoor
