/- TaleTexts, walked. -/
import Derived.Test.YtlbjkmpdakmgeaaDoorTaleB
namespace Go.Proofs.YtlbjkmpdakmgeaaDoor
open Go Go.RowKit Go.Dr

theorem setF_len (a x : EvS) (c : UInt8) : ((setF a x c).body = x.body ∨ (setF a x c).body = a.body) ∧ ((setF a x c).p = x.p ∨ (setF a x c).p = a.p) := by
  unfold setF
  repeat (split; · simp)
  simp
theorem foldl_len (a : EvS) : ∀ (cs : List UInt8) (x : EvS), x.body.length ≤ a.body.length → x.p.length ≤ a.p.length → (cs.foldl (setF a) x).body.length ≤ a.body.length ∧ (cs.foldl (setF a) x).p.length ≤ a.p.length
  | [], _, h, h' => ⟨h, h'⟩
  | c :: cs, x, h, h' => by
    obtain ⟨h1, h2⟩ := setF_len a x c
    rw [List.foldl_cons]
    refine foldl_len a cs _ ?_ ?_
    · rcases h1 with h1 | h1 <;> rw [h1]
      · exact h
      · exact Nat.le_refl _
    · rcases h2 with h2 | h2 <;> rw [h2]
      · exact h'
      · exact Nat.le_refl _
theorem plain_len (e : EvS) : (plainF e).body.length ≤ e.body.length ∧ (plainF e).p.length ≤ e.p.length := by
  rw [plainF_fold]
  exact foldl_len e _ _ (Nat.zero_le _) (Nat.zero_le _)
theorem plain_evok {e : EvS} (h : EvOk e) : EvOk (plainF e) := by
  have hl := plain_len e
  have := h.body
  have := h.p
  refine ⟨?_, by rw [plain_kind]; exact h.kind, by omega, by omega⟩
  by_cases hk : e.kind < 12
  · exact (text_parse (parse_text h.ok hk)).2.2.2
  · rw [plain_none (by omega)]
    exact EvS.Ok.new _
theorem fewF_len (e : EvS) : (textF (fewF e)).length ≤ 100000 ∨ ¬ e.Ok := by
  by_cases h : e.Ok
  · have hok : (fewF e).Ok := ⟨h.who, h.cls, h.ix, h.pos, h.keep, h.torn⟩
    have := text_len hok
    have hb : (fewF e).body.length ≤ 40 := by simp [fewF]; omega
    have hp : (fewF e).p.length ≤ 60 := by simp [fewF]; omega
    exact .inl (by omega)
  · exact .inr h
set_option maxRecDepth 100000 in
set_option maxHeartbeats 4000000 in
theorem texts_walk {base : Nat} {w : World} (hV : VarsAt w) (hbase : base ≤ w.heap.size) {e : EvS} {bv pv : Value} (hok : e.Ok) (hkd : e.kind < 256) (hb : BytesAt (bn := noBan) base w bv e.body) (hp : BytesAt (bn := noBan) base w pv e.p) :
    Calls Tryd.prog 4 #[evV e bv pv] w fun r w' => r = .returned (.bool true) ∧ Keep No w w' := by
  obtain ⟨bo, bc, rfl⟩ := BytesAt.form (bn := noBan) hb
  obtain ⟨po, pc, rfl⟩ := BytesAt.form (bn := noBan) hp
  obtain ⟨W, hW⟩ : ∃ W, W = w.alloc (.cells (evC e (.slice bo e.body.length bc) (.slice po e.p.length pc)) 27) := ⟨_, rfl⟩
  have kW : Keep No w W := by rw [hW]; exact (Keep.refl _ _).alloc _
  have hA : W.heap[w.heap.size]? = some (.cells (evC e (.slice bo e.body.length bc) (.slice po e.p.length pc)) 27 (0, 0)) := by rw [hW]; exact heap_new _ _
  have ha := awake_spec (hV.no kW)
  have hFO : EvOk (fewF e) := few_ok hok hkd
  have hfl := (fewF_len e).resolve_right (fun h => h hok)
  have HH := Lib.hid (And.intro hA (And.intro hb (And.intro hp (And.intro kW (And.intro hV (And.intro hFO (And.intro hbase hfl)))))))
  clear hA hb hp kW hV hFO hfl hok hkd hbase
  unfold evV
  go_enter Tryd.func4, Tryd.ntmps4
  go_wp2_with fail
  show Calls _ _ _ (w.alloc (.cells (evC e (.slice bo e.body.length bc) (.slice po e.p.length pc)) 27)) _
  rw [← hW]
  clear hW
  refine ha.mono ?_
  rintro r w1 ⟨rfl, k1⟩
  clear ha
  obtain ⟨hA, hb, hp, kW, hV, hFO, hbase, hfl⟩ := HH.out
  have kw1 := kW.then k1
  have hA1 := k1.heap hA (fun e => e)
  have hb1 := BytesAt.no (bn := noBan) hb kw1
  have hp1 := BytesAt.no (bn := noBan) hp kw1
  have hs1 : base ≤ w1.heap.size := Nat.le_trans hbase kw1.size
  have hfew := few_spec hs1 hb1 hp1
  unfold evV at hfew
  obtain ⟨e0, e1, e2, e3, e4, e5, e6, e7, e8, e9, e10⟩ := evCells hA1
  obtain ⟨f, hf⟩ : ∃ f, f = fewF e := ⟨_, rfl⟩
  rw [← hf] at hfew hFO hfl
  clear hf HH hA hb hp hb1 hp1 hs1
  have HH := Lib.hid (And.intro hA1 (And.intro kw1 (And.intro hV (And.intro hFO (And.intro hbase hfl)))))
  clear hA1 kw1 kW k1 hV hFO hbase hfl
  go_wp2_with fail
  refine hfew.mono ?_
  rintro r w2 ⟨k2, bv2, pv2, rfl, hb2, hp2⟩
  clear hfew e0 e1 e2 e3 e4 e5 e6 e7 e8 e9 e10
  obtain ⟨bo2, bc2, rfl⟩ := BytesAt.form (bn := noBan) hb2
  obtain ⟨po2, pc2, rfl⟩ := BytesAt.form (bn := noBan) hp2
  obtain ⟨hA1, kw1, hV, hFO, hbase, hfl⟩ := HH.out
  have hA2 := k2.heap hA1 (fun e => e)
  have kw2 := kw1.then k2
  obtain ⟨Z, hZ⟩ : ∃ Z, Z = w2.setRow w.heap.size (evC f (.slice bo2 f.body.length bc2) (.slice po2 f.p.length pc2)) := ⟨_, rfl⟩
  have hX := setRow_heap w2 w.heap.size _ (evC f (.slice bo2 f.body.length bc2) (.slice po2 f.p.length pc2)) _ _ hA2
  have hF1 : Foot base w2 (· = w.heap.size) := by
    rintro b rfl
    exact ⟨hbase, heap_lt hA2, fun cs fr e => by rw [hA2] at e; simp at e⟩
  have kR := keep_row (F := No) (evC f (.slice bo2 f.body.length bc2) (.slice po2 f.p.length pc2)) kw2 (g := w.heap.size) (.inr (Nat.le_refl _))
  have kR' := keep_row (F := (· = w.heap.size)) (evC f (.slice bo2 f.body.length bc2) (.slice po2 f.p.length pc2)) (Keep.refl _ w2) (.inl rfl)
  rw [← hZ] at hX kR kR'
  have hb4 := BytesAt.keep (bn := noBan) hb2 hF1 kR'
  have hp4 := BytesAt.keep (bn := noBan) hp2 hF1 kR'
  have hV4 := hV.no kR
  have H2 := Lib.hid (And.intro hA2 hZ)
  have HZ := Lib.hid (And.intro hX (And.intro hb4 (And.intro hp4 (And.intro kR (And.intro hV4 (And.intro hFO (And.intro hfl hbase)))))))
  obtain ⟨r0, r1, r2, r3, r4, r5, r6, r7, r8, r9, r10⟩ := evCells hX
  have ht := text_spec (bn := noBan) hV4 hb4 hp4 hFO
  obtain ⟨T, hT⟩ : ∃ T : ByteArray, T = strB (textF f) := ⟨_, rfl⟩
  rw [show strV (textF f) = .string T from by rw [hT]] at ht
  unfold evV at ht
  have HT := Lib.hid hT
  clear hZ hX hF1 kR kR' hb4 hp4 hV4 hb2 hp2 hA1 kw1 hV hFO hbase hfl hA2 kw2 k2 HH hT
  go_wp2_with (refine wpList_store_row rfl 27 (.tmp 1) _ rfl w.heap.size (evC f (.slice bo2 f.body.length bc2) (.slice po2 f.p.length pc2)) rfl rfl _ _ H2.out.1 (by kernel_rfl) rfl (by simp [evC, Value.oneCell']) ?_; rw [← H2.out.2])
  refine ht.mono ?_
  rintro r w3 ⟨rfl, k3⟩
  clear ht r0 r1 r2 r3 r4 r5 r6 r7 r8 r9 r10
  have hX3 := k3.heap HZ.out.1 (fun e => e)
  obtain ⟨r0, r1, r2, r3, r4, r5, r6, r7, r8, r9, r10⟩ := evCells hX3
  have hown := own_spec (w := w3) (e := f) (bo := bo2) (po := po2) (bn := f.body.length) (bc := bc2) (pn := f.p.length) (pc := pc2) HZ.out.2.2.2.2.2.1.kind
  unfold evV at hown
  have HX := Lib.hid (And.intro hX3 k3)
  clear hX3 k3
  go_wp2_with fail
  refine hown.mono ?_
  rintro r w4 ⟨rfl, k4⟩
  clear hown r0 r1 r2 r3 r4 r5 r6 r7 r8 r9 r10
  have k34 := HX.out.2.then k4
  have hX4 := k4.heap HX.out.1 (fun e => e)
  have hrt := rtext_spec (bn := noBan) (BytesAt.no (bn := noBan) HZ.out.2.1 k34) (BytesAt.no (bn := noBan) HZ.out.2.2.1 k34) HZ.out.2.2.2.2.2.1
  rw [show strV (textF f) = .string T from by rw [HT.out]] at hrt
  unfold dvV at hrt ⊢
  have HX := Lib.hid (And.intro hX4 k34)
  clear hX4 k34 k4
  go_wp2_with fail
  refine hrt.mono ?_
  rintro r w5 ⟨rfl, k5⟩
  clear hrt
  have k35 := HX.out.2.then k5
  have hX5 := k5.heap HX.out.1 (fun e => e)
  obtain ⟨r0, r1, r2, r3, r4, r5, r6, r7, r8, r9, r10⟩ := evCells hX5
  have hpl := plain_spec (base := base) (Nat.le_trans HZ.out.2.2.2.2.2.2.2 (Nat.le_trans HZ.out.2.2.2.1.size k35.size)) (BytesAt.no (bn := noBan) HZ.out.2.1 k35) (BytesAt.no (bn := noBan) HZ.out.2.2.1 k35) HZ.out.2.2.2.2.2.1
  unfold evV at hpl
  have HX := Lib.hid (And.intro hX5 k35)
  clear hX5 k35 k5
  have hPk := plain_evok HZ.out.2.2.2.2.2.1
  have hPt := text_plain HZ.out.2.2.2.2.2.1.ok
  obtain ⟨P, hP⟩ : ∃ P, P = plainF f := ⟨_, rfl⟩
  rw [← hP] at hpl hPk hPt
  have HP := Lib.hid (And.intro hP (And.intro hPk hPt))
  clear hP hPk hPt
  go_wp2_with fail
  refine hpl.mono ?_
  rintro r w6 ⟨k6, qb, qp, rfl, hqb, hqp⟩
  clear hpl r0 r1 r2 r3 r4 r5 r6 r7 r8 r9 r10
  obtain ⟨qbo, qbc, rfl⟩ := BytesAt.form (bn := noBan) hqb
  obtain ⟨qpo, qpc, rfl⟩ := BytesAt.form (bn := noBan) hqp
  have k6' := HX.out.2.then k6
  have hX6 := k6.heap HX.out.1 (fun e => e)
  have ht2 := text_spec (bn := noBan) (HZ.out.2.2.2.2.1.no k6') hqb hqp HP.out.2.1
  rw [show strV (textF P) = .string T from by rw [HP.out.2.2, HT.out]] at ht2
  unfold evV at ht2
  have HX := Lib.hid (And.intro hX6 k6')
  clear hX6 k6' k6 hqb hqp
  go_wp2_with fail
  refine ht2.mono ?_
  rintro r w7 ⟨rfl, k7⟩
  clear ht2
  have k7' := HX.out.2.then k7
  have hX7 := k7.heap HX.out.1 (fun e => e)
  have hps := parse_spec (base := base) (HZ.out.2.2.2.2.1.no k7') (Nat.le_trans HZ.out.2.2.2.2.2.2.2 (Nat.le_trans HZ.out.2.2.2.1.size k7'.size)) (textF f) HZ.out.2.2.2.2.2.2.1
  rw [show strV (textF f) = .string T from by rw [HT.out]] at hps
  have HX := Lib.hid (And.intro hX7 k7')
  clear hX7 k7' k7
  go_wp2_with fail
  refine hps.mono ?_
  intro r w8 h8
  clear hps
  by_cases hk : f.kind < 12
  · rw [parse_text HZ.out.2.2.2.2.2.1.ok hk, ← HP.out.1] at h8
    obtain ⟨k8, sb, sp, rfl, hsb, hsp⟩ := h8
    obtain ⟨sbo, sbc, rfl⟩ := BytesAt.form (bn := noBan) hsb
    obtain ⟨spo, spc, rfl⟩ := BytesAt.form (bn := noBan) hsp
    have k8' := HX.out.2.then k8
    have hX8 := k8.heap HX.out.1 (fun e => e)
    have kA : Keep No w8 (w8.alloc (.cells (evC P (.slice sbo P.body.length sbc) (.slice spo P.p.length spc)) 27)) := (Keep.refl _ _).alloc _
    have hB8 := heap_new w8 (.cells (evC P (.slice sbo P.body.length sbc) (.slice spo P.p.length spc)) 27)
    have hX9 := kA.heap hX8 (fun e => e)
    have hsb9 := BytesAt.no (bn := noBan) hsb kA
    have hsp9 := BytesAt.no (bn := noBan) hsp kA
    obtain ⟨r0, r1, r2, r3, r4, r5, r6, r7, r8, r9, r10⟩ := evCellsO hX8
    have hki : (f.kind : Int) ≤ 255 := by omega
    have hq : ¬ (11 : Int) < (f.kind : Int) := by omega
    have k9 := k8'.then kA
    have HY := Lib.hid (And.intro hX9 (And.intro hB8 (And.intro hsb9 (And.intro hsp9 k9))))
    clear hX8 hX9 hB8 hsb9 hsp9 hsb hsp k8' k8 k9 kA hk
    unfold evV
    go_wp2_with fail
    show Code.wp _ _ _ _ (w8.alloc (.cells (evC P (.slice sbo P.body.length sbc) (.slice spo P.p.length spc)) 27))
    clear r0 r1 r2 r3 r4 r5 r6 r7 r8 r9 r10
    obtain ⟨W9, hW9⟩ : ∃ W9, W9 = w8.alloc (.cells (evC P (.slice sbo P.body.length sbc) (.slice spo P.p.length spc)) 27) := ⟨_, rfl⟩
    rw [← hW9] at HY ⊢
    clear hW9
    have kd : Keep No W9 W9.drew := (Keep.refl _ _).drew
    refine wp_drawN (fun w' => Keep No W9 w') [0, 1, 2, 3, 5] [4, 6, 7, 8] [9, 10] (by kernel_rfl) (by kernel_rfl) (fun _ _ _ _ _ h => h) kd ?_
    iterate 3 (refine earlyN_cons (v := ?_) rfl rfl rfl ?_ ?_; rotate_left; focus (
      intro w' hS
      go_simp
      try with_reducible rfl))
    iterate 2 (refine earlyN_guarded (v := ?_) rfl rfl (by first | kernel_rfl | simp [Region.wanted, yielded, Act.put, undef]) ?_ ?_; rotate_left; focus (
      intro w' hS
      obtain ⟨c0, c1, c2, c3, c4, c5, c6, c7, c8, c9, c10⟩ := evCells (hS.heap HY.out.1 (fun e => e))
      obtain ⟨d0, d1, d2, d3, d4, d5, d6, d7, d8, d9, d10⟩ := evCells (hS.heap HY.out.2.1 (fun e => e))
      go_simp
      try with_reducible rfl))
    refine earlyN_nil ?_
    refine midN_want rfl (by first | kernel_rfl | simp [Region.wanted, yielded, Act.put, undef]) (fun K hK => ?_)
    go_simp
    have ho := own_spec (w := W9.drew) (e := P) (bo := sbo) (po := spo) (bn := P.body.length) (bc := sbc) (pn := P.p.length) (pc := spc) HP.out.2.1.kind
    unfold evV at ho
    refine ho.mono ?_
    rintro r w10 ⟨rfl, k10⟩
    clear ho
    have kd := kd.then k10
    unfold dvV
    refine hK _ _ kd ?_
    clear hK K
    refine midN_want rfl (by first | kernel_rfl | simp [Region.wanted, yielded, Act.put, undef]) (fun K hK => ?_)
    go_simp
    have k2 := HY.out.2.2.2.2.then kd
    have hpl := plain_spec (base := base) (Nat.le_trans HZ.out.2.2.2.2.2.2.2 (Nat.le_trans HZ.out.2.2.2.1.size k2.size)) (BytesAt.no (bn := noBan) HZ.out.2.1 k2) (BytesAt.no (bn := noBan) HZ.out.2.2.1 k2) HZ.out.2.2.2.2.2.1
    rw [← HP.out.1] at hpl
    unfold evV at hpl
    refine hpl.mono ?_
    rintro r w11 ⟨k11, xb, xp, rfl, hxb, hxp⟩
    clear hpl
    obtain ⟨xbo, xbc, rfl⟩ := BytesAt.form (bn := noBan) hxb
    obtain ⟨xpo, xpc, rfl⟩ := BytesAt.form (bn := noBan) hxp
    have kd := kd.then k11
    refine hK _ _ kd ?_
    clear hK K
    refine midN_want rfl (by first | kernel_rfl | simp [Region.wanted, yielded, Act.put, undef]) (fun K hK => ?_)
    go_simp
    have ho := own_spec (w := w11) (e := P) (bo := xbo) (po := xpo) (bn := P.body.length) (bc := xbc) (pn := P.p.length) (pc := xpc) HP.out.2.1.kind
    unfold evV at ho
    refine ho.mono ?_
    rintro r w12 ⟨rfl, k12⟩
    clear ho
    have kd := kd.then k12
    unfold dvV
    refine hK _ _ kd ?_
    clear hK K
    refine midN_want rfl (by first | kernel_rfl | simp [Region.wanted, yielded, Act.put, undef]) (fun K hK => ?_)
    go_simp
    have hs := same_spec (bn := noBan) (BytesAt.no (bn := noBan) HY.out.2.2.1 kd) (BytesAt.no (bn := noBan) HY.out.2.2.2.1 kd) (BytesAt.no (bn := noBan) hxb k12) (BytesAt.no (bn := noBan) hxp k12)
    unfold dvV at hs
    refine hs.mono ?_
    rintro r w13 ⟨rfl, k13⟩
    clear hs
    have kd := kd.then k13
    refine hK _ _ kd ?_
    clear hK K
    refine midN_nil (tailN_cons rfl (tailN_cons rfl (tailN_nil ?_)))
    go_wp2
    go_ret
    exact ⟨rfl, (HZ.out.2.2.2.1.then HY.out.2.2.2.2).then kd⟩
  · have hge : 12 ≤ f.kind := by omega
    have htn := text_none hge
    rw [htn, parse_nil] at h8
    obtain ⟨k8, rfl⟩ := h8
    obtain rfl : T = ⟨#[]⟩ := by rw [HT.out, htn]
    obtain rfl : P = { kind := f.kind } := by rw [HP.out.1, plain_none hge]
    have k8' := HX.out.2.then k8
    have hX8 := k8.heap HX.out.1 (fun e => e)
    have kA : Keep No w8 (w8.alloc (.cells (evC {} (.slice none 0 0) (.slice none 0 0)) 27)) := (Keep.refl _ _).alloc _
    have hX9 := kA.heap hX8 (fun e => e)
    obtain ⟨r0, r1, r2, r3, r4, r5, r6, r7, r8, r9, r10⟩ := evCellsO hX8
    have hki : (f.kind : Int) ≤ 255 := by have := HZ.out.2.2.2.2.2.1.kind; omega
    have hq : (11 : Int) < (f.kind : Int) := by omega
    have k9 := k8'.then kA
    have HY := Lib.hid (And.intro hX9 k9)
    clear hX8 hX9 k8' k8 k9 kA hk hge htn
    unfold evV
    go_wp2_with fail
    show Code.wp _ _ _ _ (w8.alloc (.cells (evC {} (.slice none 0 0) (.slice none 0 0)) 27))
    clear r0 r1 r2 r3 r4 r5 r6 r7 r8 r9 r10
    obtain ⟨W9, hW9⟩ : ∃ W9, W9 = w8.alloc (.cells (evC {} (.slice none 0 0) (.slice none 0 0)) 27) := ⟨_, rfl⟩
    rw [← hW9] at HY ⊢
    clear hW9
    have hwk : IntKind.i64.wrap (f.kind : Int) = (f.kind : Int) := IntWalk.i64_in _ (by omega)
    have kd : Keep No W9 W9.drew := (Keep.refl _ _).drew
    refine wp_drawN (fun w' => Keep No W9 w') [0, 1, 2, 3, 4, 5, 6, 7, 10, 11, 12, 13] [8, 9, 14] [15, 16] (by kernel_rfl) (by kernel_rfl) (fun _ _ _ _ _ h => h) kd ?_
    iterate 3 (refine earlyN_cons (v := ?_) rfl rfl rfl ?_ ?_; rotate_left; focus (
      intro w' hS
      go_simp
      try with_reducible rfl))
    iterate 2 (refine earlyN_guarded (v := ?_) rfl rfl (by first | kernel_rfl | simp [Region.wanted, yielded, Act.put, undef]) ?_ ?_; rotate_left; focus (
      intro w' hS
      go_simp
      try with_reducible rfl))
    iterate 2 (refine earlyN_cons (v := ?_) rfl rfl rfl ?_ ?_; rotate_left; focus (
      intro w' hS
      go_simp
      try with_reducible rfl))
    iterate 5 (refine earlyN_guarded (v := ?_) rfl rfl (by first | kernel_rfl | simp [Region.wanted, yielded, Act.put, undef]) ?_ ?_; rotate_left; focus (
      intro w' hS
      obtain ⟨c0, c1, c2, c3, c4, c5, c6, c7, c8, c9, c10⟩ := evCells (hS.heap HY.out.1 (fun e => e))
      go_simp
      try with_reducible rfl))
    refine earlyN_nil ?_
    refine midN_want rfl (by first | kernel_rfl | simp [Region.wanted, yielded, Act.put, undef]) (fun K hK => ?_)
    go_simp
    have k2 := HY.out.2.then kd
    have hpl := plain_spec (base := base) (Nat.le_trans HZ.out.2.2.2.2.2.2.2 (Nat.le_trans HZ.out.2.2.2.1.size k2.size)) (BytesAt.no (bn := noBan) HZ.out.2.1 k2) (BytesAt.no (bn := noBan) HZ.out.2.2.1 k2) HZ.out.2.2.2.2.2.1
    rw [← HP.out.1] at hpl
    unfold evV at hpl
    refine hpl.mono ?_
    rintro r w11 ⟨k11, xb, xp, rfl, hxb, hxp⟩
    clear hpl
    obtain ⟨xbo, xbc, rfl⟩ := BytesAt.form (bn := noBan) hxb
    obtain ⟨xpo, xpc, rfl⟩ := BytesAt.form (bn := noBan) hxp
    have kd := kd.then k11
    refine hK _ _ kd ?_
    clear hK K
    refine midN_want rfl (by first | kernel_rfl | simp [Region.wanted, yielded, Act.put, undef]) (fun K hK => ?_)
    go_simp
    have ho := own_spec (w := w11) (e := { kind := f.kind }) (bo := xbo) (po := xpo) (bn := 0) (bc := xbc) (pn := 0) (pc := xpc) HP.out.2.1.kind
    unfold evV at ho
    refine ho.mono ?_
    rintro r w12 ⟨rfl, k12⟩
    clear ho
    have kd := kd.then k12
    unfold dvV
    refine hK _ _ kd ?_
    clear hK K
    refine midN_want rfl (by first | kernel_rfl | simp [Region.wanted, yielded, Act.put, undef]) (fun K hK => ?_)
    go_simp
    have hs := same_spec (bn := noBan) (base := base) (w := w12) (e := { kind := f.kind }) (BytesAt.no (bn := noBan) hxb k12) (BytesAt.no (bn := noBan) hxp k12) (BytesAt.nil (bn := noBan) _ _) (BytesAt.nil (bn := noBan) _ _)
    unfold dvV at hs
    refine hs.mono ?_
    rintro r w13 ⟨rfl, k13⟩
    clear hs
    have kd := kd.then k13
    refine hK _ _ kd ?_
    clear hK K
    refine midN_nil (tailN_cons rfl (tailN_cons rfl (tailN_nil ?_)))
    go_wp2
    go_ret
    exact ⟨rfl, (HZ.out.2.2.2.1.then HY.out.2).then kd⟩
end Go.Proofs.YtlbjkmpdakmgeaaDoor
