/- The law's own: few. -/
import Derived.Test.YtlbjkmpdakmgeaaDoorTaleZ
namespace Go.Dr
open Go
section
variable {P : Program} {ops : Array Oper} {Q : Exit → Act → World → Prop}
def drawCheck3 (ops : Array Oper) (E m E2 m2 t : List Nat) : Bool :=
  Region.noSelect ops && takeable .any ops t.contains E (Array.replicate ops.size false) && forcedPre .any ops m (setAll E (Array.replicate ops.size false)) &&
    takeable .any ops t.contains E2 (setAll m (setAll E (Array.replicate ops.size false))) && forcedSeq .any ops (m2 ++ t) (setAll E2 (setAll m (setAll E (Array.replicate ops.size false)))) &&
    (E.length + (m.length + (E2.length + (m2.length + t.length))) == ops.size)
/-- **A region that leaves its order open, in five parts**: what S asks need not hold behind the last one's operations. -/
theorem wp_drawN3 {id : Nat} {a : Act} {w : World} (S : World → Prop) (E m E2 m2 t : List Nat) (hm : P.follows .mixedOrders = true)
    (hc : (drawCheck3 ops E m E2 m2 t && ((m ++ (m2 ++ t)).all fun i => decide (i < ops.size))) = true)
    (hQ : ∀ c a d v w, Q (.panic c) (Act.put a (some d) v) w → Q (.panic c) a w) (hS : S w.drew)
    (h : earlyN P ops S (fun _ a' => midN P ops Q S (fun a2 w2 => earlyN P ops S (fun _ a3 => midN P ops Q S (fun a4 w4 => tailN P ops Q t [] a4 w4) m2 a3 w2) E2 [] a2) m a' w.drew) E [] a) : (Code.region id ops true).wp P Q a w := by
  simp only [Bool.and_eq_true, List.all_append] at hc
  obtain ⟨hc, hm', hm2', ht'⟩ := hc
  simp only [drawCheck3, Bool.and_eq_true, beq_iff_eq] at hc
  obtain ⟨⟨⟨⟨⟨h1, h2⟩, h3⟩, h4⟩, h5⟩, h6⟩ := hc
  obtain ⟨Es, hE, he⟩ := earlyOk_of_N E [] a h
  obtain ⟨Ms, hM⟩ := picks_all ops m hm'
  obtain ⟨Ms2, hM2⟩ := picks_all ops m2 hm2'
  obtain ⟨Ts, hT⟩ := picks_all ops t ht'
  refine wp_region_any hm (wpAny_of_T (S := S) (T := t.contains) _ _ _ _ ?_)
  generalize hl : Array.replicate ops.size false = l at h2 h3 h4 h5 ⊢
  have hcl : Closed .any ops l := by
    intro j o hj hl'
    have hlt : j < ops.size := (Array.getElem?_eq_some_iff.1 hj).1
    subst hl
    simp [hlt] at hl'
  rw [← h6, Nat.add_comm]
  refine early_take h1 hQ hS E Es hE (m.length + (E2.length + (m2.length + t.length))) _ a hcl h2 he ?_
  intro a' ha'
  rw [Nat.add_comm]
  refine mid_pre m Ms hM (E2.length + (m2.length + t.length)) _ a' _ _ (setAll_closed E l hcl h2) hS h3 (midOk_of_N m Ms hM a' _ ha') ?_
  intro a2 w2 hS2 hcl2 hK
  obtain ⟨Es2, hE2, he2⟩ := earlyOk_of_N E2 [] a2 hK
  rw [Nat.add_comm]
  refine early_take h1 hQ hS2 E2 Es2 hE2 (m2.length + t.length) _ a2 hcl2 h4 he2 ?_
  intro a3 ha3
  refine mid_take m2 Ms2 hM2 _ t Ts hT rfl _ a3 _ (fun i hi => by simpa using hi) h5 (midOk_mono (fun a w h => ?_) _ _ _ (midOk_of_N m2 Ms2 hM2 a3 _ ha3))
  obtain ⟨Ts', hT', h⟩ := picks_of_tail t [] a w h
  rw [hT.uniq hT']
  exact h
end
end Go.Dr
namespace Go.Proofs.YtlbjkmpdakmgeaaDoor
open Go Go.RowKit Go.Dr

def fewF (e : EvS) : EvS := { e with body := e.body.take 40, p := e.p.take 60 }
theorem few_ok {e : EvS} (h : e.Ok) (hk : e.kind < 256) : EvOk (fewF e) := ⟨⟨h.who, h.cls, h.ix, h.pos, h.keep, h.torn⟩, hk, by simp [fewF]; omega, by simp [fewF]; omega⟩
set_option maxRecDepth 100000 in
set_option maxHeartbeats 1000000 in
theorem few_spec {base : Nat} {w : World} (hbase : base ≤ w.heap.size) {e : EvS} {bv pv : Value} (hb : BytesAt (bn := noBan) base w bv e.body) (hp : BytesAt (bn := noBan) base w pv e.p) :
    Calls Tryd.prog 14 #[evV e bv pv] w fun r w' => Keep No w w' ∧ ∃ bv' pv', r = .returned (evV (fewF e) bv' pv') ∧ BytesAt (bn := noBan) base w' bv' (fewF e).body ∧ BytesAt (bn := noBan) base w' pv' (fewF e).p := by
  obtain ⟨bo, bc, rfl⟩ := BytesAt.form (bn := noBan) hb
  obtain ⟨po, pc, rfl⟩ := BytesAt.form (bn := noBan) hp
  obtain ⟨B, hB⟩ : ∃ B, e.body.take 40 = B := ⟨_, rfl⟩
  obtain ⟨U, hU⟩ : ∃ U, e.p.take 60 = U := ⟨_, rfl⟩
  have hfe : (fewF e).body = B ∧ (fewF e).p = U := ⟨hB, hU⟩
  rw [hfe.1, hfe.2]
  clear hfe
  obtain ⟨W, hW⟩ : ∃ W, W = (w.alloc (.cells (evC e (.slice bo e.body.length bc) (.slice po e.p.length pc)) 27)).alloc (.cells (evC {} (.slice none 0 0) (.slice none 0 0)) 27) := ⟨_, rfl⟩
  have kW : Keep No w W := by rw [hW]; exact ((Keep.refl _ _).alloc _).alloc _
  have ha : W.heap[w.heap.size]? = some (.cells (evC e (.slice bo e.body.length bc) (.slice po e.p.length pc)) 27 (0, 0)) := by
    rw [hW]; exact ((Keep.refl No _).alloc _).heap (heap_new _ _) (fun e => e)
  have hz : W.heap[w.heap.size + 1]? = some (.cells (evC {} (.slice none 0 0) (.slice none 0 0)) 27 (0, 0)) := by
    rw [hW]
    have := heap_new (w.alloc (.cells (evC e (.slice bo e.body.length bc) (.slice po e.p.length pc)) 27)) (.cells (evC {} (.slice none 0 0) (.slice none 0 0)) 27)
    rw [World.size_alloc] at this
    exact this
  have hb := BytesAt.no (bn := noBan) hb kW
  have hp := BytesAt.no (bn := noBan) hp kW
  have HH := Lib.hid (And.intro ha (And.intro hz (And.intro hb (And.intro hp kW))))
  unfold evV
  go_enter Tryd.func14, Tryd.ntmps14
  go_wp2_with fail
  show Code.wp _ _ _ _ ((w.alloc (.cells (evC e (.slice bo e.body.length bc) (.slice po e.p.length pc)) 27)).alloc (.cells (evC {} (.slice none 0 0) (.slice none 0 0)) 27))
  rw [← hW]
  clear hW ha hz hb hp kW
  obtain ⟨hAh, hZh, hbW, hpW, kW⟩ := HH.out
  obtain ⟨e0, e1, e2, e3, e4, e5, e6, e7, e8, e9, e10⟩ := evCells hAh
  clear hAh hZh hbW hpW kW
  have kd : Keep No W W.drew := (Keep.refl _ _).drew
  refine wp_drawN3 (fun w' => Keep No W w') [0, 1, 2, 4, 5] [3] [7, 8] [6] [9, 10, 11] (by kernel_rfl) (by kernel_rfl) (fun _ _ _ _ _ h => h) kd ?_
  iterate 5 (refine earlyN_cons (v := ?_) rfl rfl rfl ?_ ?_; rotate_left; focus (
    intro w' hS
    have e3' := hS.cell e3 (fun e => e)
    have e10' := hS.cell e10 (fun e => e)
    go_simp
    try with_reducible rfl))
  refine earlyN_nil (midN_cons rfl rfl (fun K hK => ?_))
  go_simp
  obtain ⟨hAh, hZh, hbW, hpW, kW⟩ := HH.out
  refine (cut_spec (bn := noBan) (BytesAt.no (bn := noBan) hbW kd) 40 (by omega)).mono ?_
  rintro r w1 ⟨V, rfl, own1, k1⟩
  rw [hB] at own1
  obtain ⟨vo, vc, rfl⟩ := own1.form
  have k1 := kd.then k1
  have hb1 := own1.bytes (bn := noBan) (base := base) (fun _ => Nat.zero_le _)
  have hp1 := BytesAt.no (bn := noBan) hpW k1
  refine hK _ _ k1 ?_
  clear hK K own1
  refine midN_nil ?_
  iterate 2 (refine earlyN_cons (v := ?_) rfl rfl rfl ?_ ?_; rotate_left; focus (
    intro w' hS
    go_simp
    try with_reducible rfl))
  refine earlyN_nil (midN_cons rfl rfl (fun K hK => ?_))
  go_simp
  refine (cut_spec (bn := noBan) hp1 60 (by omega)).mono ?_
  rintro r w2 ⟨V, rfl, own2, k2⟩
  rw [hU] at own2
  obtain ⟨uo, uc, rfl⟩ := own2.form
  have hb2 := BytesAt.no (bn := noBan) hb1 k2
  have hp2 := own2.bytes (bn := noBan) (base := base) (fun _ => Nat.zero_le _)
  have k2 := k1.then k2
  refine hK _ _ k2 ?_
  clear hK K own2 hb1 hp1 hbW hpW k1 kd
  have hA2 := k2.heap hAh (fun e => e)
  have hZ2 := k2.heap hZh (fun e => e)
  have kw2 := kW.then k2
  clear hAh hZh kW k2 e0 e1 e2 e3 e4 e5 e6 e7 e8 e9 e10
  obtain ⟨e0, e1, e2, e3, e4, e5, e6, e7, e8, e9, e10⟩ := evCells hA2
  have hfz := frozen_of hA2
  refine midN_nil (tailN_cons rfl (tailN_cons rfl (tailN_cons rfl (tailN_nil ?_))))
  obtain ⟨Z0, hZ0⟩ : ∃ Z, Z = (w2.setCell ⟨w.heap.size, 3, none⟩ (.slice vo B.length vc)).setCell ⟨w.heap.size, 10, none⟩ (.slice uo U.length uc) := ⟨_, rfl⟩
  have kZ0 : Keep (· = w.heap.size) w2 Z0 := by
    rw [hZ0]
    exact Keep.setCell (F := (· = w.heap.size)) (Keep.setCell (F := (· = w.heap.size)) (Keep.refl _ _) (.inl rfl) _) (.inl rfl) _
  have kZ1 : Keep No w Z0 := kw2.trans kZ0 (fun x hx e => by have := e; omega)
  have hz0 := kZ0.heap hZ2 (fun e => by omega)
  have hF0 : Foot base w2 (· = w.heap.size) := by
    rintro b rfl
    exact ⟨by omega, heap_lt hA2, fun cs fr e => by rw [hA2] at e; simp at e⟩
  have hb3 := BytesAt.keep (bn := noBan) hb2 hF0 kZ0
  have hp3 := BytesAt.keep (bn := noBan) hp2 hF0 kZ0
  obtain ⟨Z, hZ⟩ : ∃ Z, Z = Z0.setRow (w.heap.size + 1) (evC e (.slice vo B.length vc) (.slice uo U.length uc)) := ⟨_, rfl⟩
  have hX := setRow_heap Z0 (w.heap.size + 1) _ (evC e (.slice vo B.length vc) (.slice uo U.length uc)) _ _ hz0
  have hF1 : Foot base Z0 (· = w.heap.size + 1) := by
    rintro b rfl
    exact ⟨by omega, heap_lt hz0, fun cs fr e => by rw [hz0] at e; simp at e⟩
  have kR := keep_row (evC e (.slice vo B.length vc) (.slice uo U.length uc)) kZ1 (g := w.heap.size + 1) (.inr (by omega))
  have kR' := keep_row (F := (· = w.heap.size + 1)) (evC e (.slice vo B.length vc) (.slice uo U.length uc)) (Keep.refl _ Z0) (.inl rfl)
  rw [← hZ] at hX kR kR'
  obtain ⟨r0, r1, r2, r3, r4, r5, r6, r7, r8, r9, r10⟩ := evCells hX
  have hb4 := BytesAt.keep (bn := noBan) hb3 hF1 kR'
  have hp4 := BytesAt.keep (bn := noBan) hp3 hF1 kR'
  rw [hZ0] at hz0 hZ
  have H2 := Lib.hid (And.intro hz0 (And.intro hZ (And.intro hb4 (And.intro hp4 kR))))
  clear hA2 hZ2 hb2 hp2 kw2 HH hb hp hX hF1 hF0 hb3 hp3 hb4 hp4 kR kR' kZ0 kZ1 hZ hz0 hZ0
  go_wp2_with (refine wpList_store_row rfl 27 (.tmp 2) _ rfl (w.heap.size + 1) (evC e (.slice vo B.length vc) (.slice uo U.length uc)) rfl rfl _ _ H2.out.1 (by kernel_rfl) rfl (by simp [evC, Value.oneCell']) ?_; rw [← H2.out.2.1])
  refine bodyPost_ret (v := evV (fewF e) (.slice vo B.length vc) (.slice uo U.length uc)) ?_ rfl ?_
  · simp [results, Tryd.results14, go_sem, r0, r1, r2, r3, r4, r5, r6, r7, r8, r9, r10, evV, fewF]
  · exact ⟨H2.out.2.2.2.2, _, _, rfl, H2.out.2.2.1, H2.out.2.2.2.1⟩
end Go.Proofs.YtlbjkmpdakmgeaaDoor
