/- The law's 'do': Sync, a crash. -/
import Derived.Test.YtpjggnfiocplmaaPairA
import Derived.Test.YtpjggnfiocplmaaDoC
namespace Go.Proofs.Ytpjggnfiocplmaa
open Go Go.RowKit Go.Dr

set_option maxRecDepth 100000 in
set_option maxHeartbeats 4000000 in
theorem do7_sync [bn : Inhabited Ban] {base : Nat} {w : World} {P : Nat} {size : Int} {ss : List SegL} {d : DiskS} {x : RDiskS} {G : Nat → Prop} (h : Pair base w P size ss d x G) (hb : base ≤ w.heap.size)
    {a : Act7S} {u : Value} (hu : BytesAt base w u a.p) (ok : a.Ok) (hc : a.dop % 7 = 3) (hxl : x.l.length ≤ 1000) :
    Calls Try.prog 42 #[.pointer (some ⟨P, 0, none⟩), a.value u] w (Do7 base w P G size ss d.sync x.sync) := by
  obtain ⟨g, q, p, n, s, wv, sv, lv, xv, h, rfl⟩ := h
  have hd0 := ok.dop0
  have hd1 := ok.dop1
  obtain ⟨uo, uc, rfl⟩ := hu.form
  unfold Act7S.value
  have kA : Keep No w (w.alloc (.cells #[.int .u8 a.dop, .slice uo a.p.length uc, .int .u16 a.n, .bool a.on, .int .i64 a.keep, .int .i64 a.torn] 78)) := (Keep.refl _ _).alloc _
  have hgl := h.lt
  have h1 := h.no kA
  obtain ⟨lo, lc, rfl, _, _⟩ := h1.rx.calls.form
  have b0 := cell_of h1.blk 0
  have b1 := cell_of h1.blk 1
  have d2 := cell_of h1.rx.blk 2
  simp at b0 b1 d2
  have HP := Lib.hid (And.intro h1 (And.intro kA (And.intro hb hgl)))
  have hxi : (x.l.length : Int) ≤ 1000 := by omega
  clear h hu h1 hb hgl hxl
  go_enter Try.func42, Try.ntmps42
  go_upto_region 3 with fail
  generalize w.alloc (.cells #[.int .u8 a.dop, .slice uo a.p.length uc, .int .u16 a.n, .bool a.on, .int .i64 a.keep, .int .i64 a.torn] 78) = W1 at *
  refine wp_drawS (fun w' => w'.cell? ⟨P, 1, none⟩ = some (.pointer (some ⟨q, 0, none⟩)) ∧ w'.cell? ⟨q, 2, none⟩ = some (.slice lo x.l.length lc)) [([0, 1, 2, 3, 4, 5, 6, 7, 8, 9, 10, 11, 12, 13], [14])] (by kernel_rfl) (by kernel_rfl) (fun _ _ _ _ _ h => h) ⟨(Keep.refl No W1).drew.cell b1 (fun e => e), (Keep.refl No W1).drew.cell d2 (fun e => e)⟩ ?_
  iterate 14 (refine earlyN_cons (v := ?_) rfl rfl rfl ?_ ?_; rotate_left; focus (
    intro w' hq
    have b1' := hq.1
    have d2' := hq.2
    go_simp
    try with_reducible rfl))
  refine earlyN_nil ?_
  have h2 := HP.out.1
  have e3 := cell_of h2.rx.blk 3
  have f3 := frozen_of h2.rx.blk 3
  simp at e3
  obtain ⟨hx3, k3⟩ := h2.rx.setSafe (x.l.length : Int)
  have k3 := k3.then (Keep.refl No _).drew
  have hx3 := hx3.no (Keep.refl No _).drew
  have hPq : ¬ P = q := fun e => h2.PX (.inl e)
  have hb3 := k3.heap h2.blk hPq
  have e1 := cell_of hb3 1
  have e2 := cell_of hx3.blk 2
  simp only [List.getElem?_toArray, List.getElem?_cons_succ, List.getElem?_cons_zero] at e1 e2
  have HX := Lib.hid (And.intro h2 (And.intro hx3 (And.intro k3 (And.intro e1 (And.intro e2 hb3)))))
  clear h2 hx3 k3 e1 e2 hb3 b0 b1 d2
  refine midN_cons rfl rfl (fun K hK => ?_)
  go_simp
  refine hK _ _ ⟨HX.out.2.2.2.1, HX.out.2.2.2.2.1⟩ ?_
  clear hK K e3 f3
  refine midN_nil ?_
  unfold stagesN
  obtain ⟨h2, hx3, k3, _, _, hb3⟩ := HX.out
  generalize (W1.setCell ⟨q, 3, none⟩ (.int .i64 x.l.length)).drew = w3 at *
  have hFq : Foot base W1 (· = q) := fun b hb => h2.rx.foot b (.inl hb)
  have hlg3 := h2.lg.keep hFq k3 (fun b hb e => by
    obtain ⟨_, cs, t, hz, ht⟩ := h2.lg.kind hb
    have e : b = q := e
    rw [e, h2.rx.blk] at hz; simp at hz; obtain ⟨_, rfl⟩ := hz; rcases ht with ht | ht | ht <;> simp at ht)
  have hdk3 := h2.dk.keep hFq k3 (fun b hb e => h2.dk.apart h2.rx (.inl e) hb)
  have hsz : base ≤ w3.heap.size := Nat.le_trans HP.out.2.2.1 (Nat.le_trans HP.out.2.1.size k3.size)
  have hsy := lSync_spec hlg3 hdk3 hsz
  have b0 := cell_of hb3 0
  simp at b0
  have HY := Lib.hid (And.intro hlg3 (And.intro hdk3 (And.intro hx3 (And.intro hb3 (And.intro k3 h2)))))
  clear hlg3 hdk3 hx3 hb3 k3 h2 hsz HX hFq
  go_wp2_with (go_at_call 37; refine hsy.mono ?_; rintro e w4 ⟨rfl, n', s', wv', hdk4, k4, o4⟩)
  go_ret
  obtain ⟨hlg3, hdk3, hx3, hb3, k3, h2⟩ := HY.out
  have kAll : Keep (pfoot P g q p n s wv sv lv (.slice lo x.l.length lc)) w w4 := HP.out.2.1.no.trans ((k3.mono (fun _ _ e => .inr (.inr (.inl e)))).trans k4 (fun _ _ e => .inr (.inl (.inl e)))) (fun _ _ e => e)
  have hxd := fun b (hb : xfoot q (.slice lo x.l.length lc) b) => hdk3.apart hx3 hb
  refine ⟨rfl, _, ⟨g, q, p, n', s', wv', sv, lv, _, ⟨k4.heap hb3 (fun hf => ?_), hlg3.keep hdk3.foot_ok k4 (fun b hb hf => hlg3.apart hdk3 hb hf), hdk4, hx3.keep hdk3.foot_ok k4 hxd, HP.out.1.Pb⟩, rfl⟩, kAll, fun b hb => ?_⟩
  · rcases hdk3.foot_kind hf hb3 with e | e <;> simp at e
  · have z1 := HP.out.2.1.size
    have z3 := k3.size
    rcases hb with hb | (hb | hb) | hb
    · exact .inl (.inl hb)
    · rcases o4 b hb with hb | hb
      · exact .inl (.inr (.inl (.inl hb)))
      · exact .inr (by omega)
    · exact .inl (.inr (.inl (.inr hb)))
    · exact .inl (.inr (.inr hb))

theorem wsum_rest_le : ∀ (l : List CallS) (k : Nat), wsum (l.drop k) ≤ wsum l := by
  intro l
  induction l with
  | nil => intro k; simp
  | cons c l ih =>
    intro k
    cases k with
    | zero => exact Nat.le_refl _
    | succ k => rw [List.drop_succ_cons]; have := ih k; simp only [wsum]; omega

set_option maxRecDepth 100000 in
set_option maxHeartbeats 4000000 in
theorem do7_crash [bn : Inhabited Ban] {base : Nat} {w : World} {P : Nat} {size : Int} {ss ss' : List SegL} {d : DiskS} {x : RDiskS} {G : Nat → Prop} {j : Nat} {R : Nat → List SegL → Prop} (h : Pair base w P size ss d x G) (hst : St7 j R ss d x) (hj : j ≤ 100) (hb : base ≤ w.heap.size) (hT : ban.top ≤ w.heap.size)
    {a : Act7S} {u : Value} (hu : BytesAt base w u a.p) (ok : a.Ok) (hc : a.dop % 7 = 6) (hz : 1 ≤ size) (hg' : Good j (x.crash a.keep a.torn).l ss') :
    Calls Try.prog 42 #[.pointer (some ⟨P, 0, none⟩), a.value u] w (Do7 base w P G size ss' (d.crash a.keep a.torn) (x.crash a.keep a.torn)) := by
  obtain ⟨g, q, p, n, s, wv, sv, lv, xv, h, rfl⟩ := h
  have hd0 := ok.dop0
  have hd1 := ok.dop1
  have hkm : IntKind.i64.min ≤ a.keep ∧ a.keep ≤ IntKind.i64.max := by simpa [Lit.wf] using ok.keep0
  have hkm : a.keep ≤ 9223372036854775807 := hkm.2
  obtain ⟨uo, uc, rfl⟩ := hu.form
  unfold Act7S.value
  have kA : Keep No w (w.alloc (.cells #[.int .u8 a.dop, .slice uo a.p.length uc, .int .u16 a.n, .bool a.on, .int .i64 a.keep, .int .i64 a.torn] 78)) := (Keep.refl _ _).alloc _
  have hbx := heap_new w (.cells #[.int .u8 a.dop, .slice uo a.p.length uc, .int .u16 a.n, .bool a.on, .int .i64 a.keep, .int .i64 a.torn] 78)
  have hgl := h.lt
  have hAP : ¬ w.heap.size = P := fun e => by have := heap_lt h.blk; omega
  have h1 := h.no kA
  have c4 : (w.alloc (.cells #[.int .u8 a.dop, .slice uo a.p.length uc, .int .u16 a.n, .bool a.on, .int .i64 a.keep, .int .i64 a.torn] 78)).cell? ⟨w.heap.size, 4, none⟩ = some (.int .i64 a.keep) := by rw [cell_of hbx 4]; rfl
  have c5 : (w.alloc (.cells #[.int .u8 a.dop, .slice uo a.p.length uc, .int .u16 a.n, .bool a.on, .int .i64 a.keep, .int .i64 a.torn] 78)).cell? ⟨w.heap.size, 5, none⟩ = some (.int .i64 a.torn) := by rw [cell_of hbx 5]; rfl
  have b0 := cell_of h1.blk 0
  have b2 := cell_of h1.blk 2
  simp at b0 b2
  have hle := hst.good.len
  have hsu := hst.good.sum
  have hcl := (hst.rel.crash a.keep a.torn)
  have hdl := hg'.diskL (by omega) hcl.now hcl.kn
  have hsm := hst.small hj
  have hall : msum d.safe + wsum d.wait ≤ 1099511627776 := by
    have e1 := SameMap.sum (segs6_sorted _).keys hst.rel.ks hst.rel.safe
    have e2 := segs6_sum (x.l.take x.safe.toNat)
    have e3 := wsum_take_le x.l x.safe.toNat
    have e4 := hst.rel.wait
    have e5 := wsum_rest_le x.l x.safe.toNat
    rw [e4]
    omega
  have hcr := fun (w' : World) (k : Keep No (w.alloc (.cells #[.int .u8 a.dop, .slice uo a.p.length uc, .int .u16 a.n, .bool a.on, .int .i64 a.keep, .int .i64 a.torn] 78)) w') => crash_spec (h1.dk.no k) (Nat.le_trans hb (kA.then k).size) hall hsm.wait a.keep a.torn ok.torn0
  have hop := fun (w' : World) (p' n' s' : Nat) (wv' : Value) (hd : DiskAt base w' p' n' s' wv' (d.crash a.keep a.torn)) (hbw : base ≤ w'.heap.size) (hTw : ban.top ≤ w'.heap.size) => lOpen_spec hd hbw hTw hdl hz
  have hxc := fun (w' : World) (hx : RDiskAt base w' q xv x) (hbw : base ≤ w'.heap.size) => rcrash_spec hx hbw (by omega) (by omega) hst.rel.s0 hst.rel.s1 a.keep a.torn hkm
  have HP := Lib.hid (And.intro h1 (And.intro kA (And.intro hb (And.intro hT hgl))))
  have HC := Lib.hid (And.intro hcr (And.intro hop hxc))
  clear h hu h1 hb hT hgl hst hle hsu hcl hdl hsm hall hcr hop hxc hkm hg' hz hbx
  go_enter Try.func42, Try.ntmps42
  go_upto_region 13 with fail
  generalize hW1 : w.alloc (.cells #[.int .u8 a.dop, .slice uo a.p.length uc, .int .u16 a.n, .bool a.on, .int .i64 a.keep, .int .i64 a.torn] 78) = W1 at *
  have hWs : W1.heap.size = w.heap.size + 1 := by rw [← hW1]; simp
  clear hW1
  refine wp_drawS (fun w' => Keep No W1 w') [([0, 1, 2, 3, 5, 6, 7, 8, 10, 11, 12, 13], [4, 9, 14, 15]), ([16, 17], [18, 19])] (by kernel_rfl) (by kernel_rfl) (fun _ _ _ _ _ h => h) (Keep.refl _ _).drew ?_
  have kd : Keep No W1 W1.drew := (Keep.refl _ _).drew
  iterate 12 (refine earlyN_cons (v := ?_) rfl rfl rfl ?_ ?_; rotate_left; focus (
    intro w' hq
    have b0' := hq.cell b0 (fun e => e)
    have b2' := hq.cell b2 (fun e => e)
    have c4' := hq.cell c4 (fun e => e)
    have c5' := hq.cell c5 (fun e => e)
    go_simp
    try with_reducible rfl))
  refine earlyN_nil ?_
  refine midN_cons rfl rfl (fun K hK => ?_)
  go_simp
  refine (lDisk_spec (HP.out.1.lg.no kd)).mono ?_
  rintro e w2 ⟨rfl, rfl⟩
  refine hK _ _ kd ?_
  clear hK K
  refine midN_cons rfl rfl (fun K hK => ?_)
  go_simp
  refine (HC.out.1 _ kd).mono ?_
  rintro e w3 ⟨p', n', s', wv', rfl, hdk3, k3, o3⟩
  have kd3 := kd.then k3
  have hs1 : base ≤ W1.heap.size := Nat.le_trans HP.out.2.2.1 HP.out.2.1.size
  have hs2 : ban.top ≤ W1.heap.size := Nat.le_trans HP.out.2.2.2.1 HP.out.2.1.size
  refine hK _ _ kd3 ?_
  clear hK K
  refine midN_cons rfl rfl (fun K hK => ?_)
  go_simp
  refine (HC.out.2.1 _ _ _ _ _ hdk3 (Nat.le_trans hs1 kd3.size) (Nat.le_trans hs2 kd3.size)).mono ?_
  rintro e w4 ⟨g', sv', lv', rfl, hlg4, hdk4, k4, o4⟩
  have kd4 := kd3.then k4
  refine hK _ _ kd4 ?_
  clear hK K
  refine midN_cons rfl rfl (fun K hK => ?_)
  go_simp
  refine hK _ _ kd4 ?_
  clear hK K
  refine midN_nil ?_
  iterate 2 (refine earlyN_cons (v := ?_) rfl rfl rfl ?_ ?_; rotate_left; focus (
    intro w' hq
    go_simp
    try with_reducible rfl))
  refine earlyN_nil ?_
  iterate 2 (refine midN_cons rfl rfl (fun K hK => ?_); go_simp; refine hK _ _ kd4 ?_; clear hK K)
  refine midN_nil ?_
  unfold stagesN
  go_upto_region 14 with fail
  have h4 := HP.out.1.no kd4
  have b1 := cell_of h4.blk 1
  simp at b1
  have c4 := kd4.cell c4 (fun e => e)
  have c5 := kd4.cell c5 (fun e => e)
  have zo3 : ∀ b, foot p' n' s' wv' b → W1.heap.size ≤ b := fun b hb => Nat.le_trans kd.size (o3 b hb)
  have zo4 : ∀ b, lfoot g' sv' lv' b → W1.heap.size ≤ b := fun b hb => Nat.le_trans kd3.size (o4 b hb)
  have H4 := Lib.hid (And.intro hlg4 (And.intro hdk4 (And.intro h4 (And.intro kd4 (And.intro zo3 zo4)))))
  clear hlg4 hdk4 h4 kd4 zo3 zo4 o3 o4 k3 k4 hdk3 kd3 kd b0 b2
  refine wp_drawS (fun w' => w'.cell? ⟨w.heap.size, 4, none⟩ = some (.int .i64 a.keep) ∧ w'.cell? ⟨w.heap.size, 5, none⟩ = some (.int .i64 a.torn)) [([0, 1, 2, 3, 4, 5, 7, 8, 9, 10], [6, 11]), ([12, 13], [14]), ([15, 16], [17])] (by kernel_rfl) (by kernel_rfl) (fun _ _ _ _ _ h => h) ⟨(Keep.refl No w4).drew.cell c4 (fun e => e), (Keep.refl No w4).drew.cell c5 (fun e => e)⟩ ?_
  iterate 10 (refine earlyN_cons (v := ?_) rfl rfl rfl ?_ ?_; rotate_left; focus (
    intro w' hq
    have c4' := hq.1
    have c5' := hq.2
    go_simp
    try with_reducible rfl))
  refine earlyN_nil ?_
  have kd : Keep No w4 w4.drew := (Keep.refl _ _).drew
  have b1' := kd.cell b1 (fun e => e)
  have hq0 : w4.drew.cell? ⟨w.heap.size, 4, none⟩ = some (.int .i64 a.keep) ∧ w4.drew.cell? ⟨w.heap.size, 5, none⟩ = some (.int .i64 a.torn) := ⟨kd.cell c4 (fun e => e), kd.cell c5 (fun e => e)⟩
  refine midN_cons rfl rfl (fun K hK => ?_)
  go_simp
  refine hK _ _ hq0 ?_
  clear hK K
  refine midN_cons rfl rfl (fun K hK => ?_)
  go_simp
  refine (HC.out.2.2 _ (H4.out.2.2.1.rx.no kd) (Nat.le_trans hs1 (H4.out.2.2.2.1.then kd).size)).mono ?_
  rintro e w6 ⟨q', xv', rfl, hx6, k6, o6, o6'⟩
  have kd6 := kd.then k6
  have c46 := kd6.cell c4 (fun e => e)
  have c56 := kd6.cell c5 (fun e => e)
  refine hK _ _ ⟨c46, c56⟩ ?_
  clear hK K b1'
  refine midN_nil ?_
  iterate 2 (refine earlyN_cons (v := ?_) rfl rfl rfl ?_ ?_; rotate_left; focus (
    intro w' hq
    go_simp
    try with_reducible rfl))
  refine earlyN_nil ?_
  have h6 := H4.out.2.2.1.no kd6
  have e0 := cell_of h6.blk 0
  have f0 := frozen_of h6.blk 0
  simp at e0
  have kS0 : Keep (· = P) w6 (w6.setCell ⟨P, 0, none⟩ (.pointer (some ⟨g', 0, none⟩))) := Keep.setCell (F := (· = P)) (Keep.refl _ _) (p := ⟨P, 0, none⟩) (.inl rfl) _
  have hb7 := heap_setCell_same (i := 0) (u := .pointer (some ⟨g', 0, none⟩)) h6.blk
  refine midN_cons rfl rfl (fun K hK => ?_)
  go_simp
  refine hK _ _ ⟨kS0.cell c46 hAP, kS0.cell c56 hAP⟩ ?_
  clear hK K
  refine midN_nil ?_
  iterate 2 (refine earlyN_cons (v := ?_) rfl rfl rfl ?_ ?_; rotate_left; focus (
    intro w' hq
    go_simp
    try with_reducible rfl))
  refine earlyN_nil ?_
  have e1 := cell_of hb7 1
  have f1 := frozen_of hb7 1
  simp at e1
  have kS1 : Keep (· = P) w6 ((w6.setCell ⟨P, 0, none⟩ (.pointer (some ⟨g', 0, none⟩))).setCell ⟨P, 1, none⟩ (.pointer (some ⟨q', 0, none⟩))) := Keep.setCell (F := (· = P)) kS0 (p := ⟨P, 1, none⟩) (.inl rfl) _
  have hb8 := heap_setCell_same (i := 1) (u := .pointer (some ⟨q', 0, none⟩)) hb7
  refine midN_cons rfl rfl (fun K hK => ?_)
  go_simp
  refine hK _ _ ⟨kS1.cell c46 hAP, kS1.cell c56 hAP⟩ ?_
  clear hK K e0 f0 e1 f1 c46 c56 c4 c5 b1 hq0
  refine midN_nil ?_
  unfold stagesN
  generalize ((w6.setCell ⟨P, 0, none⟩ (.pointer (some ⟨g', 0, none⟩))).setCell ⟨P, 1, none⟩ (.pointer (some ⟨q', 0, none⟩))) = w8 at *
  go_wp2
  go_ret
  obtain ⟨hlg4, hdk4, h4, kd4, zo3, zo4⟩ := H4.out
  have hFP := h6.footP
  have hPl : P < W1.heap.size := heap_lt HP.out.1.blk
  have zx : ∀ b, xfoot q' xv' b → W1.heap.size ≤ b := fun b hb => by
    have z1 := (kd4.then kd).size
    rcases hb with rfl | hb
    · omega
    · have := o6' b hb; omega
  refine ⟨rfl, _, ⟨g', q', p', n', s', wv', sv', lv', xv', ⟨hb8, (hlg4.no kd6).keep hFP kS1 (fun b hb e => ?_), (hdk4.no kd6).keep hFP kS1 (fun b hb e => ?_), hx6.keep hFP kS1 (fun b hb e => ?_), HP.out.1.Pb⟩, rfl⟩, ?_, fun b hb => ?_⟩
  · have := zo4 b hb; have e : b = P := e; omega
  · have := zo3 b hb; have e : b = P := e; omega
  · have := zx b hb; have e : b = P := e; omega
  · exact (HP.out.2.1.then (kd4.then kd6)).no.trans (kS1.mono (fun _ _ e => .inl e)) (fun _ _ e => e)
  · have z1 : w.heap.size ≤ W1.heap.size := by omega
    rcases hb with hb | (hb | hb) | hb
    · exact .inl (.inl hb)
    · exact .inr (Nat.le_trans z1 (zo3 b hb))
    · exact .inr (Nat.le_trans z1 (zo4 b hb))
    · exact .inr (Nat.le_trans z1 (zx b hb))
end Go.Proofs.Ytpjggnfiocplmaa
