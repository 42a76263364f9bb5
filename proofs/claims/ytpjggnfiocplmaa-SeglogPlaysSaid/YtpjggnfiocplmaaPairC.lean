/- The law's 'do': an append that has no room; Full. -/
import Derived.Test.YtpjggnfiocplmaaPairB
import Derived.Test.YtpjggnfiocplmaaFullA
namespace Go.Proofs.Ytpjggnfiocplmaa
open Go Go.RowKit Go.Dr

theorem lAppend_fullgood [bn : Inhabited Ban] {base : Nat} {w : World} {g p n s : Nat} {wv sv lv pv : Value} {size : Int} {ss : List SegL} {d : DiskS} {q : Bytes} {j : Nat} {l : List CallS} (hl : LogAt base w g p sv lv (logD size ss)) (hd : DiskAt base w p n s wv d) (hb : base ≤ w.heap.size) (hT : ban.top ≤ w.heap.size)
    (hp : BytesAt base w pv q) (hq : q.length ≤ 1000) (hg : Good j l ss) (hj : j ≤ 100) (hsm : Small d) (hok : (d.append (appS (logD size ss)).n (appB (logD size ss) q)).2 = 5) :
    Calls Try.prog 36 #[.pointer (some ⟨g, 0, none⟩), pv] w fun e w' => e = .returned (.tuple #[.int .u64 0, .int .i64 5]) ∧ ∃ n' s' wv' sv' lv', LogAt base w' g p sv' lv' (logD size ss) ∧ DiskAt base w' p n' s' wv' (d.append (appS (logD size ss)).n (appB (logD size ss) q)).1 ∧
      Keep (rfoot g p n s wv sv lv) w w' ∧ ∀ b, rfoot g p n' s' wv' sv' lv' b → rfoot g p n s wv sv lv b ∨ w.heap.size ≤ b := by
  have hn := hg.next
  have hr := hg.recs
  have hle := hg.len
  have hso := hg.segsOk (by omega)
  refine (lAppend_full hl hd hb hT hp (by omega) hsm hok (by show max (nextOf 0 ss) 1 + 1 ≤ _; omega) (fun t ht => ?_) (by show (ss.map SegL.view).length ≤ _; rw [List.length_map]; omega) (by show (recsOf ss).length ≤ _; omega)).mono (fun e w' ⟨h1, n', s', wv', h2, h3, h4, h5⟩ => ⟨h1, n', s', wv', sv, lv, h2, h3, h4.mono (fun _ _ e => .inl e), fun b hb => ?_⟩)
  rotate_left
  · rcases hb with hb | hb
    · exact (h5 b hb).imp (fun h => .inl h) (fun h => h)
    · exact .inl (.inr hb)
  obtain ⟨sl, hsl, rfl⟩ := List.mem_map.1 (show t ∈ ss.map SegL.view from ht)
  have h1 := hg.pos sl hsl
  have h3 : sl.recs.length ≤ (recsOf ss).length := by
    unfold recsOf
    have : sl.recs ∈ ss.map (·.recs) := List.mem_map.2 ⟨sl, hsl, rfl⟩
    obtain ⟨a, b, e⟩ := List.append_of_mem this
    rw [e]; simp; omega
  have h4 : (sl.n, sl.bytes) ∈ segMap ss := List.mem_map.2 ⟨sl, hsl, rfl⟩
  obtain ⟨i, hi, e⟩ := List.getElem_of_mem h4
  have h5 := msum_mem (m := segMap ss) (a := i) (e := (sl.n, sl.bytes)) (by rw [List.getElem?_eq_getElem hi, e])
  have h6 := hso.sum
  exact ⟨by show 0 ≤ sl.n; omega, by show sl.n + 1 ≤ _; omega, by show sl.recs.length + 1 ≤ _; omega, by show sl.bytes.length ≤ _; dsimp only at h5; omega⟩

set_option maxRecDepth 100000 in
set_option maxHeartbeats 4000000 in
theorem do7_append_full [bn : Inhabited Ban] {base : Nat} {w : World} {P : Nat} {size : Int} {ss : List SegL} {d : DiskS} {x : RDiskS} {G : Nat → Prop} {j : Nat} {R : Nat → List SegL → Prop} (h : Pair base w P size ss d x G) (hst : St7 j R ss d x) (hj : j ≤ 100) (hb : base ≤ w.heap.size) (hT : ban.top ≤ w.heap.size)
    {a : Act7S} {u : Value} (hu : BytesAt base w u a.p) (ok : a.Ok) (hc : a.dop % 7 < 3)
    (hap : (d.append (appS (logD size ss)).n (appB (logD size ss) (a.p.take 40))).2 = 5) :
    Calls Try.prog 42 #[.pointer (some ⟨P, 0, none⟩), a.value u] w
      (Do7 base w P G size ss (d.append (appS (logD size ss)).n (appB (logD size ss) (a.p.take 40))).1 (x.append (appS (logD size ss)).n (appB (logD size ss) (a.p.take 40))).1) := by
  obtain ⟨g, q, p, n, s, wv, sv, lv, xv, h, rfl⟩ := h
  obtain ⟨hr1, hr2⟩ := hst.rel.append (appS (logD size ss)).n (appB (logD size ss) (a.p.take 40))
  have hd0 := ok.dop0
  have hd1 := ok.dop1
  obtain ⟨uo, uc, rfl⟩ := hu.form
  unfold Act7S.value
  have kA : Keep No w (w.alloc (.cells #[.int .u8 a.dop, .slice uo a.p.length uc, .int .u16 a.n, .bool a.on, .int .i64 a.keep, .int .i64 a.torn] 78)) := (Keep.refl _ _).alloc _
  have hbx := heap_new w (.cells #[.int .u8 a.dop, .slice uo a.p.length uc, .int .u16 a.n, .bool a.on, .int .i64 a.keep, .int .i64 a.torn] 78)
  have hgl := h.lt
  have hA : ¬ pfoot P g q p n s wv sv lv xv w.heap.size := fun e => by have := hgl _ e; omega
  have hm3 : ¬ (a.dop % 7 = 3) := by omega
  have hm4 : ¬ (a.dop % 7 = 4) := by omega
  have hm5 : ¬ (a.dop % 7 = 5) := by omega
  have hm6 : ¬ (a.dop % 7 = 6) := by omega
  have h1 := h.no kA
  have hu1 := hu.no kA
  have c1 : (w.alloc (.cells #[.int .u8 a.dop, .slice uo a.p.length uc, .int .u16 a.n, .bool a.on, .int .i64 a.keep, .int .i64 a.torn] 78)).cell? ⟨w.heap.size, 1, none⟩ = some (.slice uo a.p.length uc) := by rw [cell_of hbx 1]; rfl
  have b0 := cell_of h1.blk 0
  have b1 := cell_of h1.blk 1
  have b2 := cell_of h1.blk 2
  simp at b0 b1 b2
  have hx0 : (x.append (appS (logD size ss)).n (appB (logD size ss) (a.p.take 40))).2 = 5 := by rw [← hr2]; exact hap
  have hq40 : (a.p.take 40).length ≤ 40 := by rw [List.length_take]; omega
  have hsm := hst.small hj
  have hg := hst.good
  have hle := hg.len
  have hsu := hg.sum
  have hnx := hg.next
  have hra := fun (w' : World) (v : Value) (hx : RDiskAt base w' q xv x) (hbw : base ≤ w'.heap.size) (hTw : ban.top ≤ w'.heap.size) (hv : BytesAt base w' v (a.p.take 40)) =>
    rAppend7_spec hx hbw hTw (by omega) (by omega) hg.map (hg.segsOk (by omega)) (fun t ht => by have := hg.pos t ht; omega) size hv (by omega) (by omega)
  unfold R7App at hra
  rw [hx0] at hra
  simp only [show ((5 : Int) = 0) = False from eq_false (by decide), if_false] at hra
  have hla := fun (w' : World) (v : Value) (k : Keep No w w') (hv : BytesAt base w' v (a.p.take 40)) => lAppend_fullgood (h.lg.no k) (h.dk.no k) (Nat.le_trans hb k.size) (Nat.le_trans hT k.size) hv (by omega) hg hj hsm hap
  generalize (x.append (appS (logD size ss)).n (appB (logD size ss) (a.p.take 40))).1 = x' at *
  generalize (d.append (appS (logD size ss)).n (appB (logD size ss) (a.p.take 40))).1 = d' at *
  generalize hcut40 : a.p.take 40 = p40 at *
  generalize max (nextOf 0 ss) 1 = nx at *
  have HC := Lib.hid (And.intro hla (And.intro hra hcut40))
  have HP := Lib.hid (And.intro h1 (And.intro hu1 (And.intro kA (And.intro hb (And.intro hT hgl)))))
  have hPL := h1.PL
  have hPX := h1.PX
  have hAL : ¬ rfoot g p n s wv sv lv w.heap.size := fun e => hA (.inr (.inl e))
  have hAX : ¬ xfoot q xv w.heap.size := fun e => hA (.inr (.inr e))
  clear hla hra hcut40 h hu h1 hu1 hb hT hst hr1 hr2 hap hx0 hq40 hsm hg hle hsu hnx hgl hbx
  clear hA
  go_enter Try.func42, Try.ntmps42
  go_upto_region 16 with fail
  generalize w.alloc (.cells #[.int .u8 a.dop, .slice uo a.p.length uc, .int .u16 a.n, .bool a.on, .int .i64 a.keep, .int .i64 a.torn] 78) = W1 at *
  refine wp_drawS (fun w' => Keep (rfoot g p n s wv sv lv) W1 w') [([0, 1, 2, 3, 4, 5], [6, 7, 8]), ([9, 10], [11, 12])] (by kernel_rfl) (by kernel_rfl) (fun _ _ _ _ _ h => h) (Keep.refl _ _).drew ?_
  have kd : Keep No W1 W1.drew := (Keep.refl _ _).drew
  iterate 6 (refine earlyN_cons (v := ?_) rfl rfl rfl ?_ ?_; rotate_left; focus (
    intro w' hq
    have b0' := hq.cell b0 hPL
    have c1' := hq.cell c1 hAL
    go_simp
    try with_reducible rfl))
  refine earlyN_nil ?_
  refine midN_cons rfl rfl (fun K hK => ?_)
  go_simp
  refine (cut_spec (HP.out.2.1.no kd) 40 (by decide)).mono ?_
  rintro e w2 ⟨v2, rfl, own2, k2⟩
  rw [HC.out.2.2] at own2
  have hv2 := own2.bytes (base := base) (fun _ => Nat.le_trans HP.out.2.2.2.2.1 (HP.out.2.2.1.then kd).size)
  have kd2 := kd.then k2
  refine hK _ _ kd2.no ?_
  clear hK K
  refine midN_cons rfl rfl (fun K hK => ?_)
  go_simp
  refine (HC.out.1 _ _ (HP.out.2.2.1.then kd2) hv2).mono ?_
  rintro e w3 ⟨rfl, n', s', wv', sv', lv', hlg3, hdk3, k3, o3⟩
  have kR : Keep (rfoot g p n s wv sv lv) W1 w3 := kd2.no.trans k3 (fun _ _ e => e)
  refine hK _ _ kR ?_
  clear hK K
  refine midN_cons rfl rfl (fun K hK => ?_)
  go_simp
  refine hK _ _ kR ?_
  clear hK K
  refine midN_nil ?_
  iterate 2 (refine earlyN_cons (v := ?_) rfl rfl rfl ?_ ?_; rotate_left; focus (
    intro w' hq
    go_simp
    try with_reducible rfl))
  refine earlyN_nil ?_
  iterate 2 (refine midN_cons rfl rfl (fun K hK => ?_); go_simp; refine hK _ _ kR ?_; clear hK K)
  refine midN_nil ?_
  unfold stagesN
  go_upto_region 17 with fail
  have hFL := HP.out.1.footL
  have hblk3 := kR.heap HP.out.1.blk hPL
  have hrx3 := HP.out.1.rx.keep hFL kR (fun b hb => HP.out.1.XL hb)
  have hu3 := HP.out.2.1.keep hFL kR
  have b1 := cell_of hblk3 1
  have b2 := cell_of hblk3 2
  simp at b1 b2
  have c1 := kR.cell c1 hAL
  have hs3 := (HP.out.2.2.1.size : w.heap.size ≤ W1.heap.size)
  have hsR := kR.size
  have HQ := Lib.hid (And.intro hlg3 (And.intro hdk3 (And.intro o3 (And.intro kR (And.intro hblk3 (And.intro hrx3 (And.intro hu3 (And.intro kd2.size (Nat.le_trans hs3 hsR)))))))))
  clear hlg3 hdk3 o3 k3 kR hblk3 hrx3 hu3 kd2 own2 hv2 k2 kd hs3 hsR hFL b0
  refine wp_drawS (fun w' => Keep (xfoot q xv) w3 w') [([0, 1, 2, 3, 4, 5, 6, 7, 8, 9], [10, 11, 12]), ([13, 14], [15, 16])] (by kernel_rfl) (by kernel_rfl) (fun _ _ _ _ _ h => h) (Keep.refl _ _).drew ?_
  have kd : Keep No w3 w3.drew := (Keep.refl _ _).drew
  iterate 10 (refine earlyN_cons (v := ?_) rfl rfl rfl ?_ ?_; rotate_left; focus (
    intro w' hq
    have b1' := hq.cell b1 hPX
    have b2' := hq.cell b2 hPX
    have c1' := hq.cell c1 hAX
    go_simp
    try with_reducible rfl))
  refine earlyN_nil ?_
  refine midN_cons rfl rfl (fun K hK => ?_)
  go_simp
  refine (cut_spec (HQ.out.2.2.2.2.2.2.1.no kd) 40 (by decide)).mono ?_
  rintro e w5 ⟨v5, rfl, own5, k5⟩
  rw [HC.out.2.2] at own5
  have hv5 := own5.bytes (base := base) (fun _ => Nat.le_trans HP.out.2.2.2.2.1 (Nat.le_trans HQ.out.2.2.2.2.2.2.2.2 kd.size))
  have kd5 := kd.then k5
  refine hK _ _ kd5.no ?_
  clear hK K
  refine midN_cons rfl rfl (fun K hK => ?_)
  go_simp
  refine (HC.out.2.1 _ _ (HQ.out.2.2.2.2.2.1.no kd5) (Nat.le_trans HP.out.2.2.2.1 (Nat.le_trans HQ.out.2.2.2.2.2.2.2.2 kd5.size)) (Nat.le_trans HP.out.2.2.2.2.1 (Nat.le_trans HQ.out.2.2.2.2.2.2.2.2 kd5.size)) hv5).mono ?_
  rintro e w6 ⟨xv', rfl, hx6, k6, o6⟩
  have k36q : Keep (· = q) w3 w6 := kd5.no.trans k6 (fun _ _ e => e)
  have kX : Keep (xfoot q xv) w3 w6 := k36q.mono (fun _ _ e => .inl e)
  refine hK _ _ kX ?_
  clear hK K
  refine midN_cons rfl rfl (fun K hK => ?_)
  go_simp
  refine hK _ _ kX ?_
  clear hK K
  refine midN_nil ?_
  iterate 2 (refine earlyN_cons (v := ?_) rfl rfl rfl ?_ ?_; rotate_left; focus (
    intro w' hq
    go_simp
    try with_reducible rfl))
  refine earlyN_nil ?_
  iterate 2 (refine midN_cons rfl rfl (fun K hK => ?_); go_simp; refine hK _ _ kX ?_; clear hK K)
  refine midN_nil ?_
  unfold stagesN
  clear b1 b2 c1
  go_wp2
  go_ret
  obtain ⟨hlg3, hdk3, o3, kR, hblk3, hrx3, hu3, hk2s, hwz⟩ := HQ.out
  have hFq : Foot base w3 (· = q) := fun b hb => hrx3.foot b (.inl hb)
  have hG1 : Keep (pfoot P g q p n s wv sv lv xv) W1 w6 := (kR.mono (fun _ _ e => .inr (.inl e))).trans kX (fun _ _ e => .inr (.inr e))
  refine ⟨by simp, _, ⟨g, q, p, n', s', wv', sv', lv', xv', ⟨k36q.heap hblk3 (fun e => hPX (.inl e)), hlg3.keep hFq k36q (fun b hb e => ?_), hdk3.keep hFq k36q (fun b hb e => hdk3.apart hrx3 (.inl e) hb), hx6, HP.out.1.Pb⟩, rfl⟩, HP.out.2.2.1.no.trans hG1 (fun _ _ e => e), fun b hb => ?_⟩
  · obtain ⟨_, cs, t, hz, ht⟩ := hlg3.kind hb
    have e : b = q := e
    rw [e, hrx3.blk] at hz; simp at hz; obtain ⟨_, rfl⟩ := hz; rcases ht with ht | ht | ht <;> simp at ht
  · have z1 : w.heap.size ≤ W1.heap.size := HP.out.2.2.1.size
    rcases hb with hb | hb | hb | hb
    · exact .inl (.inl hb)
    · rcases o3 b hb with hb | hb
      · exact .inl (.inr (.inl hb))
      · exact .inr (by omega)
    · exact .inl (.inr (.inr (.inl hb)))
    · rcases o6 b hb with hb | hb
      · exact .inl (.inr (.inr (.inr hb)))
      · exact .inr (Nat.le_trans hwz (Nat.le_trans kd5.size hb))

set_option maxRecDepth 100000 in
set_option maxHeartbeats 4000000 in
theorem do7_full [bn : Inhabited Ban] {base : Nat} {w : World} {P : Nat} {size : Int} {ss : List SegL} {d : DiskS} {x : RDiskS} {G : Nat → Prop} (h : Pair base w P size ss d x G)
    {a : Act7S} {u : Value} (hu : BytesAt base w u a.p) (ok : a.Ok) (hc : a.dop % 7 = 5) :
    Calls Try.prog 42 #[.pointer (some ⟨P, 0, none⟩), a.value u] w (Do7 base w P G size ss { d with full := a.on } { x with full := a.on }) := by
  obtain ⟨g, q, p, n, s, wv, sv, lv, xv, h, rfl⟩ := h
  have hd0 := ok.dop0
  have hd1 := ok.dop1
  obtain ⟨uo, uc, rfl⟩ := hu.form
  unfold Act7S.value
  have kA : Keep No w (w.alloc (.cells #[.int .u8 a.dop, .slice uo a.p.length uc, .int .u16 a.n, .bool a.on, .int .i64 a.keep, .int .i64 a.torn] 78)) := (Keep.refl _ _).alloc _
  have hbx := heap_new w (.cells #[.int .u8 a.dop, .slice uo a.p.length uc, .int .u16 a.n, .bool a.on, .int .i64 a.keep, .int .i64 a.torn] 78)
  have hgl := h.lt
  have hA : ¬ pfoot P g q p n s wv sv lv xv w.heap.size := fun e => by have := hgl _ e; omega
  have h1 := h.no kA
  have c3 : (w.alloc (.cells #[.int .u8 a.dop, .slice uo a.p.length uc, .int .u16 a.n, .bool a.on, .int .i64 a.keep, .int .i64 a.torn] 78)).cell? ⟨w.heap.size, 3, none⟩ = some (.bool a.on) := by rw [cell_of hbx 3]; rfl
  have b0 := cell_of h1.blk 0
  have b1 := cell_of h1.blk 1
  simp at b0 b1
  have hPD : ¬ foot p n s wv P := fun e => h1.PL (.inl e)
  have hAD : ¬ foot p n s wv w.heap.size := fun e => hA (.inr (.inl (.inl e)))
  have hAq : ¬ w.heap.size = q := fun e => hA (.inr (.inr (.inl e)))
  have hPq : ¬ P = q := fun e => h1.PX (.inl e)
  have HP := Lib.hid (And.intro h1 (And.intro kA hgl))
  clear h hu h1 hgl hbx hA
  go_enter Try.func42, Try.ntmps42
  go_upto_region 9 with fail
  generalize w.alloc (.cells #[.int .u8 a.dop, .slice uo a.p.length uc, .int .u16 a.n, .bool a.on, .int .i64 a.keep, .int .i64 a.torn] 78) = W1 at *
  refine wp_drawN (fun w' => Keep (foot p n s wv) W1 w') [0, 1, 2, 3, 5, 6] [4, 7] [] (by kernel_rfl) (by kernel_rfl) (fun _ _ _ _ _ h => h) (Keep.refl _ _).drew ?_
  have kd : Keep No W1 W1.drew := (Keep.refl _ _).drew
  iterate 6 (refine earlyN_cons (v := ?_) rfl rfl rfl ?_ ?_; rotate_left; focus (
    intro w' hq
    have b0' := hq.cell b0 hPD
    have c3' := hq.cell c3 hAD
    go_simp
    try with_reducible rfl))
  refine earlyN_nil ?_
  refine midN_cons rfl rfl (fun K hK => ?_)
  go_simp
  refine (lDisk_spec (HP.out.1.lg.no kd)).mono ?_
  rintro e w2 ⟨rfl, rfl⟩
  refine hK _ _ kd.no ?_
  clear hK K
  refine midN_cons rfl rfl (fun K hK => ?_)
  go_simp
  refine (full_spec (HP.out.1.dk.no kd) a.on).mono ?_
  rintro e w3 ⟨rfl, n', s', wv', hdk3, k3, o3⟩
  have kF : Keep (foot p n s wv) W1 w3 := kd.no.trans k3 (fun _ _ e => e)
  refine hK _ _ kF ?_
  clear hK K
  refine midN_nil (tailN_nil ?_)
  have h1 := HP.out.1
  have hblk3 := kF.heap h1.blk hPD
  have hlg3 := h1.lg.keep h1.dk.foot_ok kF (fun b hb e => h1.lg.apart h1.dk hb e)
  have hrx3 := h1.rx.byD h1.dk kF
  have b1 := cell_of hblk3 1
  simp at b1
  have c3 := kF.cell c3 hAD
  have H3 := Lib.hid (And.intro hblk3 (And.intro hlg3 (And.intro hrx3 (And.intro hdk3 (And.intro kF (And.intro kd.size o3))))))
  clear hblk3 hlg3 hrx3 hdk3 kF kd o3 k3 h1 b0
  go_upto_region 10 with fail
  refine wp_drawS (fun w' => w'.cell? ⟨P, 1, none⟩ = some (.pointer (some ⟨q, 0, none⟩)) ∧ w'.cell? ⟨w.heap.size, 3, none⟩ = some (.bool a.on)) [([0, 1, 2, 3, 4, 5], []), ([6, 7], [8])] (by kernel_rfl) (by kernel_rfl) (fun _ _ _ _ _ h => h) ⟨(Keep.refl No w3).drew.cell b1 (fun e => e), (Keep.refl No w3).drew.cell c3 (fun e => e)⟩ ?_
  iterate 6 (refine earlyN_cons (v := ?_) rfl rfl rfl ?_ ?_; rotate_left; focus (
    intro w' hq
    have b1' := hq.1
    have c3' := hq.2
    go_simp
    try with_reducible rfl))
  refine earlyN_nil ?_
  refine midN_nil ?_
  iterate 2 (refine earlyN_cons (v := ?_) rfl rfl rfl ?_ ?_; rotate_left; focus (
    intro w' hq
    go_simp
    try with_reducible rfl))
  refine earlyN_nil ?_
  obtain ⟨hx4, k4⟩ := H3.out.2.2.1.setFull a.on
  have e1 := cell_of H3.out.2.2.1.blk 1
  have f1 := frozen_of H3.out.2.2.1.blk 1
  simp at e1
  have k4d := k4.then (Keep.refl No _).drew
  have H4 := Lib.hid (And.intro (hx4.no (Keep.refl No _).drew) (And.intro k4d (And.intro (k4d.cell b1 hPq) (k4d.cell c3 hAq))))
  clear hx4 k4 k4d
  refine midN_cons rfl rfl (fun K hK => ?_)
  go_simp
  refine hK _ _ ⟨H4.out.2.2.1, H4.out.2.2.2⟩ ?_
  clear hK K e1 f1 b1 c3
  refine midN_nil ?_
  unfold stagesN
  obtain ⟨hx4, k4, _, _⟩ := H4.out
  generalize (w3.setCell ⟨q, 1, none⟩ (.bool a.on)).drew = w4 at *
  go_wp2
  go_ret
  obtain ⟨hblk3, hlg3, hrx3, hdk3, kF, hkd, o3⟩ := H3.out
  have hFq : Foot base w3 (· = q) := fun b hb => hrx3.foot b (.inl hb)
  refine ⟨rfl, _, ⟨g, q, p, n', s', wv', sv, lv, xv, ⟨k4.heap hblk3 hPq, hlg3.keep hFq k4 (fun b hb e => ?_), hdk3.keep hFq k4 (fun b hb e => hdk3.apart hrx3 (.inl e) hb), hx4, HP.out.1.Pb⟩, rfl⟩,
    HP.out.2.1.no.trans ((kF.mono (fun _ _ e => .inr (.inl (.inl e)))).trans k4 (fun _ _ e => .inr (.inr (.inl e)))) (fun _ _ e => e), fun b hb => ?_⟩
  · obtain ⟨_, cs, t, hz, ht⟩ := hlg3.kind hb
    have e : b = q := e
    rw [e, hrx3.blk] at hz; simp at hz; obtain ⟨_, rfl⟩ := hz; rcases ht with ht | ht | ht <;> simp at ht
  · have z1 := HP.out.2.1.size
    rcases hb with hb | (hb | hb) | hb
    · exact .inl (.inl hb)
    · rcases o3 b hb with hb | hb
      · exact .inl (.inr (.inl (.inl hb)))
      · exact .inr (by omega)
    · exact .inl (.inr (.inl (.inr hb)))
    · exact .inl (.inr (.inr hb))
end Go.Proofs.Ytpjggnfiocplmaa
