/- The law's act 4: Spare, Trim, the document's Trim; any act at all. -/
import Derived.Test.YtpjggnfiocplmaaTrimX
namespace Go.Proofs.Ytpjggnfiocplmaa
open Go Go.RowKit Go.Dr

theorem Inv.drops {J : Nat} {l : List CallS} {ss : List SegL} (h : Inv J RT l) (hg : Good J l ss) (k : Nat) {last : Int} (hlast : endOf (ss.map SegL.view) ss.length = last) :
    ∀ j, j ≤ ss.length → Inv J RT (l ++ dropsOf k last ss j) := by
  intro j
  induction j with
  | zero => intro _; simpa [dropsOf] using h
  | succ j ih =>
    intro hj
    have hsj : ss[j]? = some ss[j] := List.getElem?_eq_getElem (by omega)
    have hi := ih (by omega)
    cases hk : keepAt k last j ss[j] with
    | true => rw [dropsOf_keep hsj hk]; exact hi
    | false =>
      have I := (trim_all hg k hlast (j + 1) hj).good
      rw [dropsOf_go hsj hk, ← List.append_assoc] at I ⊢
      exact hi.push _ ⟨_, I, trivial⟩ (fun e => by simp at e)
theorem St7.trim {j : Nat} {ss : List SegL} {d : DiskS} {x : RDiskS} (h : St7 j RT ss d x) (k : Nat) {last : Int} (hlast : endOf (ss.map SegL.view) ss.length = last) :
    St7 j RT (leftOf k last ss ss.length) (trimD k last ss d ss.length) { x with l := x.l ++ dropsOf k last ss ss.length } := by
  have hR := trim_rel h.good h.rel k hlast ss.length (Nat.le_refl _)
  have h6 := hR.room
  have h7 := h.rel.room
  dsimp only at h6
  exact ⟨hR, trim_good h.good hlast, h.inv.drops h.good k hlast ss.length (Nat.le_refl _), by have := h.room0; omega, by have := h.room1; omega⟩

set_option maxRecDepth 100000 in
set_option maxHeartbeats 8000000 in
theorem do7_trim [bn : Inhabited Ban] {base : Nat} {w : World} {P : Nat} {size : Int} {ss : List SegL} {d : DiskS} {x : RDiskS} {G : Nat → Prop} {j : Nat} (h : Pair base w P size ss d x G) (hst : St7 j RT ss d x) (hj : j ≤ 100) (hb : base ≤ w.heap.size) (hT : ban.top ≤ w.heap.size)
    {a : Act7S} {u : Value} (hu : BytesAt base w u a.p) (ok : a.Ok) (hc : a.dop % 7 = 4) {last : Int} (hlast : endOf (ss.map SegL.view) ss.length = last) :
    Calls Try.prog 42 #[.pointer (some ⟨P, 0, none⟩), a.value u] w (Do7 base w P G size (leftOf a.n.toNat last ss ss.length) (trimD a.n.toNat last ss d ss.length) { x with l := x.l ++ dropsOf a.n.toNat last ss ss.length }) := by
  obtain ⟨g, q, p, n, s, wv, sv, lv, xv, h, rfl⟩ := h
  have hd0 := ok.dop0
  have hd1 := ok.dop1
  have hn0 := ok.n0
  have hn1 := ok.n1
  obtain ⟨uo, uc, rfl⟩ := hu.form
  obtain ⟨k, hk⟩ : ∃ k : Nat, a.n = (k : Int) := ⟨a.n.toNat, by omega⟩
  unfold Act7S.value
  rw [hk]
  rw [hk] at hn1 hn0
  rw [Int.toNat_natCast]
  have kA : Keep No w (w.alloc (.cells #[.int .u8 a.dop, .slice uo a.p.length uc, .int .u16 k, .bool a.on, .int .i64 a.keep, .int .i64 a.torn] 78)) := (Keep.refl _ _).alloc _
  have hbx := heap_new w (.cells #[.int .u8 a.dop, .slice uo a.p.length uc, .int .u16 k, .bool a.on, .int .i64 a.keep, .int .i64 a.torn] 78)
  have hgl := h.lt
  have hA : ¬ pfoot P g q p n s wv sv lv xv w.heap.size := fun e => by have := hgl _ e; omega
  have h1 := h.no kA
  have c2 : (w.alloc (.cells #[.int .u8 a.dop, .slice uo a.p.length uc, .int .u16 k, .bool a.on, .int .i64 a.keep, .int .i64 a.torn] 78)).cell? ⟨w.heap.size, 2, none⟩ = some (.int .u16 k) := by rw [cell_of hbx 2]; rfl
  have b0 := cell_of h1.blk 0
  have b1 := cell_of h1.blk 1
  simp at b0 b1
  have hwk : IntKind.u64.wrap (k : Int) = (k : Int) := by rw [IntKind.wrap_u64]; omega
  have hPL := h1.PL
  have hAL : ¬ rfoot g p n s wv sv lv w.heap.size := fun e => hA (.inr (.inl e))
  have hPB : ¬ (rfoot g p n s wv sv lv P ∨ xfoot q xv P) := fun e => e.elim h1.PL h1.PX
  have hAB : ¬ (rfoot g p n s wv sv lv w.heap.size ∨ xfoot q xv w.heap.size) := fun e => hA (.inr e)
  have hg := hst.good
  have hsp := fun (w' : World) (kk : Keep No (w.alloc (.cells #[.int .u8 a.dop, .slice uo a.p.length uc, .int .u16 k, .bool a.on, .int .i64 a.keep, .int .i64 a.torn] 78)) w') => lSpare_spec (h1.lg.no kk) hg hj k hlast
  have htr := fun (w' : World) (kk : Keep No (w.alloc (.cells #[.int .u8 a.dop, .slice uo a.p.length uc, .int .u16 k, .bool a.on, .int .i64 a.keep, .int .i64 a.torn] 78)) w') => lTrim_spec (h1.lg.no kk) (h1.dk.no kk) (Nat.le_trans hb (kA.then kk).size) hg hj k hlast (trim_cnt hg hlast) (trim_small hg hst.rel hst.room0 hst.room1 hj k hlast)
  rw [trim_logD hg hlast size] at htr
  have hxt := fun (w' : World) (hx : RDiskAt base w' q xv x) (hb' : base ≤ w'.heap.size) (hT' : ban.top ≤ w'.heap.size) => r7Trim_spec hx hb' hT' hg hj k hlast
  generalize (dropsOf k last ss ss.length).length = dn at *
  generalize dropsOf k last ss ss.length = dl at *
  generalize leftOf k last ss ss.length = s2 at *
  generalize trimD k last ss d ss.length = d2 at *
  have HP := Lib.hid (And.intro h1 (And.intro kA (And.intro hgl (And.intro hb (And.intro hT (And.intro hsp (And.intro htr hxt)))))))
  clear h hu h1 hgl hbx hA hst hg hlast hsp htr hxt hb hT hk hn1 hn0
  go_enter Try.func42, Try.ntmps42
  go_upto_region 6 with fail
  generalize w.alloc (.cells #[.int .u8 a.dop, .slice uo a.p.length uc, .int .u16 k, .bool a.on, .int .i64 a.keep, .int .i64 a.torn] 78) = W1 at *
  refine wp_drawS (fun w' => Keep No W1 w') [([0, 1, 2, 3, 4, 5, 6], [7, 8])] (by kernel_rfl) (by kernel_rfl) (fun _ _ _ _ _ h => h) (Keep.refl _ _).drew ?_
  have kd : Keep No W1 W1.drew := (Keep.refl _ _).drew
  iterate 7 (refine earlyN_cons (v := ?_) rfl rfl rfl ?_ ?_; rotate_left; focus (
    intro w' hq
    have b0' := hq.cell b0 (fun e => e)
    have c2' := hq.cell c2 (fun e => e)
    go_simp
    try with_reducible rfl))
  refine earlyN_nil ?_
  refine midN_cons rfl rfl (fun K hK => ?_)
  go_simp
  refine (HP.out.2.2.2.2.2.1 _ kd).mono ?_
  rintro e w2 ⟨rfl, k2⟩
  have kd := kd.then k2
  refine hK _ _ kd ?_
  clear hK K k2
  refine midN_cons rfl rfl (fun K hK => ?_)
  go_simp
  refine hK _ _ kd ?_
  clear hK K
  refine midN_nil ?_
  unfold stagesN
  go_upto_region 7 with fail
  have c2 := kd.cell c2 (fun e => e)
  have b0 := kd.cell b0 (fun e => e)
  have b1 := kd.cell b1 (fun e => e)
  have H2 := Lib.hid kd
  clear kd
  refine wp_drawS (fun w' => Keep (fun b => rfoot g p n s wv sv lv b ∨ xfoot q xv b) w2 w') [([0, 1, 2, 3, 4, 5, 6, 8], [7, 9, 10]), ([11, 12, 13, 14, 15, 16, 17, 18], [19, 20, 21, 22])] (by kernel_rfl) (by kernel_rfl) (fun _ _ _ _ _ h => h) (Keep.refl _ _).drew ?_
  have kd : Keep No w2 w2.drew := (Keep.refl _ _).drew
  iterate 8 (refine earlyN_cons (v := ?_) rfl rfl rfl ?_ ?_; rotate_left; focus (
    intro w' hq
    have b0' := hq.cell b0 hPB
    have c2' := hq.cell c2 hAB
    go_simp
    try with_reducible rfl))
  refine earlyN_nil ?_
  refine midN_cons rfl rfl (fun K hK => ?_)
  go_simp
  refine (HP.out.2.2.2.2.2.2.1 _ (H2.out.then kd)).mono ?_
  rintro e w3 ⟨rfl, n', s', wv', sv', lv', hlg3, hdk3, k3, o3⟩
  have kR : Keep (rfoot g p n s wv sv lv) w2 w3 := kd.no.trans k3 (fun _ _ e => e)
  have kS : Keep (fun b => rfoot g p n s wv sv lv b ∨ xfoot q xv b) w2 w3 := kR.mono (fun _ _ e => .inl e)
  refine hK _ _ kS ?_
  clear hK K
  iterate 2 (refine midN_cons rfl rfl (fun K hK => ?_); go_simp; refine hK _ _ kS ?_; clear hK K)
  refine midN_nil ?_
  iterate 8 (refine earlyN_guarded (v := ?_) rfl rfl (by first | kernel_rfl | simp [Region.wanted, yielded, Act.put, undef]) ?_ ?_; rotate_left; focus (
    intro w' hq
    have b1' := hq.cell b1 hPB
    have c2' := hq.cell c2 hAB
    go_simp
    try with_reducible rfl))
  refine earlyN_nil ?_
  refine midN_want rfl (by first | kernel_rfl | simp [Region.wanted, yielded, Act.put, undef]) (fun K hK => ?_)
  go_simp
  have k02 := HP.out.2.1.then H2.out
  have hx2 := HP.out.1.rx.no H2.out
  have hFL := HP.out.1.footL
  have hFL2 := (HP.out.1.no H2.out).footL
  have hx3 := hx2.keep hFL2 kR (fun b hb => HP.out.1.XL hb)
  have hblk3 := kR.heap (H2.out.heap HP.out.1.blk (fun e => e)) hPL
  have hs3 : w.heap.size ≤ w3.heap.size := Nat.le_trans k02.size kR.size
  refine (HP.out.2.2.2.2.2.2.2 _ hx3 (Nat.le_trans HP.out.2.2.2.1 hs3) (Nat.le_trans HP.out.2.2.2.2.1 hs3)).mono ?_
  rintro e w4 ⟨rfl, xv', hx4, k4, o4⟩
  have kT : Keep (fun b => rfoot g p n s wv sv lv b ∨ xfoot q xv b) w2 w4 := kS.trans k4 (fun _ _ e => .inr (.inl e))
  refine hK _ _ kT ?_
  clear hK K
  refine midN_want rfl (by first | kernel_rfl | simp [Region.wanted, yielded, Act.put, undef]) (fun K hK => ?_)
  go_simp
  refine hK _ _ kT ?_
  clear hK K
  iterate 2 (refine midN_cons rfl rfl (fun K hK => ?_); go_simp; refine hK _ _ kT ?_; clear hK K)
  refine midN_nil ?_
  unfold stagesN
  clear b0 b1 c2
  go_wp2
  go_ret
  have hFq : Foot base w3 (· = q) := fun b hb => hx3.foot b (.inl hb)
  have hG1 : Keep (pfoot P g q p n s wv sv lv xv) W1 w4 := H2.out.no.trans (kT.mono (fun _ _ e => .inr e)) (fun _ _ e => e)
  refine ⟨by simp, _, ⟨g, q, p, n', s', wv', sv', lv', xv', ⟨k4.heap hblk3 (fun e => hPB (.inr (.inl e))), hlg3.keep hFq k4 (fun b hb e => ?_), hdk3.keep hFq k4 (fun b hb e => hdk3.apart hx3 (.inl e) hb), hx4, HP.out.1.Pb⟩, rfl⟩, HP.out.2.1.no.trans hG1 (fun _ _ e => e), fun b hb => ?_⟩
  · obtain ⟨_, cs, t, hz, ht⟩ := hlg3.kind hb
    have e : b = q := e
    rw [e, hx3.blk] at hz; simp at hz; obtain ⟨_, rfl⟩ := hz; rcases ht with ht | ht | ht <;> simp at ht
  · rcases hb with hb | hb | hb | hb
    · exact .inl (.inl hb)
    · rcases o3 b hb with hb | hb
      · exact .inl (.inr (.inl hb))
      · exact .inr (Nat.le_trans (k02.then kd).size hb)
    · exact .inl (.inr (.inr (.inl hb)))
    · rcases o4 b hb with hb | hb
      · exact .inl (.inr (.inr (.inr hb)))
      · exact .inr (Nat.le_trans hs3 hb)

/-- Any act. -/
theorem do7_every [bn : Inhabited Ban] {base : Nat} {w : World} {P : Nat} {size : Int} {ss : List SegL} {d : DiskS} {x : RDiskS} {G : Nat → Prop} {j : Nat} (h : Pair base w P size ss d x G) (hst : St7 j RT ss d x) (hj : j ≤ 100) (hb : base ≤ w.heap.size) (hT : ban.top ≤ w.heap.size) (hz : 1 ≤ size)
    {a : Act7S} {u : Value} (hu : BytesAt base w u a.p) (ok : a.Ok) : Calls Try.prog 42 #[.pointer (some ⟨P, 0, none⟩), a.value u] w (DoAny base w P G size j) := by
  by_cases hc : a.dop % 7 = 4
  · exact (do7_trim h hst hj hb hT hu ok hc rfl).mono fun e w' => Do7.any ((hst.trim _ rfl).mono (Nat.le_succ _))
  · exact do7_any h hst hj hb hT hz hu ok hc
end Go.Proofs.Ytpjggnfiocplmaa
