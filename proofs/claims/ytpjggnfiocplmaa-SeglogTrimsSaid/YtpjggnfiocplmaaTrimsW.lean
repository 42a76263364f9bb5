/- SeglogTrims: the walk. -/
import Derived.Test.YtpjggnfiocplmaaTrimL
import Derived.Test.YtpjggnfiocplmaaHoldsW
namespace Go.Proofs.Ytpjggnfiocplmaa
open Go Go.RowKit Go.Dr

theorem lSegs_spec [bn : Inhabited Ban] {base : Nat} {w : World} {g p : Nat} {sv lv : Value} {L : LogS} (h : LogAt base w g p sv lv L) :
    Calls Try.prog 47 #[.pointer (some ⟨g, 0, none⟩)] w fun e w' => e = .returned (.int .i64 (L.segs.length : Nat)) ∧ w' = w := by
  obtain ⟨so, sc, rfl, _, _⟩ := h.segs.form
  have c2 := cell_of h.blk 2
  simp at c2
  clear h
  go_enter Try.func47, Try.ntmps47
  go_wp2
  go_ret
  exact ⟨rfl, rfl⟩
theorem slice_slices [bn : Inhabited Ban] (ao : Option Addr) (n cap lo : Nat) (h1 : lo ≤ n) :
    ∃ o c, (∀ w, (Instr.slice 64 (.slice ao n cap) (some (.int .i64 (lo : Int))) none none).run Try.prog w = .ok (.slice o (n - lo) c) w) ∧
      ∀ base w l, SlicesAt base w (.slice ao n cap) l → SlicesAt base w (.slice o (n - lo) c) (l.drop lo) := by
  refine ⟨if cap = lo then ao else ao.map (·.add (lo * 1)), cap - lo, fun w => ?_, fun base w l h => ?_⟩
  · rw [run_slice_l w 64 ao n cap elem_recs .i64 _ (by omega) (by omega), Int.toNat_natCast, size_recs]
    rfl
  · obtain ⟨us, e1, e2, ao', cap', hq, h3, h4, h5⟩ := h
    simp only [Value.slice.injEq] at hq
    obtain ⟨rfl, rfl, rfl⟩ := hq
    have hl : (l.drop lo).length = l.length - lo := List.length_drop
    refine ⟨us.drop lo, by rw [List.length_drop, hl, e1], fun i u b hu hb => ?_, _, cap - lo, by rw [hl], by rw [hl]; omega, by omega, ?_⟩
    · rw [List.getElem?_drop] at hu hb
      exact e2 _ u b hu hb
    · rcases h5 with rfl | ⟨g, o, rfl, h5⟩
      · exact .inl (by simp)
      · by_cases hc : cap = lo
        · left
          exact List.drop_eq_nil_of_le (by omega)
        · rw [if_neg hc]
          refine .inr ⟨g, o + lo, by simp [Addr.add_lit], fun i u hu => ?_⟩
          rw [List.getElem?_drop] at hu
          have := h5 _ u hu
          rw [Nat.add_assoc]
          exact this

theorem leftOf_all {k : Nat} {last : Int} {ss : List SegL} (h : ∀ j, dropsOf k last ss j = []) : ∀ j, j ≤ ss.length → leftOf k last ss j = ss.take j := by
  intro j
  induction j with
  | zero => intro _; rfl
  | succ j ih =>
    intro hj
    have hs : ss[j]? = some ss[j] := List.getElem?_eq_getElem (by omega)
    have ht : ss.take (j + 1) = ss.take j ++ [ss[j]] := by rw [List.take_add_one, hs]; rfl
    by_cases hk : keepAt k last j ss[j] = true
    · rw [leftOf_keep hs hk, ih (by omega), ht]
    · have := h (j + 1)
      rw [dropsOf_go hs (by simpa using hk)] at this
      simp at this
theorem Good.short {J : Nat} {l : List CallS} {ss : List SegL} (h : Good J l ss) : ∀ b ∈ recsOf ss, b.length ≤ 1048576 := fun b hb => by
  unfold recsOf at hb
  obtain ⟨r, hr, hbr⟩ := List.mem_flatten.1 hb
  obtain ⟨s, hs, rfl⟩ := List.mem_map.1 hr
  have ho := h.ok s hs
  cases hh : s.headed with
  | true => exact (ho.head hh).2.2.1 b hbr
  | false => rw [(ho.bare hh).1] at hbr; cases hbr

/-- In the loop. -/
def TrimsI [bn : Inhabited Ban] (w : World) (P : Nat) (size : Int) (j : Nat) (wr : World) : Prop :=
  ∃ (ss : List SegL) (d : DiskS) (x : RDiskS) (G : Nat → Prop), Pair w.heap.size wr P size ss d x G ∧ St7 j RT ss d x ∧ Keep No w wr ∧ ∀ b, G b → w.heap.size ≤ b

set_option maxRecDepth 100000 in
set_option maxHeartbeats 8000000 in
theorem trims_walk [bn : Inhabited Ban] {w : World} (hT : ban.top ≤ w.heap.size) (z : Int) (hz0 : 0 ≤ z) (hz1 : z ≤ 65535) {v : Value} {acts : List Act7S} (hA : Acts7At w.heap.size w v acts) (hok : ∀ a ∈ acts, a.Ok) (nn : Nat) (hn1 : nn ≤ 65535) :
    Calls Try.prog 12 #[.int .u16 z, v, .int .u16 nn] w fun e w' => e = .returned (.bool true) ∧ Keep No w w' := by
  obtain ⟨ao, cap, rfl, hlc, hcm, hacts⟩ := hA
  unfold maxLen at hcm
  have hlen1 : (acts.length : Int) ≤ 9223372036854775807 := by omega
  have hop := fun (w' : World) (k : Keep No w w') => open7_spec (base := w.heap.size) (w := w') k.size (Nat.le_trans hT k.size) 60000 (z % 200) (by decide) (by decide) (by omega) (by omega)
  have HP := Lib.hid (And.intro hT (And.intro hacts (And.intro hok hn1)))
  have haw := awake7_spec hT
  have hni : (nn : Int) ≤ 65535 := by omega
  clear hT hacts hok hlc hcm hn1
  go_enter Try.func12, Try.ntmps12
  go_upto_block 0 with (first
    | (go_at_call 41; refine (hop _ k1).mono ?_; rintro e w2 ⟨P, G, rfl, hP, k2, hG⟩)
    | (go_at_call 34; refine haw.mono ?_; rintro e w1 ⟨rfl, k1⟩))
  have hI0 : TrimsI w P (1 + z % 200) 0 w2 := ⟨[], _, _, G, hP, St7.start 60000 (by decide) (by decide), k1.then k2, fun b hb => Nat.le_trans k1.size (hG b hb)⟩
  have hK1 : 1 ≤ 1 + z % 200 := by omega
  clear hop haw hP hG k1 k2
  generalize 1 + z % 200 = K at *
  clear hz0 hz1
  go_cut [] (fun wx => ∃ j : Nat, j ≤ 30 ∧ TrimsI w P K j wx)
  case first =>
    go_wp2_with fail
    go_loopw [28] (fun i wr => ∃ j : Nat, j ≤ acts.length ∧ i = .int .i64 j ∧ TrimsI w P K (min j 30) wr) (fun i _ => acts.length - (intOf i).toNat)
    case atStart => exact ⟨0, Nat.zero_le _, rfl, hI0⟩
    case round =>
      clear hI0
      obtain ⟨j, hj, rfl, ss, d, x, G, hPr, hH, hk, hG⟩ := hrel
      by_cases hlt : j < acts.length
      · have hacts := HP.out.2.1
        rcases hacts with rfl | ⟨ga, oa, hga, rfl, hacts⟩
        · simp at hlt
        · have haj : acts[j]? = some acts[j] := List.getElem?_eq_getElem hlt
          obtain ⟨u, hu, e0, e1, e2, e3, e4, e5⟩ := hacts j _ haj
          have hoj := HP.out.2.2.1 _ (List.getElem_mem hlt)
          generalize acts[j] = a at *
          obtain ⟨uo, uc, rfl⟩ := hu.form
          have e0 := hk.cell e0 (fun e => e)
          have e1 := hk.cell e1 (fun e => e)
          have e2 := hk.cell e2 (fun e => e)
          have e3 := hk.cell e3 (fun e => e)
          have e4 := hk.cell e4 (fun e => e)
          have e5 := hk.cell e5 (fun e => e)
          have hu := hu.no hk
          have hji : (j : Int) < (acts.length : Int) := by omega
          have hd0 := hoj.dop0
          have hd1 := hoj.dop1
          have kA : Keep No wr (wr.alloc (.cells #[.int .u8 a.dop, .slice uo a.p.length uc, .int .u16 a.n, .bool a.on, .int .i64 a.keep, .int .i64 a.torn] 78)) := (Keep.refl _ _).alloc _
          clear haj hacts
          by_cases hdo : j < 30 ∧ a.dop % 7 ≠ 4
          · have hj30 : (j : Int) < 30 := by omega
            have q4 : (a.dop % 7 != 4) = true := by simpa using hdo.2
            have hH2 : St7 j RT ss d x := by rw [Nat.min_eq_left (by omega)] at hH; exact hH
            have hdc := do7_any (hPr.no kA) hH2 (by omega) (Nat.le_trans hk.size kA.size) (Nat.le_trans HP.out.1 (Nat.le_trans hk.size kA.size)) hK1 (hu.no kA) hoj hdo.2
            have HL := Lib.hid (And.intro hPr (And.intro hk (And.intro hG (And.intro hlt (And.intro hdo kA)))))
            clear hPr hH hH2 hk hG hlt hdo kA hu hoj hj
            go_wp2_with (go_at_call 42; refine hdc.mono ?_; rintro e w4 ⟨rfl, ss', d', x', G4, hP4, hH4, k4, hG4⟩)
            have hk4 : Keep No w w4 := (HL.out.2.1.then HL.out.2.2.2.2.2).absorb k4 HL.out.2.2.1
            have HZ := Lib.hid (And.intro hP4 (And.intro hH4 (And.intro hk4 hG4)))
            clear hP4 hH4 hk4 hG4 k4 hdc
            go_roundw
            case rel =>
              refine ⟨j + 1, HL.out.2.2.2.1, by go_num, ss', d', x', G4, HZ.out.1, by have := HL.out.2.2.2.2.1.1; rw [Nat.min_eq_left (by omega)]; exact HZ.out.2.1, HZ.out.2.2.1, fun b hb => ?_⟩
              rcases HZ.out.2.2.2 b hb with h | h
              · exact HL.out.2.2.1 b h
              · have h1 := HL.out.2.1.size; simp at h; omega
            case measure => have := HL.out.2.2.2.1; simp [intOf]; omega
          · have HZ := Lib.hid (⟨ss, d, x, G, hPr.no kA, hH.mono (k := min (j + 1) 30) (by omega), hk.then kA, hG⟩ : TrimsI w P K (min (j + 1) 30) _)
            have HLT := Lib.hid hlt
            clear hPr hH hk hG hu hoj kA hlt hj
            by_cases hj30 : j < 30
            · have hj30i : (j : Int) < 30 := by omega
              have h4 : a.dop % 7 = 4 := by
                by_cases h : a.dop % 7 = 4
                · exact h
                · exact absurd ⟨hj30, h⟩ hdo
              clear hdo hj30
              go_wp2_with fail
              go_roundw
              case rel => exact ⟨j + 1, HLT.out, by go_num, HZ.out⟩
              case measure => have := HLT.out; simp [intOf]; omega
            · have hj30i : ¬ (j : Int) < 30 := by omega
              clear hdo hj30
              go_wp2_with fail
              go_roundw
              case rel => exact ⟨j + 1, HLT.out, by go_num, HZ.out⟩
              case measure => have := HLT.out; simp [intOf]; omega
      · have hji : ¬ (j : Int) < (acts.length : Int) := by omega
        have HE := Lib.hid (⟨ss, d, x, G, hPr, hH, hk, hG⟩ : TrimsI w P K (min j 30) _)
        clear hPr hH hk hG
        go_wp2
        go_meet
        exact ⟨min j 30, by omega, HE.out⟩
  case rest =>
    clear hI0
    obtain ⟨j, hj, ss, d, x, G, hPr, hH, hk, hG⟩ := hcut
    generalize wc = w4 at *
    obtain ⟨g, q, p, n, s, wv, sv, lv, xv, hA4, hGe⟩ := hPr
    have hg := hH.good
    have hbs := hk.size
    have hTs := Nat.le_trans HP.out.1 hk.size
    obtain ⟨nx, hnx⟩ : ∃ nx, max (nextOf 0 ss) 1 = nx := ⟨_, rfl⟩
    obtain ⟨last, hlast⟩ : ∃ last, endOf (ss.map SegL.view) ss.length = last := ⟨_, rfl⟩
    have hnb := hg.next
    have hrb := hg.recs
    have hlb := hg.len
    have hgl := hA4.lt
    rw [hnx] at hnb hrb
    have hL := hA4.lg
    have hD := hA4.dk
    have b0 := cell_of hA4.blk 0
    simp at b0
    have hPL := hA4.PL
    -- ahead of the trim
    have c1 : ∀ w', Keep No w4 w' → Calls Try.prog 46 #[.pointer (some ⟨g, 0, none⟩)] w' fun e w'' => e = .returned (.int .u64 nx) ∧ w'' = w' := fun w' k => by
      have := lNext_spec (hL.no k)
      rw [show (logD K ss).next = nx from hnx] at this
      exact this
    have c2 := records_spec hL hbs hTs (by show max (nextOf 0 ss) 1 ≤ _; omega) (by show (recsOf ss).length + 1 ≤ max (nextOf 0 ss) 1; omega) (fun b hb => Nat.le_trans (hg.short b hb) (by decide)) (by show (recsOf ss).length ≤ _; omega)
    have hlr : (logD K ss).recs = recsOf ss := rfl
    rw [hlr] at c2
    have c3 : ∀ w', Keep No w4 w' → Calls Try.prog 44 #[.pointer (some ⟨g, 0, none⟩)] w' fun e w'' => e = .returned (.int .u64 (nx - (recsOf ss).length : Nat)) ∧ Keep No w' w'' := fun w' k => by
      have := lFirst_spec (hL.no k) (by show max (nextOf 0 ss) 1 ≤ _; omega) (by show (recsOf ss).length ≤ max (nextOf 0 ss) 1; omega)
      rw [show (logD K ss).next = nx from hnx, hlr] at this
      exact this
    have c4 : ∀ w', Keep No w4 w' → Calls Try.prog 47 #[.pointer (some ⟨g, 0, none⟩)] w' fun e w'' => e = .returned (.int .i64 (ss.length : Nat)) ∧ w'' = w' := fun w' k => by
      have := lSegs_spec (hL.no k)
      rw [show (logD K ss).segs.length = ss.length from List.length_map _] at this
      exact this
    obtain ⟨kk, hkk⟩ : ∃ kk, nn % (nx + 2) = kk := ⟨_, rfl⟩
    have hsm := trim_small hg hH.rel hH.room0 hH.room1 (by omega) kk hlast
    have hcn := trim_cnt (k := kk) hg hlast
    have hlog := trim_logD (k := kk) hg hlast K
    have hg2 := trim_good (k := kk) hg hlast
    have hag := trim_again (k := kk) hg hlast
    have hR2 := trim_rel hg hH.rel kk hlast ss.length (Nat.le_refl _)
    have c5 := fun (w' : World) (k : Keep No w4 w') => lTrim_spec (hL.no k) (hD.no k) (Nat.le_trans hbs k.size) hg (by omega) kk hlast hcn hsm
    rw [hlog] at c5
    have I := trim_all hg kk hlast ss.length (Nat.le_refl _)
    have i1 := I.recs
    have i2 := I.next
    have i3 := I.cnt
    have i4 := I.len
    have i5 := I.first
    rw [List.drop_length, List.append_nil] at i1 i2 i3 i5
    generalize trimD kk last ss d ss.length = d2 at *
    generalize hdl : dropsOf kk last ss ss.length = dl at *
    generalize leftOf kk last ss ss.length = s2 at *
    generalize cntOf kk last ss ss.length = cn at *
    have hnx2 : max (nextOf 0 s2) 1 = nx := by rw [i2]; exact hnx
    have hlr2 : (logD K s2).recs = recsOf s2 := rfl
    have d1 : ∀ w' sv' lv', LogAt w.heap.size w' g p sv' lv' (logD K s2) → Calls Try.prog 46 #[.pointer (some ⟨g, 0, none⟩)] w' fun e w'' => e = .returned (.int .u64 nx) ∧ w'' = w' := fun w' sv' lv' h => by
      have := lNext_spec h
      rw [show (logD K s2).next = nx from hnx2] at this
      exact this
    have d2' : ∀ w' sv' lv', LogAt w.heap.size w' g p sv' lv' (logD K s2) → w.heap.size ≤ w'.heap.size → Calls Try.prog 38 #[.pointer (some ⟨g, 0, none⟩)] w' fun e w'' => ∃ v, e = .returned (.tuple #[v, .bool true]) ∧ LRecsAt w.heap.size w'' v (recsOf s2) ∧ (∀ b, v.ownBlock = some b → w'.heap.size ≤ b) ∧ Keep No w' w'' := fun w' sv' lv' h hs => by
      have := records_spec h hs (Nat.le_trans HP.out.1 hs) (by show max (nextOf 0 s2) 1 ≤ _; omega) (by show (recsOf s2).length + 1 ≤ max (nextOf 0 s2) 1; omega) (fun b hb => Nat.le_trans (hg2.short b hb) (by decide)) (by show (recsOf s2).length ≤ _; omega)
      rw [hlr2] at this
      exact this
    have d3 : ∀ w' sv' lv', LogAt w.heap.size w' g p sv' lv' (logD K s2) → Calls Try.prog 44 #[.pointer (some ⟨g, 0, none⟩)] w' fun e w'' => e = .returned (.int .u64 (nx - (recsOf s2).length : Nat)) ∧ Keep No w' w'' := fun w' sv' lv' h => by
      have := lFirst_spec h (by show max (nextOf 0 s2) 1 ≤ _; omega) (by show (recsOf s2).length ≤ max (nextOf 0 s2) 1; omega)
      rw [show (logD K s2).next = nx from hnx2, hlr2] at this
      exact this
    have d4 : ∀ w' sv' lv', LogAt w.heap.size w' g p sv' lv' (logD K s2) → Calls Try.prog 47 #[.pointer (some ⟨g, 0, none⟩)] w' fun e w'' => e = .returned (.int .i64 (s2.length : Nat)) ∧ w'' = w' := fun w' sv' lv' h => by
      have := lSegs_spec h
      rw [show (logD K s2).segs.length = s2.length from List.length_map _] at this
      exact this
    have hsm2 := trim_small (x := { x with l := x.l ++ dl }) hg2 hR2 (by have := hR2.room; have := hH.rel.room; have := hH.room0; dsimp only at *; omega) (by have := hR2.room; have := hH.rel.room; have := hH.room1; dsimp only at *; omega) (by omega) kk (last := endOf (s2.map SegL.view) s2.length) rfl
    have hcn2 := trim_cnt (k := kk) hg2 (last := endOf (s2.map SegL.view) s2.length) rfl
    have d5 : ∀ w' n' s' wv' sv' lv', LogAt w.heap.size w' g p sv' lv' (logD K s2) → DiskAt w.heap.size w' p n' s' wv' d2 → w.heap.size ≤ w'.heap.size → Calls Try.prog 48 #[.pointer (some ⟨g, 0, none⟩), .int .u64 kk] w' fun e w'' => e = .returned (.int .i64 0) ∧ ∃ n'' s'' wv'' sv'' lv'', LogAt w.heap.size w'' g p sv'' lv'' (logD K s2) ∧ DiskAt w.heap.size w'' p n'' s'' wv'' (trimD kk (endOf (s2.map SegL.view) s2.length) s2 d2 s2.length) ∧ Keep (rfoot g p n' s' wv' sv' lv') w' w'' := fun w' n' s' wv' sv' lv' h hd hs => by
      refine (lTrim_spec h hd hs hg2 (by omega) kk rfl hcn2 hsm2).mono ?_
      rintro e w'' ⟨rfl, n'', s'', wv'', sv'', lv'', h1, h2, h3, h4⟩
      rw [hag] 
      refine ⟨rfl, n'', s'', wv'', sv'', lv'', ?_, h2, h3⟩
      have e1 := trim_logD (k := kk) hg2 (last := endOf (s2.map SegL.view) s2.length) rfl K
      rw [leftOf_all hag s2.length (Nat.le_refl _), List.take_length] at e1
      rw [leftOf_all hag s2.length (Nat.le_refl _), List.take_length, e1] at h1
      exact h1
    have hmod : Int.tmod (nn : Int) ((nx : Int) + 2) = (kk : Int) := by
      rw [← hkk, Int.tmod_eq_emod_of_nonneg (Int.natCast_nonneg _)]
      push_cast
      rfl
    have hmod2 : (nn : Int) % ((nx : Int) + 2) = (kk : Int) := by rw [← hkk]; push_cast; rfl
    have hl2 : (recsOf ss).drop cn = recsOf s2 := i1.symm
    have hf1 : (nx - (recsOf s2).length : Nat) ≤ kk ∨ (nx - (recsOf s2).length = nx - (recsOf ss).length) := by
      rcases i5 with h | h
      · right; omega
      · by_cases hq : nextOf 0 ss = 0
        · right; omega
        · left; omega
    generalize recsOf s2 = r2 at *
    generalize hrs : recsOf ss = rs at *
    have HC := Lib.hid (And.intro c1 (And.intro c2 (And.intro c3 (And.intro c4 c5))))
    have HD := Lib.hid (And.intro d1 (And.intro d2' (And.intro d3 (And.intro d4 d5))))
    have HR := Lib.hid (And.intro hA4 (And.intro hk (And.intro hG (And.intro hGe (And.intro hgl hl2)))))
    have hkb : (kk : Int) ≤ 65535 := by have h1 := HP.out.2.2.2; have h2 := Nat.mod_le nn (nx + 2); rw [hkk] at h2; omega
    have hnxi : (nx : Int) ≤ 1099511627776 := by omega
    have hnx1 : ¬ ((nx : Int) + 2 = 0) := by omega
    have hssb : (ss.length : Int) ≤ 1099511627776 := by omega
    clear c1 c2 c3 c4 c5 d1 d2' d3 d4 d5 hA4 hk hG hGe hgl hl2 hg hH hnb hlb hL hD hlr hsm hcn hlog hg2 hag hR2 I i1 i2 hnx2 hlr2 hsm2 hcn2 hdl hnx hlast hbs hTs hrs hkk
    go_upto_region 13 with (go_at_call 46; refine (HC.out.1 _ (Keep.refl _ _)).mono ?_; rintro e w5 ⟨rfl, e5⟩; have e5 := e5.symm; subst e5)
    clear hmod hmod2
    go_upto_region 14 with (go_at_call 38; refine HC.out.2.1.mono ?_; rintro e w6 ⟨v6, rfl, hv6, o6, k6⟩; obtain ⟨vo6, vc6, rfl, _, _⟩ := hv6.form)
    have b06 := k6.cell b0 (fun e => e)
    refine wp_drawS (fun w' => Keep No w6 w') [([0, 1, 2, 3, 5, 6, 7, 8], [4, 9, 10, 11])] (by kernel_rfl) (by kernel_rfl) (fun _ _ _ _ _ h => h) (Keep.refl _ _).drew ?_
    have kd : Keep No w6 w6.drew := (Keep.refl _ _).drew
    iterate 8 (refine earlyN_cons (v := ?_) rfl rfl rfl ?_ ?_; rotate_left; focus (
      intro w' hq
      have b0' := hq.cell b06 (fun e => e)
      go_simp
      try with_reducible rfl))
    refine earlyN_nil ?_
    refine midN_cons rfl rfl (fun K hK => ?_)
    go_simp
    refine (HC.out.2.2.1 _ (k6.then kd)).mono ?_
    rintro e w7 ⟨rfl, k7⟩
    have kd := kd.then k7
    refine hK _ _ kd ?_
    clear hK K
    refine midN_cons rfl rfl (fun K hK => ?_)
    go_simp
    refine (HC.out.1 _ (k6.then kd)).mono ?_
    rintro e w8 ⟨rfl, e8⟩
    have e8 := e8.symm
    subst e8
    refine hK _ _ kd ?_
    clear hK K
    iterate 2 (refine midN_cons rfl rfl (fun K hK => ?_); go_simp; refine hK _ _ kd ?_; clear hK K)
    refine midN_nil ?_
    unfold stagesN
    have b07 := kd.cell b06 (fun e => e)
    go_upto_region 16 with (go_at_call 47; refine (HC.out.2.2.2.1 _ (k6.then kd)).mono ?_; rintro e w9 ⟨rfl, e9⟩; have e9 := e9.symm; subst e9)
    have k49 := k6.then kd
    have hv9 := hv6.keep (Foot.no _ _) kd (fun _ _ e => e)
    have hA9 := HR.out.1.no k49
    have H9 := Lib.hid (And.intro k49 (And.intro hv9 hA9))
    clear k6 kd k7 hv6 b06 b0 k49 hv9 hA9
    go_upto_region 17 with (go_at_call 48; refine (HC.out.2.2.2.2 _ H9.out.1).mono ?_; rintro e w10 ⟨rfl, n', s', wv', sv', lv', hL10, hD10, k10, o10⟩)
    have hA9 := H9.out.2.2
    have hbP := k10.heap hA9.blk hPL
    have b010 := cell_of hbP 0
    simp at b010
    have hv10 := H9.out.2.1.keep hA9.footL k10 (fun b e1 e2 => by have h1 := o6 b e1; have h2 := HR.out.2.2.2.2.1 b (.inr (.inl e2)); omega)
    have hGr : ∀ b, rfoot g p n s wv sv lv b → w.heap.size ≤ b := fun b hb => HR.out.2.2.1 b (by rw [HR.out.2.2.2.1]; exact .inr (.inl hb))
    have hk10 : Keep No w w10 := (HR.out.2.1.then H9.out.1).absorb k10 hGr
    have hGr2 : ∀ b, rfoot g p n' s' wv' sv' lv' b → w.heap.size ≤ b := fun b hb => by
      rcases o10 b hb with h | h
      · exact hGr b h
      · exact Nat.le_trans (HR.out.2.1.then H9.out.1).size h
    have hPr2 : ¬ rfoot g p n' s' wv' sv' lv' P := by
      rintro (hf | hf)
      · rcases hD10.foot_kind hf hbP with e | e <;> simp at e
      · obtain ⟨_, cs, t, hz, ht⟩ := hL10.kind hf
        rw [hbP] at hz; simp at hz; obtain ⟨_, rfl⟩ := hz; rcases ht with ht | ht | ht <;> simp at ht
    have HT := Lib.hid (And.intro hL10 (And.intro hD10 (And.intro hv10 (And.intro hk10 (And.intro hGr2 (And.intro hPr2 hbP))))))
    have hdr := HD.out.2.1 _ _ _ hL10 hk10.size
    clear hL10 hD10 hv10 hk10 hGr2 hPr2 hGr k10 o10 hA9 b07 hbP
    go_upto_region 18 with (go_at_call 38; refine hdr.mono ?_; rintro e w11 ⟨v11, rfl, hv11, o11, k11⟩; obtain ⟨vo11, vc11, rfl, _, _⟩ := hv11.form)
    have b011 := k11.cell b010 (fun e => e)
    have hlef : nx - rs.length ≤ nx - r2.length := by omega
    generalize nx - rs.length = f1 at *
    generalize nx - r2.length = f2 at *
    have hsl6 := fun (w' : World) (k : Keep No w11 w') => recs_slices ((HT.out.2.2.1.keep (Foot.no _ _) k11 (fun _ _ e => e)).keep (Foot.no _ _) k (fun _ _ e => e))
    obtain ⟨o12, c12, hrun, hsub⟩ := slice_slices vo6 rs.length vc6 cn (by omega)
    rw [show rs.length - cn = r2.length by omega] at hrun hsub
    have hsl12 := fun (w' : World) (k : Keep No w11 w') => hsub _ _ _ (hsl6 w' k)
    rw [HR.out.2.2.2.2.2] at hsl12
    have hsub1 : (ss.length : Int) - (dl.length : Int) = (s2.length : Int) := by omega
    have hsub2 : (rs.length : Int) - (r2.length : Int) = (cn : Int) := by omega
    have hgt : ¬ ((rs.length : Int) < (r2.length : Int)) := by omega
    have hlt2 : ¬ ((f2 : Int) < (f1 : Int)) := by omega
    have hrsb : (rs.length : Int) ≤ 1099511627776 := by omega
    have HV := Lib.hid (And.intro hv11 hsl12)
    have HK11 := Lib.hid k11
    have HLE := Lib.hid (And.intro hlef (And.intro hf1 (And.intro i3 i4)))
    clear hv11 hsl12 hsl6 hsub o11 k11 hlef hf1 i3 i4 i5 o6 hrb b010 hdr hj HC
    go_upto_region 20 with (first
      | (go_at_call 40; refine (same7_spec (recs_slices HV.out.1) (HV.out.2 _ (Keep.refl _ _))).mono ?_; rintro e w12 ⟨rfl, k12⟩; have b012 := k12.cell b011 (fun e => e))
      | (go_at_call 44; refine (HD.out.2.2.1 _ _ _ (HT.out.1.no (HK11.out.then k12))).mono ?_; rintro e w13 ⟨rfl, k13⟩)
      | (go_at_call 47; refine (HD.out.2.2.2.1 _ _ _ (HT.out.1.no HK11.out)).mono ?_; rintro e w9 ⟨rfl, e9⟩; have e9 := e9.symm; subst e9)
      | (go_at_call 46; refine (HD.out.1 _ _ _ (HT.out.1.no HK11.out)).mono ?_; rintro e w9 ⟨rfl, e9⟩; have e9 := e9.symm; subst e9))
    have k1113 := k12.then k13
    have b013 := k13.cell b012 (fun e => e)
    have kk13 := HK11.out.then k1113
    have hk13 : Keep No w w13 := HT.out.2.2.2.1.then kk13
    have HW := Lib.hid (And.intro kk13 hk13)
    have hmx : (f2 : Int) ≤ max (kk : Int) (f1 : Int) := by
      rcases HLE.out.2.1 with h | h
      · exact Int.le_trans (by omega) (Int.le_max_left _ _)
      · exact Int.le_trans (by omega) (Int.le_max_right _ _)
    clear k12 k13 k1113 kk13 hk13 b011 b012 HV hrun hsub1 hsub2 hgt hlt2
    have hd3 := fun (w' : World) (k : Keep No w13 w') => HD.out.2.2.1 _ _ _ (HT.out.1.no (HW.out.1.then k))
    have hd5 := fun (w' : World) (k : Keep No w13 w') => HD.out.2.2.2.2 _ _ _ _ _ _ (HT.out.1.no (HW.out.1.then k)) (HT.out.2.1.no (HW.out.1.then k)) (HW.out.2.then k).size
    have HE := Lib.hid (And.intro hd3 hd5)
    clear hd3 hd5
    by_cases hs1 : s2.length ≤ 1
    · have hs1i : (s2.length : Int) ≤ 1 := by omega
      go_wp2_with (first
        | (go_at_call 47; refine (HD.out.2.2.2.1 _ _ _ hLz).mono ?_; rintro e w16 ⟨rfl, e16⟩; have e16 := e16.symm; subst e16)
        | (go_at_call 48; refine (HE.out.2 _ k14).mono ?_; rintro e w15 ⟨rfl, n9, s9, wv9, sv9, lv9, hLz, hDz, k15⟩; have b015 := k15.cell (k14.cell b013 (fun e => e)) HT.out.2.2.2.2.2.1)
        | (go_at_call 44; refine (HE.out.1 _ (Keep.refl _ _)).mono ?_; rintro e w14 ⟨rfl, k14⟩; have b014 := k14.cell b013 (fun e => e)))
      go_ret
      exact ⟨rfl, (HW.out.2.then k14).absorb k15 HT.out.2.2.2.2.1⟩
    · have hs1i : ¬ (s2.length : Int) ≤ 1 := by omega
      by_cases hfk : f2 ≤ kk
      · have hfki : (f2 : Int) ≤ (kk : Int) := by omega
        clear hfk
        go_wp2_with (first
        | (go_at_call 44; refine (HD.out.2.2.1 _ _ _ (hLz.no k17)).mono ?_; rintro e w18 ⟨rfl, k18⟩)
        | (go_at_call 44; refine (HD.out.2.2.1 _ _ _ hLz).mono ?_; rintro e w17 ⟨rfl, k17⟩; have b017 := k17.cell b015 (fun e => e))
        | (go_at_call 47; refine (HD.out.2.2.2.1 _ _ _ hLz).mono ?_; rintro e w16 ⟨rfl, e16⟩; have e16 := e16.symm; subst e16)
        | (go_at_call 48; refine (HE.out.2 _ k14).mono ?_; rintro e w15 ⟨rfl, n9, s9, wv9, sv9, lv9, hLz, hDz, k15⟩; have b015 := k15.cell (k14.cell b013 (fun e => e)) HT.out.2.2.2.2.2.1)
        | (go_at_call 44; refine (HE.out.1 _ (Keep.refl _ _)).mono ?_; rintro e w14 ⟨rfl, k14⟩; have b014 := k14.cell b013 (fun e => e)))
        go_ret
        exact ⟨rfl, ((HW.out.2.then k14).absorb k15 HT.out.2.2.2.2.1).then k17⟩
      · have hfki : ¬ (f2 : Int) ≤ (kk : Int) := by omega
        have hff : f2 = f1 := by rcases HLE.out.2.1 with h | h <;> omega
        clear hfk
        subst hff
        go_wp2_with (first
        | (go_at_call 44; refine (HD.out.2.2.1 _ _ _ (hLz.no k17)).mono ?_; rintro e w18 ⟨rfl, k18⟩)
        | (go_at_call 44; refine (HD.out.2.2.1 _ _ _ hLz).mono ?_; rintro e w17 ⟨rfl, k17⟩; have b017 := k17.cell b015 (fun e => e))
        | (go_at_call 47; refine (HD.out.2.2.2.1 _ _ _ hLz).mono ?_; rintro e w16 ⟨rfl, e16⟩; have e16 := e16.symm; subst e16)
        | (go_at_call 48; refine (HE.out.2 _ k14).mono ?_; rintro e w15 ⟨rfl, n9, s9, wv9, sv9, lv9, hLz, hDz, k15⟩; have b015 := k15.cell (k14.cell b013 (fun e => e)) HT.out.2.2.2.2.2.1)
        | (go_at_call 44; refine (HE.out.1 _ (Keep.refl _ _)).mono ?_; rintro e w14 ⟨rfl, k14⟩; have b014 := k14.cell b013 (fun e => e)))
        go_ret
        exact ⟨rfl, (((HW.out.2.then k14).absorb k15 HT.out.2.2.2.2.1).then k17).then k18⟩
end Go.Proofs.Ytpjggnfiocplmaa
