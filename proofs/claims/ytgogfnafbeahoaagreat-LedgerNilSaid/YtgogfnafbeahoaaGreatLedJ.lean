/- LedgerNil: the walk. -/
import Derived.Test.YtgogfnafbeahoaaGreatLedI
namespace Go.Proofs.YtgogfnafbeahoaaGreat
open Go Go.RowKit Go.Dr Go.Shelf

def nilOk (width : Nat) (size : Int) : Bool := decide (1 ≤ width ∧ width ≤ 1024 ∧ 1 ≤ size)
theorem gOpen_none (w : World) (width : Nat) (size : Int) : Calls Tryz.prog 31 #[.pointer none, .agg #[.int .u64 width, .int .i64 size]] w fun e w' => e = .returned (.tuple #[.pointer none, .int .i64 (if nilOk width size then 4 else 1)]) ∧ Keep No w w' := by
  by_cases h : width < 1 ∨ 1024 < width
  · rw [if_neg (by simp [nilOk]; omega)]
    exact gOpen_wide w _ width size h
  · by_cases hz : size < 1
    · rw [if_neg (by simp [nilOk]; omega)]
      exact gOpen_seg w _ width size (by omega) 1 (by decide) (fun w => zOpen_none1 w size hz)
    · rw [if_pos (by simp [nilOk]; omega)]
      exact gOpen_seg w _ width size (by omega) 4 (by decide) (fun w => zOpen_none4 w size hz)
/-- Open, on a new disk, whatever it is told to be. -/
theorem gOpen_any [bn : Inhabited Ban] {w0 w : World} {p n s : Nat} {wv : Value} (hd : DiskAt w0.heap.size w p n s wv { room := max 1000 0, full := false, now := [], safe := [], wait := [] }) (k0 : Keep No w0 w) (hT : ban.top ≤ w0.heap.size) (width : Nat) (size : Int) :
    Calls Tryz.prog 31 #[.pointer (some ⟨p, 0, none⟩), .agg #[.int .u64 width, .int .i64 size]] w fun e w' => ∃ v c, e = .returned (.tuple #[v, .int .i64 c]) ∧ Keep No w0 w' ∧
      ((nilOk width size = true ∧ c = 0 ∧ ∃ q, v = .pointer (some ⟨q, 0, none⟩)) ∨ (nilOk width size = false ∧ c = 1 ∧ v = .pointer none)) := by
  by_cases h : width < 1 ∨ 1024 < width
  · refine (gOpen_wide w _ width size h).mono ?_
    rintro e w' ⟨rfl, k⟩
    exact ⟨_, _, rfl, k0.then k, .inr ⟨by simp [nilOk]; omega, rfl, rfl⟩⟩
  · by_cases hz : size < 1
    · refine (gOpen_seg w _ width size (by omega) 1 (by decide) (fun w => zOpen_bad w p size hz)).mono ?_
      rintro e w' ⟨rfl, k⟩
      exact ⟨_, _, rfl, k0.then k, .inr ⟨by simp [nilOk]; omega, rfl, rfl⟩⟩
    · refine (open_led (width := width) (size := size) hd rfl rfl (by show (100 : Int) ≤ max 1000 0; decide) (by show max (1000 : Int) 0 ≤ _; decide) (by show (0 : Nat) ≤ 2; decide) (by omega) (by omega) k0.size (Nat.le_trans hT k0.size)).mono ?_
      rintro e w' ⟨q, d', rfl, _, _, _, hk, _⟩
      exact ⟨_, _, rfl, hk w0 (Nat.le_refl _) k0, .inl ⟨by simp [nilOk]; omega, rfl, q, rfl⟩⟩
set_option maxRecDepth 100000 in
set_option maxHeartbeats 8000000 in
theorem gnil_walk [bn : Inhabited Ban] {w : World} (hT : ban.top ≤ w.heap.size) (width : Nat) (size : Int) (a : Int) (n : Nat) (hw : width < 18446744073709551616) :
    Calls Tryz.prog 6 #[.int .u64 width, .int .i64 size, .int .i64 a, .int .u64 n] w fun e w' => e = .returned (.bool true) ∧ Keep No w w' := by
  have haw := awake16_spec (w := w) hT
  have HT := Lib.hid hT
  clear hT
  have kc := fun (w : World) (C : Array Value) (n c : Nat) => Lib.run_convert_bytes_const (P := Tryz.prog) w 49 5 C n c Tryz.underlying49 Tryz.underlying5
  go_enter Tryz.func6, Tryz.ntmps6
  go_upto_region 4 with (go_at_call 8; refine haw.mono ?_; rintro e w1 ⟨rfl, k1⟩)
  clear haw
  have hB := heap_new w1 (.cells #[.int .u64 width, .int .i64 size] 40)
  have kB : Keep No w1 (w1.alloc (.cells #[.int .u64 width, .int .i64 size] 40)) := (Keep.refl _ _).alloc _
  obtain ⟨W1, hW1⟩ : ∃ W1, W1 = w1.alloc (.cells #[.int .u64 width, .int .i64 size] 40) := ⟨_, rfl⟩
  rw [← hW1] at hB kB
  rw [← hW1]
  clear hW1
  obtain ⟨ok, hok⟩ : ∃ ok, ok = nilOk width size := ⟨_, rfl⟩
  have hnn := fun (w' : World) => gOpen_none w' width size
  rw [← hok] at hnn
  go_cut [10] (fun v10 wx => v10 = .bool ok ∧ wx = W1)
  case first =>
    by_cases h0 : 0 < width
    · have i0 : (0 : Int) < (width : Int) := by omega
      by_cases h1 : width ≤ 1024
      · have i1 : (width : Int) ≤ 1024 := by omega
        by_cases h2 : 0 < size
        · obtain rfl : ok = true := by rw [hok]; simp [nilOk]; omega
          clear hok hnn h0 h1
          go_wp2_with fail
          go_meet
          exact ⟨rfl, rfl⟩
        · obtain rfl : ok = false := by rw [hok]; simp [nilOk]; omega
          clear hok hnn h0 h1
          go_wp2_with fail
          go_meet
          exact ⟨rfl, rfl⟩
      · have i1 : ¬ (width : Int) ≤ 1024 := by omega
        obtain rfl : ok = false := by rw [hok]; simp [nilOk]; omega
        clear hok hnn h0 h1
        go_wp2_with fail
        go_meet
        exact ⟨rfl, rfl⟩
    · have i0 : ¬ (0 : Int) < (width : Int) := by omega
      obtain rfl : ok = false := by rw [hok]; simp [nilOk]; omega
      clear hok hnn h0
      go_wp2_with fail
      go_meet
      exact ⟨rfl, rfl⟩
  case rest =>
    obtain ⟨rfl, rfl⟩ := hcut
    rename World => W1
    have cB0 := cell_of hB 0
    have cB1 := cell_of hB 1
    simp at cB0 cB1
    have hopn := hnn W1
    obtain ⟨c5, hc5⟩ : ∃ c : Int, c = if ok then 4 else 1 := ⟨_, rfl⟩
    rw [← hc5] at hopn
    have HO := Lib.hid (And.intro hok (And.intro hc5 hB))
    clear hnn hok hc5 hB
    go_upto_region 6 with (go_at_call 31; refine hopn.mono ?_; rintro e w2 ⟨rfl, k2⟩)
    clear hopn
    have cB0 := k2.cell cB0 (fun e => e)
    have cB1 := k2.cell cB1 (fun e => e)
    have k02 := k1.then (kB.then k2)
    have HK := Lib.hid k02
    clear k02 k1 k2 kB
    go_cut [13, 14] (fun v13 v14 wx => ∃ c, v14 = .int .i64 c ∧ Keep No w wx ∧ ((ok = true ∧ c = 0 ∧ ∃ q, v13 = .pointer (some ⟨q, 0, none⟩)) ∨ (ok = false ∧ c = 1 ∧ v13 = .pointer none)))
    case first =>
      have kd : Keep No w2 w2.drew := (Keep.refl _ _).drew
      refine wp_drawN2 (fun w' => Keep No w2 w') [1] [0, 2, 3] [4, 5] [6, 7] (by kernel_rfl) (by kernel_rfl) (fun _ _ _ _ _ h => h) kd ?_
      iterate 1 (refine earlyN_cons (v := ?_) rfl rfl rfl ?_ ?_; rotate_left; focus (
        intro w' hS
        have f0 := hS.cell cB0 (fun e => e)
        have f1 := hS.cell cB1 (fun e => e)
        go_simp
        try with_reducible rfl))
      refine earlyN_nil (midN_cons rfl rfl (fun K hK => ?_))
      go_simp
      have hk0 := HK.out.drew
      refine (new_spec (w := w2.drew) w2.heap.size 1000 kd.size).mono ?_
      rintro e w3 ⟨p, dn, ds, wv, rfl, hD, k3, _⟩
      refine hK _ _ (kd.then k3) ?_
      clear hK K
      refine midN_cons rfl rfl (fun K hK => ?_)
      go_simp
      refine (gOpen_any (w0 := w2) hD (kd.then k3) (Nat.le_trans HT.out HK.out.size) width size).mono ?_
      rintro e w4 ⟨v4, c4, rfl, k4, hcase⟩
      refine hK _ _ k4 ?_
      clear hK K
      refine midN_cons rfl rfl (fun K hK => ?_)
      go_simp
      refine hK _ _ k4 ?_
      clear hK K
      refine midN_nil ?_
      iterate 2 (refine earlyN_cons (v := ?_) rfl rfl rfl ?_ ?_; rotate_left; focus (
        intro w' hS
        go_simp
        try with_reducible rfl))
      refine earlyN_nil (midN_cons rfl rfl (fun K hK => ?_))
      go_simp
      refine hK _ _ k4 ?_
      clear hK K
      refine midN_cons rfl rfl (fun K hK => ?_)
      go_simp
      refine hK _ _ k4 ?_
      clear hK K
      refine midN_nil ?_
      go_wp2_with fail
      go_meet
      rw [← HO.out.1] at hcase
      exact ⟨c4, rfl, HK.out.then k4, hcase⟩
    case rest =>
      obtain ⟨c6, rfl, k6, hcase⟩ := hcut
      have HC := Lib.hid (And.intro hcase k6)
      clear hcase k6 HK
      go_upto_region 8 with fail
      go_upto_if 55 with fail
      go_cut [15] (fun v15 wx => v15 = .int .i64 c5 ∧ wx = wc)
      case first =>
        have h5 := HO.out.2.1
        cases ok
        · rw [if_neg (by simp)] at h5
          subst h5
          go_wp2_with fail
          go_meet
          exact ⟨rfl, rfl⟩
        · rw [if_pos rfl] at h5
          subst h5
          go_wp2_with fail
          go_meet
          exact ⟨rfl, rfl⟩
      case rest =>
        obtain ⟨rfl, e⟩ := hcut
        have e := e.symm
        subst e
        go_upto_region 12 with (go_at_call 13; refine (gPut_nil _ _ _ _).mono ?_; rintro e w8 ⟨rfl, e8⟩; have e8 := e8.symm; subst e8)
        go_upto_region 13 with (go_at_call 22; refine (gGet_nil _ a n).mono ?_; rintro e w9 ⟨rfl, k9⟩)
        obtain ⟨W9, hW9⟩ : ∃ W9, W9 = w9.alloc (.cells #[.int .i64 0, .slice none 0 0] 51) := ⟨_, rfl⟩
        have k09 : Keep No w W9 := by rw [hW9]; exact (HC.out.2.then k9).alloc _
        rw [← hW9]
        clear hW9
        have HN := Lib.hid k09
        clear k09 k9
        go_cut [144] (fun v wx => v = .bool false ∧ Keep No w wx)
        case first =>
          rcases HC.out.1 with ⟨h1, h2, b13, h3⟩ | ⟨h1, h2, h3⟩
          all_goals (
            subst h1 h2 h3
            clear HC
            go_wp2_with (first
              | (go_at_call 27; refine (gLog_nil _).mono ?_; rintro e y9 ⟨rfl, e9⟩; have e9 := e9.symm; subst e9)
              | (go_at_call 17; refine (gAll_nil _).mono ?_; rintro e y8 ⟨rfl, e8⟩; have e8 := e8.symm; subst e8)
              | (go_at_call 25; refine (gStored_nil _).mono ?_; rintro e y7 ⟨rfl, e7⟩; have e7 := e7.symm; subst e7)
              | (go_at_call 15; refine (sameNil hw5).mono ?_; rintro e y6 ⟨rfl, k6⟩)
              | (go_at_call 35; refine (gSafe_none (fun _ => gAgent_nil _)).mono ?_; rintro e y5 ⟨u5, rfl, hw5, k5⟩)
              | (go_at_call 15; refine (sameNil hw3).mono ?_; rintro e y4 ⟨rfl, k4⟩)
              | (go_at_call 11; refine (gWindow_none (fun _ => gAgent_nil _)).mono ?_; rintro e y3 ⟨u3, rfl, hw3, k3⟩)
              | (go_at_call 12; refine (gFloor_none (gAgent_nil _)).mono ?_; rintro e y2 ⟨rfl, e2⟩; have e2 := e2.symm; subst e2)
              | (go_at_call 26; refine (gInc_nil _).mono ?_; rintro e y1 ⟨rfl, e1⟩; have e1 := e1.symm; subst e1)
              | (go_at_call 33; refine (gSync_nil _).mono ?_; rintro e y0 ⟨rfl, e0⟩; have e0 := e0.symm; subst e0)
              | (go_at_call 32; refine (gRaise_nil _ a n).mono ?_; rintro e x9 ⟨rfl, ex⟩; have ex := ex.symm; subst ex)))
          all_goals go_meet
          all_goals exact ⟨rfl, HN.out.then (k3.then (k4.then (k5.then k6)))⟩
        case rest =>
          obtain ⟨rfl, k10⟩ := hcut
          rename World => W10
          have hnew := new_spec (w := W10) w.heap.size 1000 k10.size
          clear HC HN
          go_upto_region 15 with fail
          go_upto_region 16 with (first
            | (go_at_call 31; refine hop.mono ?_; rintro e w12 ⟨q, d', rfl, hL, hroom, hnow, hkeep, _, _⟩)
            | (go_at_call 34; refine hnew.mono ?_; rintro e w11 ⟨p, dn, ds, wv, rfl, hD, k11, _⟩; have hop := open_led (width := 5) (size := 5) hD rfl rfl (by show (100 : Int) ≤ max 1000 0; decide) (by show max (1000 : Int) 0 ≤ _; decide) (by show (0 : Nat) ≤ 2; decide) (by decide) (by decide) (Nat.le_trans k10.size k11.size) (Nat.le_trans HT.out (Nat.le_trans k10.size k11.size))))
          have hk12 := hkeep w (Nat.le_refl _) (k10.then k11)
          have hroom : d'.room = 1000 := hroom.trans (by show max (1000 : Int) 0 = 1000; decide)
          have hT12 := Nat.le_trans HT.out hk12.size
          obtain ⟨V, hV⟩ : ∃ V, V = (w12.alloc (.cells #[.int .u8 120] 5 (1, 2))).alloc (.cells #[.int .u64 1, .int .i64 0, .slice (some ⟨w12.heap.size, 0, none⟩) 1 1] 53) := ⟨_, rfl⟩
          have kV2 : Keep No (w12.alloc (.cells #[.int .u8 120] 5 (1, 2))) V := by rw [hV]; exact (Keep.refl _ _).alloc _
          have kV : Keep No w12 V := ((Keep.refl _ _).alloc _).then kV2
          have hVb : V.heap[w12.heap.size + 1]? = some (.cells #[.int .u64 1, .int .i64 0, .slice (some ⟨w12.heap.size, 0, none⟩) 1 1] 53 (0, 0)) := by
            rw [hV]
            have := heap_new (w12.alloc (.cells #[.int .u8 120] 5 (1, 2))) (.cells #[.int .u64 1, .int .i64 0, .slice (some ⟨w12.heap.size, 0, none⟩) 1 1] 53)
            rw [World.size_alloc] at this
            exact this
          have hits := nlIts_at (base := w.heap.size) ((nlB_at w12 hT12).no kV2) hVb (by have := hk12.size; omega)
          have hrm : (msum d'.now : Int) + (80 : Nat) + 20 ≤ d'.room := by omega
          have hput := put_led (L := nlL) (a := 3) (b := 1) (M := 1) (N := 80) (hL.no kV) (by decide) hits nlRight (by decide) (by decide) (by decide) (by decide) (by decide) (by decide) (Nat.le_trans hk12.size kV.size) (Nat.le_trans hT12 kV.size) hrm
          rw [nlPut] at hput
          have hkV := hk12.then kV
          subst hV
          clear hits hVb kV kV2 hk12 hL hroom hnow hkeep hD k11 hop hrm hnew
          have HV := Lib.hid hkV
          clear hkV
          go_upto_region 17 with (go_at_call 13; refine hput.mono ?_; rintro e w16 ⟨tv, rfl, _, _, ⟨d2, hL2, _, _⟩, ha⟩)
          clear hput
          have hk16 := ha.keep w (Nat.le_refl _) HV.out
          obtain ⟨g, m, lv, hat⟩ := nlAt hL2
          have hall := nlAll hat
          have HA := Lib.hid (And.intro hat hk16)
          clear hat hk16 ha hL2 HV
          go_upto_region 18 with (go_at_call 17; refine hall.mono ?_; rintro e w17 ⟨v17, rfl, hro, k17⟩; obtain ⟨g7, cap7, o7, c7, rfl, cg, co, fo, hlo⟩ := recsOwn_one hro)
          clear hro hall
          go_upto_region 19 with fail
          have k18 : Keep No w16 (w17.setCell ⟨o7, 0, none⟩ (.int .u8 121)) := k17.setCell (.inr hlo) _
          generalize w17.setCell ⟨o7, 0, none⟩ (.int .u8 121) = w18 at *
          have hget := nlGet (HA.out.1.no k18)
          clear cg co fo hlo k17
          go_upto_region 20 with (go_at_call 22; refine hget.mono ?_; rintro e w19 ⟨v19, rfl, ho19, k19⟩; obtain ⟨c19, cap19, rfl, cc19, fc19, hl19, cur19, hz19⟩ := ownB_one ho19)
          clear hget ho19
          have kA := (Keep.refl No w19).alloc (.cells #[.int .i64 0, .slice (some ⟨c19, 0, none⟩) 1 cap19] 51)
          have hzA := heap_new w19 (.cells #[.int .i64 0, .slice (some ⟨c19, 0, none⟩) 1 cap19] 51)
          have cA := kA.cell cc19 (fun e => e)
          obtain ⟨WA, hWA⟩ : ∃ WA, WA = w19.alloc (.cells #[.int .i64 0, .slice (some ⟨c19, 0, none⟩) 1 cap19] 51) := ⟨_, rfl⟩
          have fA := frozen_of (kA.heap hz19 (fun e => e)) 0
          rw [← hWA] at kA hzA cA fA
          rw [← hWA]
          clear hWA
          have cz := cell_of hzA 1
          simp at cz
          have k20 : Keep No w18 (WA.setCell ⟨c19, 0, none⟩ (.int .u8 121)) := (k19.then kA).setCell (.inr hl19) _
          go_upto_region 21 with fail
          have hkB := k18.then k20
          have hatB := HA.out.1.no hkB
          have hget2 := nlGet hatB
          have HB := Lib.hid (And.intro hkB hatB)
          clear cc19 fc19 hl19 hz19 kA hzA cA cz fA k20 k19 k18 hkB hatB
          generalize WA.setCell ⟨c19, 0, none⟩ (.int .u8 121) = w20 at *
          go_upto_region 22 with (go_at_call 22; refine hget2.mono ?_; rintro e w21 ⟨v21, rfl, ho21, k21⟩; obtain ⟨c21, cap21, rfl, cc21, fc21, hl21, _, _⟩ := ownB_one ho21)
          clear hget2 ho21
          have kC := (Keep.refl No w21).alloc (.cells #[.int .i64 0, .slice (some ⟨c21, 0, none⟩) 1 cap21] 51)
          have hzC := heap_new w21 (.cells #[.int .i64 0, .slice (some ⟨c21, 0, none⟩) 1 cap21] 51)
          have cC := kC.cell cc21 (fun e => e)
          obtain ⟨WC, hWC⟩ : ∃ WC, WC = w21.alloc (.cells #[.int .i64 0, .slice (some ⟨c21, 0, none⟩) 1 cap21] 51) := ⟨_, rfl⟩
          rw [← hWC] at kC hzC cC
          rw [← hWC]
          clear hWC
          have cz := cell_of hzC 1
          simp at cz
          have htx := nlText (cap := cap21) cC
          have hst := nlStored (HB.out.2.no (k21.then kC))
          have HD := Lib.hid ((HA.out.2.then HB.out.1).then (k21.then kC))
          clear cC kC hzC cc21 fc21 hl21 k21
          go_wp2_with (first
            | (go_at_call 25; refine hst.mono ?_; rintro e y7 ⟨sa, sc, rfl, k7⟩)
            | (go_at_call 32; refine (gRaise_out _ q 16 1 (.inr (by decide))).mono ?_; rintro e x9 ⟨rfl, ex⟩; have ex := ex.symm; subst ex)
            | (go_at_call 12; refine (gFloor_none (gAgent_out q _ (by decide))).mono ?_; rintro e y3 ⟨rfl, e3⟩; have e3 := e3.symm; subst e3))
          go_ret
          exact ⟨rfl, HD.out.then k7⟩
end Go.Proofs.YtgogfnafbeahoaaGreat
