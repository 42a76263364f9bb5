/- Sorting numbers: partition. -/
import Derived.Test.YtpjggnfiocplmaaSortF
namespace Go.Proofs.Ytpjggnfiocplmaa
open Go Go.RowKit Go.Sort

theorem scan_facts {d : Array Int} {a i j i2 j2 : Nat} (hi2 : i2 = scanUp (fun x => ltInt x d[a]!) d j i) (hj2 : j2 = scanDown (fun x => !ltInt x d[a]!) d i2 j) (hij : i ≤ j + 1) (hi : 0 < i) :
    i ≤ i2 ∧ i2 ≤ j + 1 ∧ j2 ≤ j ∧ i2 ≤ j2 + 1 ∧ (¬ j2 < i2 → i2 < j2) := by
  have hs1 := scanUp_spec (fun x => ltInt x d[a]!) d j _ i rfl
  have hs2 := scanDown_spec (fun x => !ltInt x d[a]!) d i2 j
  rw [← hi2] at hs1
  rw [← hj2] at hs2
  have b2 := hs1.2.1 hij
  refine ⟨hs1.1, b2, hs2.1, hs2.2.1 b2, fun hn => ?_⟩
  have h1 := hs1.1
  have f1 := hs1.2.2.2 (by have := hs2.1; omega)
  have f2 := hs2.2.2.2 (by omega) (by omega)
  rcases Nat.lt_or_ge i2 j2 with h | h
  · exact h
  · have e : i2 = j2 := by omega
    simp only [e] at f1
    simp only [f1] at f2
    cases f2
/-- A swap, in a region that leaves its order open: what lies there then. -/
theorem Row64.swapD {w : World} {g off : Nat} {d : Array Int} (h : Row64 w g off d) {i j : Nat} (hi : i < d.size) (hj : j < d.size) :
    Row64 (((w.drewN 1).setCell ⟨g, off + i, none⟩ (.int .u64 d[j]!)).setCell ⟨g, off + j, none⟩ (.int .u64 d[i]!)) g off (swp d i j) ∧
    Keep (· = g) w (((w.drewN 1).setCell ⟨g, off + i, none⟩ (.int .u64 d[j]!)).setCell ⟨g, off + j, none⟩ (.int .u64 d[i]!)) := by
  have := (h.keep ((Keep.refl No w).drewN 1) (fun e => e)).swap hi hj
  exact ⟨this.1, ((Keep.refl _ _).drewN 1).trans this.2 (fun _ _ e => e)⟩

set_option maxRecDepth 100000 in
set_option maxHeartbeats 8000000 in
theorem part_spec {w : World} {g off cap a b pivot : Nat} {d : Array Int} (h : Row64 w g off d) (hp1 : a ≤ pivot) (hp2 : pivot < b) (hb : b ≤ d.size) (hsz : d.size ≤ 1099511627776) :
    Calls Try.prog 114 #[.slice (some ⟨g, off, none⟩) d.size cap, .int .i64 a, .int .i64 b, .int .i64 pivot] w fun e w' =>
      e = .returned (.tuple #[.int .i64 (partition ltInt d a b pivot).1, .bool (partition ltInt d a b pivot).2.1]) ∧ Row64 w' g off (partition ltInt d a b pivot).2.2 ∧ Keep (· = g) w w' := by
  obtain ⟨P, hP⟩ : ∃ P, P = partition ltInt d a b pivot := ⟨_, rfl⟩
  rw [← hP]
  unfold partition at hP
  simp only [] at hP
  have hd1 : (swp d a pivot).size = d.size := by rw [size_swp]
  obtain ⟨dj, hdd⟩ : ∃ d1, d1 = swp d a pivot := ⟨_, rfl⟩
  rw [← hdd] at hd1 hP
  have hpi : (pivot : Int) ≤ 1099511627776 := by omega
  have hbi : (b : Int) ≤ 1099511627776 := by omega
  have hai : (a : Int) ≤ 1099511627776 := by omega
  obtain ⟨jb, hjb⟩ : ∃ jb, jb = b - 1 := ⟨_, rfl⟩
  rw [← hjb] at hP
  have hjbi : (b : Int) - 1 = (jb : Int) := by omega
  obtain ⟨i2, hi2⟩ : ∃ i2, i2 = scanUp (fun x => ltInt x dj[a]!) dj jb (a + 1) := ⟨_, rfl⟩
  rw [← hi2] at hP
  obtain ⟨j2, hj2⟩ : ∃ j2, j2 = scanDown (fun x => !ltInt x dj[a]!) dj i2 jb := ⟨_, rfl⟩
  rw [← hj2] at hP
  have hij : a + 1 ≤ jb + 1 := by omega
  obtain ⟨b1, b2, b3, b4, b5⟩ := scan_facts hi2 hj2 hij (by omega)
  have hjs : jb < d.size := by omega
  have HD := Lib.hid (And.intro hdd (And.intro hP (And.intro hi2 (And.intro hj2 (And.intro hjb b5)))))
  clear hdd hP hi2 hj2 hjb b5
  go_enter Try.func114, Try.ntmps114
  go_upto_region 1 with fail
  go_cut [] (fun wx => Row64 wx g off dj ∧ Keep (· = g) w wx)
  case first =>
    obtain ⟨G, hG⟩ : ∃ G : Nat → Int, ∀ t, G t = d[t]! := ⟨fun t => d[t]!, fun _ => rfl⟩
    have hcw : ∀ t, t < d.size → w.cell? ⟨g, off + t, none⟩ = some (.int .u64 (G t)) := fun t ht => by rw [hG]; exact h.cell ht
    have hfw : ∀ t, t < d.size → w.frozen? ⟨g, off + t, none⟩ = false := fun t _ => h.frozen t
    have hsw := h.swapD (i := a) (j := pivot) (by omega) (by omega)
    rw [← hG, ← hG, ← HD.out.1] at hsw
    have HS := Lib.hid hsw
    clear hsw h hG
    by_cases hap : a = pivot
    · subst hap
      go_region
      all_goals go_wp2
      go_meet
      exact HS.out
    · have hap' : a < pivot := by omega
      go_region
      all_goals go_wp2
      go_meet
      exact HS.out
  case rest =>
    obtain ⟨hR0, hK0⟩ := hcut
    generalize wc = wr at *
    obtain ⟨G, hG⟩ : ∃ G : Nat → Int, ∀ t, G t = dj[t]! := ⟨fun t => dj[t]!, fun _ => rfl⟩
    have HI := Lib.hid (And.intro hG (And.intro hR0 (And.intro HD.out.2.2.1.symm.symm HD.out.2.2.2.1)))
    have HK := Lib.hid hK0
    clear hG hR0 hK0 h
    go_upto_block 0 with fail
    go_cut [10] (fun v wx => v = .int .i64 i2 ∧ Keep No wr wx)
    case first =>
      go_wp2
      go_loopw [10] (fun vi wr2 => ∃ (k : Nat), vi = .int .i64 k ∧ (a + 1) ≤ k ∧ k ≤ jb + 1 ∧ Keep No wr wr2 ∧ scanUp (fun x => ltInt x dj[a]!) dj jb k = i2) (fun vi _ => (((jb : Nat) : Int) + 1 - intOf vi).toNat)
      case atStart => exact ⟨(a + 1), rfl, Nat.le_refl _, hij, Keep.refl _ _, HI.out.2.2.1.symm⟩
      case round =>
        obtain ⟨k, rfl, hik, hkj, kr, hS⟩ := hrel
        have hcw : ∀ t, t < d.size → wr.cell? ⟨g, off + t, none⟩ = some (.int .u64 (G t)) := fun t ht => by rw [HI.out.1]; exact (HI.out.2.1.keep kr (fun e => e)).cell (by omega)
        have HS := Lib.hid (And.intro hS kr)
        clear hS kr
        by_cases hkj' : k ≤ jb
        · have hki : (k : Int) ≤ (jb : Nat) := by omega
          have hka : a < d.size := by omega
          have hkd : k < d.size := by omega
          go_wp2
          go_quiet (first | (go_at_call 112; refine Calls.quiet_of_same (less_spec _ _ _)))
          go_wp2
          · have hl0 : ltInt (G k) (G a) = true := by assumption
            go_roundw
            case rel => exact ⟨k + 1, by go_num, by omega, by omega, HS.out.2.drewN _, by rw [← scanUp_step hkj' (by rw [← HI.out.1, ← HI.out.1]; exact hl0)]; exact HS.out.1⟩
            case measure => simp [intOf]; omega
          · have hl0 : ltInt (G k) (G a) = false := by assumption
            go_meet
            exact ⟨by rw [← HS.out.1, scanUp_end (Or.inr (by rw [← HI.out.1, ← HI.out.1]; exact hl0))], HS.out.2.drewN _⟩
        · have hki : ¬ (k : Int) ≤ (jb : Nat) := by omega
          go_wp2
          go_quiet (first | (go_at_call 112; refine Calls.quiet_of_same (less_spec _ _ _)))
          go_wp2
          go_meet
          exact ⟨by rw [← HS.out.1, scanUp_end (Or.inl hkj')], HS.out.2.drewN _⟩
    case rest =>
      obtain ⟨rfl, kr⟩ := hcut
      generalize wc = w2 at *
      go_upto_block 2 with fail
      go_cut [11] (fun v wx => v = .int .i64 j2 ∧ Keep No wr wx)
      case first =>
        go_wp2
        go_loopw [11] (fun vi wr2 => ∃ (k : Nat), vi = .int .i64 k ∧ k ≤ jb ∧ i2 ≤ k + 1 ∧ Keep No wr wr2 ∧ scanDown (fun x => !ltInt x dj[a]!) dj i2 k = j2) (fun vi _ => (intOf vi).toNat)
        case atStart => exact ⟨jb, rfl, Nat.le_refl _, b2, kr, HI.out.2.2.2.symm⟩
        case round =>
          clear kr
          obtain ⟨k, rfl, hkj, hik, kr, hS⟩ := hrel
          have hcw : ∀ t, t < d.size → wr.cell? ⟨g, off + t, none⟩ = some (.int .u64 (G t)) := fun t ht => by rw [HI.out.1]; exact (HI.out.2.1.keep kr (fun e => e)).cell (by omega)
          have HS := Lib.hid (And.intro hS kr)
          clear hS kr
          by_cases hkj' : i2 ≤ k
          · have hki : (i2 : Int) ≤ (k : Int) := by omega
            have hka : a < d.size := by omega
            have hkd : k < d.size := by omega
            have hk0 : 0 < k := by omega
            go_wp2
            go_quiet (first | (go_at_call 112; refine Calls.quiet_of_same (less_spec _ _ _)))
            go_wp2
            · have hl0 : (!ltInt (G k) (G a)) = true := by assumption
              go_roundw
              case rel => exact ⟨k - 1, by congr 1; omega, by omega, by omega, HS.out.2.drewN _, by rw [← scanDown_step hkj' hk0 (by rw [← HI.out.1, ← HI.out.1]; exact hl0)]; exact HS.out.1⟩
              case measure => simp [intOf]; omega
            · have hl0 : (!ltInt (G k) (G a)) = false := by assumption
              go_meet
              exact ⟨by rw [← HS.out.1, scanDown_end (Or.inr (by rw [← HI.out.1, ← HI.out.1]; exact hl0))], HS.out.2.drewN _⟩
          · have hki : ¬ (i2 : Int) ≤ (k : Int) := by omega
            go_wp2
            go_quiet (first | (go_at_call 112; refine Calls.quiet_of_same (less_spec _ _ _)))
            go_wp2
            go_meet
            exact ⟨by rw [← HS.out.1, scanDown_end (Or.inl hkj')], HS.out.2.drewN _⟩
      case rest =>
        clear kr
        obtain ⟨rfl, kr⟩ := hcut
        generalize wc = w3 at *
        have hR3 := HI.out.2.1.keep kr (fun e => e)
        have hK3 := HK.out.trans kr (fun _ _ e => e.elim)
        have hcw : ∀ t, t < d.size → w3.cell? ⟨g, off + t, none⟩ = some (.int .u64 (G t)) := fun t ht => by rw [HI.out.1]; exact hR3.cell (by omega)
        have hfw : ∀ t, t < d.size → w3.frozen? ⟨g, off + t, none⟩ = false := fun t _ => hR3.frozen t
        by_cases hgt : j2 < i2
        · have hgti : (j2 : Int) < (i2 : Int) := by omega
          have hsw := hR3.swapD (i := j2) (j := a) (by omega) (by omega)
          rw [← HI.out.1, ← HI.out.1] at hsw
          have hPP : P = (j2, true, swp dj j2 a) := by rw [HD.out.2.1, if_pos hgt]
          have HL := Lib.hid (And.intro hPP (And.intro hsw hK3))
          clear hsw hR3 hK3 kr hPP
          by_cases hja : j2 = a
          · subst hja
            go_wp2
            go_region
            all_goals go_wp2
            go_ret2
            rw [HL.out.1]
            exact ⟨rfl, HL.out.2.1.1, HL.out.2.2.trans HL.out.2.1.2 (fun _ _ e => e)⟩
          · have hja' : a < j2 := by omega
            go_wp2
            go_region
            all_goals go_wp2
            go_ret2
            rw [HL.out.1]
            exact ⟨rfl, HL.out.2.1.1, HL.out.2.2.trans HL.out.2.1.2 (fun _ _ e => e)⟩
        · have hgti : ¬ (j2 : Int) < (i2 : Int) := by omega
          have hlt2 := HD.out.2.2.2.2.2 hgt
          have hsw := hR3.swapD (i := i2) (j := j2) (by omega) (by omega)
          rw [← HI.out.1, ← HI.out.1] at hsw
          obtain ⟨R, hRR⟩ : ∃ R, R = partLoop ltInt a (i2 + 1) (j2 - 1) (swp dj i2 j2) := ⟨_, rfl⟩
          have hPP : P = (R.1, false, swp R.2 R.1 a) := by rw [HD.out.2.1, if_neg hgt, ← hRR]
          have hsz2 : (swp dj i2 j2).size = d.size := by rw [size_swp]; exact hd1
          have HL := Lib.hid (And.intro hPP (And.intro hsw (And.intro hK3 (And.intro hRR hsz2))))
          clear hsw hR3 hK3 kr hPP hRR hsz2
          go_upto_block 4 with (first | go_region | fail)
          go_cut [10, 11] (fun _ vj wx => ∃ j : Nat, vj = .int .i64 j ∧ a ≤ j ∧ j < b ∧ R.1 = j ∧ R.2.size = d.size ∧ Row64 wx g off R.2 ∧ Keep (· = g) w wx)
          case first =>
            have hstart : ∃ (i j : Nat) (dj' : Array Int), Value.int .i64 ((i2 : Int) + 1) = .int .i64 i ∧ Value.int .i64 ((j2 : Int) - 1) = .int .i64 j ∧ a < i ∧ i ≤ j + 1 ∧ j < b ∧ dj'.size = d.size ∧ partLoop ltInt a i j dj' = R ∧ dj' = swp dj i2 j2 :=
              ⟨i2 + 1, j2 - 1, swp dj i2 j2, by go_num, by congr 1; omega, by omega, by omega, by omega, HL.out.2.2.2.2, HL.out.2.2.2.1.symm, rfl⟩
            obtain ⟨i0, j0, d0, hst1, hst2, hst3, hst4, hst5, hst6, hst7, hst8⟩ := hstart
            have hro := HL.out.2.1.1
            have hko := HL.out.2.2.1.trans HL.out.2.1.2 (fun _ _ e => e)
            rw [← hst8] at hro
            have HST := Lib.hid (And.intro hst1 (And.intro hst2 (And.intro hst7 (And.intro hro hko))))
            clear hst1 hst2 hst7 hst8 hro hko hlt2 hgti hgt
            go_wp2
            go_loopw [10, 11] (fun vi vj wx => ∃ (i j : Nat) (dj : Array Int), vi = .int .i64 i ∧ vj = .int .i64 j ∧ a < i ∧ i ≤ j + 1 ∧ j < b ∧ dj.size = d.size ∧ Row64 wx g off dj ∧ Keep (· = g) w wx ∧ partLoop ltInt a i j dj = R) (fun vi vj _ => (intOf vj + 1 - intOf vi).toNat)
            case atStart => exact ⟨i0, j0, d0, HST.out.1, HST.out.2.1, hst3, hst4, hst5, hst6, HST.out.2.2.2.1, HST.out.2.2.2.2, HST.out.2.2.1⟩
            case round =>
              clear hcw hfw hst3 hst4 hst5 hst6 b1 b2 b3 b4 hij hjs
              obtain ⟨i, j, dj, rfl, rfl, hai', hij, hjb', hsj, hR, hK, hI⟩ := hrel
              obtain ⟨G, hG⟩ : ∃ G : Nat → Int, ∀ t, G t = dj[t]! := ⟨fun t => dj[t]!, fun _ => rfl⟩
              obtain ⟨i2, hi2⟩ : ∃ i2, i2 = scanUp (fun x => ltInt x dj[a]!) dj j i := ⟨_, rfl⟩
              obtain ⟨j2, hj2⟩ : ∃ j2, j2 = scanDown (fun x => !ltInt x dj[a]!) dj i2 j := ⟨_, rfl⟩
              obtain ⟨b1, b2, b3, b4, b5⟩ := scan_facts hi2 hj2 hij (by omega)
              have hLe := partLoop_eq ltInt a i j dj
              rw [← hi2, ← hj2, hI] at hLe
              have HI := Lib.hid (And.intro hG (And.intro hR (And.intro hi2 hj2)))
              have HK := Lib.hid (And.intro hK (And.intro hLe b5))
              clear hG hR hK hLe hi2 hj2 hI b5
              go_upto_block 6 with fail
              go_cut [10] (fun v wx => v = .int .i64 i2 ∧ Keep No wr wx)
              case first =>
                go_wp2
                go_loopw [10] (fun vi wr2 => ∃ (k : Nat), vi = .int .i64 k ∧ i ≤ k ∧ k ≤ j + 1 ∧ Keep No wr wr2 ∧ scanUp (fun x => ltInt x dj[a]!) dj j k = i2) (fun vi _ => (((j : Nat) : Int) + 1 - intOf vi).toNat)
                case atStart => exact ⟨i, rfl, Nat.le_refl _, hij, Keep.refl _ _, HI.out.2.2.1.symm⟩
                case round =>
                  obtain ⟨k, rfl, hik, hkj, kr, hS⟩ := hrel
                  have hcw : ∀ t, t < d.size → wr.cell? ⟨g, off + t, none⟩ = some (.int .u64 (G t)) := fun t ht => by rw [HI.out.1]; exact (HI.out.2.1.keep kr (fun e => e)).cell (by omega)
                  have HS := Lib.hid (And.intro hS kr)
                  clear hS kr
                  by_cases hkj' : k ≤ j
                  · have hki : (k : Int) ≤ (j : Nat) := by omega
                    have hka : a < d.size := by omega
                    have hkd : k < d.size := by omega
                    go_wp2
                    go_quiet (first | (go_at_call 112; refine Calls.quiet_of_same (less_spec _ _ _)))
                    go_wp2
                    · have hl0 : ltInt (G k) (G a) = true := by assumption
                      go_roundw
                      case rel => exact ⟨k + 1, by go_num, by omega, by omega, HS.out.2.drewN _, by rw [← scanUp_step hkj' (by rw [← HI.out.1, ← HI.out.1]; exact hl0)]; exact HS.out.1⟩
                      case measure => simp [intOf]; omega
                    · have hl0 : ltInt (G k) (G a) = false := by assumption
                      go_meet
                      exact ⟨by rw [← HS.out.1, scanUp_end (Or.inr (by rw [← HI.out.1, ← HI.out.1]; exact hl0))], HS.out.2.drewN _⟩
                  · have hki : ¬ (k : Int) ≤ (j : Nat) := by omega
                    go_wp2
                    go_quiet (first | (go_at_call 112; refine Calls.quiet_of_same (less_spec _ _ _)))
                    go_wp2
                    go_meet
                    exact ⟨by rw [← HS.out.1, scanUp_end (Or.inl hkj')], HS.out.2.drewN _⟩
              case rest =>
                obtain ⟨rfl, kr⟩ := hcut
                generalize wc = w2 at *
                go_upto_block 8 with fail
                go_cut [11] (fun v wx => v = .int .i64 j2 ∧ Keep No wr wx)
                case first =>
                  go_wp2
                  go_loopw [11] (fun vi wr2 => ∃ (k : Nat), vi = .int .i64 k ∧ k ≤ j ∧ i2 ≤ k + 1 ∧ Keep No wr wr2 ∧ scanDown (fun x => !ltInt x dj[a]!) dj i2 k = j2) (fun vi _ => (intOf vi).toNat)
                  case atStart => exact ⟨j, rfl, Nat.le_refl _, b2, kr, HI.out.2.2.2.symm⟩
                  case round =>
                    clear kr
                    obtain ⟨k, rfl, hkj, hik, kr, hS⟩ := hrel
                    have hcw : ∀ t, t < d.size → wr.cell? ⟨g, off + t, none⟩ = some (.int .u64 (G t)) := fun t ht => by rw [HI.out.1]; exact (HI.out.2.1.keep kr (fun e => e)).cell (by omega)
                    have HS := Lib.hid (And.intro hS kr)
                    clear hS kr
                    by_cases hkj' : i2 ≤ k
                    · have hki : (i2 : Int) ≤ (k : Int) := by omega
                      have hka : a < d.size := by omega
                      have hkd : k < d.size := by omega
                      have hk0 : 0 < k := by omega
                      go_wp2
                      go_quiet (first | (go_at_call 112; refine Calls.quiet_of_same (less_spec _ _ _)))
                      go_wp2
                      · have hl0 : (!ltInt (G k) (G a)) = true := by assumption
                        go_roundw
                        case rel => exact ⟨k - 1, by congr 1; omega, by omega, by omega, HS.out.2.drewN _, by rw [← scanDown_step hkj' hk0 (by rw [← HI.out.1, ← HI.out.1]; exact hl0)]; exact HS.out.1⟩
                        case measure => simp [intOf]; omega
                      · have hl0 : (!ltInt (G k) (G a)) = false := by assumption
                        go_meet
                        exact ⟨by rw [← HS.out.1, scanDown_end (Or.inr (by rw [← HI.out.1, ← HI.out.1]; exact hl0))], HS.out.2.drewN _⟩
                    · have hki : ¬ (i2 : Int) ≤ (k : Int) := by omega
                      go_wp2
                      go_quiet (first | (go_at_call 112; refine Calls.quiet_of_same (less_spec _ _ _)))
                      go_wp2
                      go_meet
                      exact ⟨by rw [← HS.out.1, scanDown_end (Or.inl hkj')], HS.out.2.drewN _⟩
                case rest =>
                  clear kr
                  obtain ⟨rfl, kr⟩ := hcut
                  generalize wc = w3 at *
                  have hR3 := HI.out.2.1.keep kr (fun e => e)
                  have hK3 := HK.out.1.trans kr (fun _ _ e => e.elim)
                  by_cases hgt : j2 < i2
                  · have hgti : (j2 : Int) < (i2 : Int) := by omega
                    have hLe := HK.out.2.1
                    rw [if_pos hgt] at hLe
                    have HM := Lib.hid (And.intro hLe (And.intro hR3 hK3))
                    clear hLe hR3 hK3 kr
                    go_wp2
                    go_meet
                    rw [HM.out.1]
                    exact ⟨j2, rfl, by omega, by omega, rfl, hsj, HM.out.2.1, HM.out.2.2⟩
                  · have hgti : ¬ (j2 : Int) < (i2 : Int) := by omega
                    have hlt2 := HK.out.2.2 hgt
                    have hLe := HK.out.2.1
                    rw [if_neg hgt] at hLe
                    have hcw : ∀ t, t < d.size → w3.cell? ⟨g, off + t, none⟩ = some (.int .u64 (G t)) := fun t ht => by rw [HI.out.1]; exact hR3.cell (by omega)
                    have hfw : ∀ t, t < d.size → w3.frozen? ⟨g, off + t, none⟩ = false := fun t _ => hR3.frozen t
                    have hsw := hR3.swapD (i := i2) (j := j2) (by omega) (by omega)
                    rw [← HI.out.1, ← HI.out.1] at hsw
                    have HM := Lib.hid (And.intro hLe (And.intro hsw hK3))
                    clear hLe hR3 hK3 kr hsw
                    go_wp2
                    go_region
                    all_goals go_wp2
                    go_roundw
                    case rel => exact ⟨i2 + 1, j2 - 1, swp dj i2 j2, by go_num, by congr 1; omega, by omega, by omega, by omega, by rw [size_swp]; exact hsj, HM.out.2.1.1, HM.out.2.2.trans HM.out.2.1.2 (fun _ _ e => e), HM.out.1.symm⟩
                    case measure => simp [intOf]; omega
          case rest =>
            clear hcw hfw hlt2 hgti hgt b1 b2 b3 b4
            obtain ⟨j, rfl, haj, hjb', hRj, hRs, hR, hK⟩ := hcut
            generalize wc = w5 at *
            obtain ⟨D, hD⟩ : ∃ D, D = R.2 := ⟨_, rfl⟩
            rw [← hD] at hRs hR
            obtain ⟨G, hG⟩ : ∃ G : Nat → Int, ∀ t, G t = D[t]! := ⟨fun t => D[t]!, fun _ => rfl⟩
            have hcw : ∀ t, t < d.size → w5.cell? ⟨g, off + t, none⟩ = some (.int .u64 (G t)) := fun t ht => by rw [hG]; exact hR.cell (by omega)
            have hfw : ∀ t, t < d.size → w5.frozen? ⟨g, off + t, none⟩ = false := fun t _ => hR.frozen t
            have hsw := hR.swapD (i := j) (j := a) (by omega) (by omega)
            rw [← hG, ← hG] at hsw
            have hPP : P = (j, false, swp D j a) := by rw [HL.out.1, hRj, hD]
            have HM := Lib.hid (And.intro hPP (And.intro hsw hK))
            clear hsw hR hK hPP hD hRj hG
            by_cases hja : j = a
            · subst hja
              go_wp2
              go_region
              all_goals go_wp2
              go_ret2
              rw [HM.out.1]
              exact ⟨rfl, HM.out.2.1.1, HM.out.2.2.trans HM.out.2.1.2 (fun _ _ e => e)⟩
            · have hja' : a < j := by omega
              go_wp2
              go_region
              all_goals go_wp2
              go_ret2
              rw [HM.out.1]
              exact ⟨rfl, HM.out.2.1.1, HM.out.2.2.trans HM.out.2.1.2 (fun _ _ e => e)⟩
end Go.Proofs.Ytpjggnfiocplmaa
