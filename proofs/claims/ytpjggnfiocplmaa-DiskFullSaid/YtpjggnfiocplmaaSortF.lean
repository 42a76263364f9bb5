/- Sorting numbers: partitionEqual. -/
import Derived.Test.YtpjggnfiocplmaaSortC
import Derived.Sort.LotC
namespace Go.Proofs.Ytpjggnfiocplmaa
open Go Go.RowKit Go.Sort

theorem scanUp_step {p : Int → Bool} {d : Array Int} {j i : Nat} (h : i ≤ j) (hp : p d[i]! = true) : scanUp p d j i = scanUp p d j (i + 1) := by
  conv => lhs; rw [scanUp]
  simp [h, hp]
theorem scanUp_end {p : Int → Bool} {d : Array Int} {j i : Nat} (h : ¬ i ≤ j ∨ p d[i]! = false) : scanUp p d j i = i := by
  rw [scanUp]
  rcases h with h | h <;> simp [h]
theorem scanDown_step {p : Int → Bool} {d : Array Int} {i j : Nat} (h : i ≤ j) (h0 : 0 < j) (hp : p d[j]! = true) : scanDown p d i j = scanDown p d i (j - 1) := by
  obtain ⟨k, rfl⟩ : ∃ k, j = k + 1 := ⟨j - 1, by omega⟩
  conv => lhs; rw [scanDown]
  simp [h, hp]
theorem scanDown_end {p : Int → Bool} {d : Array Int} {i j : Nat} (h : ¬ i ≤ j ∨ p d[j]! = false) : scanDown p d i j = j := by
  cases j with
  | zero => rfl
  | succ k =>
    rw [scanDown]
    rcases h with h | h <;> simp [h]

set_option maxRecDepth 100000 in
set_option maxHeartbeats 4000000 in
theorem peq_spec {w : World} {g off cap a b pivot : Nat} {d : Array Int} (h : Row64 w g off d) (hp1 : a ≤ pivot) (hp2 : pivot < b) (hb : b ≤ d.size) (hsz : d.size ≤ 1099511627776) :
    Calls Try.prog 113 #[.slice (some ⟨g, off, none⟩) d.size cap, .int .i64 a, .int .i64 b, .int .i64 pivot] w fun e w' =>
      e = .returned (.int .i64 (partitionEqual ltInt d a b pivot).1) ∧ Row64 w' g off (partitionEqual ltInt d a b pivot).2 ∧ Keep (· = g) w w' := by
  have hd1 : (swp d a pivot).size = d.size := by rw [size_swp]
  unfold partitionEqual
  obtain ⟨d1, hdd⟩ : ∃ d1, d1 = swp d a pivot := ⟨_, rfl⟩
  rw [← hdd] at hd1 ⊢
  have HD := Lib.hid hdd
  clear hdd
  have hpi : (pivot : Int) ≤ 1099511627776 := by omega
  have hbi : (b : Int) ≤ 1099511627776 := by omega
  have hai : (a : Int) ≤ 1099511627776 := by omega
  go_enter Try.func113, Try.ntmps113
  go_upto_region 1 with fail
  go_cut [] (fun wx => Row64 wx g off d1 ∧ Keep (· = g) w wx)
  case first =>
    obtain ⟨G, hG⟩ : ∃ G : Nat → Int, ∀ t, G t = d[t]! := ⟨fun t => d[t]!, fun _ => rfl⟩
    have hcw : ∀ t, t < d.size → w.cell? ⟨g, off + t, none⟩ = some (.int .u64 (G t)) := fun t ht => by rw [hG]; exact h.cell ht
    have hfw : ∀ t, t < d.size → w.frozen? ⟨g, off + t, none⟩ = false := fun t _ => h.frozen t
    have hsw := (h.keep ((Keep.refl No w).drewN 1) (fun e => e)).swap (i := a) (j := pivot) (by omega) (by omega)
    rw [← hG, ← hG, ← HD.out] at hsw
    have HS := Lib.hid hsw
    clear hsw h hG
    by_cases hap : a = pivot
    · subst hap
      go_region
      all_goals go_wp2
      go_meet
      exact ⟨HS.out.1, ((Keep.refl _ _).drewN 1).trans HS.out.2 (fun _ _ e => e)⟩
    · have hap' : a < pivot := by omega
      go_region
      all_goals go_wp2
      go_meet
      exact ⟨HS.out.1, ((Keep.refl _ _).drewN 1).trans HS.out.2 (fun _ _ e => e)⟩
  case rest =>
    obtain ⟨hR0, hK0⟩ := hcut
    generalize wc = w1 at *
    go_wp2
    go_loopw [9, 10] (fun vi vj wr => ∃ (i j : Nat) (dj : Array Int), vi = .int .i64 i ∧ vj = .int .i64 j ∧ a < i ∧ i ≤ j + 1 ∧ j < b ∧ dj.size = d.size ∧ Row64 wr g off dj ∧ Keep (· = g) w wr ∧ partEqLoop ltInt a i j dj = partEqLoop ltInt a (a + 1) (b - 1) d1) (fun vi vj _ => (intOf vj + 1 - intOf vi).toNat)
    case atStart => exact ⟨a + 1, b - 1, d1, by go_num, by congr 1; omega, by omega, by omega, by omega, hd1, hR0, hK0, rfl⟩
    case round =>
      clear hR0 hK0 h
      obtain ⟨i, j, dj, rfl, rfl, hai', hij, hjb, hsj, hR, hK, hI⟩ := hrel
      obtain ⟨G, hG⟩ : ∃ G : Nat → Int, ∀ t, G t = dj[t]! := ⟨fun t => dj[t]!, fun _ => rfl⟩
      obtain ⟨i2, hi2⟩ : ∃ i2, i2 = scanUp (fun x => !ltInt dj[a]! x) dj j i := ⟨_, rfl⟩
      obtain ⟨j2, hj2⟩ : ∃ j2, j2 = scanDown (fun x => ltInt dj[a]! x) dj i2 j := ⟨_, rfl⟩
      have hs1 := scanUp_spec (fun x => !ltInt dj[a]! x) dj j _ i rfl
      have hs2 := scanDown_spec (fun x => ltInt dj[a]! x) dj i2 j
      have hL := partEqLoop_eq ltInt a i j dj
      rw [← hi2] at hs1 hL
      rw [← hj2] at hs2 hL
      have b1 : i ≤ i2 := hs1.1
      have b2 : i2 ≤ j + 1 := hs1.2.1 hij
      have b3 : j2 ≤ j := hs2.1
      have b4 : i2 ≤ j2 + 1 := hs2.2.1 b2
      have b5 : ¬ j2 < i2 → i2 < j2 := fun hn => by
        have f1 := hs1.2.2.2 (by omega)
        have f2 := hs2.2.2.2 (by omega) (by omega)
        rcases Nat.lt_or_ge i2 j2 with h | h
        · exact h
        · have e : i2 = j2 := by omega
          simp only [e] at f1
          simp only [f2] at f1
          cases f1
      have HI := Lib.hid (And.intro hI (And.intro hG (And.intro hR (And.intro hK (And.intro hL (And.intro hi2 hj2))))))
      clear hI hG hR hK hL hi2 hj2 hs1 hs2
      go_upto_block 2 with fail
      go_cut [9] (fun v wx => v = .int .i64 i2 ∧ Keep No wr wx)
      case first =>
        go_wp2
        go_loopw [9] (fun vi wr2 => ∃ (k : Nat), vi = .int .i64 k ∧ i ≤ k ∧ k ≤ j + 1 ∧ Keep No wr wr2 ∧ scanUp (fun x => !ltInt dj[a]! x) dj j k = i2) (fun vi _ => (((j : Int) + 1) - intOf vi).toNat)
        case atStart => exact ⟨i, rfl, Nat.le_refl _, hij, Keep.refl _ _, HI.out.2.2.2.2.2.1.symm⟩
        case round =>
          obtain ⟨k, rfl, hik, hkj, kr, hS⟩ := hrel
          have hcw : ∀ t, t < d.size → wr.cell? ⟨g, off + t, none⟩ = some (.int .u64 (G t)) := fun t ht => by rw [HI.out.2.1]; exact (HI.out.2.2.1.keep kr (fun e => e)).cell (by omega)
          have HS := Lib.hid (And.intro hS kr)
          clear hS kr
          by_cases hkj' : k ≤ j
          · have hki : (k : Int) ≤ (j : Int) := by omega
            have hka : a < d.size := by omega
            have hkd : k < d.size := by omega
            go_wp2
            go_quiet (first | (go_at_call 112; refine Calls.quiet_of_same (less_spec _ _ _)))
            go_wp2
            · have hl0 : (!ltInt (G a) (G k)) = true := by assumption
              go_roundw
              case rel => exact ⟨k + 1, by go_num, by omega, by omega, HS.out.2.drewN _, by rw [← scanUp_step hkj' (by rw [← HI.out.2.1, ← HI.out.2.1]; exact hl0)]; exact HS.out.1⟩
              case measure => simp [intOf]; omega
            · have hl0 : (!ltInt (G a) (G k)) = false := by assumption
              go_meet
              exact ⟨by rw [← HS.out.1, scanUp_end (Or.inr (by rw [← HI.out.2.1, ← HI.out.2.1]; exact hl0))], HS.out.2.drewN _⟩
          · have hki : ¬ (k : Int) ≤ (j : Int) := by omega
            go_wp2
            go_quiet (first | (go_at_call 112; refine Calls.quiet_of_same (less_spec _ _ _)))
            go_wp2
            go_meet
            exact ⟨by rw [← HS.out.1, scanUp_end (Or.inl hkj')], HS.out.2.drewN _⟩
      case rest =>
        obtain ⟨rfl, kr⟩ := hcut
        generalize wc = w2 at *
        go_upto_block 4 with fail
        go_cut [10] (fun v wx => v = .int .i64 j2 ∧ Keep No wr wx)
        case first =>
          go_wp2
          go_loopw [10] (fun vi wr2 => ∃ (k : Nat), vi = .int .i64 k ∧ k ≤ j ∧ i2 ≤ k + 1 ∧ Keep No wr wr2 ∧ scanDown (fun x => ltInt dj[a]! x) dj i2 k = j2) (fun vi _ => (intOf vi).toNat)
          case atStart => exact ⟨j, rfl, Nat.le_refl _, b2, kr, HI.out.2.2.2.2.2.2.symm⟩
          case round =>
            clear kr
            obtain ⟨k, rfl, hkj, hik, kr, hS⟩ := hrel
            have hcw : ∀ t, t < d.size → wr.cell? ⟨g, off + t, none⟩ = some (.int .u64 (G t)) := fun t ht => by rw [HI.out.2.1]; exact (HI.out.2.2.1.keep kr (fun e => e)).cell (by omega)
            have HS := Lib.hid (And.intro hS kr)
            clear hS kr
            by_cases hkj' : i2 ≤ k
            · have hki : (i2 : Int) ≤ (k : Int) := by omega
              have hka : a < d.size := by omega
              have hkd : k < d.size := by omega
              have hk0 : 0 < k := by omega
              go_wp2
              go_quiet (first | (go_at_call 112; refine Calls.quiet_of_same (less_spec _ _ _)))
              go_wp2
              · have hl0 : ltInt (G a) (G k) = true := by assumption
                go_roundw
                case rel => exact ⟨k - 1, by congr 1; omega, by omega, by omega, HS.out.2.drewN _, by rw [← scanDown_step hkj' hk0 (by rw [← HI.out.2.1, ← HI.out.2.1]; exact hl0)]; exact HS.out.1⟩
                case measure => simp [intOf]; omega
              · have hl0 : ltInt (G a) (G k) = false := by assumption
                go_meet
                exact ⟨by rw [← HS.out.1, scanDown_end (Or.inr (by rw [← HI.out.2.1, ← HI.out.2.1]; exact hl0))], HS.out.2.drewN _⟩
            · have hki : ¬ (i2 : Int) ≤ (k : Int) := by omega
              go_wp2
              go_quiet (first | (go_at_call 112; refine Calls.quiet_of_same (less_spec _ _ _)))
              go_wp2
              go_meet
              exact ⟨by rw [← HS.out.1, scanDown_end (Or.inl hkj')], HS.out.2.drewN _⟩
        case rest =>
          clear kr
          obtain ⟨rfl, kr⟩ := hcut
          generalize wc = w3 at *
          have hR3 := HI.out.2.2.1.keep kr (fun e => e)
          have hK3 := HI.out.2.2.2.1.trans kr (fun _ _ e => e.elim)
          by_cases hgt : j2 < i2
          · have hgti : (j2 : Int) < (i2 : Int) := by omega
            have HL := Lib.hid (And.intro hR3 hK3)
            clear hR3 hK3 kr
            go_wp2
            go_ret
            rw [← HI.out.1, HI.out.2.2.2.2.1, if_pos hgt]
            exact ⟨rfl, HL.out.1, HL.out.2⟩
          · have hgti : ¬ (j2 : Int) < (i2 : Int) := by omega
            have hij2' := b5 hgt
            have hcw : ∀ t, t < d.size → w3.cell? ⟨g, off + t, none⟩ = some (.int .u64 (G t)) := fun t ht => by rw [HI.out.2.1]; exact hR3.cell (by omega)
            have hfw : ∀ t, t < d.size → w3.frozen? ⟨g, off + t, none⟩ = false := fun t _ => hR3.frozen t
            have hsw := (hR3.keep ((Keep.refl No w3).drewN 1) (fun e => e)).swap (i := i2) (j := j2) (by omega) (by omega)
            rw [← HI.out.2.1, ← HI.out.2.1] at hsw
            have hdone : ∀ wx, Row64 wx g off (swp dj i2 j2) → Keep (· = g) w wx → ∃ (i' j' : Nat) (dj' : Array Int), Value.int .i64 ((i2 : Int) + 1) = .int .i64 i' ∧ Value.int .i64 ((j2 : Int) - 1) = .int .i64 j' ∧ a < i' ∧ i' ≤ j' + 1 ∧ j' < b ∧ dj'.size = d.size ∧ Row64 wx g off dj' ∧ Keep (· = g) w wx ∧ partEqLoop ltInt a i' j' dj' = partEqLoop ltInt a (a + 1) (b - 1) d1 := fun wx h1 h2 =>
              ⟨i2 + 1, j2 - 1, swp dj i2 j2, by go_num, by congr 1; omega, by omega, by omega, by omega, by rw [size_swp]; exact hsj, h1, h2, by rw [← HI.out.1, HI.out.2.2.2.2.1, if_neg (by omega)]⟩
            have HL := Lib.hid (And.intro hsw (And.intro (hK3.drewN 1) hdone))
            clear hsw hdone hR3 hK3 kr b5
            go_wp2
            go_region
            all_goals go_wp2
            go_roundw
            case rel => exact HL.out.2.2 _ HL.out.1.1 (HL.out.2.1.trans HL.out.1.2 (fun _ _ e => e))
            case measure => simp [intOf]; omega
end Go.Proofs.Ytpjggnfiocplmaa
