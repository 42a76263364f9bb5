/- Sorting numbers: partial insertion. -/
import Derived.Test.YtpjggnfiocplmaaSortG
namespace Go.Proofs.Ytpjggnfiocplmaa
open Go Go.RowKit Go.Sort

theorem scanSorted_step {b i : Nat} {d : Array Int} (h : i < b) (hl : (!ltInt d[i]! d[i - 1]!) = true) : scanSorted ltInt d b i = scanSorted ltInt d b (i + 1) := by
  conv => lhs; rw [scanSorted]
  simp only [hl, h, decide_true, Bool.and_true, if_true]
theorem scanSorted_end {b i : Nat} {d : Array Int} (h : ¬ i < b ∨ (!ltInt d[i]! d[i - 1]!) = false) : scanSorted ltInt d b i = i := by
  rw [scanSorted]
  rcases h with h | h <;> simp [h]
theorem scanSorted_ge (b : Nat) (d : Array Int) : ∀ (n i : Nat), b - i = n → i ≤ scanSorted ltInt d b i ∧ (i ≤ b → scanSorted ltInt d b i ≤ b) := by
  intro n
  induction n with
  | zero => intro i h; rw [scanSorted_end (Or.inl (by omega))]; exact ⟨Nat.le_refl _, fun h => h⟩
  | succ n ih =>
    intro i h
    cases hl : (!ltInt d[i]! d[i - 1]!) with
    | false => rw [scanSorted_end (Or.inr hl)]; exact ⟨Nat.le_refl _, fun h => h⟩
    | true =>
      rw [scanSorted_step (by omega) hl]
      have := ih (i + 1) (by omega)
      exact ⟨by omega, fun _ => this.2 (by omega)⟩
theorem shiftDown_size : ∀ (j : Nat) (d : Array Int), (shiftDown ltInt j d).size = d.size := by
  intro j
  induction j with
  | zero => intro d; rfl
  | succ j ih =>
    intro d
    rw [shiftDown]
    split
    · rfl
    · rw [ih, size_swp]
theorem shiftUp_step {b j : Nat} {d : Array Int} (h : j < b) (hl : (!ltInt d[j]! d[j - 1]!) = false) : shiftUp ltInt b j d = shiftUp ltInt b (j + 1) (swp d j (j - 1)) := by
  conv => lhs; rw [shiftUp]
  simp [h, hl]
theorem shiftUp_end {b j : Nat} {d : Array Int} (h : ¬ j < b ∨ (!ltInt d[j]! d[j - 1]!) = true) : shiftUp ltInt b j d = d := by
  rw [shiftUp]
  rcases h with h | h
  · simp [h]
  · split
    · simp
    · simp
theorem shiftUp_size (b : Nat) : ∀ (n j : Nat) (d : Array Int), b - j = n → (shiftUp ltInt b j d).size = d.size := by
  intro n
  induction n with
  | zero => intro j d h; rw [shiftUp_end (Or.inl (by omega))]
  | succ n ih =>
    intro j d h
    cases hl : (!ltInt d[j]! d[j - 1]!) with
    | true => rw [shiftUp_end (Or.inr hl)]
    | false => rw [shiftUp_step (by omega) hl, ih _ _ (by omega), size_swp]
theorem shiftDown_step {j : Nat} {d : Array Int} (h0 : 0 < j) (hl : (!ltInt d[j]! d[j - 1]!) = false) : shiftDown ltInt j d = shiftDown ltInt (j - 1) (swp d j (j - 1)) := by
  obtain ⟨k, rfl⟩ : ∃ k, j = k + 1 := ⟨j - 1, by omega⟩
  conv => lhs; rw [shiftDown]
  simp only [Nat.add_sub_cancel] at hl ⊢
  simp [hl]
theorem shiftDown_end {j : Nat} {d : Array Int} (h : j = 0 ∨ (!ltInt d[j]! d[j - 1]!) = true) : shiftDown ltInt j d = d := by
  cases j with
  | zero => rfl
  | succ k =>
    rw [shiftDown]
    rcases h with h | h
    · cases h
    · simp only [Nat.add_sub_cancel] at h
      simp [h]

set_option maxRecDepth 100000 in
set_option maxHeartbeats 8000000 in
theorem pins_spec {w : World} {g off cap a b : Nat} {d : Array Int} (h : Row64 w g off d) (hab : a < b) (hb : b ≤ d.size) (hsz : d.size ≤ 1099511627776) :
    Calls Try.prog 111 #[.slice (some ⟨g, off, none⟩) d.size cap, .int .i64 a, .int .i64 b] w fun e w' =>
      e = .returned (.bool (partialInsertionSort ltInt d a b).2) ∧ Row64 w' g off (partialInsertionSort ltInt d a b).1 ∧ Keep (· = g) w w' := by
  obtain ⟨R, hR⟩ : ∃ R, R = partialInsertionSort ltInt d a b := ⟨_, rfl⟩
  rw [← hR]
  unfold partialInsertionSort at hR
  have hbi : (b : Int) ≤ 1099511627776 := by omega
  have hai : (a : Int) ≤ 1099511627776 := by omega
  have HR := Lib.hid hR
  clear hR
  go_enter Try.func111, Try.ntmps111
  go_wp2
  go_loopw [7, 8] (fun vi vs wr => ∃ (i s : Nat) (dk : Array Int), vi = .int .i64 i ∧ s ≤ 5 ∧ vs = .int .i64 (5 - (s : Int)) ∧ a < i ∧ i ≤ b ∧ dk.size = d.size ∧ Row64 wr g off dk ∧ Keep (· = g) w wr ∧ partialIns ltInt a b s i dk = R) (fun _ vs _ => (5 - intOf vs).toNat)
  case atStart => exact ⟨a + 1, 5, d, by go_num, Nat.le_refl _, rfl, by omega, by omega, rfl, h, Keep.refl _ _, HR.out.symm⟩
  case round =>
    clear h
    obtain ⟨i, s, dj, rfl, hs5, rfl, hai', hib, hsj, hRr, hK, hI⟩ := hrel
    cases s with
    | zero =>
      have HI := Lib.hid (And.intro hI (And.intro hRr hK))
      clear hI hRr hK
      have e : (5 : Int) - ((0 : Nat) : Int) = 5 := rfl
      rw [e]
      go_wp2
      go_ret
      rw [← HI.out.1]
      exact ⟨rfl, HI.out.2.1, HI.out.2.2⟩
    | succ s =>
      have hlt5 : (5 : Int) - ((s + 1 : Nat) : Int) < 5 := by omega
      obtain ⟨z, hz⟩ : ∃ z : Int, z = (5 : Int) - ((s + 1 : Nat) : Int) := ⟨_, rfl⟩
      rw [← hz] at hlt5 ⊢
      have hz0 : 0 ≤ z := by omega
      have HZ := Lib.hid hz
      clear hz
      rw [partialIns] at hI
      simp only [] at hI
      obtain ⟨i2, hi2⟩ : ∃ i2, i2 = scanSorted ltInt dj b i := ⟨_, rfl⟩
      rw [← hi2] at hI
      have b1 := scanSorted_ge b dj _ i rfl
      rw [← hi2] at b1
      obtain ⟨b1, b2⟩ := b1
      have b2 := b2 hib
      obtain ⟨G, hG⟩ : ∃ G : Nat → Int, ∀ t, G t = dj[t]! := ⟨fun t => dj[t]!, fun _ => rfl⟩
      have HI := Lib.hid (And.intro hG (And.intro hRr (And.intro hi2 (And.intro hK hI))))
      clear hG hRr hi2 hK hI
      go_upto_block 2 with fail
      go_cut [7] (fun v wx => v = .int .i64 i2 ∧ Keep No wr wx)
      case first =>
        go_wp2
        go_loopw [7] (fun vi wr2 => ∃ (k : Nat), vi = .int .i64 k ∧ i ≤ k ∧ k ≤ b ∧ Keep No wr wr2 ∧ scanSorted ltInt dj b k = i2) (fun vi _ => ((b : Int) - intOf vi).toNat)
        case atStart => exact ⟨i, rfl, Nat.le_refl _, hib, Keep.refl _ _, HI.out.2.2.1.symm⟩
        case round =>
          obtain ⟨k, rfl, hik, hkb, kr, hS⟩ := hrel
          have hcw : ∀ t, t < d.size → wr.cell? ⟨g, off + t, none⟩ = some (.int .u64 (G t)) := fun t ht => by rw [HI.out.1]; exact (HI.out.2.1.keep kr (fun e => e)).cell (by omega)
          have HS := Lib.hid (And.intro hS kr)
          clear hS kr
          by_cases hkb' : k < b
          · have hki : (k : Int) < (b : Int) := by omega
            have hkd : k < d.size := by omega
            go_wp2
            go_quiet (first | (go_at_call 112; refine Calls.quiet_of_same (less_spec _ _ _)))
            go_wp2
            · have hl0 : (!ltInt (G k) (G (k - 1))) = true := by assumption
              go_roundw
              case rel => exact ⟨k + 1, by go_num, by omega, by omega, HS.out.2.drewN _, by rw [← scanSorted_step hkb' (by rw [← HI.out.1, ← HI.out.1]; exact hl0)]; exact HS.out.1⟩
              case measure => simp [intOf]; omega
            · have hl0 : (!ltInt (G k) (G (k - 1))) = false := by assumption
              go_meet
              exact ⟨by rw [← HS.out.1, scanSorted_end (Or.inr (by rw [← HI.out.1, ← HI.out.1]; exact hl0))], HS.out.2.drewN _⟩
          · have hki : ¬ (k : Int) < (b : Int) := by omega
            go_wp2
            go_quiet (first | (go_at_call 112; refine Calls.quiet_of_same (less_spec _ _ _)))
            go_wp2
            go_meet
            exact ⟨by rw [← HS.out.1, scanSorted_end (Or.inl hkb')], HS.out.2.drewN _⟩
      case rest =>
        obtain ⟨rfl, kr⟩ := hcut
        generalize wc = w2 at *
        have hR2 := HI.out.2.1.keep kr (fun e => e)
        have hK2 := HI.out.2.2.2.1.trans kr (fun _ _ e => e.elim)
        by_cases hib2 : i2 = b
        · have hi2b : (i2 : Int) = (b : Int) := by omega
          have hI := HI.out.2.2.2.2
          rw [if_pos hib2] at hI
          have HM := Lib.hid (And.intro hI (And.intro hR2 hK2))
          have hbq : ((i2 : Int) == (b : Int)) = true := by simpa using hi2b
          clear hI hR2 hK2 kr hib2 hi2b
          go_wp2
          go_ret
          rw [← HM.out.1]
          exact ⟨rfl, HM.out.2.1, HM.out.2.2⟩
        · have hbq : ((i2 : Int) == (b : Int)) = false := by simp; omega
          by_cases h50 : b - a < 50
          · have h50i : (b : Int) - (a : Int) < 50 := by omega
            have hI := HI.out.2.2.2.2
            rw [if_neg hib2, if_pos h50] at hI
            have HM := Lib.hid (And.intro hI (And.intro hR2 hK2))
            clear hI hR2 hK2 kr hib2
            go_wp2
            go_ret
            rw [← HM.out.1]
            exact ⟨rfl, HM.out.2.1, HM.out.2.2⟩
          · have h50i : ¬ (b : Int) - (a : Int) < 50 := by omega
            have hI := HI.out.2.2.2.2
            rw [if_neg hib2, if_neg h50] at hI
            have hi2b : i2 < b := by omega
            obtain ⟨D1, hD1⟩ : ∃ D1, D1 = swp dj i2 (i2 - 1) := ⟨_, rfl⟩
            rw [← hD1] at hI
            obtain ⟨D2, hD2⟩ : ∃ D2, D2 = (if i2 - a ≥ 2 then shiftDown ltInt (i2 - 1) D1 else D1) := ⟨_, rfl⟩
            rw [← hD2] at hI
            obtain ⟨D3, hD3⟩ : ∃ D3, D3 = (if b - i2 ≥ 2 then shiftUp ltInt b (i2 + 1) D2 else D2) := ⟨_, rfl⟩
            rw [← hD3] at hI
            have s1 : D1.size = d.size := by rw [hD1, size_swp]; exact hsj
            have s2 : D2.size = d.size := by rw [hD2]; split; rw [shiftDown_size, s1]; exact s1
            have s3 : D3.size = d.size := by rw [hD3]; split; rw [shiftUp_size b _ _ _ rfl, s2]; exact s2
            have hcw : ∀ t, t < d.size → w2.cell? ⟨g, off + t, none⟩ = some (.int .u64 (G t)) := fun t ht => by rw [HI.out.1]; exact hR2.cell (by omega)
            have hfw : ∀ t, t < d.size → w2.frozen? ⟨g, off + t, none⟩ = false := fun t _ => hR2.frozen t
            have hsw := hR2.swapD (i := i2) (j := i2 - 1) (by omega) (by omega)
            rw [← HI.out.1, ← HI.out.1, ← hD1] at hsw
            have HM := Lib.hid (And.intro hI (And.intro hsw (And.intro hK2 (And.intro hD2 hD3))))
            clear hI hR2 hK2 kr hib2 hsw hD1 hD2 hD3
            have hi2d : i2 < d.size := by omega
            have hi20 : 0 < i2 := by omega
            go_upto_region 11 with fail
            go_cut [] (fun wx => Row64 wx g off D1 ∧ Keep (· = g) w wx)
            case first =>
              go_wp2
              go_region
              all_goals go_wp2
              go_meet
              exact ⟨HM.out.2.1.1, HM.out.2.2.1.trans HM.out.2.1.2 (fun _ _ e => e)⟩
            case rest =>
              clear hcw hfw
              obtain ⟨r1, k1⟩ := hcut
              generalize wc = w3 at *
              go_upto_if 61 with fail
              go_cut [] (fun wx => Row64 wx g off D2 ∧ Keep (· = g) w wx)
              case first =>
                by_cases h2 : i2 - a ≥ 2
                · have h2i : (2 : Int) ≤ (i2 : Int) - (a : Int) := by omega
                  have hD2 := HM.out.2.2.2.1
                  rw [if_pos h2] at hD2
                  have HH := Lib.hid (And.intro hD2 (And.intro r1 k1))
                  clear hD2 r1 k1
                  go_wp2
                  go_loopw [9] (fun vj wr2 => ∃ (k : Nat) (D : Array Int), vj = .int .i64 k ∧ k < d.size ∧ D.size = d.size ∧ Row64 wr2 g off D ∧ Keep (· = g) w wr2 ∧ shiftDown ltInt k D = D2) (fun vj _ => (intOf vj).toNat)
                  case atStart => exact ⟨i2 - 1, D1, by congr 1; omega, by omega, s1, HH.out.2.1, HH.out.2.2, HH.out.1.symm⟩
                  case round =>
                    obtain ⟨k, D, rfl, hkd, hsD, hRD, hKD, hS⟩ := hrel
                    obtain ⟨E, hE⟩ : ∃ E : Nat → Int, ∀ t, E t = D[t]! := ⟨fun t => D[t]!, fun _ => rfl⟩
                    have hcw : ∀ t, t < d.size → wr.cell? ⟨g, off + t, none⟩ = some (.int .u64 (E t)) := fun t ht => by rw [hE]; exact hRD.cell (by omega)
                    have hfw : ∀ t, t < d.size → wr.frozen? ⟨g, off + t, none⟩ = false := fun t _ => hRD.frozen t
                    by_cases hk0 : 0 < k
                    · have hki : (1 : Int) ≤ (k : Int) := by omega
                      have hk1 : k - 1 < d.size := by omega
                      have HS := Lib.hid (And.intro hS (And.intro hE (And.intro hRD hKD)))
                      clear hS hE hRD hKD
                      go_wp2
                      go_quiet (first | (go_at_call 112; refine Calls.quiet_of_same (less_spec _ _ _)))
                      go_wp2
                      · have hl0 : (!ltInt (E k) (E (k - 1))) = true := by assumption
                        go_meet
                        have e : D2 = D := by rw [← HS.out.1, shiftDown_end (Or.inr (by rw [← HS.out.2.1, ← HS.out.2.1]; exact hl0))]
                        rw [e]
                        exact ⟨HS.out.2.2.1.keep ((Keep.refl No _).drewN _) (fun e => e), HS.out.2.2.2.drewN _⟩
                      · have hl0 : (!ltInt (E k) (E (k - 1))) = false := by assumption
                        go_region
                        all_goals go_wp2
                        go_roundw
                        case rel =>
                          have hsw := (HS.out.2.2.1.keep ((Keep.refl No wr).drewN (nq + 1)) (fun e => e)).swap (i := k) (j := k - 1) (by omega) (by omega)
                          rw [← HS.out.2.1, ← HS.out.2.1] at hsw
                          exact ⟨k - 1, swp D k (k - 1), by congr 1; omega, hk1, by rw [size_swp]; exact hsD, hsw.1, (HS.out.2.2.2.drewN (nq + 1)).trans hsw.2 (fun _ _ e => e), by rw [← HS.out.1, shiftDown_step hk0 (by rw [← HS.out.2.1, ← HS.out.2.1]; exact hl0)]⟩
                        case measure => simp [intOf]; omega
                    · have hki : ¬ (1 : Int) ≤ (k : Int) := by omega
                      have e : D2 = D := by rw [← hS, shiftDown_end (Or.inl (by omega))]
                      have HS := Lib.hid (And.intro e (And.intro hRD hKD))
                      clear hS hE hRD hKD e
                      go_wp2
                      go_meet
                      rw [HS.out.1]
                      exact HS.out.2
                · have h2i : ¬ (2 : Int) ≤ (i2 : Int) - (a : Int) := by omega
                  have hD2 := HM.out.2.2.2.1
                  rw [if_neg h2] at hD2
                  have HH := Lib.hid (And.intro hD2 (And.intro r1 k1))
                  clear hD2 r1 k1
                  go_wp2
                  go_meet
                  rw [HH.out.1]
                  exact HH.out.2
              case rest =>
                clear r1 k1
                obtain ⟨r2, k2⟩ := hcut
                generalize wc = w4 at *
                have fin : ∀ wx, Row64 wx g off D3 → Keep (· = g) w wx → ∃ (i s : Nat) (dk : Array Int), Value.int .i64 (i2 : Int) = .int .i64 i ∧ s ≤ 5 ∧ Value.int .i64 (z + 1) = .int .i64 (5 - (s : Int)) ∧ a < i ∧ i ≤ b ∧ dk.size = d.size ∧ Row64 wx g off dk ∧ Keep (· = g) w wx ∧ partialIns ltInt a b s i dk = R := fun wx r3 k3 =>
                  ⟨i2, s, D3, rfl, by omega, by have := HZ.out; congr 1; omega, by omega, by omega, s3, r3, k3, HM.out.1⟩
                have FIN := Lib.hid fin
                clear fin
                go_upto_if 98 with fail
                focus
                  by_cases h2 : b - i2 ≥ 2
                  · have h2i : (2 : Int) ≤ (b : Int) - (i2 : Int) := by omega
                    have hD3 := HM.out.2.2.2.2
                    rw [if_pos h2] at hD3
                    have HH := Lib.hid (And.intro hD3 (And.intro r2 k2))
                    clear hD3 r2 k2
                    go_wp2
                    go_loopw [10] (fun vj wr2 => ∃ (k : Nat) (D : Array Int), vj = .int .i64 k ∧ 0 < k ∧ k ≤ b ∧ D.size = d.size ∧ Row64 wr2 g off D ∧ Keep (· = g) w wr2 ∧ shiftUp ltInt b k D = D3) (fun vj _ => ((b : Int) - intOf vj).toNat)
                    case atStart => exact ⟨i2 + 1, D2, by go_num, by omega, by omega, s2, HH.out.2.1, HH.out.2.2, HH.out.1.symm⟩
                    case round =>
                      obtain ⟨k, D, rfl, hk0, hkb, hsD, hRD, hKD, hS⟩ := hrel
                      obtain ⟨E, hE⟩ : ∃ E : Nat → Int, ∀ t, E t = D[t]! := ⟨fun t => D[t]!, fun _ => rfl⟩
                      have hcw : ∀ t, t < d.size → wr.cell? ⟨g, off + t, none⟩ = some (.int .u64 (E t)) := fun t ht => by rw [hE]; exact hRD.cell (by omega)
                      have hfw : ∀ t, t < d.size → wr.frozen? ⟨g, off + t, none⟩ = false := fun t _ => hRD.frozen t
                      by_cases hkb' : k < b
                      · have hki : (k : Int) < (b : Int) := by omega
                        have hkd : k < d.size := by omega
                        have HS := Lib.hid (And.intro hS (And.intro hE (And.intro hRD hKD)))
                        clear hS hE hRD hKD
                        go_wp2
                        go_quiet (first | (go_at_call 112; refine Calls.quiet_of_same (less_spec _ _ _)))
                        go_wp2
                        · have hl0 : (!ltInt (E k) (E (k - 1))) = true := by assumption
                          go_roundw
                          case rel =>
                            have e : D3 = D := by rw [← HS.out.1, shiftUp_end (Or.inr (by rw [← HS.out.2.1, ← HS.out.2.1]; exact hl0))]
                            exact FIN.out _ (by rw [e]; exact HS.out.2.2.1.keep ((Keep.refl No _).drewN _) (fun e => e)) (HS.out.2.2.2.drewN _)
                          case measure => have := HZ.out; simp [intOf]; omega
                        · have hl0 : (!ltInt (E k) (E (k - 1))) = false := by assumption
                          go_region
                          all_goals go_wp2
                          go_roundw
                          case rel =>
                            have hsw := (HS.out.2.2.1.keep ((Keep.refl No wr).drewN (nq + 1)) (fun e => e)).swap (i := k) (j := k - 1) (by omega) (by omega)
                            rw [← HS.out.2.1, ← HS.out.2.1] at hsw
                            exact ⟨k + 1, swp D k (k - 1), by go_num, by omega, by omega, by rw [size_swp]; exact hsD, hsw.1, (HS.out.2.2.2.drewN (nq + 1)).trans hsw.2 (fun _ _ e => e), by rw [← HS.out.1, shiftUp_step hkb' (by rw [← HS.out.2.1, ← HS.out.2.1]; exact hl0)]⟩
                          case measure => simp [intOf]; omega
                      · have hki : ¬ (k : Int) < (b : Int) := by omega
                        have e : D3 = D := by rw [← hS, shiftUp_end (Or.inl (by omega))]
                        have HS := Lib.hid (And.intro e (And.intro hRD hKD))
                        clear hS hE hRD hKD e
                        go_wp2
                        go_roundw
                        case rel => exact FIN.out _ (by rw [HS.out.1]; exact HS.out.2.1) HS.out.2.2
                        case measure => have := HZ.out; simp [intOf]; omega
                  · have h2i : ¬ (2 : Int) ≤ (b : Int) - (i2 : Int) := by omega
                    have hD3 := HM.out.2.2.2.2
                    rw [if_neg h2] at hD3
                    have HH := Lib.hid (And.intro hD3 (And.intro r2 k2))
                    clear hD3 r2 k2
                    go_wp2
                    go_roundw
                    case rel => exact FIN.out _ (by rw [HH.out.1]; exact HH.out.2.1) HH.out.2.2
                    case measure => have := HZ.out; simp [intOf]; omega
end Go.Proofs.Ytpjggnfiocplmaa
