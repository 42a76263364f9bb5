/- Sorting numbers: insertion. -/
import Derived.Test.YtpjggnfiocplmaaRow
namespace Go.Proofs.Ytpjggnfiocplmaa
open Go Go.RowKit Go.Sort

theorem insInner_step (a k : Nat) (d : Array Int) (h : a < k + 1) (hl : ltInt d[k + 1]! d[k]! = true) : insInner ltInt a (k + 1) d = insInner ltInt a k (swp d (k + 1) k) := by
  rw [insInner]; simp [h, hl]
theorem insInner_end (a k : Nat) (d : Array Int) (h : k + 1 ≤ a ∨ ltInt d[k + 1]! d[k]! = false) : insInner ltInt a (k + 1) d = d := by
  rw [insInner]
  rcases h with h | h
  · simp [show ¬ k + 1 > a by omega]
  · simp [h]
theorem insOuter_step (a b i : Nat) (d : Array Int) (h : i < b) : insOuter ltInt a b i d = insOuter ltInt a b (i + 1) (insInner ltInt a i d) := by rw [insOuter, if_pos h]
theorem insOuter_end (a b i : Nat) (d : Array Int) (h : ¬ i < b) : insOuter ltInt a b i d = d := by rw [insOuter, if_neg h]
theorem less_quiet (x y : Int) (w : World) : Calls Try.prog 112 #[.int .u64 x, .int .u64 y] w fun e w' => e = .returned (.bool (ltInt x y)) ∧ w' = w := less_spec x y w

set_option maxRecDepth 100000 in
set_option maxHeartbeats 2000000 in
theorem ins_spec {w : World} {g off cap a b : Nat} {d : Array Int} (h : Row64 w g off d) (hab : a ≤ b) (hb : b ≤ d.size) (hsz : d.size ≤ 1099511627776) :
    Calls Try.prog 106 #[.slice (some ⟨g, off, none⟩) d.size cap, .int .i64 a, .int .i64 b] w fun e w' => e = .returned (.tuple #[]) ∧ Row64 w' g off (insertionSort ltInt d a b) ∧ Keep (· = g) w w' := by
  go_enter Try.func106, Try.ntmps106
  go_wp2
  go_loopw [6] (fun vi wr => ∃ (i : Nat) (dk : Array Int), vi = .int .i64 i ∧ a < i ∧ i ≤ b + 1 ∧ dk.size = d.size ∧ Row64 wr g off dk ∧ Keep (· = g) w wr ∧ insOuter ltInt a b i dk = insOuter ltInt a b (a + 1) d) (fun vi _ => b + 1 - (intOf vi).toNat)
  case atStart => exact ⟨a + 1, d, by go_num, by omega, by omega, rfl, h, Keep.refl _ _, rfl⟩
  case round =>
    clear h
    obtain ⟨i, dk, rfl, hai, hib, hsk, hR, hK, hO⟩ := hrel
    have HO := Lib.hid (And.intro hO (And.intro hR hK))
    clear hO hR hK
    by_cases hlt : i < b
    · have hlti : (i : Int) < (b : Int) := by omega
      go_wp2_with fail
      go_loopw [7] (fun vj wr2 => ∃ (j : Nat) (dj : Array Int), vj = .int .i64 j ∧ a ≤ j ∧ j ≤ i ∧ dj.size = d.size ∧ Row64 wr2 g off dj ∧ Keep (· = g) w wr2 ∧ insInner ltInt a j dj = insInner ltInt a i dk) (fun vj _ => (intOf vj).toNat)
      case atStart => exact ⟨i, dk, rfl, by omega, Nat.le_refl _, hsk, HO.out.2.1, HO.out.2.2, rfl⟩
      case round =>
        obtain ⟨j, dj, rfl, haj, hji, hsj, hR, hK, hI⟩ := hrel
        obtain ⟨G, hG⟩ : ∃ G : Nat → Int, ∀ t, G t = dj[t]! := ⟨fun t => dj[t]!, fun _ => rfl⟩
        have hcw : ∀ t, t < d.size → wr.cell? ⟨g, off + t, none⟩ = some (.int .u64 (G t)) := fun t ht => by rw [hG]; exact hR.cell (by omega)
        have hfw : ∀ t, t < d.size → wr.frozen? ⟨g, off + t, none⟩ = false := fun t _ => hR.frozen t
        have HI := Lib.hid (And.intro hI (And.intro hG (And.intro hR hK)))
        clear hI hG hR hK
        have hout : ∀ nq, (j ≤ a ∨ ltInt (G j) (G (j - 1)) = false) → ∃ (i' : Nat) (dk' : Array Int), Value.int .i64 ((i : Int) + 1) = .int .i64 i' ∧ a < i' ∧ i' ≤ b + 1 ∧ dk'.size = d.size ∧ Row64 (wr.drewN nq) g off dk' ∧ Keep (· = g) w (wr.drewN nq) ∧ insOuter ltInt a b i' dk' = insOuter ltInt a b (a + 1) d := fun nq hs =>
          ⟨i + 1, dj, by go_num, by omega, by omega, hsj, HI.out.2.2.1.keep ((Keep.refl No wr).drewN nq) (fun e => e), HI.out.2.2.2.drewN nq, by
            rw [← HO.out.1, insOuter_step _ _ _ _ hlt, ← HI.out.1]
            congr 1
            cases j with
            | zero => rw [insInner]
            | succ k => exact (insInner_end _ _ _ (by simpa [HI.out.2.1] using hs)).symm⟩
        have OUT := Lib.hid hout
        clear hout
        by_cases hja : a < j
        · have hji' : (a : Int) < (j : Int) := by omega
          go_wp2
          go_quiet (first | (go_at_call 112; refine Calls.quiet_of_same (less_spec _ _ _)))
          go_wp2
          · have hl : ltInt (G j) (G (j - 1)) = true := by assumption
            go_region
            all_goals go_wp2
            go_roundw
            case rel =>
              have hsw := (HI.out.2.2.1.keep ((Keep.refl No wr).drewN (nq + 1)) (fun e => e)).swap (i := j) (j := j - 1) (by omega) (by omega)
              rw [← HI.out.2.1, ← HI.out.2.1] at hsw
              refine ⟨j - 1, swp dj j (j - 1), by congr 1; omega, by omega, by omega, by rw [size_swp]; exact hsj, hsw.1, ((HI.out.2.2.2.drewN (nq + 1)).trans hsw.2 (fun _ _ e => e)), ?_⟩
              rw [← HI.out.1]
              obtain ⟨k, rfl⟩ : ∃ k, j = k + 1 := ⟨j - 1, by omega⟩
              exact (insInner_step _ _ _ hja (by rw [← HI.out.2.1, ← HI.out.2.1]; exact hl)).symm
            case measure => simp [intOf]; omega
          · have hl : ltInt (G j) (G (j - 1)) = false := by assumption
            go_roundw
            case rel => exact OUT.out nq (Or.inr hl)
            case measure => simp [intOf]; omega
        · have hji' : ¬ (a : Int) < (j : Int) := by omega
          go_wp2
          go_quiet (first | (go_at_call 112; refine Calls.quiet_of_same (less_spec _ _ _)))
          go_wp2
          go_roundw
          case rel => exact OUT.out nq (Or.inl (by omega))
          case measure => simp [intOf]; omega
    · have hlti : ¬ (i : Int) < (b : Int) := by omega
      go_wp2
      go_end0
      exact ⟨rfl, by unfold insertionSort; rw [← HO.out.1, insOuter_end _ _ _ _ hlt]; exact HO.out.2.1, HO.out.2.2⟩
end Go.Proofs.Ytpjggnfiocplmaa
