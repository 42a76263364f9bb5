/- Sorting numbers: reverse, heap sort. -/
import Derived.Test.YtpjggnfiocplmaaSortA
namespace Go.Proofs.Ytpjggnfiocplmaa
open Go Go.RowKit Go.Sort

theorem reverseLoop_step (i j : Nat) (d : Array Int) (h : i < j) : reverseLoop i j d = reverseLoop (i + 1) (j - 1) (swp d i j) := by rw [reverseLoop, if_pos h]
theorem reverseLoop_end (i j : Nat) (d : Array Int) (h : ¬ i < j) : reverseLoop i j d = d := by rw [reverseLoop, if_neg h]

set_option maxRecDepth 100000 in
set_option maxHeartbeats 2000000 in
theorem rev_spec {w : World} {g off cap a b : Nat} {d : Array Int} (h : Row64 w g off d) (hab : a < b) (hb : b ≤ d.size) (hsz : d.size ≤ 1099511627776) :
    Calls Try.prog 110 #[.slice (some ⟨g, off, none⟩) d.size cap, .int .i64 a, .int .i64 b] w fun e w' => e = .returned (.tuple #[]) ∧ Row64 w' g off (reverseRange d a b) ∧ Keep (· = g) w w' := by
  go_enter Try.func110, Try.ntmps110
  go_wp2
  go_loopw [6, 7] (fun vi vj wr => ∃ (i j : Nat) (dk : Array Int), vi = .int .i64 i ∧ vj = .int .i64 j ∧ j < d.size ∧ i ≤ d.size ∧ dk.size = d.size ∧ Row64 wr g off dk ∧ Keep (· = g) w wr ∧ reverseLoop i j dk = reverseLoop a (b - 1) d) (fun _ vj _ => (intOf vj).toNat)
  case atStart => exact ⟨a, b - 1, d, rfl, by congr 1; omega, by omega, by omega, rfl, h, Keep.refl _ _, rfl⟩
  case round =>
    clear h
    obtain ⟨i, j, dj, rfl, rfl, hjs, his, hsj, hR, hK, hI⟩ := hrel
    obtain ⟨G, hG⟩ : ∃ G : Nat → Int, ∀ t, G t = dj[t]! := ⟨fun t => dj[t]!, fun _ => rfl⟩
    have hcw : ∀ t, t < d.size → wr.cell? ⟨g, off + t, none⟩ = some (.int .u64 (G t)) := fun t ht => by rw [hG]; exact hR.cell (by omega)
    have hfw : ∀ t, t < d.size → wr.frozen? ⟨g, off + t, none⟩ = false := fun t _ => hR.frozen t
    have HI := Lib.hid (And.intro hI (And.intro hG (And.intro hR hK)))
    clear hI hG hR hK
    by_cases hij : i < j
    · have hij' : (i : Int) < (j : Int) := by omega
      go_wp2
      go_region
      all_goals go_wp2
      go_roundw
      case rel =>
        have hsw := (HI.out.2.2.1.keep ((Keep.refl No wr).drewN 1) (fun e => e)).swap (i := i) (j := j) (by omega) (by omega)
        rw [← HI.out.2.1, ← HI.out.2.1] at hsw
        refine ⟨i + 1, j - 1, swp dj i j, by go_num, by congr 1; omega, by omega, by omega, by rw [size_swp]; exact hsj, hsw.1, ((HI.out.2.2.2.drewN 1).trans hsw.2 (fun _ _ e => e)), ?_⟩
        rw [← HI.out.1, reverseLoop_step _ _ _ hij]
      case measure => simp [intOf]; omega
    · have hij' : ¬ (i : Int) < (j : Int) := by omega
      go_wp2
      go_end0
      exact ⟨rfl, by unfold reverseRange; rw [← HI.out.1, reverseLoop_end _ _ _ hij]; exact HI.out.2.2.1, HI.out.2.2.2⟩

theorem siftDown_end (hi first root : Nat) (d : Array Int) (h : hi ≤ 2 * root + 1) : siftDown ltInt hi first root d = d := by rw [siftDown, dif_pos h]
/-- The greater child. -/
def bigChild (hi first root : Nat) (d : Array Int) : Nat := if 2 * root + 1 + 1 < hi && ltInt d[first + (2 * root + 1)]! d[first + (2 * root + 1) + 1]! then 2 * root + 2 else 2 * root + 1
theorem siftDown_stop (hi first root : Nat) (d : Array Int) (h : ¬ hi ≤ 2 * root + 1) (hl : ltInt d[first + root]! d[first + bigChild hi first root d]! = false) : siftDown ltInt hi first root d = d := by
  rw [siftDown, dif_neg h]
  unfold bigChild at hl
  split
  · rename_i hq; rw [if_pos hq] at hl; simp [hl]
  · rename_i hq; rw [if_neg hq] at hl; simp [hl]
theorem siftDown_step (hi first root : Nat) (d : Array Int) (h : ¬ hi ≤ 2 * root + 1) (hl : ltInt d[first + root]! d[first + bigChild hi first root d]! = true) :
    siftDown ltInt hi first root d = siftDown ltInt hi first (bigChild hi first root d) (swp d (first + root) (first + bigChild hi first root d)) := by
  conv => lhs; rw [siftDown, dif_neg h]
  unfold bigChild at hl ⊢
  split
  · rename_i hq
    rw [if_pos hq] at hl
    have h2 : 2 * root + 2 < hi := by simp at hq; omega
    simp [hl, h2]
  · rename_i hq
    rw [if_neg hq] at hl
    simp [hl]
end Go.Proofs.Ytpjggnfiocplmaa
