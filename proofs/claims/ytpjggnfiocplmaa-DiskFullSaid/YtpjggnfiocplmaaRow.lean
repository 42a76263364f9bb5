/- Sorting numbers (uint64): a row of numbers in memory; Less; insertion. -/
import Derived.Test.YtpjggnfiocplmaaSame
import Derived.Sort.LotD3
import Derived.CellFam
import Derived.Deep.Draws
import Derived.Deep.QuietTactic
import Derived.BigQuiet
import Derived.BigGuard
import Derived.BigCall
import Derived.Deep.DeepCutAuto
namespace Go.Proofs.Ytpjggnfiocplmaa
open Go Go.RowKit Go.Sort

/-- The numbers d lie in block g from off on. -/
def Row64 (w : World) (g off : Nat) (d : Array Int) : Prop :=
  ∃ cs : Array Value, w.heap[g]? = some (.cells cs 26 (0, 0)) ∧ ∀ j, j < d.size → cs[off + j]? = some (.int .u64 d[j]!)
theorem Row64.keep {w w' : World} {g off : Nat} {d : Array Int} {F : Nat → Prop} (h : Row64 w g off d) (k : Keep F w w') (hg : ¬ F g) : Row64 w' g off d := by
  obtain ⟨cs, h1, h2⟩ := h
  exact ⟨cs, k.heap h1 hg, h2⟩
theorem Row64.cell {w : World} {g off : Nat} {d : Array Int} (h : Row64 w g off d) {j : Nat} (hj : j < d.size) : w.cell? ⟨g, off + j, none⟩ = some (.int .u64 d[j]!) := by
  obtain ⟨cs, h1, h2⟩ := h
  rw [cell_of h1]
  exact h2 j hj
theorem Row64.frozen {w : World} {g off : Nat} {d : Array Int} (h : Row64 w g off d) (j : Nat) : w.frozen? ⟨g, off + j, none⟩ = false := by
  obtain ⟨cs, h1, _⟩ := h
  exact frozen_of h1 _
theorem Row64.swap {w : World} {g off : Nat} {d : Array Int} (h : Row64 w g off d) {i j : Nat} (hi : i < d.size) (hj : j < d.size) :
    Row64 ((w.setCell ⟨g, off + i, none⟩ (.int .u64 d[j]!)).setCell ⟨g, off + j, none⟩ (.int .u64 d[i]!)) g off (swp d i j) ∧
    Keep (· = g) w ((w.setCell ⟨g, off + i, none⟩ (.int .u64 d[j]!)).setCell ⟨g, off + j, none⟩ (.int .u64 d[i]!)) := by
  obtain ⟨cs, h1, h2⟩ := h
  have hb := heap_setCell_same (i := off + j) (u := .int .u64 d[i]!) (heap_setCell_same (i := off + i) (u := .int .u64 d[j]!) h1)
  refine ⟨⟨_, hb, fun k hk => ?_⟩, Keep.setCell (F := (· = g)) (Keep.setCell (F := (· = g)) (Keep.refl _ _) (p := ⟨g, off + i, none⟩) (.inl rfl) _) (p := ⟨g, off + j, none⟩) (.inl rfl) _⟩
  rw [size_swp] at hk
  have hsz : ∀ t, t < d.size → off + t < cs.size := fun t ht => (Array.getElem?_eq_some_iff.1 (h2 t ht)).1
  have hki' := hsz k hk
  rw [Array.getElem?_setIfInBounds, Array.getElem?_setIfInBounds]
  by_cases hkj : k = j
  · rw [if_pos (by omega), if_pos (by simpa using (by rw [← hkj]; exact hki')), hkj, swp_right _ _ _ hj]
  · rw [if_neg (by omega)]
    by_cases hki : k = i
    · rw [if_pos (by omega), if_pos (by rw [← hki]; exact hki'), hki, swp_left _ _ _ hi (by omega)]
    · rw [if_neg (by omega), h2 k hk, swp_other _ _ _ _ hki hkj]

set_option maxHeartbeats 1000000 in
theorem isnan_spec (x : Int) (w : World) : Calls Try.prog 122 #[.int .u64 x] w fun e w' => e = .returned (.bool false) ∧ w' = w := by
  go_enter Try.func122, Try.ntmps122
  go_wp2
  go_ret
  exact ⟨by simp, rfl⟩
set_option maxHeartbeats 1000000 in
theorem less_spec (x y : Int) (w : World) : Calls Try.prog 112 #[.int .u64 x, .int .u64 y] w fun e w' => e = .returned (.bool (ltInt x y)) ∧ w' = w := by
  go_enter Try.func112, Try.ntmps112
  go_wp2_with (go_at_call 122; refine (isnan_spec _ _).mono ?_; rintro e w' ⟨rfl, rfl⟩)
  go_ret
  exact ⟨rfl, rfl⟩
end Go.Proofs.Ytpjggnfiocplmaa
