/- Sorting numbers: choosing the pivot. -/
import Derived.Test.YtpjggnfiocplmaaSortD
import Derived.Test.YtpjggnfiocplmaaActs
namespace Go.Proofs.Ytpjggnfiocplmaa
open Go Go.RowKit Go.Sort

theorem BoxI.new (w : World) : BoxI (w.alloc (.cells #[.int .i64 0] 3)) w.heap.size 0 := heap_new w _
theorem Row64.lt {w : World} {g off : Nat} {d : Array Int} (h : Row64 w g off d) : g < w.heap.size := by
  obtain ⟨cs, h1, _⟩ := h
  exact heap_lt h1

set_option maxRecDepth 100000 in
set_option maxHeartbeats 2000000 in
theorem piv_spec {w : World} {g off cap a b : Nat} {d : Array Int} (h : Row64 w g off d) (hab : 12 < b - a) (hb : b ≤ d.size) (hsz : d.size ≤ 1099511627776) :
    Calls Try.prog 109 #[.slice (some ⟨g, off, none⟩) d.size cap, .int .i64 a, .int .i64 b] w fun e w' =>
      e = .returned (.tuple #[.int .i64 (choosePivot ltInt d a b).1, .int .i64 (hintCode (choosePivot ltInt d a b).2)]) ∧ Row64 w' g off d ∧ Keep No w w' := by
  obtain ⟨l, hl⟩ : ∃ l : Nat, b - a = l := ⟨_, rfl⟩
  obtain ⟨q, hq⟩ : ∃ q : Nat, l / 4 = q := ⟨_, rfl⟩
  have e0 : (b : Int) - (a : Int) = (l : Int) := by omega
  have e1 : (l : Int).tdiv 4 = (q : Int) := by rw [← hq]; rfl
  have hl8 : (8 : Int) ≤ (l : Int) := by omega
  have hli : (l : Int) ≤ 1099511627776 := by omega
  have hqi : (q : Int) ≤ 1099511627776 := by omega
  have hai : (a : Int) ≤ 1099511627776 := by omega
  have kA : Keep No w (w.alloc (.cells #[.int .i64 0] 3)) := (Keep.refl _ _).alloc _
  have hgs : w.heap.size ≠ g := by have := h.lt; omega
  have h1 := h.keep kA (fun e => e)
  have hbx := BoxI.new w
  have hraw : ∀ r : Nat × Nat, rawPivot ltInt d a b = r → choosePivot ltInt d a b = (r.1, hintOf r.2) := fun r hr => by rw [choosePivot_eq, hr]
  by_cases h50 : 50 ≤ l
  · have h50i : (50 : Int) ≤ (l : Int) := by omega
    have m1 := medadj_spec (cap := cap) (a := a + q) (n := 0) h1 hbx hgs (by omega) (by omega) (by omega) hsz
    have c1 := medianAdjacent_mem ltInt d (a + q) 0
    have n1 := medianAdjacent_count ltInt d (a + q) 0
    have hr : rawPivot ltInt d a b = median ltInt d (medianAdjacent ltInt d (a + q) 0).1 (medianAdjacent ltInt d (a + q * 2) (medianAdjacent ltInt d (a + q) 0).2).1
        (medianAdjacent ltInt d (a + q * 3) (medianAdjacent ltInt d (a + q * 2) (medianAdjacent ltInt d (a + q) 0).2).2).1 (medianAdjacent ltInt d (a + q * 3) (medianAdjacent ltInt d (a + q * 2) (medianAdjacent ltInt d (a + q) 0).2).2).2 := by
      unfold rawPivot
      rw [hl, hq, if_pos (by omega), if_pos h50, Nat.mul_one]
    generalize medianAdjacent ltInt d (a + q) 0 = r1 at *
    have m2 := fun (w' : World) (h : Row64 w' g off d) (hs : BoxI w' w.heap.size r1.2) => medadj_spec (cap := cap) (a := a + q * 2) (n := r1.2) h hs hgs (by omega) (by omega) (by omega) hsz
    have c2 := medianAdjacent_mem ltInt d (a + q * 2) r1.2
    have n2 := medianAdjacent_count ltInt d (a + q * 2) r1.2
    generalize medianAdjacent ltInt d (a + q * 2) r1.2 = r2 at *
    have m3 := fun (w' : World) (h : Row64 w' g off d) (hs : BoxI w' w.heap.size r2.2) => medadj_spec (cap := cap) (a := a + q * 3) (n := r2.2) h hs hgs (by omega) (by omega) (by omega) hsz
    have c3 := medianAdjacent_mem ltInt d (a + q * 3) r2.2
    have n3 := medianAdjacent_count ltInt d (a + q * 3) r2.2
    generalize medianAdjacent ltInt d (a + q * 3) r2.2 = r3 at *
    have m4 := fun (w' : World) (h : Row64 w' g off d) (hs : BoxI w' w.heap.size r3.2) => median_spec (cap := cap) (a := r1.1) (b := r2.1) (c := r3.1) (n := r3.2) h hs hgs (by omega) (by omega) (by omega) (by omega) hsz
    have hch := hraw _ hr
    generalize median ltInt d r1.1 r2.1 r3.1 r3.2 = r4 at *
    have H := Lib.hid (And.intro m1 (And.intro m2 (And.intro m3 (And.intro m4 (And.intro hch kA)))))
    clear m1 m2 m3 m4 hch kA h h1 hbx hraw hr c1 c2 c3 n1 n2 n3 hl hq hab hb
    go_enter Try.func109, Try.ntmps109
    go_wp2_with fail
    refine H.out.1.mono ?_
    rintro e w1 ⟨rfl, b1, g1, k1⟩
    go_wp2_with fail
    refine (H.out.2.1 _ g1 b1).mono ?_
    rintro e w2 ⟨rfl, b2, g2, k2⟩
    go_wp2_with fail
    refine (H.out.2.2.1 _ g2 b2).mono ?_
    rintro e w3 ⟨rfl, b3, g3, k3⟩
    go_wp2_with fail
    refine (H.out.2.2.2.1 _ g3 b3).mono ?_
    rintro e w4 ⟨rfl, b4, g4, k4⟩
    have z := cell_of b4 0
    simp at z
    have hK : Keep No w w4 := H.out.2.2.2.2.2.absorb (((k1.trans k2 (fun _ _ e => e)).trans k3 (fun _ _ e => e)).trans k4 (fun _ _ e => e)) (fun b e => by have e : b = w.heap.size := e; omega)
    clear b1 b2 b3 g1 g2 g3 k1 k2 k3 k4 b4
    by_cases hz : r4.2 = 0
    · have hzi : (r4.2 : Int) = 0 := by omega
      rw [hzi] at z
      have H2 := Lib.hid hz
      clear hz hzi
      go_wp2
      go_ret2
      rw [H.out.2.2.2.2.1]
      simp only []
      rw [H2.out]
      exact ⟨rfl, g4, hK⟩
    · by_cases hz2 : r4.2 = 12
      · have hzi : (r4.2 : Int) = 12 := by omega
        rw [hzi] at z
        have H2 := Lib.hid hz2
        clear hz hz2 hzi
        go_wp2
        go_ret2
        rw [H.out.2.2.2.2.1]
        simp only []
        rw [H2.out]
        exact ⟨rfl, g4, hK⟩
      · have hzi : ((r4.2 : Int) == 0) = false := by simp; omega
        have hzi2 : ((r4.2 : Int) == 12) = false := by simp; omega
        have H2 := Lib.hid (And.intro hz hz2)
        clear hz hz2
        go_wp2
        go_ret2
        rw [H.out.2.2.2.2.1]
        have e : hintOf r4.2 = .unknown := by unfold hintOf; rw [if_neg H2.out.1, if_neg H2.out.2]
        simp only [e]
        exact ⟨rfl, g4, hK⟩
  · have h50i : ¬ (50 : Int) ≤ (l : Int) := by omega
    have m4 := median_spec (cap := cap) (a := a + q) (b := a + q * 2) (c := a + q * 3) (n := 0) h1 hbx hgs (by omega) (by omega) (by omega) (by omega) hsz
    have hr : rawPivot ltInt d a b = median ltInt d (a + q) (a + q * 2) (a + q * 3) 0 := by
      unfold rawPivot
      rw [hl, hq, if_pos (by omega), if_neg h50, Nat.mul_one]
    have hch := hraw _ hr
    generalize median ltInt d (a + q) (a + q * 2) (a + q * 3) 0 = r4 at *
    have H := Lib.hid (And.intro m4 (And.intro hch kA))
    clear m4 hch kA h h1 hbx hraw hr hl hq hab hb
    go_enter Try.func109, Try.ntmps109
    go_wp2_with fail
    refine H.out.1.mono ?_
    rintro e w4 ⟨rfl, b4, g4, k4⟩
    have z := cell_of b4 0
    simp at z
    have hK : Keep No w w4 := H.out.2.2.absorb k4 (fun b e => by have e : b = w.heap.size := e; omega)
    clear k4 b4
    by_cases hz : r4.2 = 0
    · have hzi : (r4.2 : Int) = 0 := by omega
      rw [hzi] at z
      have H2 := Lib.hid hz
      clear hz hzi
      go_wp2
      go_ret2
      rw [H.out.2.1]
      simp only []
      rw [H2.out]
      exact ⟨rfl, g4, hK⟩
    · by_cases hz2 : r4.2 = 12
      · have hzi : (r4.2 : Int) = 12 := by omega
        rw [hzi] at z
        have H2 := Lib.hid hz2
        clear hz hz2 hzi
        go_wp2
        go_ret2
        rw [H.out.2.1]
        simp only []
        rw [H2.out]
        exact ⟨rfl, g4, hK⟩
      · have hzi : ((r4.2 : Int) == 0) = false := by simp; omega
        have hzi2 : ((r4.2 : Int) == 12) = false := by simp; omega
        have H2 := Lib.hid (And.intro hz hz2)
        clear hz hz2
        go_wp2
        go_ret2
        rw [H.out.2.1]
        have e : hintOf r4.2 = .unknown := by unfold hintOf; rw [if_neg H2.out.1, if_neg H2.out.2]
        simp only [e]
        exact ⟨rfl, g4, hK⟩
end Go.Proofs.Ytpjggnfiocplmaa
