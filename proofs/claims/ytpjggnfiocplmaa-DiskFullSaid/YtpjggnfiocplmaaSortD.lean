/- Sorting numbers: the pivot. -/
import Derived.Test.YtpjggnfiocplmaaSortC
import Derived.Sort.LotD4
namespace Go.Proofs.Ytpjggnfiocplmaa
open Go Go.RowKit Go.Sort

/-- A box that holds n. -/
def BoxI (w : World) (s : Nat) (n : Nat) : Prop := w.heap[s]? = some (.cells #[.int .i64 n] 3 (0, 0))

set_option maxRecDepth 100000 in
set_option maxHeartbeats 2000000 in
theorem order2_spec {w : World} {g off cap a b s n : Nat} {d : Array Int} (h : Row64 w g off d) (hs : BoxI w s n) (hsg : s ≠ g) (ha : a < d.size) (hb : b < d.size) (hn : n ≤ 1000) (_ : d.size ≤ 1099511627776) :
    Calls Try.prog 123 #[.slice (some ⟨g, off, none⟩) d.size cap, .int .i64 a, .int .i64 b, .pointer (some ⟨s, 0, none⟩)] w fun e w' =>
      e = .returned (.tuple #[.int .i64 (order2 ltInt d a b n).1, .int .i64 (order2 ltInt d a b n).2.1]) ∧ BoxI w' s (order2 ltInt d a b n).2.2 ∧ Row64 w' g off d ∧ Keep (· = s) w w' := by
  obtain ⟨G, hG⟩ : ∃ G : Nat → Int, ∀ t, G t = d[t]! := ⟨fun t => d[t]!, fun _ => rfl⟩
  have hcw : ∀ t, t < d.size → w.cell? ⟨g, off + t, none⟩ = some (.int .u64 (G t)) := fun t ht => by rw [hG]; exact h.cell ht
  have c0 := cell_of hs 0
  have f0 := frozen_of hs 0
  simp at c0
  have h1 : ltInt (G b) (G a) = true → order2 ltInt d a b n = (b, a, n + 1) := fun hl => by unfold order2; rw [← hG, ← hG, hl]; rfl
  have h2 : ltInt (G b) (G a) = false → order2 ltInt d a b n = (a, b, n) := fun hl => by unfold order2; rw [← hG, ← hG, hl]; rfl
  have HH := Lib.hid (And.intro h1 (And.intro h2 (And.intro h hs)))
  clear h1 h2 h hs hG
  go_enter Try.func123, Try.ntmps123
  go_wp2
  go_quiet (first | (go_at_call 112; refine Calls.quiet_of_same (less_spec _ _ _)))
  go_wp2
  · have hl : ltInt (G b) (G a) = true := by assumption
    go_ret2
    rw [HH.out.1 hl]
    have hK : Keep (· = s) w ((w.drewN nq).setCell ⟨s, 0, none⟩ (.int .i64 ((n : Int) + 1))) := Keep.setCell (F := (· = s)) ((Keep.refl _ _).drewN nq) (p := ⟨s, 0, none⟩) (.inl rfl) _
    have hb2 := heap_setCell_same (w := w.drewN nq) (i := 0) (u := .int .i64 ((n : Int) + 1)) HH.out.2.2.2
    exact ⟨rfl, by simpa [BoxI] using hb2, HH.out.2.2.1.keep hK (fun e => hsg e.symm), hK⟩
  · have hl : ltInt (G b) (G a) = false := by assumption
    go_ret2
    rw [HH.out.2.1 hl]
    exact ⟨rfl, HH.out.2.2.2, HH.out.2.2.1.keep ((Keep.refl No _).drewN _) (fun e => e), (Keep.refl _ _).drewN _⟩

theorem order2_lt {d : Array Int} {a b n : Nat} (ha : a < d.size) (hb : b < d.size) : (order2 ltInt d a b n).1 < d.size ∧ (order2 ltInt d a b n).2.1 < d.size ∧ (order2 ltInt d a b n).2.2 ≤ n + 1 := by
  unfold order2
  split
  · exact ⟨hb, ha, Nat.le_refl _⟩
  · exact ⟨ha, hb, by simp⟩

set_option maxRecDepth 100000 in
set_option maxHeartbeats 2000000 in
theorem median_spec {w : World} {g off cap a b c s n : Nat} {d : Array Int} (h : Row64 w g off d) (hs : BoxI w s n) (hsg : s ≠ g) (ha : a < d.size) (hb : b < d.size) (hc : c < d.size) (hn : n ≤ 900) (hsz : d.size ≤ 1099511627776) :
    Calls Try.prog 121 #[.slice (some ⟨g, off, none⟩) d.size cap, .int .i64 a, .int .i64 b, .int .i64 c, .pointer (some ⟨s, 0, none⟩)] w fun e w' =>
      e = .returned (.int .i64 (median ltInt d a b c n).1) ∧ BoxI w' s (median ltInt d a b c n).2 ∧ Row64 w' g off d ∧ Keep (· = s) w w' := by
  have l1 := order2_lt (n := n) ha hb
  have q1 := order2_spec (cap := cap) h hs hsg ha hb (by omega) hsz
  have hm : median ltInt d a b c n = ((order2 ltInt d (order2 ltInt d a b n).1 (order2 ltInt d (order2 ltInt d a b n).2.1 c (order2 ltInt d a b n).2.2).1 (order2 ltInt d (order2 ltInt d a b n).2.1 c (order2 ltInt d a b n).2.2).2.2).2.1,
    (order2 ltInt d (order2 ltInt d a b n).1 (order2 ltInt d (order2 ltInt d a b n).2.1 c (order2 ltInt d a b n).2.2).1 (order2 ltInt d (order2 ltInt d a b n).2.1 c (order2 ltInt d a b n).2.2).2.2).2.2) := rfl
  rw [hm]
  generalize order2 ltInt d a b n = r1 at *
  have l2 := order2_lt (n := r1.2.2) l1.2.1 hc
  have q2 := fun (w' : World) (h : Row64 w' g off d) (hs : BoxI w' s r1.2.2) => order2_spec (cap := cap) h hs hsg l1.2.1 hc (by omega) hsz
  generalize order2 ltInt d r1.2.1 c r1.2.2 = r2 at *
  have q3 := fun (w' : World) (h : Row64 w' g off d) (hs : BoxI w' s r2.2.2) => order2_spec (cap := cap) h hs hsg l1.1 l2.1 (by omega) hsz
  generalize order2 ltInt d r1.1 r2.1 r2.2.2 = r3 at *
  clear h hs hm
  go_enter Try.func121, Try.ntmps121
  go_wp2_with fail
  refine q1.mono ?_
  rintro e w1 ⟨rfl, hs1, h1, k1⟩
  go_wp2_with fail
  refine (q2 _ h1 hs1).mono ?_
  rintro e w2 ⟨rfl, hs2, h2, k2⟩
  go_wp2_with fail
  refine (q3 _ h2 hs2).mono ?_
  rintro e w3 ⟨rfl, hs3, h3, k3⟩
  clear q1 q2 q3
  go_wp2
  go_ret
  exact ⟨rfl, hs3, h3, (k1.trans k2 (fun _ _ e => e)).trans k3 (fun _ _ e => e)⟩

set_option maxRecDepth 100000 in
set_option maxHeartbeats 2000000 in
theorem medadj_spec {w : World} {g off cap a s n : Nat} {d : Array Int} (h : Row64 w g off d) (hs : BoxI w s n) (hsg : s ≠ g) (ha : 1 ≤ a) (hb : a + 1 < d.size) (hn : n ≤ 900) (hsz : d.size ≤ 1099511627776) :
    Calls Try.prog 120 #[.slice (some ⟨g, off, none⟩) d.size cap, .int .i64 a, .pointer (some ⟨s, 0, none⟩)] w fun e w' =>
      e = .returned (.int .i64 (medianAdjacent ltInt d a n).1) ∧ BoxI w' s (medianAdjacent ltInt d a n).2 ∧ Row64 w' g off d ∧ Keep (· = s) w w' := by
  have q := median_spec (cap := cap) (a := a - 1) (b := a) (c := a + 1) h hs hsg (by omega) (by omega) hb hn hsz
  have e1 : ((a - 1 : Nat) : Int) = (a : Int) - 1 := by omega
  have e2 : ((a + 1 : Nat) : Int) = (a : Int) + 1 := by omega
  rw [e1, e2] at q
  unfold medianAdjacent
  clear e1 e2 h hs
  go_enter Try.func120, Try.ntmps120
  go_wp2_with (go_at_call 121; refine q.mono ?_; rintro e w1 ⟨rfl, hs1, h1, k1⟩)
  go_ret
  exact ⟨rfl, hs1, h1, k1⟩
end Go.Proofs.Ytpjggnfiocplmaa
