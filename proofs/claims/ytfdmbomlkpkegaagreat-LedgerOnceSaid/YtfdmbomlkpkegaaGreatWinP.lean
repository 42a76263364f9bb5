/- Windows: the plain law. -/
import Derived.Test.YtfdmbomlkpkegaaGreatRunP
namespace Go.Proofs.YtfdmbomlkpkegaaGreat

def hasB (l : List RunN) (n : Nat) : Bool := match l[findR l n]? with
  | none => false
  | some r => decide (r.1 ≤ n)
theorem hasB_iff {l : List RunN} (h : RSet l) (n : Nat) : hasB l n = true ↔ HasR l n := by
  rw [has_find h]
  unfold hasB
  split
  · rename_i e
    simp [e]
  · rename_i r e
    simp [e]
structure WinS where
  low : Nat
  width : Nat
  set : List RunN
deriving DecidableEq
def WinS.Had (w : WinS) (n : Nat) : Prop := n ≤ w.low ∨ HasR w.set n
def WinS.had (w : WinS) (n : Nat) : Bool := decide (n ≤ w.low) || hasB w.set n
def WinS.takes (w : WinS) (n : Nat) : Bool := !w.had n && decide (n ≤ w.low + w.width)
def WinS.lowC (w : WinS) : Nat := match gapR w.set (w.low + 1) with
  | none => w.low
  | some n => n - 1
def WinS.closed (w : WinS) : WinS := ⟨w.lowC, w.width, fromR w.set (w.lowC + 1)⟩
def WinS.put (w : WinS) (n : Nat) : WinS := if w.takes n = true then (⟨w.low, w.width, spanR w.set n n⟩ : WinS).closed else w
def WinS.skip (w : WinS) (b : Nat) : WinS := if b ≤ w.low + 1 then w else (⟨b - 1, w.width, w.set⟩ : WinS).closed
def WinS.new (width : Nat) : WinS := ⟨0, width, []⟩
structure WinS.Ok (w : WinS) : Prop where
  set : RSet w.set
  low : w.low < 4611686018427387904
  width : 1 ≤ w.width ∧ w.width ≤ 1024
  above : ∀ n, HasR w.set n → w.low + 1 < n ∧ n ≤ w.low + w.width ∧ n < 4611686018427387904
theorem WinS.Ok.new {width : Nat} (h : 1 ≤ width ∧ width ≤ 1024) : (WinS.new width).Ok := ⟨RSet.nil, (by show (0 : Nat) < _; decide), h, fun n hn => (HasR.nil _ hn).elim⟩
theorem WinS.Ok.had {w : WinS} (h : w.Ok) (n : Nat) : w.had n = true ↔ w.Had n := by
  unfold WinS.had WinS.Had
  rw [Bool.or_eq_true, decide_eq_true_eq, hasB_iff h.set]
theorem WinS.Ok.takes {w : WinS} (h : w.Ok) (n : Nat) : w.takes n = true ↔ ¬ w.Had n ∧ n ≤ w.low + w.width := by
  unfold WinS.takes
  rw [Bool.and_eq_true, decide_eq_true_eq, ← h.had]
  cases w.had n <;> simp
theorem RSet.last {l : List RunN} (h : RSet l) {r : RunN} (hr : r ∈ l) : HasR l r.2 := ⟨r, hr, (h.run r hr).1, Nat.le_refl _⟩
theorem RSet.first {l : List RunN} (h : RSet l) {r : RunN} (hr : r ∈ l) : HasR l r.1 := ⟨r, hr, Nat.le_refl _, (h.run r hr).1⟩

theorem closed_ok {w : WinS} (h : RSet w.set) (hb : ∀ r ∈ w.set, r.2 < 18446744073709551615) :
    RSet w.closed.set ∧ (∀ n, w.closed.Had n ↔ w.Had n) ∧ (∀ n, HasR w.closed.set n → w.closed.low + 1 < n ∧ HasR w.set n) ∧ w.low ≤ w.closed.low ∧ (w.closed.low = w.low ∨ HasR w.set w.closed.low) := by
  obtain ⟨m, hm⟩ := gapR_some (n := w.low + 1) hb
  obtain ⟨g1, g2, g3⟩ := gapR_ok h hm
  have e : w.lowC = m - 1 := by unfold WinS.lowC; rw [hm]
  have e1 : m - 1 + 1 = m := by omega
  obtain ⟨f1, f2⟩ := fromR_ok h m
  unfold WinS.closed WinS.Had
  rw [e, e1]
  simp only
  refine ⟨f1, fun n => ?_, fun n hn => ?_, by omega, ?_⟩
  · rw [f2]
    constructor
    · rintro (a | a)
      · by_cases hl : n ≤ w.low
        · exact .inl hl
        · exact .inr (g3 n (by omega) (by omega))
      · exact .inr a.1
    · rintro (a | a)
      · exact .inl (by omega)
      · by_cases hl : n ≤ m - 1
        · exact .inl hl
        · exact .inr ⟨a, by omega⟩
  · obtain ⟨a, b⟩ := (f2 n).1 hn
    refine ⟨?_, a⟩
    rcases Nat.lt_or_ge m n with hlt | hge
    · omega
    · have : n = m := by omega
      subst this
      exact (g2 a).elim
  · by_cases hl : m - 1 = w.low
    · exact .inl hl
    · exact .inr (g3 (m - 1) (by omega) (by omega))
theorem WinS.Ok.skip {w : WinS} (h : w.Ok) {b : Nat} (hb : b ≤ 4611686018427387904) : (w.skip b).Ok ∧ (w.skip b).width = w.width ∧ w.low ≤ (w.skip b).low ∧ ∀ n, (w.skip b).Had n ↔ w.Had n ∨ n < b := by
  unfold WinS.skip
  by_cases hc : b ≤ w.low + 1
  · rw [if_pos hc]
    exact ⟨h, rfl, Nat.le_refl _, fun n => ⟨.inl, fun a => a.elim id (fun (c : n < b) => .inl (by omega))⟩⟩
  · rw [if_neg hc]
    have hw := h.width
    have hl := h.low
    obtain ⟨c1, c2, c3, c4, c5⟩ := closed_ok (w := ⟨b - 1, w.width, w.set⟩) h.set (fun r hr => by have := (h.above _ (h.set.last hr)).2; omega)
    simp only at c2 c3 c4 c5
    refine ⟨⟨c1, ?_, hw, fun n hn => ⟨(c3 n hn).1, ?_⟩⟩, rfl, by omega, fun n => ?_⟩
    · rcases c5 with c5 | c5
      · rw [c5]; omega
      · exact (h.above _ c5).2.2
    · have := (h.above n (c3 n hn).2).2
      have e : (⟨b - 1, w.width, w.set⟩ : WinS).closed.width = w.width := rfl
      omega
    · rw [c2]
      unfold WinS.Had
      simp only
      constructor
      · rintro (a | a)
        · exact .inr (by omega)
        · exact .inl (.inr a)
      · rintro ((a | a) | a)
        · exact .inl (by omega)
        · exact .inr a
        · exact .inl (by omega)
theorem WinS.Ok.put {w : WinS} (h : w.Ok) {n : Nat} (hn : n < 4611686018427387904) : (w.put n).Ok ∧ (w.put n).width = w.width ∧ w.low ≤ (w.put n).low ∧ ∀ m, (w.put n).Had m ↔ w.Had m ∨ (w.takes n = true ∧ m = n) := by
  unfold WinS.put
  by_cases ht : w.takes n = true
  · rw [if_pos ht]
    obtain ⟨t1, t2⟩ := (h.takes n).1 ht
    have hw := h.width
    have hl := h.low
    have hnl : w.low < n := Nat.lt_of_not_le (fun hc => t1 (.inl hc))
    obtain ⟨s1, s2⟩ := spanR_ok (f := n) (t := n) h.set (by omega)
    have hs2 : ∀ k, HasR (spanR w.set n n) k → w.low < k ∧ k ≤ w.low + w.width ∧ k < 4611686018427387904 := fun k hk => by
      rcases (s2 k).1 hk with a | a
      · have := h.above k a; omega
      · have : k = n := by omega
        subst this
        exact ⟨hnl, t2, hn⟩
    obtain ⟨c1, c2, c3, c4, c5⟩ := closed_ok (w := ⟨w.low, w.width, spanR w.set n n⟩) s1 (fun r hr => by have := (hs2 _ (s1.last hr)).2; omega)
    simp only at c2 c3 c4 c5
    refine ⟨⟨c1, ?_, hw, fun k hk => ⟨(c3 k hk).1, ?_⟩⟩, rfl, c4, fun m => ?_⟩
    · rcases c5 with c5 | c5
      · rw [c5]; exact hl
      · exact (hs2 _ c5).2.2
    · have := hs2 k (c3 k hk).2
      have e : (⟨w.low, w.width, spanR w.set n n⟩ : WinS).closed.width = w.width := rfl
      omega
    · rw [c2]
      unfold WinS.Had
      simp only [s2]
      constructor
      · rintro (a | a | a)
        · exact .inl (.inl a)
        · exact .inl (.inr a)
        · exact .inr ⟨ht, by omega⟩
      · rintro ((a | a) | ⟨_, a⟩)
        · exact .inl a
        · exact .inr (.inl a)
        · exact .inr (.inr (by omega))
  · rw [if_neg ht]
    exact ⟨h, rfl, Nat.le_refl _, fun m => ⟨.inl, fun a => a.elim id (fun c => (ht c.1).elim)⟩⟩
/-- A window is what is done in it. -/
theorem WinS.Ok.ext {w v : WinS} (h : w.Ok) (k : v.Ok) (hw : w.width = v.width) (he : ∀ n, w.Had n ↔ v.Had n) : w = v := by
  have a1 : ∀ {w v : WinS}, w.Ok → (∀ n, w.Had n ↔ v.Had n) → v.low ≤ w.low := fun {w v} h he => by
    rcases Nat.lt_or_ge w.low v.low with hlt | hge
    · have := (he (w.low + 1)).2 (.inl (by omega))
      rcases this with t | t
      · omega
      · have := (h.above _ t).1; omega
    · exact hge
  have hlow : w.low = v.low := Nat.le_antisymm (a1 k (fun n => (he n).symm)) (a1 h he)
  have hset : w.set = v.set := RSet.ext h.set k.set (fun n => by
    constructor
    · intro t
      have t0 := (h.above _ t).1
      rcases (he n).1 (.inr t) with u | u
      · omega
      · exact u
    · intro t
      have t0 := (k.above _ t).1
      rcases (he n).2 (.inr t) with u | u
      · omega
      · exact u)
  cases w
  cases v
  simp only at hlow hset hw
  rw [hlow, hset, hw]
end Go.Proofs.YtfdmbomlkpkegaaGreat
