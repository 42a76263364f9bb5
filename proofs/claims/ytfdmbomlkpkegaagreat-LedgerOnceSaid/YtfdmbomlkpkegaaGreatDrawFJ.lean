/- A region that leaves its order open, with one operation that may come at any place. A region that leaves its order open: two operations come in either order, the others in stages. -/
import Derived.Test.YtfdmbomlkpkegaaGreatBase

/-! ## DrawF -/
namespace Go.Dr
open Go
section
variable {P : Program} {ops : Array Oper} {Q : Exit → Act → World → Prop} {md : Region.Mode} {S : World → Prop} {T : Nat → Bool}

/-- Operation j comes ahead of these, between two of them, or behind. -/
def floatN (P : Program) (ops : Array Oper) (Q : Exit → Act → World → Prop) (S : World → Prop) (K : Act → World → Prop) (j : Nat) : List Nat → Act → World → Prop
  | [], a, w => midN P ops Q S K [j] a w
  | i :: r, a, w => midN P ops Q S K (j :: i :: r) a w ∧ midN P ops Q S (fun a' w' => floatN P ops Q S K j r a' w') [i] a w
def floatCheck (md : Region.Mode) (ops : Array Oper) (j : Nat) (t : List Nat) : List Nat → Array Bool → Bool
  | [], listed => Region.ready md ops listed == [j] && forcedSeq md ops t (listed.setIfInBounds j true)
  | i :: r, listed => (Region.ready md ops listed).all (fun x => x == i || x == j) && !(Region.ready md ops listed).isEmpty && forcedSeq md ops (i :: r ++ t) (listed.setIfInBounds j true) && floatCheck md ops j t r (listed.setIfInBounds i true)

theorem float_take {K : Act → World → Prop} (t : List Nat) {Ts : List Oper} (hTs : Picks ops t Ts) (hT : ∀ i ∈ t, T i = true) (hK : ∀ a w, K a w → wpList P ops Q Ts a w) (j : Nat) :
    ∀ (m : List Nat) (Ms : List Oper), Picks ops m Ms → (hj : ∃ o, ops[j]? = some o) → ∀ (listed : Array Bool) (a : Act) (w : World), floatCheck md ops j t m listed = true → floatN P ops Q S K j m a w →
      wpAnyT P md ops Q S T (m.length + 1 + t.length) listed a w := by
  intro m Ms hp hj
  obtain ⟨oj, hj⟩ := hj
  have step : ∀ (i : Nat) (oi : Oper), ops[i]? = some oi → ∀ (K1 : Act → World → Prop) (a : Act) (w : World), midN P ops Q S K1 [i] a w →
      wpOp P ops Q i (fun a' w' => S w' ∧ K1 a' w') a w := by
    intro i oi hi K1 a w h
    obtain ⟨o, ho, h⟩ := h
    have ho' : ops[i]? = some o := by rw [← Array.getElem?_toList]; exact ho
    rw [hi] at ho'
    cases ho'
    unfold wpOp
    simp only [hi]
    split
    · rename_i hw
      rw [if_pos hw] at h
      exact .inl (Oper.wp_mono (fun a' w' h' => ⟨h'.1, h'.2⟩) h)
    · rename_i hw
      rw [if_neg hw] at h
      exact ⟨h.1, h.2⟩
  have cons1 : ∀ (i : Nat) (r : List Nat) (a : Act) (w : World), midN P ops Q S K (i :: r) a w → midN P ops Q S (fun a' w' => midN P ops Q S K r a' w') [i] a w := by
    intro i r a w h
    exact h
  induction hp using Picks.rec' with
  | h0 =>
    intro listed a w hc h
    simp only [floatCheck, Bool.and_eq_true, beq_iff_eq] at hc
    have := mid_take (T := T) (S := S) (Q := Q) (P := P) (md := md) [j] [oj] (Picks.cons hj Picks.nil) (0 + 1 + t.length) t Ts hTs (by simp) listed a w hT (by
      show forcedSeq md ops (j :: t) listed = true
      simp only [forcedSeq, Bool.and_eq_true, beq_iff_eq]
      exact hc) (midOk_mono (fun a w h => hK a w h) _ _ _ (midOk_of_N [j] [oj] (Picks.cons hj Picks.nil) a w h))
    exact this
  | h1 i o r l hi hr ih =>
    intro listed a w hc h
    simp only [floatCheck, Bool.and_eq_true, Bool.not_eq_true', List.all_eq_true, Bool.or_eq_true, beq_iff_eq] at hc
    obtain ⟨⟨⟨hall, hne⟩, hfs⟩, hfc⟩ := hc
    obtain ⟨hA, hB⟩ := h
    rw [List.length_cons, show r.length + 1 + 1 + t.length = (r.length + 1 + t.length) + 1 by omega]
    refine ⟨fun h0 => (by rw [h0] at hne; simp at hne), fun x hx => ?_⟩
    rcases hall x hx with rfl | rfl
    · exact wpOp_mono (fun a' w' h' => ⟨fun _ => h'.1, ih _ a' w' hfc h'.2⟩) (step x o hi _ a w hB)
    · refine wpOp_mono (fun a' w' h' => ⟨fun _ => h'.1, ?_⟩) (step x oj hj _ a w (cons1 x (i :: r) a w hA))
      have := mid_take (T := T) (S := S) (Q := Q) (P := P) (md := md) (i :: r) (o :: l) (Picks.cons hi hr) (r.length + 1 + t.length) t Ts hTs (by simp) _ a' w' hT hfs (midOk_mono (fun a w h => hK a w h) _ _ _ (midOk_of_N (i :: r) (o :: l) (Picks.cons hi hr) a' w' h'.2))
      exact this

/-- **A region that leaves its order open, one operation (j) of which may come at any place.** E: taken first; m: one by one; t: behind all. -/
theorem wp_drawF {id : Nat} {a : Act} {w : World} (S : World → Prop) (E m t : List Nat) (j : Nat) (hm : P.follows .mixedOrders = true)
    (hc : (Region.noSelect ops && takeable .any ops t.contains E (Array.replicate ops.size false) && floatCheck .any ops j t m (setAll E (Array.replicate ops.size false)) && (E.length + (m.length + 1 + t.length) == ops.size) &&
      ((j :: m ++ t).all fun i => decide (i < ops.size))) = true)
    (hQ : ∀ c a d v w, Q (.panic c) (Act.put a (some d) v) w → Q (.panic c) a w) (hS : S w.drew)
    (h : earlyN P ops S (fun _ a' => floatN P ops Q S (tailN P ops Q t []) j m a' w.drew) E [] a) : (Code.region id ops true).wp P Q a w := by
  simp only [Bool.and_eq_true, beq_iff_eq, List.all_append, List.all_cons, decide_eq_true_eq] at hc
  obtain ⟨⟨⟨⟨h1, h2⟩, h3⟩, h4⟩, ⟨hj, hm'⟩, ht'⟩ := hc
  obtain ⟨Es, hE, he⟩ := earlyOk_of_N E [] a h
  obtain ⟨Ms, hM⟩ := picks_all ops m hm'
  obtain ⟨Ts, hT⟩ := picks_all ops t ht'
  refine wp_region_any hm (wpAny_of_T (S := S) (T := t.contains) _ _ _ _ ?_)
  generalize hl : Array.replicate ops.size false = l at h2 h3 ⊢
  have hcl : Closed .any ops l := by
    intro j o hj hl'
    have hlt : j < ops.size := (Array.getElem?_eq_some_iff.1 hj).1
    subst hl
    simp [hlt] at hl'
  rw [← h4, Nat.add_comm]
  refine early_take h1 hQ hS E Es hE (m.length + 1 + t.length) _ a hcl h2 he ?_
  intro a' ha'
  refine float_take t hT (fun i hi => by simpa using hi) (fun a w h => ?_) j m Ms hM ⟨_, Array.getElem?_eq_getElem hj⟩ _ a' _ h3 ha'
  obtain ⟨Ts', hT', h⟩ := picks_of_tail t [] a w h
  rw [hT.uniq hT']
  exact h
end
end Go.Dr

/-! ## DrawJ -/
namespace Go.Dr
open Go
section
variable {P : Program} {ops : Array Oper} {Q : Exit → Act → World → Prop}

end
end Go.Dr
