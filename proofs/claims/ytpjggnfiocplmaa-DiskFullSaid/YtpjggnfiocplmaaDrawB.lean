/- A region that leaves its order open, in four parts: what computes first, then calls, then what computes from them, then the rest one by one. No program is named here. -/
import Derived.Test.YtpjggnfiocplmaaDraw
namespace Go.Dr
open Go
section
variable {P : Program} {ops : Array Oper} {Q : Exit → Act → World → Prop} {md : Region.Mode} {S : World → Prop} {T : Nat → Bool}

def forcedPre (md : Region.Mode) (ops : Array Oper) : List Nat → Array Bool → Bool
  | [], _ => true
  | i :: r, listed => Region.ready md ops listed == [i] && forcedPre md ops r (listed.setIfInBounds i true)

theorem mid_pre : ∀ (m : List Nat) (Ms : List Oper), Picks ops m Ms → ∀ (fuel : Nat) (listed : Array Bool) (a : Act) (w : World) (K : Act → World → Prop), Closed md ops listed → S w → forcedPre md ops m listed = true →
    midOk P ops Q S K Ms a w → (∀ a w, S w → Closed md ops (setAll m listed) → K a w → wpAnyT P md ops Q S T fuel (setAll m listed) a w) → wpAnyT P md ops Q S T (fuel + m.length) listed a w := by
  intro m Ms hp
  induction hp using Picks.rec' with
  | h0 => intro fuel listed a w K hcl hS hf h hK; exact hK a w hS hcl h
  | h1 i o r l hi _ ih =>
    intro fuel listed a w K hcl hS hf h hK
    simp only [forcedPre, Bool.and_eq_true, beq_iff_eq] at hf
    rw [List.length_cons, ← Nat.add_assoc]
    have hr : i ∈ Region.ready md ops listed := by rw [hf.1]; simp
    refine ⟨fun h0 => (by rw [hf.1] at h0; cases h0), fun j hj => ?_⟩
    rw [hf.1, List.mem_singleton] at hj
    subst hj
    unfold midOk at h
    unfold wpOp
    simp only [hi]
    split
    · rename_i hw
      rw [if_pos hw] at h
      exact .inl (Oper.wp_mono (fun a' w' h' => ⟨fun _ => h'.1, ih fuel _ a' w' K (hcl.set hr) h'.1 hf.2 h'.2 hK⟩) h)
    · rename_i hw
      rw [if_neg hw] at h
      exact ⟨fun _ => h.1, ih fuel _ _ w K (hcl.set hr) h.1 hf.2 h.2 hK⟩

def drawCheck2 (ops : Array Oper) (E m E2 m2 : List Nat) : Bool :=
  Region.noSelect ops && takeable .any ops (fun _ => false) E (Array.replicate ops.size false) && forcedPre .any ops m (setAll E (Array.replicate ops.size false)) &&
    takeable .any ops (fun _ => false) E2 (setAll m (setAll E (Array.replicate ops.size false))) && forcedSeq .any ops m2 (setAll E2 (setAll m (setAll E (Array.replicate ops.size false)))) &&
    (E.length + (m.length + (E2.length + m2.length)) == ops.size)

theorem setAll_closed : ∀ (E : List Nat) (listed : Array Bool), Closed md ops listed → takeable md ops T E listed = true → Closed md ops (setAll E listed) := by
  intro E
  induction E with
  | nil => intro listed h _; exact h
  | cons i r ih =>
    intro listed h ht
    simp only [takeable, Bool.and_eq_true, Bool.not_eq_true'] at ht
    obtain ⟨⟨⟨⟨_, hr⟩, _⟩, _⟩, ht⟩ := ht
    exact ih _ (h.set (by simpa using hr)) ht

/-- **A region that leaves its order open, in four parts.** -/
theorem wp_drawN2 {id : Nat} {a : Act} {w : World} (S : World → Prop) (E m E2 m2 : List Nat) (hm : P.follows .mixedOrders = true)
    (hc : (drawCheck2 ops E m E2 m2 && ((m ++ m2).all fun i => decide (i < ops.size))) = true)
    (hQ : ∀ c a d v w, Q (.panic c) (Act.put a (some d) v) w → Q (.panic c) a w) (hS : S w.drew)
    (h : earlyN P ops S (fun _ a' => midN P ops Q S (fun a2 w2 => earlyN P ops S (fun _ a3 => midN P ops Q S (fun a4 w4 => wpList P ops Q [] a4 w4) m2 a3 w2) E2 [] a2) m a' w.drew) E [] a) : (Code.region id ops true).wp P Q a w := by
  simp only [Bool.and_eq_true, List.all_append] at hc
  obtain ⟨hc, hm', ht'⟩ := hc
  simp only [drawCheck2, Bool.and_eq_true, beq_iff_eq] at hc
  obtain ⟨⟨⟨⟨⟨h1, h2⟩, h3⟩, h4⟩, h5⟩, h6⟩ := hc
  obtain ⟨Es, hE, he⟩ := earlyOk_of_N E [] a h
  obtain ⟨Ms, hM⟩ := picks_all ops m hm'
  obtain ⟨Ms2, hM2⟩ := picks_all ops m2 ht'
  refine wp_region_any hm (wpAny_of_T (S := S) (T := fun _ => false) _ _ _ _ ?_)
  generalize hl : Array.replicate ops.size false = l at h2 h3 h4 h5 ⊢
  have hcl : Closed .any ops l := by
    intro j o hj hl'
    have hlt : j < ops.size := (Array.getElem?_eq_some_iff.1 hj).1
    subst hl
    simp [hlt] at hl'
  rw [← h6, Nat.add_comm]
  refine early_take h1 hQ hS E Es hE (m.length + (E2.length + m2.length)) _ a hcl h2 he ?_
  intro a' ha'
  rw [Nat.add_comm]
  refine mid_pre m Ms hM (E2.length + m2.length) _ a' _ _ (setAll_closed E l hcl h2) hS h3 (midOk_of_N m Ms hM a' _ ha') ?_
  intro a2 w2 hS2 hcl2 hK
  obtain ⟨Es2, hE2, he2⟩ := earlyOk_of_N E2 [] a2 hK
  rw [Nat.add_comm]
  refine early_take h1 hQ hS2 E2 Es2 hE2 m2.length _ a2 hcl2 h4 he2 ?_
  intro a3 ha3
  exact mid_take m2 Ms2 hM2 _ [] [] .nil (by simp) _ a3 _ (fun i hi => by simp at hi) (by simpa using h5) (midOk_of_N m2 Ms2 hM2 a3 _ ha3)
end
end Go.Dr
