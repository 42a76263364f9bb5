/- A region that leaves its order open, in as many stages as it takes: of each stage first what computes (in any order), then the calls (one by one). No program is named here. -/
import Derived.Test.YtpjggnfiocplmaaDrawB
namespace Go.Dr
open Go
section
variable {P : Program} {ops : Array Oper} {Q : Exit → Act → World → Prop} {S : World → Prop}

def total : List (List Nat × List Nat) → Nat
  | [] => 0
  | (E, m) :: r => total r + m.length + E.length
def stagesCheck (ops : Array Oper) : List (List Nat × List Nat) → Array Bool → Bool
  | [], listed => (Region.ready .any ops listed).isEmpty
  | (E, m) :: r, listed => takeable .any ops (fun _ => false) E listed && forcedPre .any ops m (setAll E listed) && (m.all fun i => decide (i < ops.size)) && stagesCheck ops r (setAll m (setAll E listed))
def stagesN (P : Program) (ops : Array Oper) (Q : Exit → Act → World → Prop) (S : World → Prop) : List (List Nat × List Nat) → Act → World → Prop
  | [], a, w => wpList P ops Q [] a w
  | (E, m) :: r, a, w => earlyN P ops S (fun _ a' => midN P ops Q S (fun a2 w2 => stagesN P ops Q S r a2 w2) m a' w) E [] a

theorem stages_take (hs : Region.noSelect ops = true) (hQ : ∀ c a d v w, Q (.panic c) (Act.put a (some d) v) w → Q (.panic c) a w) :
    ∀ (st : List (List Nat × List Nat)) (listed : Array Bool) (a : Act) (w : World), Closed .any ops listed → S w → stagesCheck ops st listed = true → stagesN P ops Q S st a w → wpAnyT P .any ops Q S (fun _ => false) (total st) listed a w := by
  intro st
  induction st with
  | nil =>
    intro listed a w _ _ hc h
    simp only [stagesCheck, List.isEmpty_iff] at hc
    exact ⟨hc, h⟩
  | cons e r ih =>
    obtain ⟨E, m⟩ := e
    intro listed a w hcl hS hc h
    simp only [stagesCheck, Bool.and_eq_true] at hc
    obtain ⟨⟨⟨h2, h3⟩, hm'⟩, h4⟩ := hc
    simp only [stagesN] at h
    obtain ⟨Es, hE, he⟩ := earlyOk_of_N E [] a h
    obtain ⟨Ms, hM⟩ := picks_all ops m hm'
    refine early_take hs hQ hS E Es hE (total r + m.length) _ a hcl h2 he ?_
    intro a' ha'
    refine mid_pre m Ms hM (total r) _ a' _ _ (setAll_closed E listed hcl h2) hS h3 (midOk_of_N m Ms hM a' _ ha') ?_
    intro a2 w2 hS2 hcl2 hK
    exact ih _ a2 w2 hcl2 hS2 h4 hK

/-- **A region that leaves its order open, in stages.** -/
theorem wp_drawS {id : Nat} {a : Act} {w : World} (S : World → Prop) (st : List (List Nat × List Nat)) (hm : P.follows .mixedOrders = true)
    (hc : (Region.noSelect ops && stagesCheck ops st (Array.replicate ops.size false) && (total st == ops.size)) = true)
    (hQ : ∀ c a d v w, Q (.panic c) (Act.put a (some d) v) w → Q (.panic c) a w) (hS : S w.drew)
    (h : stagesN P ops Q S st a w.drew) : (Code.region id ops true).wp P Q a w := by
  simp only [Bool.and_eq_true, beq_iff_eq] at hc
  obtain ⟨⟨h1, h2⟩, h3⟩ := hc
  refine wp_region_any hm (wpAny_of_T (S := S) (T := fun _ => false) _ _ _ _ ?_)
  generalize hl : Array.replicate ops.size false = l at h2 ⊢
  have hcl : Closed .any ops l := by
    intro j o hj hl'
    have hlt : j < ops.size := (Array.getElem?_eq_some_iff.1 hj).1
    subst hl
    simp [hlt] at hl'
  rw [← h3]
  exact stages_take h1 hQ st l a w.drew hcl hS h2 h
end
end Go.Dr
