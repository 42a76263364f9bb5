/- A map's keys, sorted; a slice of numbers in memory. -/
import Derived.Test.YtpjggnfiocplmaaRow
import Derived.Test.YtpjggnfiocplmaaRel
namespace Go.Proofs.Ytpjggnfiocplmaa
open Go Go.RowKit Go.Sort

def sortedKeys (m : AMap) : List Int := (m.map (·.1)).mergeSort (fun x y => decide (x ≤ y))
/-- A slice that holds these numbers. -/
def NumsAt (w : World) (v : Value) (l : List Int) : Prop :=
  ∃ ao cap, v = .slice ao l.length cap ∧ l.length ≤ cap ∧ cap ≤ maxLen ∧ (l = [] ∨ ∃ g, ao = some ⟨g, 0, none⟩ ∧ Row64 w g 0 l.toArray)
theorem NumsAt.keep {w w' : World} {v : Value} {l : List Int} {F : Nat → Prop} (h : NumsAt w v l) (k : Keep F w w') (hn : ∀ g a b, v = .slice (some ⟨g, 0, none⟩) a b → ¬ F g) : NumsAt w' v l := by
  obtain ⟨ao, cap, rfl, h1, h2, h3⟩ := h
  refine ⟨ao, cap, rfl, h1, h2, ?_⟩
  rcases h3 with h3 | ⟨g, rfl, h3⟩
  · exact .inl h3
  · exact .inr ⟨g, rfl, h3.keep k (hn g _ _ rfl)⟩
theorem NumsAt.no {w w' : World} {v : Value} {l : List Int} (h : NumsAt w v l) (k : Keep No w w') : NumsAt w' v l := h.keep k (fun _ _ _ _ h => h)
theorem NumsAt.form {w : World} {v : Value} {l : List Int} (h : NumsAt w v l) : ∃ ao cap, v = .slice ao l.length cap ∧ l.length ≤ cap ∧ cap ≤ maxLen := by
  obtain ⟨ao, cap, h, h1, h2, _⟩ := h
  exact ⟨ao, cap, h, h1, h2⟩
theorem NumsAt.cell {w : World} {ao : Option Addr} {n cap : Nat} {l : List Int} (h : NumsAt w (.slice ao n cap) l) {j : Nat} {k : Int} (hj : l[j]? = some k) : ∃ g, ao = some ⟨g, 0, none⟩ ∧ w.cell? ⟨g, j, none⟩ = some (.int .u64 k) := by
  obtain ⟨ao', cap', h1, h2, h3, h4⟩ := h
  simp only [Value.slice.injEq] at h1
  obtain ⟨rfl, rfl, rfl⟩ := h1
  have hlt := (List.getElem?_eq_some_iff.1 hj).1
  rcases h4 with rfl | ⟨g, rfl, hR⟩
  · simp at hj
  · refine ⟨g, rfl, ?_⟩
    have := hR.cell (j := j) (by simpa using hlt)
    rw [Nat.zero_add] at this
    rw [this]
    have e : l.toArray[j]! = k := by
      rw [getElem!_pos l.toArray j (by simpa using hlt)]
      simpa using (List.getElem?_eq_some_iff.1 hj).2
    rw [e]

theorem mem_keys_iff (m : AMap) (k : Int) : k ∈ m.map (·.1) ↔ (mget m k).isSome = true := by
  induction m with
  | nil => simp [mget]
  | cons e m ih =>
    rw [mget_cons, List.map_cons, List.mem_cons]
    by_cases h : e.1 = k
    · simp [h]
    · rw [if_neg h, ← ih]
      constructor
      · rintro (h' | h')
        · exact absurd h'.symm h
        · exact h'
      · exact .inr
theorem Keys.nodup {m : AMap} (h : Keys m) : (m.map (·.1)).Nodup := List.pairwise_map.2 h
theorem sortedKeys_eq {a b : AMap} (ha : Sorted a) (hb : Keys b) (h : SameMap a b) : sortedKeys b = a.map (·.1) := by
  have hp : (sortedKeys b).Perm (a.map (·.1)) := by
    refine (List.mergeSort_perm _ _).trans ((List.perm_ext_iff_of_nodup hb.nodup ha.keys.nodup).2 (fun k => ?_))
    rw [mem_keys_iff, mem_keys_iff, h k]
  refine hp.eq_of_pairwise (le := fun x y => x ≤ y) (fun x y _ _ h1 h2 => Int.le_antisymm h1 h2) ?_ ?_
  · have := List.pairwise_mergeSort (le := fun x y : Int => decide (x ≤ y)) (fun x y z h1 h2 => by simp at h1 h2 ⊢; omega) (fun x y => by simp; omega) (b.map (·.1))
    exact this.imp (fun h => by simpa using h)
  · exact List.pairwise_map.2 (ha.imp (fun h => by omega))
theorem sortedKeys_mem {m : AMap} {k : Int} : k ∈ sortedKeys m ↔ (mget m k).isSome = true := by
  rw [← mem_keys_iff]
  exact (List.mergeSort_perm _ _).mem_iff
theorem sortedKeys_length (m : AMap) : (sortedKeys m).length = m.length := by
  unfold sortedKeys
  rw [(List.mergeSort_perm _ _).length_eq, List.length_map]
end Go.Proofs.Ytpjggnfiocplmaa
