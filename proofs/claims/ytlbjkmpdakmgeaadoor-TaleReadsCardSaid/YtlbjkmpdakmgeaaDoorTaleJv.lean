/- Rows of events that come in, read as data. -/
import Derived.Test.YtlbjkmpdakmgeaaDoorTaleJ
namespace Go.Proofs.YtlbjkmpdakmgeaaDoor
open Go Go.RowKit Go.ChangeShapes Go.WideShapes Go.ChangeAt Go.Deep

section
variable {H : Type} {enc : TypeId × Value → H} {W : World}
theorem evs_of_trod {fuel : Nat} {ao : Option Addr} {n cap : Nat} {x : DataW H × List MemPlace} (h : DataW.trod enc Tryd.prog W 0 (fun _ => true) true fuel 51 [.slice ao n cap] = some x) :
    ∃ l : List EvS, EvsAt W.heap.size W (.slice ao n cap) l ∧ ∀ e ∈ l, e.Ok ∧ e.kind < 256 := by
  rcases open_slice Tryd.underlying51 h with ⟨hcs, _⟩ | ⟨a, len, cap', m, fu, D, Pl, hcs, _, hl, hm, hmm, _, hx⟩
  · simp at hcs
    obtain ⟨rfl, rfl, rfl⟩ := hcs
    exact ⟨[], ⟨none, 0, rfl, Nat.le_refl _, by decide, .inl rfl⟩, by simp⟩
  · simp at hcs
    obtain ⟨rfl, rfl, rfl⟩ := hcs
    simp at hmm
    subst hmm
    by_cases h0 : n = 0
    · subst h0
      exact ⟨[], ⟨_, _, rfl, Nat.zero_le _, hm, .inl rfl⟩, by simp⟩
    · rw [show Tryd.prog.cellsOf 27 = 11 from by kernel_rfl] at hx
      obtain ⟨b, off, spot⟩ := a
      obtain ⟨cs0, hc0, _⟩ := hx 0 (by omega)
      obtain ⟨_, hl0, hc0⟩ := World.cells?_some hc0
      have hs0 : cs0[0]? = some cs0[0] := List.getElem?_eq_getElem (by omega)
      have hcc := hc0 0 (by omega)
      rw [hs0] at hcc
      have hspot : spot = none := by simpa [Addr.add] using World.cell?_spot hcc
      subst hspot
      have hlt : b < W.heap.size := by simpa [Addr.add] using World.block_lt_of_cell? W _ hcc
      have key : ∀ i, i < n → ∃ e : EvS, (e.Ok ∧ e.kind < 256) ∧ ∃ bv pv, BytesAt (bn := noBan) W.heap.size W bv e.body ∧ BytesAt (bn := noBan) W.heap.size W pv e.p ∧ ∀ (j : Nat) x, (evC e bv pv)[j]? = some x → W.cell? ⟨b, off + i * 11 + j, none⟩ = some x := by
        intro i hi
        obtain ⟨cs, hc, ht⟩ := hx i (by omega)
        obtain ⟨_, hcl, hc⟩ := World.cells?_some hc
        obtain ⟨e, bv, pv, hcs, hok, hkd, hb, hp⟩ := ev_of_trod ht
        refine ⟨e, ⟨hok, hkd⟩, bv, pv, hb, hp, fun j x hjx => ?_⟩
        have hj : j < 11 := by
          have := (Array.getElem?_eq_some_iff.1 hjx).1
          simpa [evC] using this
        have := hc j hj
        rw [Addr.add_lit, Addr.add_lit] at this
        rw [this, hcs]
        simpa using hjx
      have : ∃ f : Nat → EvS, ∀ i, i < n → ((f i).Ok ∧ (f i).kind < 256) ∧ ∃ bv pv, BytesAt (bn := noBan) W.heap.size W bv (f i).body ∧ BytesAt (bn := noBan) W.heap.size W pv (f i).p ∧ ∀ (j : Nat) x, (evC (f i) bv pv)[j]? = some x → W.cell? ⟨b, off + i * 11 + j, none⟩ = some x :=
        ⟨fun i => if h : i < n then Classical.choose (key i h) else {}, fun i hi => by simp only [hi, dif_pos]; exact Classical.choose_spec (key i hi)⟩
      obtain ⟨f, hf⟩ := this
      refine ⟨(List.range n).map f, ⟨some ⟨b, off, none⟩, m, by simp, by simpa using hl, hm, .inr ⟨b, off, hlt, rfl, fun i a ha => ?_⟩⟩, ?_⟩
      · rw [List.getElem?_map] at ha
        have hi : i < n := by
          rcases Nat.lt_or_ge i n with h | h
          · exact h
          · rw [List.getElem?_eq_none (by simpa using h)] at ha; cases ha
        rw [List.getElem?_range hi] at ha
        simp at ha
        subst ha
        exact (hf i hi).2
      · intro a ha
        obtain ⟨i, hi, rfl⟩ := List.mem_map.1 ha
        exact (hf i (List.mem_range.1 hi)).1
end
end Go.Proofs.YtlbjkmpdakmgeaaDoor
