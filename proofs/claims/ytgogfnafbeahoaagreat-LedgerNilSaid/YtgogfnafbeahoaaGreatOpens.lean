/- What came in, read as data. -/
import Derived.Test.YtgogfnafbeahoaaGreatPure6
import Derived.ProofKit
import Derived.OpenShut
import Derived.ShutString
import Derived.ChangeOld
import Derived.Deep.Slices

/-! ## Open -/
namespace Go.Proofs.YtgogfnafbeahoaaGreat
open Go Go.RowKit Go.ChangeShapes Go.WideShapes Go.ChangeAt Go.Deep

section
variable {H : Type} {enc : TypeId × Value → H} {W : World}

theorem wf_bounds {k : IntKind} {n : Int} (h : (Lit.int k n).wf = true) : k.min ≤ n ∧ n ≤ k.max := by simpa [Lit.wf] using h
theorem bytes_of_trod [bn : Inhabited Ban] (hban : ban.top = 0) {fuel : Nat} {cs : List Value} {x : DataW H × List MemPlace} (h : DataW.trod enc Tryz.prog W 0 (fun _ => true) true fuel 49 cs = some x) :
    ∃ v l, cs = [v] ∧ BytesAt W.heap.size W v l := by
  rcases open_ints Tryz.underlying49 Tryz.underlying5 (by kernel_rfl) h with ⟨rfl, _⟩ | ⟨a, len, cap, zs, rfl, _, hl, hm, hz, _, hcell, hwf⟩
  · exact ⟨_, [], rfl, BytesAt.nil _ _⟩
  · have hz : zs.length = cap := by simpa using hz
    refine ⟨_, (zs.take len).map (fun z => UInt8.ofNat z.toNat), rfl, some a, cap, ?_, ?_, hm, fun h => (by cases h), ?_⟩
    · simp [hz]; omega
    · simp; omega
    · intro i y hy
      rw [List.getElem?_map] at hy
      cases hz' : (zs.take len)[i]? with
      | none => rw [hz'] at hy; cases hy
      | some z =>
        rw [hz'] at hy
        simp at hy
        subst hy
        rw [List.getElem?_take] at hz'
        split at hz'
        · have hi : i < zs.length := (List.getElem?_eq_some_iff.1 hz').1
          have hc := hcell i hi
          have e : zs.getD i 0 = z := by simp [List.getD, hz']
          rw [e] at hc
          have hb := hwf z (List.mem_of_getElem? hz')
          have hb' := wf_bounds hb
          have h0 : 0 ≤ z := hb'.1
          have h1 : z ≤ 255 := hb'.2
          refine ⟨a, rfl, ⟨?_, .inl ?_, fun h => by have := ban.lt _ h; omega, by omega⟩, ?_⟩
          · have := World.block_lt_of_cell? W _ hc; rw [Addr.block_add] at this; exact this
          · have := World.block_lt_of_cell? W _ hc; rw [Addr.block_add] at this; exact this
          · rw [hc]
            have : ((UInt8.ofNat z.toNat).toNat : Int) = z := by simp; omega
            unfold u8v; rw [this]
        · cases hz'

theorem list_one {α : Type} {a b : α} (h : [a] = [b]) : a = b := by simpa using h
theorem six_cells {cs : List Value} (h : cs.length = 6) : ∃ a b c d e f, cs = [a, b, c, d, e, f] := by
  match cs, h with
  | [a, b, c, d, e, f], _ => exact ⟨a, b, c, d, e, f, rfl⟩

end
theorem own : ownKnob Tryz.prog.godebug = none := by kernel_rfl
theorem laidOut : laidOutB Tryz.prog = true := by kernel_rfl
end Go.Proofs.YtgogfnafbeahoaaGreat

/-! ## OpenS -/
namespace Go.Proofs.YtgogfnafbeahoaaGreat
open Go Go.RowKit Go.ChangeShapes Go.WideShapes Go.ChangeAt Go.Deep

section
variable {H : Type} {enc : TypeId × Value → H} {W : World}

theorem slices_of_trod [bn : Inhabited Ban] (hban : ban.top = 0) {fuel : Nat} {ao : Option Addr} {n cap : Nat} {x : DataW H × List MemPlace} (h : DataW.trod enc Tryz.prog W 0 (fun _ => true) true fuel 120 [.slice ao n cap] = some x) :
    ∃ ls : List Bytes, SlicesAt W.heap.size W (.slice ao n cap) ls := by
  rcases open_slice Tryz.underlying120 h with ⟨hcs, _⟩ | ⟨a, len, cap', m, fu, D, Pl, hcs, _, hl, hm, hmm, _, hx⟩
  · simp at hcs
    obtain ⟨rfl, rfl, rfl⟩ := hcs
    exact ⟨[], [], rfl, fun i u l h => by simp at h, none, 0, rfl, Nat.le_refl _, by decide, .inl rfl⟩
  · simp at hcs
    obtain ⟨rfl, rfl, rfl⟩ := hcs
    simp at hmm
    subst hmm
    by_cases h0 : n = 0
    · subst h0
      exact ⟨[], [], rfl, fun i u l h => by simp at h, _, _, rfl, Nat.zero_le _, hm, .inl rfl⟩
    · rw [show Tryz.prog.cellsOf 49 = 1 from by kernel_rfl] at hx
      obtain ⟨b, off, spot⟩ := a
      obtain ⟨cs0, hc0, _⟩ := hx 0 (by omega)
      obtain ⟨_, hl0, hc0⟩ := World.cells?_some hc0
      have hs0 : cs0[0]? = some cs0[0] := List.getElem?_eq_getElem (by omega)
      have hcc := hc0 0 (by omega)
      rw [hs0] at hcc
      have hspot : spot = none := by simpa [Addr.add] using World.cell?_spot hcc
      subst hspot
      have key : ∀ i, i < n → ∃ u : Value, ∃ l : Bytes, W.cell? ⟨b, off + i, none⟩ = some u ∧ BytesAt W.heap.size W u l := by
        intro i hi
        obtain ⟨cs, hc, ht⟩ := hx i (by omega)
        obtain ⟨_, _, hc⟩ := World.cells?_some hc
        obtain ⟨u, l, rfl, hb⟩ := bytes_of_trod hban ht
        refine ⟨u, l, ?_, hb⟩
        have := hc 0 (by omega)
        rw [Addr.add_lit, Addr.add_lit] at this
        simpa using this
      have : ∃ (f : Nat → Value) (e : Nat → Bytes), ∀ i, i < n → W.cell? ⟨b, off + i, none⟩ = some (f i) ∧ BytesAt W.heap.size W (f i) (e i) :=
        ⟨fun i => if h : i < n then Classical.choose (key i h) else .bool true, fun i => if h : i < n then Classical.choose (Classical.choose_spec (key i h)) else [], fun i hi => by
          simp only [hi, dif_pos]
          exact Classical.choose_spec (Classical.choose_spec (key i hi))⟩
      obtain ⟨f, e, hf⟩ := this
      have get : ∀ {α : Type} (k : Nat → α) (i : Nat) (u : α), ((List.range n).map k)[i]? = some u → i < n ∧ u = k i := by
        intro α k i u h
        rw [List.getElem?_map] at h
        rcases Nat.lt_or_ge i n with hi | hi
        · rw [List.getElem?_range hi] at h
          simp at h
          exact ⟨hi, h.symm⟩
        · rw [List.getElem?_eq_none (by simpa using hi)] at h; cases h
      refine ⟨(List.range n).map e, (List.range n).map f, by simp, fun i u l hu hl => ?_, some ⟨b, off, none⟩, m, by simp, by simpa using hl, hm, .inr ⟨b, off, rfl, fun i u hu => ?_⟩⟩
      · obtain ⟨hi, rfl⟩ := get _ _ _ hu
        obtain ⟨_, rfl⟩ := get _ _ _ hl
        exact (hf i hi).2
      · obtain ⟨hi, rfl⟩ := get _ _ _ hu
        exact (hf i hi).1
end
end Go.Proofs.YtgogfnafbeahoaaGreat
