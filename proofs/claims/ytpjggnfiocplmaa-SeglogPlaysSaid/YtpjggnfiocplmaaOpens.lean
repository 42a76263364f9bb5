/- What came in, read as data. -/
import Derived.Test.YtpjggnfiocplmaaPure6
import Derived.ProofKit
import Derived.OpenShut
import Derived.ShutString
import Derived.ChangeOld
import Derived.Deep.Slices

/-! ## Open -/
namespace Go.Proofs.Ytpjggnfiocplmaa
open Go Go.RowKit Go.ChangeShapes Go.WideShapes Go.ChangeAt Go.Deep

section
variable {H : Type} {enc : TypeId × Value → H} {W : World}

theorem wf_bounds {k : IntKind} {n : Int} (h : (Lit.int k n).wf = true) : k.min ≤ n ∧ n ≤ k.max := by simpa [Lit.wf] using h
theorem bytes_of_trod [bn : Inhabited Ban] (hban : ban.top = 0) {fuel : Nat} {cs : List Value} {x : DataW H × List MemPlace} (h : DataW.trod enc Try.prog W 0 (fun _ => true) true fuel 27 cs = some x) :
    ∃ v l, cs = [v] ∧ BytesAt W.heap.size W v l := by
  rcases open_ints Try.underlying27 Try.underlying5 (by kernel_rfl) h with ⟨rfl, _⟩ | ⟨a, len, cap, zs, rfl, _, hl, hm, hz, _, hcell, hwf⟩
  · exact ⟨_, [], rfl, BytesAt.nil _ _⟩
  · have hz : zs.length = cap := by simpa using hz
    refine ⟨_, (zs.take len).map (fun z => UInt8.ofNat z.toNat), rfl, some a, cap, ?_, ?_, hm, fun h => (by cases h), ?_⟩
    · simp [hz]; omega
    · simp; omega
    · intro i y hy
      rw [List.getElem?_map] at hy
      cases hz' : (zs.take len)[i]? with
      | none => rw [hz'] at hy; cases hy
      | some z =>
        rw [hz'] at hy
        simp at hy
        subst hy
        rw [List.getElem?_take] at hz'
        split at hz'
        · have hi : i < zs.length := (List.getElem?_eq_some_iff.1 hz').1
          have hc := hcell i hi
          have e : zs.getD i 0 = z := by simp [List.getD, hz']
          rw [e] at hc
          have hb := hwf z (List.mem_of_getElem? hz')
          have hb' := wf_bounds hb
          have h0 : 0 ≤ z := hb'.1
          have h1 : z ≤ 255 := hb'.2
          refine ⟨a, rfl, ⟨?_, .inl ?_, fun h => by have := ban.lt _ h; omega, by omega⟩, ?_⟩
          · have := World.block_lt_of_cell? W _ hc; rw [Addr.block_add] at this; exact this
          · have := World.block_lt_of_cell? W _ hc; rw [Addr.block_add] at this; exact this
          · rw [hc]
            have : ((UInt8.ofNat z.toNat).toNat : Int) = z := by simp; omega
            unfold u8v; rw [this]
        · cases hz'

theorem list_one {α : Type} {a b : α} (h : [a] = [b]) : a = b := by simpa using h
theorem six_cells {cs : List Value} (h : cs.length = 6) : ∃ a b c d e f, cs = [a, b, c, d, e, f] := by
  match cs, h with
  | [a, b, c, d, e, f], _ => exact ⟨a, b, c, d, e, f, rfl⟩

theorem act_of_trod [bn : Inhabited Ban] (hban : ban.top = 0) {fuel : Nat} {cs : List Value} {x : DataW H × List MemPlace} {g o : Nat} (h : DataW.trod enc Try.prog W 0 (fun _ => true) true fuel 29 cs = some x)
    (hc : ∀ i, i < 6 → W.cell? ⟨g, o + i, none⟩ = cs[i]?) : ∃ a : ActS, a.Ok ∧ ActAt W.heap.size W g o a := by
  obtain ⟨xs, n, _, _, hl, hlen, hf⟩ := DataW.trod_struct Try.underlying29 h
  have hl6 : cs.length = 6 := hl.trans (by kernel_rfl)
  obtain ⟨c0, c1, c2, c3, c4, c5, rfl⟩ := six_cells hl6
  have hx : ∀ i, i < 6 → ∃ y, xs[i]? = some y := fun i hi => ⟨_, List.getElem?_eq_getElem (by rw [hlen]; exact hi)⟩
  have g0 := hf 0 _ rfl
  have g1 := hf 1 _ rfl
  have g2 := hf 2 _ rfl
  have g3 := hf 3 _ rfl
  have g4 := hf 4 _ rfl
  have g5 := hf 5 _ rfl
  dsimp at g0 g1 g2 g3 g4 g5
  rw [show Try.prog.cellsOf 5 = 1 from by kernel_rfl] at g0
  rw [show Try.prog.cellsOf 26 = 1 from by kernel_rfl] at g1
  rw [show Try.prog.cellsOf 27 = 1 from by kernel_rfl] at g2
  rw [show Try.prog.cellsOf 4 = 1 from by kernel_rfl] at g3
  rw [show Try.prog.cellsOf 3 = 1 from by kernel_rfl] at g4 g5
  obtain ⟨y0, e0⟩ := hx 0 (by omega)
  obtain ⟨y1, e1⟩ := hx 1 (by omega)
  obtain ⟨y2, e2⟩ := hx 2 (by omega)
  obtain ⟨y3, e3⟩ := hx 3 (by omega)
  obtain ⟨y4, e4⟩ := hx 4 (by omega)
  obtain ⟨y5, e5⟩ := hx 5 (by omega)
  rw [e0] at g0; rw [e1] at g1; rw [e2] at g2; rw [e3] at g3; rw [e4] at g4; rw [e5] at g5
  obtain ⟨n0, h0, _, w0⟩ := DataW.trod_int Try.underlying5 g0
  obtain ⟨n1, h1, _, w1⟩ := DataW.trod_int Try.underlying26 g1
  obtain ⟨v2, l2, h2, b2⟩ := bytes_of_trod hban g2
  obtain ⟨b3, h3, _⟩ := DataW.trod_bool Try.underlying4 g3
  obtain ⟨n4, h4, _, w4⟩ := DataW.trod_int Try.underlying3 g4
  obtain ⟨n5, h5, _, w5⟩ := DataW.trod_int Try.underlying3 g5
  simp at h0 h1 h2 h3 h4 h5
  subst h0 h1 h2 h3 h4 h5
  have k0 := hc 0 (by omega)
  have k1 := hc 1 (by omega)
  have k2 := hc 2 (by omega)
  have k3 := hc 3 (by omega)
  have k4 := hc 4 (by omega)
  have k5 := hc 5 (by omega)
  have hb0 := wf_bounds w0
  exact ⟨⟨n0, n1, l2, b3, n4, n5⟩, ⟨hb0.1, hb0.2, w1, w4, w5⟩, _, b2, k0, k1, k2, k3, k4, k5⟩

theorem acts_of_trod [bn : Inhabited Ban] (hban : ban.top = 0) {fuel : Nat} {ao : Option Addr} {n cap : Nat} {x : DataW H × List MemPlace} (h : DataW.trod enc Try.prog W 0 (fun _ => true) true fuel 22 [.slice ao n cap] = some x) :
    ∃ acts : List ActS, ActsAt W.heap.size W (.slice ao n cap) acts ∧ ∀ a ∈ acts, a.Ok := by
  rcases open_slice Try.underlying22 h with ⟨hcs, _⟩ | ⟨a, len, cap', m, fu, D, Pl, hcs, _, hl, hm, hmm, _, hx⟩
  · simp at hcs
    obtain ⟨rfl, rfl, rfl⟩ := hcs
    exact ⟨[], ⟨none, 0, rfl, Nat.le_refl _, by decide, .inl rfl⟩, by simp⟩
  · simp at hcs
    obtain ⟨rfl, rfl, rfl⟩ := hcs
    simp at hmm
    subst hmm
    by_cases h0 : n = 0
    · subst h0
      exact ⟨[], ⟨_, _, rfl, Nat.zero_le _, hm, .inl rfl⟩, by simp⟩
    · rw [show Try.prog.cellsOf 29 = 6 from by kernel_rfl] at hx
      obtain ⟨b, off, spot⟩ := a
      obtain ⟨cs0, hc0, _⟩ := hx 0 (by omega)
      obtain ⟨_, hl0, hc0⟩ := World.cells?_some hc0
      have hs0 : cs0[0]? = some cs0[0] := List.getElem?_eq_getElem (by omega)
      have hcc := hc0 0 (by omega)
      rw [hs0] at hcc
      have hspot : spot = none := by simpa [Addr.add] using World.cell?_spot hcc
      subst hspot
      have hlt : b < W.heap.size := by simpa [Addr.add] using World.block_lt_of_cell? W _ hcc
      have key : ∀ i, i < n → ∃ a : ActS, a.Ok ∧ ActAt W.heap.size W b (off + i * 6) a := by
        intro i hi
        obtain ⟨cs, hc, ht⟩ := hx i (by omega)
        obtain ⟨_, _, hc⟩ := World.cells?_some hc
        refine act_of_trod hban ht (fun j hj => ?_)
        rw [← hc j hj, Addr.add_lit, Addr.add_lit]
      have : ∃ f : Nat → ActS, ∀ i, i < n → (f i).Ok ∧ ActAt W.heap.size W b (off + i * 6) (f i) :=
        ⟨fun i => if h : i < n then Classical.choose (key i h) else ⟨0, 0, [], false, 0, 0⟩, fun i hi => by simp only [hi, dif_pos]; exact Classical.choose_spec (key i hi)⟩
      obtain ⟨f, hf⟩ := this
      refine ⟨(List.range n).map f, ⟨some ⟨b, off, none⟩, m, by simp, by simpa using hl, hm, .inr ⟨b, off, hlt, rfl, fun i a ha => ?_⟩⟩, ?_⟩
      · rw [List.getElem?_map] at ha
        have hi : i < n := by
          rcases Nat.lt_or_ge i n with h | h
          · exact h
          · rw [List.getElem?_eq_none (by simpa using h)] at ha; cases ha
        rw [List.getElem?_range hi] at ha
        simp at ha
        subst ha
        exact (hf i hi).2
      · intro a ha
        obtain ⟨i, hi, rfl⟩ := List.mem_map.1 ha
        exact (hf i (List.mem_range.1 hi)).1
end
theorem own : ownKnob Try.prog.godebug = none := by kernel_rfl
theorem laidOut : laidOutB Try.prog = true := by kernel_rfl
end Go.Proofs.Ytpjggnfiocplmaa

/-! ## OpenS -/
namespace Go.Proofs.Ytpjggnfiocplmaa
open Go Go.RowKit Go.ChangeShapes Go.WideShapes Go.ChangeAt Go.Deep

section
variable {H : Type} {enc : TypeId × Value → H} {W : World}

theorem slices_of_trod [bn : Inhabited Ban] (hban : ban.top = 0) {fuel : Nat} {ao : Option Addr} {n cap : Nat} {x : DataW H × List MemPlace} (h : DataW.trod enc Try.prog W 0 (fun _ => true) true fuel 64 [.slice ao n cap] = some x) :
    ∃ ls : List Bytes, SlicesAt W.heap.size W (.slice ao n cap) ls := by
  rcases open_slice Try.underlying64 h with ⟨hcs, _⟩ | ⟨a, len, cap', m, fu, D, Pl, hcs, _, hl, hm, hmm, _, hx⟩
  · simp at hcs
    obtain ⟨rfl, rfl, rfl⟩ := hcs
    exact ⟨[], [], rfl, fun i u l h => by simp at h, none, 0, rfl, Nat.le_refl _, by decide, .inl rfl⟩
  · simp at hcs
    obtain ⟨rfl, rfl, rfl⟩ := hcs
    simp at hmm
    subst hmm
    by_cases h0 : n = 0
    · subst h0
      exact ⟨[], [], rfl, fun i u l h => by simp at h, _, _, rfl, Nat.zero_le _, hm, .inl rfl⟩
    · rw [show Try.prog.cellsOf 27 = 1 from by kernel_rfl] at hx
      obtain ⟨b, off, spot⟩ := a
      obtain ⟨cs0, hc0, _⟩ := hx 0 (by omega)
      obtain ⟨_, hl0, hc0⟩ := World.cells?_some hc0
      have hs0 : cs0[0]? = some cs0[0] := List.getElem?_eq_getElem (by omega)
      have hcc := hc0 0 (by omega)
      rw [hs0] at hcc
      have hspot : spot = none := by simpa [Addr.add] using World.cell?_spot hcc
      subst hspot
      have key : ∀ i, i < n → ∃ u : Value, ∃ l : Bytes, W.cell? ⟨b, off + i, none⟩ = some u ∧ BytesAt W.heap.size W u l := by
        intro i hi
        obtain ⟨cs, hc, ht⟩ := hx i (by omega)
        obtain ⟨_, _, hc⟩ := World.cells?_some hc
        obtain ⟨u, l, rfl, hb⟩ := bytes_of_trod hban ht
        refine ⟨u, l, ?_, hb⟩
        have := hc 0 (by omega)
        rw [Addr.add_lit, Addr.add_lit] at this
        simpa using this
      have : ∃ (f : Nat → Value) (e : Nat → Bytes), ∀ i, i < n → W.cell? ⟨b, off + i, none⟩ = some (f i) ∧ BytesAt W.heap.size W (f i) (e i) :=
        ⟨fun i => if h : i < n then Classical.choose (key i h) else .bool true, fun i => if h : i < n then Classical.choose (Classical.choose_spec (key i h)) else [], fun i hi => by
          simp only [hi, dif_pos]
          exact Classical.choose_spec (Classical.choose_spec (key i hi))⟩
      obtain ⟨f, e, hf⟩ := this
      have get : ∀ {α : Type} (k : Nat → α) (i : Nat) (u : α), ((List.range n).map k)[i]? = some u → i < n ∧ u = k i := by
        intro α k i u h
        rw [List.getElem?_map] at h
        rcases Nat.lt_or_ge i n with hi | hi
        · rw [List.getElem?_range hi] at h
          simp at h
          exact ⟨hi, h.symm⟩
        · rw [List.getElem?_eq_none (by simpa using hi)] at h; cases h
      refine ⟨(List.range n).map e, (List.range n).map f, by simp, fun i u l hu hl => ?_, some ⟨b, off, none⟩, m, by simp, by simpa using hl, hm, .inr ⟨b, off, rfl, fun i u hu => ?_⟩⟩
      · obtain ⟨hi, rfl⟩ := get _ _ _ hu
        obtain ⟨_, rfl⟩ := get _ _ _ hl
        exact (hf i hi).2
      · obtain ⟨hi, rfl⟩ := get _ _ _ hu
        exact (hf i hi).1
end
end Go.Proofs.Ytpjggnfiocplmaa
