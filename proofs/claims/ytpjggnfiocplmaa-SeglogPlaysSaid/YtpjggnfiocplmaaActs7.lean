/- The acts of the law of the logs, as they come in. -/
import Derived.Test.YtpjggnfiocplmaaOpens
import Derived.Test.YtpjggnfiocplmaaPairA
namespace Go.Proofs.Ytpjggnfiocplmaa
open Go Go.RowKit Go.ChangeShapes Go.WideShapes Go.ChangeAt Go.Deep

def Act7At [bn : Inhabited Ban] (base : Nat) (w : World) (g o : Nat) (a : Act7S) : Prop :=
  ∃ u, BytesAt base w u a.p ∧ w.cell? ⟨g, o, none⟩ = some (.int .u8 a.dop) ∧ w.cell? ⟨g, o + 1, none⟩ = some u ∧ w.cell? ⟨g, o + 2, none⟩ = some (.int .u16 a.n) ∧
    w.cell? ⟨g, o + 3, none⟩ = some (.bool a.on) ∧ w.cell? ⟨g, o + 4, none⟩ = some (.int .i64 a.keep) ∧ w.cell? ⟨g, o + 5, none⟩ = some (.int .i64 a.torn)
def Acts7At [bn : Inhabited Ban] (base : Nat) (w : World) (v : Value) (l : List Act7S) : Prop :=
  ∃ ao cap, v = .slice ao l.length cap ∧ l.length ≤ cap ∧ cap ≤ maxLen ∧ (l = [] ∨ ∃ g o, g < base ∧ ao = some ⟨g, o, none⟩ ∧ ∀ (i : Nat) a, l[i]? = some a → Act7At base w g (o + i * 6) a)
section
variable {H : Type} {enc : TypeId × Value → H} {W : World}

theorem act7_of_trod [bn : Inhabited Ban] (hban : ban.top = 0) {fuel : Nat} {cs : List Value} {x : DataW H × List MemPlace} {g o : Nat} (h : DataW.trod enc Try.prog W 0 (fun _ => true) true fuel 78 cs = some x)
    (hc : ∀ i, i < 6 → W.cell? ⟨g, o + i, none⟩ = cs[i]?) : ∃ a : Act7S, a.Ok ∧ Act7At W.heap.size W g o a := by
  obtain ⟨xs, n, _, _, hl, hlen, hf⟩ := DataW.trod_struct Try.underlying78 h
  have hl6 : cs.length = 6 := hl.trans (by kernel_rfl)
  obtain ⟨c0, c1, c2, c3, c4, c5, rfl⟩ := six_cells hl6
  have hx : ∀ i, i < 6 → ∃ y, xs[i]? = some y := fun i hi => ⟨_, List.getElem?_eq_getElem (by rw [hlen]; exact hi)⟩
  have g0 := hf 0 _ rfl
  have g1 := hf 1 _ rfl
  have g2 := hf 2 _ rfl
  have g3 := hf 3 _ rfl
  have g4 := hf 4 _ rfl
  have g5 := hf 5 _ rfl
  dsimp at g0 g1 g2 g3 g4 g5
  rw [show Try.prog.cellsOf 5 = 1 from by kernel_rfl] at g0
  rw [show Try.prog.cellsOf 27 = 1 from by kernel_rfl] at g1
  rw [show Try.prog.cellsOf 63 = 1 from by kernel_rfl] at g2
  rw [show Try.prog.cellsOf 4 = 1 from by kernel_rfl] at g3
  rw [show Try.prog.cellsOf 3 = 1 from by kernel_rfl] at g4 g5
  obtain ⟨y0, e0⟩ := hx 0 (by omega)
  obtain ⟨y1, e1⟩ := hx 1 (by omega)
  obtain ⟨y2, e2⟩ := hx 2 (by omega)
  obtain ⟨y3, e3⟩ := hx 3 (by omega)
  obtain ⟨y4, e4⟩ := hx 4 (by omega)
  obtain ⟨y5, e5⟩ := hx 5 (by omega)
  rw [e0] at g0; rw [e1] at g1; rw [e2] at g2; rw [e3] at g3; rw [e4] at g4; rw [e5] at g5
  obtain ⟨n0, h0, _, w0⟩ := DataW.trod_int Try.underlying5 g0
  obtain ⟨v1, l1, h1, b1⟩ := bytes_of_trod hban g1
  obtain ⟨n2, h2, _, w2⟩ := DataW.trod_int Try.underlying63 g2
  obtain ⟨b3, h3, _⟩ := DataW.trod_bool Try.underlying4 g3
  obtain ⟨n4, h4, _, w4⟩ := DataW.trod_int Try.underlying3 g4
  obtain ⟨n5, h5, _, w5⟩ := DataW.trod_int Try.underlying3 g5
  simp at h0 h1 h2 h3 h4 h5
  subst h0 h1 h2 h3 h4 h5
  have k0 := hc 0 (by omega)
  have k1 := hc 1 (by omega)
  have k2 := hc 2 (by omega)
  have k3 := hc 3 (by omega)
  have k4 := hc 4 (by omega)
  have k5 := hc 5 (by omega)
  have hb0 := wf_bounds w0
  have hb2 := wf_bounds w2
  exact ⟨⟨n0, l1, n2, b3, n4, n5⟩, ⟨hb0.1, hb0.2, hb2.1, hb2.2, w4, w5⟩, _, b1, k0, k1, k2, k3, k4, k5⟩

theorem acts7_of_trod [bn : Inhabited Ban] (hban : ban.top = 0) {fuel : Nat} {ao : Option Addr} {n cap : Nat} {x : DataW H × List MemPlace} (h : DataW.trod enc Try.prog W 0 (fun _ => true) true fuel 74 [.slice ao n cap] = some x) :
    ∃ acts : List Act7S, Acts7At W.heap.size W (.slice ao n cap) acts ∧ ∀ a ∈ acts, a.Ok := by
  rcases open_slice Try.underlying74 h with ⟨hcs, _⟩ | ⟨a, len, cap', m, fu, D, Pl, hcs, _, hl, hm, hmm, _, hx⟩
  · simp at hcs
    obtain ⟨rfl, rfl, rfl⟩ := hcs
    exact ⟨[], ⟨none, 0, rfl, Nat.le_refl _, by decide, .inl rfl⟩, by simp⟩
  · simp at hcs
    obtain ⟨rfl, rfl, rfl⟩ := hcs
    simp at hmm
    subst hmm
    by_cases h0 : n = 0
    · subst h0
      exact ⟨[], ⟨_, _, rfl, Nat.zero_le _, hm, .inl rfl⟩, by simp⟩
    · rw [show Try.prog.cellsOf 78 = 6 from by kernel_rfl] at hx
      obtain ⟨b, off, spot⟩ := a
      obtain ⟨cs0, hc0, _⟩ := hx 0 (by omega)
      obtain ⟨_, hl0, hc0⟩ := World.cells?_some hc0
      have hs0 : cs0[0]? = some cs0[0] := List.getElem?_eq_getElem (by omega)
      have hcc := hc0 0 (by omega)
      rw [hs0] at hcc
      have hspot : spot = none := by simpa [Addr.add] using World.cell?_spot hcc
      subst hspot
      have hlt : b < W.heap.size := by simpa [Addr.add] using World.block_lt_of_cell? W _ hcc
      have key : ∀ i, i < n → ∃ a : Act7S, a.Ok ∧ Act7At W.heap.size W b (off + i * 6) a := by
        intro i hi
        obtain ⟨cs, hc, ht⟩ := hx i (by omega)
        obtain ⟨_, _, hc⟩ := World.cells?_some hc
        refine act7_of_trod hban ht (fun j hj => ?_)
        rw [← hc j hj, Addr.add_lit, Addr.add_lit]
      have : ∃ f : Nat → Act7S, ∀ i, i < n → (f i).Ok ∧ Act7At W.heap.size W b (off + i * 6) (f i) :=
        ⟨fun i => if h : i < n then Classical.choose (key i h) else ⟨0, [], 0, false, 0, 0⟩, fun i hi => by simp only [hi, dif_pos]; exact Classical.choose_spec (key i hi)⟩
      obtain ⟨f, hf⟩ := this
      refine ⟨(List.range n).map f, ⟨some ⟨b, off, none⟩, m, by simp, by simpa using hl, hm, .inr ⟨b, off, hlt, rfl, fun i a ha => ?_⟩⟩, ?_⟩
      · rw [List.getElem?_map] at ha
        have hi : i < n := by
          rcases Nat.lt_or_ge i n with h | h
          · exact h
          · rw [List.getElem?_eq_none (by simpa using h)] at ha; cases ha
        rw [List.getElem?_range hi] at ha
        simp at ha
        subst ha
        exact (hf i hi).2
      · intro a ha
        obtain ⟨i, hi, rfl⟩ := List.mem_map.1 ha
        exact (hf i (List.mem_range.1 hi)).1
end
end Go.Proofs.Ytpjggnfiocplmaa
