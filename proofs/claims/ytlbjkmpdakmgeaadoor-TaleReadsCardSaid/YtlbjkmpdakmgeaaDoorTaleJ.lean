/- Events that come in, read as data. -/
import Derived.Test.YtlbjkmpdakmgeaaDoorTaleF
import Derived.ProofKit
import Derived.OpenShut
import Derived.ShutString
import Derived.ChangeOld
import Derived.Deep.Slices
namespace Go.Proofs.YtlbjkmpdakmgeaaDoor
open Go Go.RowKit Go.ChangeShapes Go.WideShapes Go.ChangeAt Go.Deep

def EvsAt (base : Nat) (w : World) (v : Value) (l : List EvS) : Prop :=
  ∃ ao cap, v = .slice ao l.length cap ∧ l.length ≤ cap ∧ cap ≤ maxLen ∧ (l = [] ∨ ∃ g o, g < base ∧ ao = some ⟨g, o, none⟩ ∧ ∀ (i : Nat) e, l[i]? = some e →
    ∃ bv pv, BytesAt (bn := noBan) base w bv e.body ∧ BytesAt (bn := noBan) base w pv e.p ∧ ∀ (j : Nat) x, (evC e bv pv)[j]? = some x → w.cell? ⟨g, o + i * 11 + j, none⟩ = some x)
section
variable {H : Type} {enc : TypeId × Value → H} {W : World}

theorem wf_bounds {k : IntKind} {n : Int} (h : (Lit.int k n).wf = true) : k.min ≤ n ∧ n ≤ k.max := by simpa [Lit.wf] using h
theorem bytes_of_trod [bn : Inhabited Ban] (hban : ban.top = 0) {fuel : Nat} {cs : List Value} {x : DataW H × List MemPlace} (h : DataW.trod enc Tryd.prog W 0 (fun _ => true) true fuel 23 cs = some x) :
    ∃ v l, cs = [v] ∧ BytesAt W.heap.size W v l := by
  rcases open_ints Tryd.underlying23 Tryd.underlying5 (by kernel_rfl) h with ⟨rfl, _⟩ | ⟨a, len, cap, zs, rfl, _, hl, hm, hz, _, hcell, hwf⟩
  · exact ⟨_, [], rfl, BytesAt.nil _ _⟩
  · have hz : zs.length = cap := by simpa using hz
    refine ⟨_, (zs.take len).map (fun z => UInt8.ofNat z.toNat), rfl, some a, cap, ?_, ?_, hm, fun h => (by cases h), ?_⟩
    · simp [hz]; omega
    · simp; omega
    · intro i y hy
      rw [List.getElem?_map] at hy
      cases hz' : (zs.take len)[i]? with
      | none => rw [hz'] at hy; cases hy
      | some z =>
        rw [hz'] at hy
        simp at hy
        subst hy
        rw [List.getElem?_take] at hz'
        split at hz'
        · have hi : i < zs.length := (List.getElem?_eq_some_iff.1 hz').1
          have hc := hcell i hi
          have e : zs.getD i 0 = z := by simp [List.getD, hz']
          rw [e] at hc
          have hb := hwf z (List.mem_of_getElem? hz')
          have hb' := wf_bounds hb
          have h0 : 0 ≤ z := hb'.1
          have h1 : z ≤ 255 := hb'.2
          refine ⟨a, rfl, ⟨?_, .inl ?_, fun h => by have := ban.lt _ h; omega, by omega⟩, ?_⟩
          · have := World.block_lt_of_cell? W _ hc; rw [Addr.block_add] at this; exact this
          · have := World.block_lt_of_cell? W _ hc; rw [Addr.block_add] at this; exact this
          · rw [hc]
            have : ((UInt8.ofNat z.toNat).toNat : Int) = z := by simp; omega
            unfold u8v; rw [this]
        · cases hz'
theorem two_cells {cs : List Value} (h : cs.length = 2) : ∃ a b, cs = [a, b] := by
  match cs, h with
  | [a, b], _ => exact ⟨a, b, rfl⟩
theorem eleven_cells {cs : List Value} (h : cs.length = 11) : ∃ a b c d e f g i j k l, cs = [a, b, c, d, e, f, g, i, j, k, l] := by
  match cs, h with
  | [a, b, c, d, e, f, g, i, j, k, l], _ => exact ⟨a, b, c, d, e, f, g, i, j, k, l, rfl⟩
theorem span_of_trod {fuel : Nat} {cs : List Value} {x : DataW H × List MemPlace} (h : DataW.trod enc Tryd.prog W 0 (fun _ => true) true fuel 25 cs = some x) :
    ∃ (c : Int) (bv : Value) (l : Bytes), cs = [.int .i64 c, bv] ∧ Int64 c ∧ BytesAt (bn := noBan) W.heap.size W bv l := by
  obtain ⟨xs, n, _, _, hl, hlen, hf⟩ := DataW.trod_struct Tryd.underlying25 h
  have hl2 : cs.length = 2 := hl.trans (by kernel_rfl)
  obtain ⟨c0, c1, rfl⟩ := two_cells hl2
  have hx : ∀ i, i < 2 → ∃ y, xs[i]? = some y := fun i hi => ⟨_, List.getElem?_eq_getElem (by rw [hlen]; exact hi)⟩
  have g0 := hf 0 _ rfl
  have g1 := hf 1 _ rfl
  dsimp at g0 g1
  rw [show Tryd.prog.cellsOf 3 = 1 from by kernel_rfl] at g0
  rw [show Tryd.prog.cellsOf 23 = 1 from by kernel_rfl] at g1
  obtain ⟨y0, e0⟩ := hx 0 (by omega)
  obtain ⟨y1, e1⟩ := hx 1 (by omega)
  rw [e0] at g0; rw [e1] at g1
  obtain ⟨n0, h0, _, w0⟩ := DataW.trod_int Tryd.underlying3 g0
  obtain ⟨v1, l1, h1, b1⟩ := bytes_of_trod (bn := noBan) rfl g1
  simp at h0 h1
  subst h0 h1
  exact ⟨n0, _, l1, rfl, wf_bounds w0, b1⟩
theorem ev_of_trod {fuel : Nat} {cs : List Value} {x : DataW H × List MemPlace} (h : DataW.trod enc Tryd.prog W 0 (fun _ => true) true fuel 27 cs = some x) :
    ∃ (e : EvS) (bv pv : Value), cs = (evC e bv pv).toList ∧ e.Ok ∧ e.kind < 256 ∧ BytesAt (bn := noBan) W.heap.size W bv e.body ∧ BytesAt (bn := noBan) W.heap.size W pv e.p := by
  obtain ⟨xs, n, _, _, hl, hlen, hf⟩ := DataW.trod_struct Tryd.underlying27 h
  have hl11 : cs.length = 11 := hl.trans (by kernel_rfl)
  obtain ⟨c0, c1, c2, c3, c4, c5, c6, c7, c8, c9, c10, rfl⟩ := eleven_cells hl11
  have hx : ∀ i, i < 10 → ∃ y, xs[i]? = some y := fun i hi => ⟨_, List.getElem?_eq_getElem (by rw [hlen]; exact hi)⟩
  have g0 := hf 0 _ rfl
  have g1 := hf 1 _ rfl
  have g2 := hf 2 _ rfl
  have g3 := hf 3 _ rfl
  have g4 := hf 4 _ rfl
  have g5 := hf 5 _ rfl
  have g6 := hf 6 _ rfl
  have g7 := hf 7 _ rfl
  have g8 := hf 8 _ rfl
  have g9 := hf 9 _ rfl
  dsimp at g0 g1 g2 g3 g4 g5 g6 g7 g8 g9
  rw [show Tryd.prog.cellsOf 5 = 1 from by kernel_rfl] at g0 g5
  rw [show Tryd.prog.cellsOf 23 = 1 from by kernel_rfl] at g9
  rw [show Tryd.prog.cellsOf 4 = 1 from by kernel_rfl] at g8
  rw [show Tryd.prog.cellsOf 3 = 1 from by kernel_rfl] at g1 g3 g4 g6 g7
  rw [show Tryd.prog.cellsOf 25 = 2 from by kernel_rfl] at g2
  obtain ⟨y0, e0⟩ := hx 0 (by omega)
  obtain ⟨y1, e1⟩ := hx 1 (by omega)
  obtain ⟨y2, e2⟩ := hx 2 (by omega)
  obtain ⟨y3, e3⟩ := hx 3 (by omega)
  obtain ⟨y4, e4⟩ := hx 4 (by omega)
  obtain ⟨y5, e5⟩ := hx 5 (by omega)
  obtain ⟨y6, e6⟩ := hx 6 (by omega)
  obtain ⟨y7, e7⟩ := hx 7 (by omega)
  obtain ⟨y8, e8⟩ := hx 8 (by omega)
  obtain ⟨y9, e9⟩ := hx 9 (by omega)
  rw [e0] at g0; rw [e1] at g1; rw [e2] at g2; rw [e3] at g3; rw [e4] at g4; rw [e5] at g5; rw [e6] at g6; rw [e7] at g7; rw [e8] at g8; rw [e9] at g9
  obtain ⟨n0, h0, _, w0⟩ := DataW.trod_int Tryd.underlying5 g0
  obtain ⟨n1, h1, _, w1⟩ := DataW.trod_int Tryd.underlying3 g1
  obtain ⟨n2, v3, l3, h2, w2, b2⟩ := span_of_trod g2
  obtain ⟨n4, h4, _, w4⟩ := DataW.trod_int Tryd.underlying3 g3
  obtain ⟨n5, h5, _, w5⟩ := DataW.trod_int Tryd.underlying3 g4
  obtain ⟨n6, h6, _, w6⟩ := DataW.trod_int Tryd.underlying5 g5
  obtain ⟨n7, h7, _, w7⟩ := DataW.trod_int Tryd.underlying3 g6
  obtain ⟨n8, h8, _, w8⟩ := DataW.trod_int Tryd.underlying3 g7
  obtain ⟨b9, h9, _⟩ := DataW.trod_bool Tryd.underlying4 g8
  obtain ⟨v10, l10, h10, b10⟩ := bytes_of_trod (bn := noBan) rfl g9
  simp at h0 h1 h2 h4 h5 h6 h7 h8 h9 h10
  obtain ⟨h2, h3⟩ := h2
  subst h0 h1 h2 h3 h4 h5 h6 h7 h8 h9 h10
  have hb0 := wf_bounds w0
  have hb6 := wf_bounds w6
  have z0 : 0 ≤ n0 := hb0.1
  have z1 : n0 ≤ 255 := hb0.2
  have z2 : 0 ≤ n6 := hb6.1
  have z3 : n6 ≤ 255 := hb6.2
  have q0 : ((n0.toNat : Nat) : Int) = n0 := by omega
  have q6 : (((UInt8.ofNat n6.toNat).toNat : Nat) : Int) = n6 := by simp; omega
  refine ⟨{ kind := n0.toNat, who := n1, cls := n2, body := l3, ix := n4, pos := n5, val := UInt8.ofNat n6.toNat, keep := n7, torn := n8, on := b9, p := l10 }, c3, c10, ?_, ⟨wf_bounds w1, w2, wf_bounds w4, wf_bounds w5, wf_bounds w7, wf_bounds w8⟩, by show n0.toNat < 256; omega, b2, b10⟩
  unfold evC
  simp only [q0, q6]
end
end Go.Proofs.YtlbjkmpdakmgeaaDoor
