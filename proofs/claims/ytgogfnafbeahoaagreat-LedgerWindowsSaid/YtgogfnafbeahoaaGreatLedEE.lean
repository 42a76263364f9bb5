/- The acts of the ledger's rows, as they come in; few. few: items of their own. A map of int to uint64: what LedgerWindows keeps of who was skipped. How many numbers a set has. -/
import Derived.Test.YtgogfnafbeahoaaGreatOpens
import Derived.Test.YtgogfnafbeahoaaGreatLedAA
import Derived.Test.YtgogfnafbeahoaaGreatLedDD
import Derived.Test.YtgogfnafbeahoaaGreatWinX
import Derived.Laws.Externs

/-! ## LedAc -/
namespace Go.Proofs.YtgogfnafbeahoaaGreat
open Go Go.RowKit Go.ChangeShapes Go.WideShapes Go.ChangeAt Go.Deep

structure Act16S where
  dop : Int
  agent : Int
  bas : Nat
  epoch : Nat
  items : List ItemS
  on : Bool
  keep : Int
  torn : Int
def ItIn [bn : Inhabited Ban] (base : Nat) (w : World) (g o : Nat) (x : ItemS) : Prop :=
  x.n < 18446744073709551616 ∧ ∃ u, BytesAt base w u x.s.body ∧ w.cell? ⟨g, o, none⟩ = some (.int .u64 x.n) ∧ w.cell? ⟨g, o + 1, none⟩ = some (.int .i64 x.s.c) ∧ w.cell? ⟨g, o + 2, none⟩ = some u
/-- A row that came in. -/
def RowIn {α : Type} (base : Nat) (c : Nat) (R : Nat → Nat → α → Prop) (v : Value) (l : List α) : Prop :=
  ∃ ao cap, v = .slice ao l.length cap ∧ l.length ≤ cap ∧ cap ≤ maxLen ∧ (l = [] ∨ ∃ g o, g < base ∧ ao = some ⟨g, o, none⟩ ∧ ∀ (i : Nat) a, l[i]? = some a → R g (o + i * c) a)
def ItsIn [bn : Inhabited Ban] (base : Nat) (w : World) (v : Value) (l : List ItemS) : Prop := RowIn base 3 (ItIn base w) v l
structure Act16At [bn : Inhabited Ban] (base : Nat) (w : World) (g o : Nat) (a : Act16S) : Prop where
  bas : a.bas < 18446744073709551616
  epoch : a.epoch < 18446744073709551616
  dop0 : 0 ≤ a.dop ∧ a.dop ≤ 255
  cells : ∃ u, ItsIn base w u a.items ∧ w.cell? ⟨g, o, none⟩ = some (.int .u8 a.dop) ∧ w.cell? ⟨g, o + 1, none⟩ = some (.int .i64 a.agent) ∧ w.cell? ⟨g, o + 2, none⟩ = some (.int .u64 a.bas) ∧ w.cell? ⟨g, o + 3, none⟩ = some (.int .u64 a.epoch) ∧
    w.cell? ⟨g, o + 4, none⟩ = some u ∧ w.cell? ⟨g, o + 5, none⟩ = some (.bool a.on) ∧ w.cell? ⟨g, o + 6, none⟩ = some (.int .i64 a.keep) ∧ w.cell? ⟨g, o + 7, none⟩ = some (.int .i64 a.torn)
def Acts16At [bn : Inhabited Ban] (base : Nat) (w : World) (v : Value) (l : List Act16S) : Prop := RowIn base 8 (Act16At base w) v l
theorem ItIn.no [bn : Inhabited Ban] {base : Nat} {w w' : World} {g o : Nat} {x : ItemS} (h : ItIn base w g o x) (k : Keep No w w') : ItIn base w' g o x := by
  obtain ⟨h0, u, hb, c0, c1, c2⟩ := h
  exact ⟨h0, u, hb.no k, k.cell c0 (fun e => e), k.cell c1 (fun e => e), k.cell c2 (fun e => e)⟩
theorem RowIn.mono {α : Type} {base c : Nat} {R R' : Nat → Nat → α → Prop} {v : Value} {l : List α} (h : RowIn base c R v l) (hR : ∀ g o a, R g o a → R' g o a) : RowIn base c R' v l := by
  obtain ⟨ao, cap, h1, h2, h3, h4⟩ := h
  refine ⟨ao, cap, h1, h2, h3, ?_⟩
  rcases h4 with h4 | ⟨g, o, hg, ho, hh⟩
  · exact .inl h4
  · exact .inr ⟨g, o, hg, ho, fun i a ha => hR _ _ _ (hh i a ha)⟩
theorem ItsIn.no [bn : Inhabited Ban] {base : Nat} {w w' : World} {v : Value} {l : List ItemS} (h : ItsIn base w v l) (k : Keep No w w') : ItsIn base w' v l := RowIn.mono h (fun _ _ _ hh => ItIn.no hh k)
theorem Act16At.no [bn : Inhabited Ban] {base : Nat} {w w' : World} {g o : Nat} {a : Act16S} (h : Act16At base w g o a) (k : Keep No w w') : Act16At base w' g o a := by
  obtain ⟨h1, h2, h3, u, hu, c0, c1, c2, c3, c4, c5, c6, c7⟩ := h
  exact ⟨h1, h2, h3, u, hu.no k, k.cell c0 (fun e => e), k.cell c1 (fun e => e), k.cell c2 (fun e => e), k.cell c3 (fun e => e), k.cell c4 (fun e => e), k.cell c5 (fun e => e), k.cell c6 (fun e => e), k.cell c7 (fun e => e)⟩
theorem Acts16At.no [bn : Inhabited Ban] {base : Nat} {w w' : World} {v : Value} {l : List Act16S} (h : Acts16At base w v l) (k : Keep No w w') : Acts16At base w' v l := RowIn.mono h (fun _ _ _ hh => Act16At.no hh k)
theorem RowIn.form {α : Type} {base c : Nat} {R : Nat → Nat → α → Prop} {v : Value} {l : List α} (h : RowIn base c R v l) : ∃ ao cap, v = .slice ao l.length cap ∧ l.length ≤ cap ∧ cap ≤ maxLen := by
  obtain ⟨ao, cap, h1, h2, h3, _⟩ := h
  exact ⟨ao, cap, h1, h2, h3⟩
theorem RowIn.at {α : Type} {base c n cap : Nat} {R : Nat → Nat → α → Prop} {ao : Option Addr} {l : List α} (h : RowIn base c R (.slice ao n cap) l) {i : Nat} {a : α} (hi : l[i]? = some a) : ∃ g o, ao = some ⟨g, o, none⟩ ∧ R g (o + i * c) a := by
  obtain ⟨ao', cap', h1, h2, h3, h4⟩ := h
  simp only [Value.slice.injEq] at h1
  obtain ⟨rfl, _, _⟩ := h1
  rcases h4 with rfl | ⟨g, o, _, rfl, hh⟩
  · simp at hi
  · exact ⟨g, o, rfl, hh i a hi⟩

section
variable {H : Type} {enc : TypeId × Value → H} {W : World}
theorem row_of_trod {α : Type} (a0 : α) (R : Nat → Nat → α → Prop) {ts te : TypeId} (hu : Tryz.prog.underlying ts = some (.slice te)) (c : Nat) (hc : 0 < c) (hcell : Tryz.prog.cellsOf te = c)
    (elem : ∀ {fuel : Nat} {cs : List Value} {x : DataW H × List MemPlace} {g o : Nat}, DataW.trod enc Tryz.prog W 0 (fun _ => true) true fuel te cs = some x → (∀ i, i < c → W.cell? ⟨g, o + i, none⟩ = cs[i]?) → ∃ a : α, R g o a)
    {fuel : Nat} {ao : Option Addr} {n cap : Nat} {x : DataW H × List MemPlace} (h : DataW.trod enc Tryz.prog W 0 (fun _ => true) true fuel ts [.slice ao n cap] = some x) :
    ∃ l : List α, RowIn W.heap.size c R (.slice ao n cap) l := by
  rcases open_slice hu h with ⟨hcs, _⟩ | ⟨a, len, cap', m, fu, D, Pl, hcs, _, hl, hm, hmm, _, hx⟩
  · simp at hcs
    obtain ⟨rfl, rfl, rfl⟩ := hcs
    exact ⟨[], none, 0, rfl, Nat.le_refl _, by decide, .inl rfl⟩
  · simp at hcs
    obtain ⟨rfl, rfl, rfl⟩ := hcs
    simp at hmm
    subst hmm
    by_cases h0 : n = 0
    · subst h0
      exact ⟨[], _, _, rfl, Nat.zero_le _, hm, .inl rfl⟩
    · rw [hcell] at hx
      obtain ⟨b, off, spot⟩ := a
      obtain ⟨cs0, hc0, _⟩ := hx 0 (by omega)
      obtain ⟨_, hl0, hc0⟩ := World.cells?_some hc0
      have hs0 : cs0[0]? = some cs0[0] := List.getElem?_eq_getElem (by omega)
      have hcc := hc0 0 (by omega)
      rw [hs0] at hcc
      have hspot : spot = none := by simpa [Addr.add] using World.cell?_spot hcc
      subst hspot
      have hlt : b < W.heap.size := by simpa [Addr.add] using World.block_lt_of_cell? W _ hcc
      have key : ∀ i, i < n → ∃ a : α, R b (off + i * c) a := by
        intro i hi
        obtain ⟨cs, hc, ht⟩ := hx i (by omega)
        obtain ⟨_, _, hc⟩ := World.cells?_some hc
        refine elem ht (fun j hj => ?_)
        rw [← hc j hj, Addr.add_lit, Addr.add_lit]
      have : ∃ f : Nat → α, ∀ i, i < n → R b (off + i * c) (f i) :=
        ⟨fun i => if h : i < n then Classical.choose (key i h) else a0, fun i hi => by simp only [hi, dif_pos]; exact Classical.choose_spec (key i hi)⟩
      obtain ⟨f, hf⟩ := this
      refine ⟨(List.range n).map f, some ⟨b, off, none⟩, m, by simp, by simpa using hl, hm, .inr ⟨b, off, hlt, rfl, fun i a ha => ?_⟩⟩
      rw [List.getElem?_map] at ha
      have hi : i < n := by
        rcases Nat.lt_or_ge i n with h | h
        · exact h
        · rw [List.getElem?_eq_none (by simpa using h)] at ha; cases ha
      rw [List.getElem?_range hi] at ha
      simp at ha
      subst ha
      exact hf i hi
theorem nat_of_trod {k : IntKind} {n : Int} (h0 : k.min = 0) (w : (Lit.int k n).wf = true) : ∃ m : Nat, n = m := ⟨n.toNat, (Int.toNat_of_nonneg (by have := (wf_bounds w).1; omega)).symm⟩
theorem slice_len1 {v : Value} {fuel : Nat} {ts te : TypeId} (hu : Tryz.prog.underlying ts = some (.slice te)) {x : DataW H × List MemPlace} (h : DataW.trod enc Tryz.prog W 0 (fun _ => true) true fuel ts [v] = some x) : ∃ ao n cap, v = .slice ao n cap := by
  rcases open_slice hu h with ⟨hcs, _⟩ | ⟨a, len, cap', m, fu, D, Pl, hcs, _⟩
  · simp at hcs; exact ⟨_, _, _, hcs⟩
  · simp at hcs; exact ⟨_, _, _, hcs⟩
theorem two_cells {cs : List Value} (h : cs.length = 2) : ∃ a b, cs = [a, b] := by
  match cs, h with
  | [a, b], _ => exact ⟨a, b, rfl⟩
theorem three_cells {cs : List Value} (h : cs.length = 3) : ∃ a b c, cs = [a, b, c] := by
  match cs, h with
  | [a, b, c], _ => exact ⟨a, b, c, rfl⟩
theorem eight_cells {cs : List Value} (h : cs.length = 8) : ∃ a b c d e f g i, cs = [a, b, c, d, e, f, g, i] := by
  match cs, h with
  | [a, b, c, d, e, f, g, i], _ => exact ⟨a, b, c, d, e, f, g, i, rfl⟩
theorem span_of_trod [bn : Inhabited Ban] (hban : ban.top = 0) {fuel : Nat} {cs : List Value} {x : DataW H × List MemPlace} (h : DataW.trod enc Tryz.prog W 0 (fun _ => true) true fuel 51 cs = some x) :
    ∃ (s : SpanS) (u : Value), cs = [.int .i64 s.c, u] ∧ BytesAt W.heap.size W u s.body := by
  obtain ⟨xs, n, _, _, hl, hlen, hf⟩ := DataW.trod_struct Tryz.underlying51 h
  have hl2 : cs.length = 2 := hl.trans (by kernel_rfl)
  obtain ⟨c0, c1, rfl⟩ := two_cells hl2
  have hx : ∀ i, i < 2 → ∃ y, xs[i]? = some y := fun i hi => ⟨_, List.getElem?_eq_getElem (by rw [hlen]; exact hi)⟩
  have g0 := hf 0 _ rfl
  have g1 := hf 1 _ rfl
  dsimp at g0 g1
  rw [show Tryz.prog.cellsOf 3 = 1 from by kernel_rfl] at g0
  rw [show Tryz.prog.cellsOf 49 = 1 from by kernel_rfl] at g1
  obtain ⟨y0, e0⟩ := hx 0 (by omega)
  obtain ⟨y1, e1⟩ := hx 1 (by omega)
  rw [e0] at g0; rw [e1] at g1
  obtain ⟨n0, h0, _, w0⟩ := DataW.trod_int Tryz.underlying3 g0
  obtain ⟨v1, l1, h1, b1⟩ := bytes_of_trod hban g1
  simp at h0 h1
  subst h0 h1
  exact ⟨⟨n0, l1⟩, _, rfl, b1⟩
theorem item_of_trod [bn : Inhabited Ban] (hban : ban.top = 0) {fuel : Nat} {cs : List Value} {x : DataW H × List MemPlace} {g o : Nat} (h : DataW.trod enc Tryz.prog W 0 (fun _ => true) true fuel 53 cs = some x)
    (hc : ∀ i, i < 3 → W.cell? ⟨g, o + i, none⟩ = cs[i]?) : ∃ a : ItemS, ItIn W.heap.size W g o a := by
  obtain ⟨xs, n, _, _, hl, hlen, hf⟩ := DataW.trod_struct Tryz.underlying53 h
  have hl3 : cs.length = 3 := hl.trans (by kernel_rfl)
  obtain ⟨c0, c1, c2, rfl⟩ := three_cells hl3
  have hx : ∀ i, i < 2 → ∃ y, xs[i]? = some y := fun i hi => ⟨_, List.getElem?_eq_getElem (by rw [hlen]; exact hi)⟩
  have g0 := hf 0 _ rfl
  have g1 := hf 1 _ rfl
  dsimp at g0 g1
  rw [show Tryz.prog.cellsOf 27 = 1 from by kernel_rfl] at g0
  rw [show Tryz.prog.cellsOf 51 = 2 from by kernel_rfl] at g1
  obtain ⟨y0, e0⟩ := hx 0 (by omega)
  obtain ⟨y1, e1⟩ := hx 1 (by omega)
  rw [e0] at g0; rw [e1] at g1
  obtain ⟨n0, h0, _, w0⟩ := DataW.trod_int Tryz.underlying27 g0
  obtain ⟨s, u, h1, b1⟩ := span_of_trod hban g1
  simp at h0 h1
  obtain ⟨h1a, h1b⟩ := h1
  subst h0 h1a h1b
  have k0 := hc 0 (by omega)
  have k1 := hc 1 (by omega)
  have k2 := hc 2 (by omega)
  have hb0 := wf_bounds w0
  have h64 : IntKind.u64.max = 18446744073709551615 := rfl
  obtain ⟨m, rfl⟩ := nat_of_trod rfl w0
  exact ⟨⟨m, s⟩, by show m < _; have := hb0.2; omega, _, b1, k0, k1, k2⟩
theorem act16_of_trod [bn : Inhabited Ban] (hban : ban.top = 0) {fuel : Nat} {cs : List Value} {x : DataW H × List MemPlace} {g o : Nat} (h : DataW.trod enc Tryz.prog W 0 (fun _ => true) true fuel 30 cs = some x)
    (hc : ∀ i, i < 8 → W.cell? ⟨g, o + i, none⟩ = cs[i]?) : ∃ a : Act16S, Act16At W.heap.size W g o a := by
  obtain ⟨xs, n, _, _, hl, hlen, hf⟩ := DataW.trod_struct Tryz.underlying30 h
  have hl8 : cs.length = 8 := hl.trans (by kernel_rfl)
  obtain ⟨c0, c1, c2, c3, c4, c5, c6, c7, rfl⟩ := eight_cells hl8
  have hx : ∀ i, i < 8 → ∃ y, xs[i]? = some y := fun i hi => ⟨_, List.getElem?_eq_getElem (by rw [hlen]; exact hi)⟩
  have g0 := hf 0 _ rfl
  have g1 := hf 1 _ rfl
  have g2 := hf 2 _ rfl
  have g3 := hf 3 _ rfl
  have g4 := hf 4 _ rfl
  have g5 := hf 5 _ rfl
  have g6 := hf 6 _ rfl
  have g7 := hf 7 _ rfl
  dsimp at g0 g1 g2 g3 g4 g5 g6 g7
  rw [show Tryz.prog.cellsOf 5 = 1 from by kernel_rfl] at g0
  rw [show Tryz.prog.cellsOf 3 = 1 from by kernel_rfl] at g1 g6 g7
  rw [show Tryz.prog.cellsOf 27 = 1 from by kernel_rfl] at g2 g3
  rw [show Tryz.prog.cellsOf 28 = 1 from by kernel_rfl] at g4
  rw [show Tryz.prog.cellsOf 4 = 1 from by kernel_rfl] at g5
  obtain ⟨y0, e0⟩ := hx 0 (by omega)
  obtain ⟨y1, e1⟩ := hx 1 (by omega)
  obtain ⟨y2, e2⟩ := hx 2 (by omega)
  obtain ⟨y3, e3⟩ := hx 3 (by omega)
  obtain ⟨y4, e4⟩ := hx 4 (by omega)
  obtain ⟨y5, e5⟩ := hx 5 (by omega)
  obtain ⟨y6, e6⟩ := hx 6 (by omega)
  obtain ⟨y7, e7⟩ := hx 7 (by omega)
  rw [e0] at g0; rw [e1] at g1; rw [e2] at g2; rw [e3] at g3; rw [e4] at g4; rw [e5] at g5; rw [e6] at g6; rw [e7] at g7
  obtain ⟨n0, h0, _, w0⟩ := DataW.trod_int Tryz.underlying5 g0
  obtain ⟨n1, h1, _, w1⟩ := DataW.trod_int Tryz.underlying3 g1
  obtain ⟨n2, h2, _, w2⟩ := DataW.trod_int Tryz.underlying27 g2
  obtain ⟨n3, h3, _, w3⟩ := DataW.trod_int Tryz.underlying27 g3
  obtain ⟨ao, n4, cap, h4⟩ := slice_len1 Tryz.underlying28 g4
  have h4' : c4 = .slice ao n4 cap := by simpa using h4
  obtain ⟨b5, h5, _⟩ := DataW.trod_bool Tryz.underlying4 g5
  obtain ⟨n6, h6, _, w6⟩ := DataW.trod_int Tryz.underlying3 g6
  obtain ⟨n7, h7, _, w7⟩ := DataW.trod_int Tryz.underlying3 g7
  simp at h0 h1 h2 h3 h5 h6 h7
  subst h0 h1 h2 h3 h4' h5 h6 h7
  obtain ⟨l, hrow⟩ := row_of_trod (α := ItemS) ⟨0, ⟨0, []⟩⟩ (ItIn W.heap.size W) Tryz.underlying28 3 (by decide) (by kernel_rfl) (fun h hc => item_of_trod hban h hc) g4
  have hb0 := wf_bounds w0
  have hb2 := wf_bounds w2
  have hb3 := wf_bounds w3
  have h64 : IntKind.u64.max = 18446744073709551615 := rfl
  have h8 : IntKind.u8.max = 255 := rfl
  have h80 : IntKind.u8.min = 0 := rfl
  obtain ⟨m2, rfl⟩ := nat_of_trod rfl w2
  obtain ⟨m3, rfl⟩ := nat_of_trod rfl w3
  exact ⟨⟨n0, n1, m2, m3, l, b5, n6, n7⟩, by show m2 < _; have := hb2.2; omega, by show m3 < _; have := hb3.2; omega, ⟨by show 0 ≤ n0; omega, by show n0 ≤ 255; omega⟩, _, hrow, hc 0 (by omega), hc 1 (by omega), hc 2 (by omega), hc 3 (by omega), hc 4 (by omega), hc 5 (by omega), hc 6 (by omega), hc 7 (by omega)⟩
theorem acts16_of_trod [bn : Inhabited Ban] (hban : ban.top = 0) {fuel : Nat} {ao : Option Addr} {n cap : Nat} {x : DataW H × List MemPlace} (h : DataW.trod enc Tryz.prog W 0 (fun _ => true) true fuel 23 [.slice ao n cap] = some x) :
    ∃ acts : List Act16S, Acts16At W.heap.size W (.slice ao n cap) acts :=
  row_of_trod (α := Act16S) ⟨0, 0, 0, 0, [], false, 0, 0⟩ (Act16At W.heap.size W) Tryz.underlying23 8 (by decide) (by kernel_rfl) (fun h hc => act16_of_trod hban h hc) h
end
end Go.Proofs.YtgogfnafbeahoaaGreat

/-! ## LedFe -/
namespace Go.Proofs.YtgogfnafbeahoaaGreat
open Go Go.RowKit Go.Dr

def cutI (x : ItemS) : ItemS := ⟨x.n, ⟨x.s.c, x.s.body.take 40⟩⟩
def fewS (l : List ItemS) : List ItemS := (l.take 8).map cutI
theorem fewS_len (l : List ItemS) : (fewS l).length ≤ 8 := by unfold fewS; simp; omega
theorem fewS_body (l : List ItemS) : ∀ x ∈ fewS l, x.s.body.length ≤ 40 := by
  intro x hx
  obtain ⟨y, _, rfl⟩ := List.mem_map.1 hx
  show (y.s.body.take 40).length ≤ 40
  rw [List.length_take]
  omega
theorem fewS_more {l : List ItemS} {k : Nat} {x : ItemS} (hx : l[k]? = some x) (h : k < 8) : fewS (l.take (k + 1)) = fewS (l.take k) ++ [cutI x] := by
  obtain ⟨hk, rfl⟩ := List.getElem?_eq_some_iff.1 hx
  unfold fewS
  rw [List.take_take, List.take_take, Nat.min_eq_right (by omega), Nat.min_eq_right (by omega), List.take_succ_eq_append_getElem hk, List.map_append]
  rfl
theorem fewS_rest {l : List ItemS} {k : Nat} (h : 8 ≤ k) : fewS (l.take (k + 1)) = fewS (l.take k) := by
  unfold fewS
  rw [List.take_take, List.take_take, Nat.min_eq_left (by omega), Nat.min_eq_left (by omega)]
set_option maxRecDepth 100000 in
set_option maxHeartbeats 4000000 in
theorem few16_spec [bn : Inhabited Ban] {base : Nat} {w : World} {v : Value} {l : List ItemS} (h : ItsIn base w v l) (hb : base ≤ w.heap.size) (hT : ban.top ≤ w.heap.size) :
    Calls Tryz.prog 10 #[v] w fun e w' => ∃ v', e = .returned v' ∧ ItsAt base w' w.heap.size v' (fewS l) ∧ Keep No w w' := by
  obtain ⟨ao, cap, rfl, hlc, hcm⟩ := h.form
  have hli : (l.length : Int) ≤ 9223372036854775807 := by unfold maxLen at hcm; omega
  have HH := Lib.hid (And.intro h (And.intro hb (And.intro hT hli)))
  clear h hb hT hcm hlc hli
  go_enter Tryz.func10, Tryz.ntmps10
  go_wp2_with fail
  go_loopw [3, 8] (fun v3 v8 wr => ∃ k, v8 = .int .i64 (k : Nat) ∧ k ≤ l.length ∧ ItsAt base wr w.heap.size v3 (fewS (l.take k)) ∧ Keep No w wr) (fun _ v8 _ => l.length - (intOf v8).toNat)
  case atStart => exact ⟨0, rfl, Nat.zero_le _, ItsAt.nil _ _ _, Keep.refl _ _⟩
  case round =>
    obtain ⟨k, rfl, hk, hits, kr⟩ := hrel
    obtain ⟨oo, oc, rfl, _, _⟩ := hits.form
    by_cases hlt : k < l.length
    · have hx : l[k]? = some l[k] := List.getElem?_eq_getElem hlt
      have hm1 := fun h8 => fewS_more hx h8
      have hm2 := fun h8 => fewS_rest (l := l) (k := k) h8
      obtain ⟨g, o, hgo, hn, u, hub, c0, c1, c2⟩ := HH.out.1.at hx
      generalize l[k] = x at hx hm1 hn hub c0 c1
      obtain ⟨uo, uc, rfl⟩ := hub.form
      subst hgo
      have c0 := kr.cell c0 (fun e => e)
      have c1 := kr.cell c1 (fun e => e)
      have c2 := kr.cell c2 (fun e => e)
      have hki : (k : Int) < (l.length : Int) := by omega
      have hkn : IntKind.i64.wrap ((k : Int) + 1) = ((k + 1 : Nat) : Int) := by
        have := HH.out.2.2.2
        rw [IntKind.wrap_i64]
        omega
      obtain ⟨tk, htk⟩ : ∃ tk, tk = fewS (l.take k) := ⟨_, rfl⟩
      have hlen : tk.length ≤ 8 := by rw [htk]; exact fewS_len _
      rw [← htk] at hits hm1 hm2
      have htl : tk.length = (fewS (l.take k)).length := by rw [htk]
      rw [← htl]
      have kA := (Keep.refl No wr).alloc (.cells #[.int .u64 x.n, .int .i64 x.s.c, .slice uo x.s.body.length uc] 53)
      have hA := heap_new wr (.cells #[.int .u64 x.n, .int .i64 x.s.c, .slice uo x.s.body.length uc] 53)
      by_cases h8 : k < 8
      · have h8i : (k : Int) < 8 := by omega
        have hcut := cut_spec ((hub.no kr).no kA) 40 (by decide)
        obtain ⟨cb, hcb⟩ : ∃ cb, cb = x.s.body.take 40 := ⟨_, rfl⟩
        have hcI : cutI x = ⟨x.n, ⟨x.s.c, cb⟩⟩ := by rw [hcb]; rfl
        rw [← hcb] at hcut
        rw [hcI] at hm1
        clear hcb hcI
        have HR := Lib.hid (And.intro hits (And.intro kr (And.intro (hm1 h8) (And.intro hlen (And.intro kA (And.intro hA hlt))))))
        clear hits kr hm1 hm2 hlen kA hA hlt hx htk htl hub hk h8 hn
        go_wp2_with fail
        refine hcut.mono ?_
        rintro e w2 ⟨v2, rfl, own2, k2⟩
        obtain ⟨o2, c2', rfl⟩ := own2.form
        have hA2 := k2.heap HR.out.2.2.2.2.2.1 (fun e => e)
        have d0 := cell_of hA2 0
        have d1 := cell_of hA2 1
        have d2 := cell_of hA2 2
        have fA := frozen_of hA2
        simp at d0 d1 d2
        obtain ⟨W3, hW3⟩ : ∃ W3, w2.setCell ⟨wr.heap.size, 2, none⟩ (.slice o2 cb.length c2') = W3 := ⟨_, rfl⟩
        have k3 : Keep (· = wr.heap.size) w2 (w2.setCell ⟨wr.heap.size, 2, none⟩ (.slice o2 cb.length c2')) := keep_cell _ _
        have hA3 := heap_setCell_same (i := 2) (u := .slice o2 cb.length c2') hA2
        have hsA : wr.heap.size < (wr.alloc (.cells #[.int .u64 x.n, .int .i64 x.s.c, .slice uo x.s.body.length uc] 53)).heap.size := by simp
        have own3 := own2.keep k3 (fun b hb e => by have := (own2.lt b hb).1; have e : b = wr.heap.size := e; omega)
        have hits2 := (HR.out.1.no HR.out.2.2.2.2.1).no k2
        have hbw : base ≤ wr.heap.size := Nat.le_trans HH.out.2.1 HR.out.2.1.size
        have hfk : Foot base w2 (· = wr.heap.size) := fun b e => by
          subst e
          exact ⟨hbw, heap_lt hA2, fun cs fr e => by rw [hA2] at e; simp at e⟩
        have hits3 := hits2.keep hfk k3 (fun b hb e => by
          obtain ⟨xs, _, _, h3⟩ := HR.out.1
          have := (World.ownsRow.lt h3 b hb).2
          have e : b = wr.heap.size := e
          omega)
        rw [hW3] at k3 hA3 own3 hits3
        have p0 := cell_of hA3 0
        have p1 := cell_of hA3 1
        have p2 := cell_of hA3 2
        simp at p0 p1 p2
        have kB := (Keep.refl No W3).alloc (.cells #[.int .u64 x.n, .int .i64 x.s.c, .slice o2 cb.length c2'] 53)
        have hB := heap_new W3 (.cells #[.int .u64 x.n, .int .i64 x.s.c, .slice o2 cb.length c2'] 53)
        have hbb := (own3.keep kB (fun _ _ e => e)).bytes (base := base) (fun _ => Nat.le_trans HH.out.2.2.1 (by have := HR.out.2.1.size; omega))
        have H3 := Lib.hid (And.intro (hits3.no kB) (And.intro hbb (And.intro hB (And.intro ((((HR.out.2.1.then HR.out.2.2.2.2.1).then k2).trans k3 (fun c hc e => by have e : c = wr.heap.size := e; have := HR.out.2.1.size; omega)).then kB) trivial))))
        have hsz3 := H3.out.2.2.2.1.size
        clear hits3 hits2 own3 hB kB k3 hA3 hA2 own2 k2 hsA hbb hfk hbw hcut
        go_wp2_with (at_builtin; refine wpList_append_item (y := ⟨x.n, ⟨x.s.c, cb⟩⟩) rfl _ _ rfl H3.out.1 HH.out.2.1 rfl H3.out.2.2.1 rfl H3.out.2.1 (by have := HR.out.2.2.2.1; omega) hsz3 ?_; intro vo5 vc5 w5 hits5 k5)
        go_roundw
        case rel =>
          refine ⟨k + 1, by congr 1, by have := HR.out.2.2.2.2.2.2; omega, by rw [HR.out.2.2.1]; exact hits5, H3.out.2.2.2.1.trans k5 (fun c hc e => ?_)⟩
          obtain ⟨xs, h1, h2, h3⟩ := HR.out.1
          have := (World.ownsRow.lt h3 c e).1
          omega
        case measure => have := HR.out.2.2.2.2.2.2; simp [intOf]; omega
      · have h8i : ¬ (k : Int) < 8 := by omega
        have HR := Lib.hid (And.intro hits (And.intro kr (And.intro (hm2 (by omega)) (And.intro hlt kA))))
        clear hits kr hm1 hm2 hlen kA hA hlt hx htk htl hub hk h8 hn
        go_wp2_with fail
        go_roundw
        case rel => exact ⟨k + 1, by congr 1, by have := HR.out.2.2.2.1; omega, by rw [HR.out.2.2.1]; exact HR.out.1.no HR.out.2.2.2.2, HR.out.2.1.then HR.out.2.2.2.2⟩
        case measure => have := HR.out.2.2.2.1; simp [intOf]; omega
    · have hke : k = l.length := by omega
      have hki : ¬ (k : Int) < (l.length : Int) := by omega
      subst hke
      have htk : l.take l.length = l := List.take_of_length_le (Nat.le_refl _)
      rw [htk] at hits
      rw [htk]
      have HR := Lib.hid (And.intro hits kr)
      clear hits kr hk hlt htk
      go_wp2_with fail
      go_ret
      exact ⟨_, rfl, HR.out.1, HR.out.2⟩
end Go.Proofs.YtgogfnafbeahoaaGreat

/-! ## LedSk -/
namespace Go.Proofs.YtgogfnafbeahoaaGreat
open Go Go.RowKit

def look : List (Int × Nat) → Int → Option Nat
  | [], _ => none
  | x :: S, k => if x.1 = k then some x.2 else look S k
def setS : List (Int × Nat) → Int → Nat → List (Int × Nat)
  | [], _, _ => []
  | x :: S, k, v => if x.1 = k then (k, v) :: S else x :: setS S k v
def keysS (S : List (Int × Nat)) : List Value := S.map (fun x => .int .i64 x.1)
def valsS (S : List (Int × Nat)) : List Value := S.map (fun x => .int .u64 x.2)
theorem look_setS : ∀ {S : List (Int × Nat)} {k c : Int} {v : Nat}, (look S k).isSome = true → look (setS S k v) c = if c = k then some v else look S c
  | [], k, c, v, h => by cases h
  | x :: S, k, c, v, h => by
    unfold setS
    by_cases hx : x.1 = k
    · rw [if_pos hx]
      unfold look
      simp only
      by_cases hc : k = c
      · rw [if_pos hc, if_pos hc.symm]
      · rw [if_neg hc, if_neg (fun e => hc e.symm), if_neg (fun e => hc (hx.symm.trans e))]
    · rw [if_neg hx]
      have h' : (look S k).isSome = true := by unfold look at h; rw [if_neg hx] at h; exact h
      unfold look
      by_cases hc : x.1 = c
      · rw [if_pos hc, if_pos hc, if_neg (fun e => hx (hc.trans e))]
      · rw [if_neg hc, if_neg hc]
        exact look_setS h'
theorem look_snoc : ∀ {S : List (Int × Nat)} {k c : Int} {v : Nat}, look S k = none → look (S ++ [(k, v)]) c = if c = k then some v else look S c
  | [], k, c, v, _ => by
    show (if k = c then some v else none) = if c = k then some v else none
    by_cases hc : k = c
    · rw [if_pos hc, if_pos hc.symm]
    · rw [if_neg hc, if_neg (fun e => hc e.symm)]
  | x :: S, k, c, v, h => by
    have hx : ¬ x.1 = k := fun e => by unfold look at h; rw [if_pos e] at h; cases h
    have h' : look S k = none := by unfold look at h; rw [if_neg hx] at h; exact h
    rw [List.cons_append]
    unfold look
    by_cases hc : x.1 = c
    · rw [if_pos hc, if_pos hc, if_neg (fun e => hx (hc.trans e))]
    · rw [if_neg hc, if_neg hc]
      exact look_snoc h'
theorem findNow_sk (k : Int) (v : Nat) : ∀ (es : List MapEntry) (S : List (Int × Nat)) (i : Nat), es.map (·.key) = keysS S → es.map (·.val) = valsS S →
    (look S k = none ∧ Instr.findNow (.int .i64) (.int .i64 k) es i = some none) ∨
    (∃ y j, look S k = some y ∧ Instr.findNow (.int .i64) (.int .i64 k) es i = some (some (i + j, .int .u64 y)) ∧ j < es.length ∧ (es[j]?).map (·.key) = some (.int .i64 k) ∧
      (es.modify j (fun e => { e with key := .int .i64 k, val := .int .u64 v })).map (·.key) = keysS (setS S k v) ∧ (es.modify j (fun e => { e with key := .int .i64 k, val := .int .u64 v })).map (·.val) = valsS (setS S k v))
  | [], [], i, _, _ => .inl ⟨rfl, rfl⟩
  | [], _ :: _, i, h, _ => by simp [keysS] at h
  | _ :: _, [], i, h, _ => by simp [keysS] at h
  | e :: es, s :: S, i, hk, hv => by
    simp only [keysS, valsS, List.map_cons, List.cons.injEq] at hk hv
    obtain ⟨hk0, hk⟩ := hk
    obtain ⟨hv0, hv⟩ := hv
    by_cases hkk : s.1 = k
    · refine .inr ⟨s.2, 0, by unfold look; rw [if_pos hkk], ?_, by simp, by simp [hk0, hkk], ?_, ?_⟩
      · simp [Instr.findNow, hk0, Instr.sameNow, hkk, hv0]
      · simp [setS, hkk, keysS, hk]
      · simp [setS, hkk, valsS, hv]
    · have hne : ¬ k = s.1 := fun h => hkk h.symm
      have hbe : (k == s.1) = false := by simpa using hne
      rcases findNow_sk k v es S (i + 1) hk hv with ⟨h1, h2⟩ | ⟨y, j, h1, h2, h3, h6, h4, h5⟩
      · exact .inl ⟨by unfold look; rw [if_neg hkk]; exact h1, by simpa [Instr.findNow, hk0, Instr.sameNow, hbe] using h2⟩
      · refine .inr ⟨y, j + 1, by unfold look; rw [if_neg hkk]; exact h1, ?_, by simpa using h3, by simpa using h6, ?_, ?_⟩
        · simp only [Instr.findNow, hk0, Instr.sameNow, if_true, hbe, h2]
          congr 3
          omega
        · simp only [List.modify_succ_cons, List.map_cons, setS, if_neg hkk, keysS]
          rw [h4, hk0]
          rfl
        · simp only [List.modify_succ_cons, List.map_cons, setS, if_neg hkk, valsS]
          rw [h5, hv0]
          rfl
theorem isKeyI (k : Int) : MapKept.IsKey (.int .i64) (.int .i64 k) := by simp [MapKept.IsKey]
/-- The map says of each number what 'f' says. -/
def SkAt (w : World) (r : Nat) (f : Int → Nat) : Prop :=
  ∃ (es : Array MapEntry) (clock : Nat) (S : List (Int × Nat)), w.heap[r]? = some (.map es clock) ∧ es.toList.map (·.key) = keysS S ∧ es.toList.map (·.val) = valsS S ∧ ∀ c, f c = (look S c).getD 0
theorem SkAt.keep {w w' : World} {r : Nat} {f : Int → Nat} {F : Nat → Prop} (h : SkAt w r f) (k : Keep F w w') (hr : ¬ F r) : SkAt w' r f := by
  obtain ⟨es, clock, S, hb, he⟩ := h
  exact ⟨es, clock, S, k.heap hb hr, he⟩
theorem SkAt.heap {w w' : World} {r : Nat} {f : Int → Nat} (h : SkAt w r f) (hh : w'.heap[r]? = w.heap[r]?) : SkAt w' r f := by
  obtain ⟨es, clock, S, hb, he⟩ := h
  exact ⟨es, clock, S, hh.trans hb, he⟩
theorem SkAt.lt {w : World} {r : Nat} {f : Int → Nat} (h : SkAt w r f) : r < w.heap.size := by
  obtain ⟨es, clock, S, hb, he⟩ := h
  exact heap_lt hb
theorem SkAt.new (w : World) : SkAt (w.alloc (.map #[] 0)) w.heap.size (fun _ => 0) := ⟨#[], 0, [], heap_new w _, rfl, rfl, fun _ => rfl⟩
theorem sk_lookup {w : World} {r : Nat} {f : Int → Nat} (h : SkAt w r f) (k : Int) : (Instr.lookup 60 (.map (some r)) (.int .i64 k) false).run Tryz.prog w = .ok (.int .u64 (f k)) w := by
  obtain ⟨es, clock, S, hb, h1, h2, h3⟩ := h
  rcases findNow_sk k 0 es.toList S 0 h1 h2 with ⟨a1, a2⟩ | ⟨y, j, a1, a2, _⟩
  · have hf : f k = 0 := by rw [h3, a1]; rfl
    have hz : (zeroValue 27).run Tryz.prog w = .ok (.int .u64 0) w := by kernel_rfl
    simp [Instr.lookup, run_underlying Tryz.underlying60, MapKept.run_getObj_map hb, MapKept.run_checkKey Tryz.underlying3 (isKeyI k), MapKept.run_findKey Tryz.underlying3 a2, Result.andThen, hf, hz]
  · have hf : f k = y := by rw [h3, a1]; rfl
    simp [Instr.lookup, run_underlying Tryz.underlying60, MapKept.run_getObj_map hb, MapKept.run_checkKey Tryz.underlying3 (isKeyI k), MapKept.run_findKey Tryz.underlying3 a2, Result.andThen, hf]
theorem sk_store {w : World} {r : Nat} {f : Int → Nat} (h : SkAt w r f) (k : Int) (v : Nat) :
    ∃ w', (Instr.mapUpdate 60 (.map (some r)) (.int .i64 k) (.int .u64 v)).run Tryz.prog w = .ok () w' ∧ SkAt w' r (fun c => if c = k then v else f c) ∧ Keep (· = r) w w' := by
  obtain ⟨es, clock, S, hb, h1, h2, h3⟩ := h
  have hlt := heap_lt hb
  rcases findNow_sk k v es.toList S 0 h1 h2 with ⟨a1, a2⟩ | ⟨y, j, a1, a2, hj, hkey, a3, a4⟩
  · refine ⟨_, ?_, ⟨es.push { key := .int .i64 k, val := .int .u64 v, born := clock }, clock + 1, S ++ [(k, v)], ?_, ?_, ?_, fun c => ?_⟩, Keep.setObj (F := (· = r)) (Keep.refl _ w) (r := r) (.inl rfl) (.map (es.push { key := .int .i64 k, val := .int .u64 v, born := clock }) (clock + 1))⟩
    · simp [Instr.mapUpdate, run_underlying Tryz.underlying60, MapKept.run_getObj_map hb, MapKept.run_checkKey Tryz.underlying3 (isKeyI k), MapKept.run_findKey Tryz.underlying3 a2, MapKept.run_setObj_map _ hb, Result.andThen]
    · simp [hlt]
    · rw [Array.toList_push, List.map_append, h1]; simp [keysS]
    · rw [Array.toList_push, List.map_append, h2]; simp [valsS]
    · show (if c = k then v else f c) = _
      rw [look_snoc a1]
      by_cases hc : c = k
      · rw [if_pos hc, if_pos hc]; rfl
      · rw [if_neg hc, if_neg hc]; exact h3 c
  · simp only [Nat.zero_add] at a2
    have hkey : (es[j]?).map (·.key) = some (.int .i64 k) := by simpa using hkey
    refine ⟨_, ?_, ⟨es.modify j (fun e => { e with key := .int .i64 k, val := .int .u64 v }), clock, setS S k v, ?_, ?_, ?_, fun c => ?_⟩, Keep.setObj (F := (· = r)) (Keep.refl _ w) (r := r) (.inl rfl) (.map (es.modify j (fun e => { e with key := .int .i64 k, val := .int .u64 v })) clock)⟩
    · simp [Instr.mapUpdate, run_underlying Tryz.underlying60, MapKept.run_getObj_map hb, MapKept.run_checkKey Tryz.underlying3 (isKeyI k), MapKept.run_findKey Tryz.underlying3 a2, hkey, MapKept.run_keyThatStays (isKeyI k), MapKept.run_setObj_map _ hb, Result.andThen]
    · simp [hlt]
    · rw [Array.toList_modify]; exact a3
    · rw [Array.toList_modify]; exact a4
    · show (if c = k then v else f c) = _
      rw [look_setS (by rw [a1]; rfl)]
      by_cases hc : c = k
      · rw [if_pos hc, if_pos hc]; rfl
      · rw [if_neg hc, if_neg hc]; exact h3 c
end Go.Proofs.YtgogfnafbeahoaaGreat

/-! ## LedCn -/
namespace Go.Proofs.YtgogfnafbeahoaaGreat
open Go Go.RowKit

theorem add64_call (x y : Int) (hx : 0 ≤ x) (hy : 0 ≤ y) (h : x + y < 18446744073709551616) (w : World) : (callFunc 52 #[.int .u64 x, .int .u64 y, .int .u64 0]).run Tryz.prog w = .ok (.value (.tuple #[.int .u64 (x + y), .int .u64 0])) w := by
  rw [run_callFunc_extern Tryz.func52 (by kernel_rfl) (by kernel_rfl) (by kernel_rfl) (e := add64Entry) (by kernel_rfl), run_add64 x y 0 hx hy (by decide) (by decide)]
  simp only [Result.andThen]
  have e1 : (x + y + 0) % 18446744073709551616 = x + y := by omega
  have e2 : (x + y + 0) / 18446744073709551616 = 0 := by omega
  rw [e1, e2]
theorem sizeR_append (l m : List RunN) : sizeR (l ++ m) = sizeR l + sizeR m := by unfold sizeR; rw [List.map_append, List.sum_append]
theorem sizeR_take_le (l : List RunN) (k : Nat) : sizeR (l.take k) ≤ sizeR l := by
  have : sizeR l = sizeR (l.take k) + sizeR (l.drop k) := by rw [← sizeR_append, List.take_append_drop]
  omega
set_option maxRecDepth 100000 in
set_option maxHeartbeats 4000000 in
theorem rCount_spec {w : World} {v : Value} {l : List RunN} (h : RunsAt w v l) (hs : RSet l) (hl : l.length ≤ 1099511627776) (hb : sizeR l < 9223372036854775808) :
    Calls Tryz.prog 21 #[.agg #[v]] w fun e w' => e = .returned (.int .u64 (sizeR l)) ∧ Keep No w w' := by
  obtain ⟨ao, cap, rfl, hc, hm⟩ := h.form
  obtain ⟨W, hW⟩ : ∃ W, W = w.alloc (.cells #[.slice ao l.length cap] 34) := ⟨_, rfl⟩
  have kW : Keep No w W := by rw [hW]; exact (Keep.refl _ _).alloc _
  have hA : W.heap[w.heap.size]? = some (.cells #[.slice ao l.length cap] 34 (0, 0)) := by rw [hW]; exact heap_new _ _
  have c0 := cell_of hA 0
  simp at c0
  have hli : (l.length : Int) ≤ 1099511627776 := by omega
  have HH := Lib.hid (And.intro (h.no kW) (And.intro hs (And.intro hb (And.intro kW hl))))
  have e0 : sizeR (l.take 0) = 0 := rfl
  clear h hs hb kW hl hc hm hA
  go_enter Tryz.func21, Tryz.ntmps21
  go_wp2_with fail
  rw [← hW]
  go_wp2_with fail
  go_loopw [3, 13] (fun v3 v13 wr => ∃ k, v13 = .int .i64 (k : Nat) ∧ k ≤ l.length ∧ v3 = .int .u64 (sizeR (l.take k)) ∧ Keep No W wr) (fun _ v13 _ => l.length - (intOf v13).toNat)
  case atStart => exact ⟨0, rfl, Nat.zero_le _, by rw [e0]; rfl, Keep.refl _ _⟩
  case round =>
    obtain ⟨k, rfl, hk, rfl, kr⟩ := hrel
    by_cases hlt : k < l.length
    · have hx : l[k]? = some l[k] := List.getElem?_eq_getElem hlt
      have htake : l.take (k + 1) = l.take k ++ [l[k]] := List.take_succ_eq_append_getElem hlt
      have hmem := List.getElem_mem hlt
      generalize l[k] = x at hx htake hmem
      obtain ⟨g, o, hgo, hrow⟩ := HH.out.1.row (fun e => by subst e; simp at hx)
      subst hgo
      obtain ⟨r0, r1⟩ := hrow _ _ hx
      have r0 := kr.cell r0 (fun e => e)
      have r1 := kr.cell r1 (fun e => e)
      have hki : (k : Int) < (l.length : Int) := by omega
      obtain ⟨hx1, hx2⟩ := HH.out.2.1.run x hmem
      have hsz : sizeR (l.take (k + 1)) = sizeR (l.take k) + (x.2 - x.1 + 1) := by rw [htake, sizeR_append]; rfl
      have hle := sizeR_take_le l (k + 1)
      have hbb := HH.out.2.2.1
      have hsmall : sizeR (l.take k) + (x.2 - x.1 + 1) < 9223372036854775808 := by omega
      generalize sizeR (l.take k) = t0 at *
      have hsub : IntKind.u64.wrap ((x.2 : Int) - (x.1 : Int)) = ((x.2 - x.1 : Nat) : Int) := by
        rw [IntKind.wrap_u64]
        omega
      have a1 := fun (w : World) => add64_call ((x.2 - x.1 : Nat) : Int) 1 (by omega) (by decide) (by omega) w
      have a2 := fun (w : World) => add64_call (t0 : Int) (((x.2 - x.1 : Nat) : Int) + 1) (by omega) (by omega) (by omega) w
      have kA := (Keep.refl No wr).alloc (.cells #[.int .u64 x.1, .int .u64 x.2] 114)
      have HR := Lib.hid (And.intro kr (And.intro hsz (And.intro hlt kA)))
      clear kr hsz hlt hle hbb htake hmem hx hrow hk hx1 hx2 hsmall kA
      generalize x.2 - x.1 = y at *
      go_wp2_with (first | rw [a1] | rw [a2])
      go_roundw
      case rel => exact ⟨k + 1, by congr 1, by have := HR.out.2.2.1; omega, by rw [HR.out.2.1]; congr 1, HR.out.1.then HR.out.2.2.2⟩
      case measure => have := HR.out.2.2.1; simp [intOf]; omega
    · have hke : k = l.length := by omega
      have hki : ¬ (k : Int) < (l.length : Int) := by omega
      subst hke
      have htk : l.take l.length = l := List.take_of_length_le (Nat.le_refl _)
      rw [htk]
      have HR := Lib.hid kr
      clear kr hk hlt htk
      go_wp2_with fail
      go_ret
      exact ⟨rfl, HH.out.2.2.2.1.then HR.out⟩
end Go.Proofs.YtgogfnafbeahoaaGreat
