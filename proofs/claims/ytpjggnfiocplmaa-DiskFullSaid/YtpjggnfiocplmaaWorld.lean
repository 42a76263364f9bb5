/- Worlds, and what of them stays: bytes behind a slice, maps of bytes. -/
import Derived.Test.YtpjggnfiocplmaaProg
import Derived.WalkKit
import Derived.WalkLawsBesides
import Derived.WalkSpells
import Derived.Maps.RangeRun
import Derived.Shelf.SlMaps.Clone
import Derived.Deep.AppendLies
import Derived.Lib.AppendZeros
import Derived.Lib.Hide
import Derived.Test.YtpjggnfiocplmaaDraw
namespace Go.Proofs.Ytpjggnfiocplmaa
open Go Go.RowKit

abbrev Bytes := List UInt8
def u8v (x : UInt8) : Value := .int .u8 (x.toNat : Int)
def No : Nat → Prop := fun _ => False

/-! ### What stays -/
structure Keep (F : Nat → Prop) (w w' : World) : Prop where
  os : w'.os = w.os
  tape : w'.tape = w.tape
  output : w'.output = w.output
  size : w.heap.size ≤ w'.heap.size
  block : ∀ b, b < w.heap.size → ¬ F b → w'.heap[b]? = w.heap[b]?
theorem Keep.refl (F : Nat → Prop) (w : World) : Keep F w w := ⟨rfl, rfl, rfl, Nat.le_refl _, fun _ _ _ => rfl⟩
theorem Keep.trans {F G : Nat → Prop} {a b c : World} (h : Keep F a b) (k : Keep G b c) (hG : ∀ x, x < a.heap.size → G x → F x) : Keep F a c :=
  ⟨k.os.trans h.os, k.tape.trans h.tape, k.output.trans h.output, Nat.le_trans h.size k.size,
    fun x hx hn => (k.block x (Nat.lt_of_lt_of_le hx h.size) (fun hg => hn (hG x hx hg))).trans (h.block x hx hn)⟩
theorem Keep.mono {F G : Nat → Prop} {a b : World} (h : Keep F a b) (hF : ∀ x, x < a.heap.size → F x → G x) : Keep G a b :=
  ⟨h.os, h.tape, h.output, h.size, fun x hx hn => h.block x hx (fun hf => hn (hF x hx hf))⟩
theorem Keep.no {F : Nat → Prop} {a b : World} (h : Keep No a b) : Keep F a b := h.mono (fun _ _ h => h.elim)
theorem Keep.then {F : Nat → Prop} {a b c : World} (h : Keep F a b) (k : Keep No b c) : Keep F a c := h.trans k (fun _ _ h => h.elim)
theorem Keep.alloc {F : Nat → Prop} {a w : World} (h : Keep F a w) (o : Obj) : Keep F a (w.alloc o) :=
  h.then ⟨rfl, rfl, rfl, by simp, fun k hk _ => Below.heap_alloc _ _ _ (by omega)⟩
theorem Keep.drew {F : Nat → Prop} {a w : World} (h : Keep F a w) : Keep F a w.drew := ⟨h.os, h.tape, h.output, h.size, h.block⟩
theorem Keep.setCell {F : Nat → Prop} {a w : World} (h : Keep F a w) {p : Addr} (hp : F p.block ∨ a.heap.size ≤ p.block) (u : Value) : Keep F a (w.setCell p u) :=
  ⟨h.os, h.tape, h.output, by simpa using h.size, fun k hk hn => by
    rw [Below.heap_setCell _ _ _ _ (fun e => by subst e; rcases hp with hp | hp; exact hn hp; omega)]
    exact h.block k hk hn⟩
theorem Keep.grown {F : Nat → Prop} {a w w' : World} {row : Option Nat} (h : Keep F a w) (hg : w.grownBy w' row) (hr : ∀ k, row = some k → F k ∨ a.heap.size ≤ k) : Keep F a w' :=
  ⟨hg.os.trans h.os, hg.tape.trans h.tape, hg.output.trans h.output, Nat.le_trans h.size hg.size, fun k hk hn => by
    rw [hg.block k (Nat.lt_of_lt_of_le hk h.size) (fun e => by rcases hr k e.symm with h' | h'; exact hn h'; omega)]
    exact h.block k hk hn⟩
theorem Keep.setObj {F : Nat → Prop} {a w : World} (h : Keep F a w) {r : Nat} (hp : F r ∨ a.heap.size ≤ r) (o : Obj) : Keep F a { w with heap := w.heap.setIfInBounds r o } :=
  ⟨h.os, h.tape, h.output, by simpa using h.size, fun k hk hn => by
    have : r ≠ k := fun e => by subst e; rcases hp with hp | hp; exact hn hp; omega
    show (w.heap.setIfInBounds r o)[k]? = _
    rw [Array.getElem?_setIfInBounds_ne this]
    exact h.block k hk hn⟩
theorem Keep.heap {F : Nat → Prop} {w w' : World} (h : Keep F w w') {b : Nat} {o : Obj} (hb : w.heap[b]? = some o) (hn : ¬ F b) : w'.heap[b]? = some o :=
  (h.block b (Array.getElem?_eq_some_iff.1 hb).1 hn).trans hb
theorem Keep.cell {F : Nat → Prop} {w w' : World} (h : Keep F w w') {p : Addr} {v : Value} (hc : w.cell? p = some v) (hn : ¬ F p.block) : w'.cell? p = some v :=
  (World.cell?_of_block (w := w) (h.block p.block (World.block_lt_of_cell? w p hc) hn)).trans hc
theorem Keep.below {F : Nat → Prop} {w w' : World} {B : Nat} (h : Keep F w w') (hF : ∀ x, F x → B ≤ x) (hB : B ≤ w.heap.size) : Below B w w' :=
  ⟨h.os, h.tape, h.output, h.size, fun k hk => h.block k (by omega) (fun hf => by have := hF k hf; omega)⟩
theorem heap_lt {w : World} {b : Nat} {o : Obj} (h : w.heap[b]? = some o) : b < w.heap.size := (Array.getElem?_eq_some_iff.1 h).1
/-- A cell of a block that is known whole. -/
theorem cell_of {w : World} {b : Nat} {cs : Array Value} {t : TypeId} {fr : Nat × Nat} (h : w.heap[b]? = some (.cells cs t fr)) (i : Nat) : w.cell? ⟨b, i, none⟩ = cs[i]? := by
  simp [World.cell?, h]
theorem frozen_of {w : World} {b : Nat} {cs : Array Value} {t : TypeId} (h : w.heap[b]? = some (.cells cs t (0, 0))) (i : Nat) : w.frozen? ⟨b, i, none⟩ = false := by
  simp [World.frozen?, h]
theorem heap_new (w : World) (o : Obj) : (w.alloc o).heap[w.heap.size]? = some o := heap_alloc_new w o
theorem heap_setCell_same {w : World} {b i : Nat} {cs : Array Value} {t : TypeId} {fr : Nat × Nat} {u : Value} (h : w.heap[b]? = some (.cells cs t fr)) :
    (w.setCell ⟨b, i, none⟩ u).heap[b]? = some (.cells (cs.setIfInBounds i u) t fr) := by
  simp [World.setCell, Array.getElem?_modify, h]

/-! ### Footprints -/
def Foot (base : Nat) (w : World) (F : Nat → Prop) : Prop :=
  ∀ b, F b → base ≤ b ∧ b < w.heap.size ∧ ∀ cs fr, w.heap[b]? ≠ some (.cells cs 5 fr)
theorem Foot.no (base : Nat) (w : World) : Foot base w No := fun _ h => h.elim

/-! ### Blocks in which no bytes are looked for (the caller may write to them) -/
structure Ban where
  Z : Nat → Prop
  top : Nat
  lt : ∀ b, Z b → b < top
abbrev noBan : Inhabited Ban := ⟨⟨No, 0, fun _ h => h.elim⟩⟩
abbrev oneBan (g : Nat) : Inhabited Ban := ⟨⟨(· = g), g + 1, fun b h => by have : b = g := h; omega⟩⟩
def ban [bn : Inhabited Ban] : Ban := default

/-! ### Bytes behind a slice -/
def ByteBlock [bn : Inhabited Ban] (base : Nat) (w : World) (b : Nat) : Prop := b < w.heap.size ∧ (b < base ∨ ∃ cs fr, w.heap[b]? = some (.cells cs 5 fr)) ∧ ¬ ban.Z b ∧ ban.top ≤ w.heap.size
theorem ByteBlock.not [bn : Inhabited Ban] {base : Nat} {w : World} {F : Nat → Prop} {b : Nat} (h : ByteBlock base w b) (hF : Foot base w F) : ¬ F b := by
  intro hb
  obtain ⟨h1, h2, h3⟩ := hF b hb
  rcases h.2.1 with h | ⟨cs, fr, h⟩
  · omega
  · exact h3 _ _ h
theorem ByteBlock.keep [bn : Inhabited Ban] {base : Nat} {w w' : World} {F : Nat → Prop} {b : Nat} (h : ByteBlock base w b) (hF : Foot base w F) (k : Keep F w w') : ByteBlock base w' b := by
  refine ⟨Nat.lt_of_lt_of_le h.1 k.size, ?_, h.2.2.1, Nat.le_trans h.2.2.2 k.size⟩
  have hn := h.not hF
  rcases h.2.1 with h2 | ⟨cs, fr, h2⟩
  · exact .inl h2
  · exact .inr ⟨cs, fr, k.heap h2 hn⟩

def BytesAt [bn : Inhabited Ban] (base : Nat) (w : World) (v : Value) (l : Bytes) : Prop :=
  ∃ ao cap, v = .slice ao l.length cap ∧ l.length ≤ cap ∧ cap ≤ maxLen ∧ (ao = none → cap = 0) ∧
    ∀ i x, l[i]? = some x → ∃ ad, ao = some ad ∧ ByteBlock base w ad.block ∧ w.cell? (ad.add i) = some (u8v x)

theorem BytesAt.form [bn : Inhabited Ban] {base : Nat} {w : World} {v : Value} {l : Bytes} (h : BytesAt base w v l) : ∃ ao cap, v = .slice ao l.length cap := by
  obtain ⟨ao, cap, h, _⟩ := h
  exact ⟨ao, cap, h⟩
theorem BytesAt.nil [bn : Inhabited Ban] (base : Nat) (w : World) : BytesAt base w (.slice none 0 0) [] := ⟨none, 0, rfl, Nat.le_refl _, by decide, fun _ => rfl, fun i x h => by simp at h⟩
theorem Addr.block_add (ad : Addr) (i : Nat) : (ad.add i).block = ad.block := by unfold Addr.add; split <;> rfl
theorem BytesAt.keep [bn : Inhabited Ban] {base : Nat} {w w' : World} {F : Nat → Prop} {v : Value} {l : Bytes} (h : BytesAt base w v l) (hF : Foot base w F) (k : Keep F w w') : BytesAt base w' v l := by
  obtain ⟨ao, cap, h1, h2, h3, h4, h5⟩ := h
  refine ⟨ao, cap, h1, h2, h3, h4, fun i x hx => ?_⟩
  obtain ⟨ad, e, hb, hc⟩ := h5 i x hx
  exact ⟨ad, e, hb.keep hF k, k.cell hc (by rw [Addr.block_add]; exact hb.not hF)⟩
theorem BytesAt.no [bn : Inhabited Ban] {base : Nat} {w w' : World} {v : Value} {l : Bytes} (h : BytesAt base w v l) (k : Keep No w w') : BytesAt base w' v l := h.keep (Foot.no _ _) k
theorem BytesAt.take [bn : Inhabited Ban] {base : Nat} {w : World} {ao : Option Addr} {n cap : Nat} {l : Bytes} (h : BytesAt base w (.slice ao n cap) l) (k : Nat) (hk : k ≤ l.length) : BytesAt base w (.slice ao k cap) (l.take k) := by
  obtain ⟨ao', cap', h1, h2, h3, h4, h5⟩ := h
  simp only [Value.slice.injEq] at h1
  obtain ⟨rfl, rfl, rfl⟩ := h1
  have hl : (l.take k).length = k := by simp; omega
  refine ⟨ao, cap, by rw [hl], by omega, h3, h4, fun i x hx => h5 i x ?_⟩
  rw [List.getElem?_take] at hx
  split at hx
  · exact hx
  · simp at hx
/-- Who writes to the banned blocks alone changes no bytes. -/
theorem BytesAt.banned [bn : Inhabited Ban] {base : Nat} {w w' : World} {v : Value} {l : Bytes} (h : BytesAt base w v l) (k : Keep ban.Z w w') : BytesAt base w' v l := by
  obtain ⟨ao, cap, h1, h2, h3, h4, h5⟩ := h
  refine ⟨ao, cap, h1, h2, h3, h4, fun i x hx => ?_⟩
  obtain ⟨ad, e, hb, hc⟩ := h5 i x hx
  refine ⟨ad, e, ⟨Nat.lt_of_lt_of_le hb.1 k.size, ?_, hb.2.2.1, Nat.le_trans hb.2.2.2 k.size⟩, k.cell hc (by rw [Addr.block_add]; exact hb.2.2.1)⟩
  rcases hb.2.1 with h2 | ⟨cs, fr, h2⟩
  · exact .inl h2
  · exact .inr ⟨cs, fr, k.heap h2 hb.2.2.1⟩
/-- Bytes: there is room above the ban. -/
theorem BytesAt.top [bn : Inhabited Ban] {base : Nat} {w : World} {v : Value} {l : Bytes} (h : BytesAt base w v l) (hl : l ≠ []) : ban.top ≤ w.heap.size := by
  obtain ⟨ao, cap, h1, h2, h3, h4, h5⟩ := h
  cases l with
  | nil => exact absurd rfl hl
  | cons x l =>
    obtain ⟨ad, e, hb, hc⟩ := h5 0 x rfl
    exact hb.2.2.2
/-- What lay there ahead of a block g that is new is not in g. -/
theorem BytesAt.toBan {base : Nat} {w w' : World} {v : Value} {l : Bytes} {g : Nat} (h : BytesAt (bn := noBan) base w v l) (k : Keep No w w') (hg : w.heap.size ≤ g) (hs : g < w'.heap.size) : BytesAt (bn := oneBan g) base w' v l := by
  obtain ⟨ao, cap, h1, h2, h3, h4, h5⟩ := h
  refine ⟨ao, cap, h1, h2, h3, h4, fun i x hx => ?_⟩
  obtain ⟨ad, e, hb, hc⟩ := h5 i x hx
  refine ⟨ad, e, ⟨Nat.lt_of_lt_of_le hb.1 k.size, ?_, fun hz => ?_, hs⟩, k.cell hc (fun h => h)⟩
  · rcases hb.2.1 with h2 | ⟨cs, fr, h2⟩
    · exact .inl h2
    · exact .inr ⟨cs, fr, k.heap h2 (fun h => h)⟩
  · have hz : ad.block = g := hz
    have := hb.1
    omega
theorem BytesAt.length [bn : Inhabited Ban] {base : Nat} {w : World} {ao : Option Addr} {n cap : Nat} {l : Bytes} (h : BytesAt base w (.slice ao n cap) l) : n = l.length := by
  obtain ⟨ao', cap', h1, _⟩ := h
  simp only [Value.slice.injEq] at h1
  exact h1.2.1

/-! ### A row of bytes that the call itself makes -/
def OwnB (w : World) (B : Nat) (v : Value) (l : Bytes) : Prop := w.ownsRow B 5 1 v l.length (l.map u8v)
theorem u8_one (l : Bytes) : ∀ u ∈ l.map u8v, u.oneCell' = true := by
  intro u hu
  obtain ⟨_, _, rfl⟩ := List.mem_map.1 hu
  rfl
theorem OwnB.bytes [bn : Inhabited Ban] {w : World} {B base : Nat} {v : Value} {l : Bytes} (h : OwnB w B v l) (hT : l ≠ [] → ban.top ≤ B) : BytesAt base w v l := by
  obtain ⟨_, h⟩ := h
  rcases h with ⟨rfl, hl⟩ | ⟨g, cap, cur, rfl, hb, hg, h1, h2, h3, h4⟩
  · obtain rfl := List.eq_nil_of_length_eq_zero hl
    exact BytesAt.nil _ _
  · refine ⟨_, cap, rfl, h1, h2, fun h => (by cases h), fun i x hx => ⟨_, rfl, ⟨heap_lt hg, .inr ⟨_, _, hg⟩, fun hz => ?_, ?_⟩, ?_⟩⟩
    · have h5 := ban.lt _ hz
      have h6 := hT (fun e => by subst e; simp at hx)
      have h5 : g < ban.top := h5
      omega
    · have h6 := hT (fun e => by subst e; simp at hx)
      have := heap_lt hg
      omega
    have hi : i < l.length := (List.getElem?_eq_some_iff.1 hx).1
    have e : (⟨g, 0, none⟩ : Addr).add i = ⟨g, i, none⟩ := by simp [Addr.add]; omega
    rw [e, cell_of hg]
    have hm : (l.map u8v)[i]? = some (u8v x) := by simp [hx]
    rw [← h4, List.getElem?_take, if_pos (by omega)] at hm
    simpa using hm
theorem OwnB.form {w : World} {B : Nat} {v : Value} {l : Bytes} (h : OwnB w B v l) : ∃ ao cap, v = .slice ao l.length cap := by
  obtain ⟨_, h⟩ := h
  rcases h with ⟨rfl, hl⟩ | ⟨g, cap, cur, rfl, _⟩
  · exact ⟨none, 0, by rw [hl]⟩
  · exact ⟨_, _, rfl⟩
theorem OwnB.nil (w : World) (B : Nat) : OwnB w B (.slice none 0 0) [] := World.ownsRow_nil _ _ _ _
theorem OwnB.keep {w w' : World} {B : Nat} {v : Value} {l : Bytes} {F : Nat → Prop} (h : OwnB w B v l) (k : Keep F w w') (hF : ∀ b, v.ownBlock = some b → ¬ F b) : OwnB w' B v l := by
  obtain ⟨h0, h⟩ := h
  refine ⟨h0, ?_⟩
  rcases h with h | ⟨g, cap, cur, rfl, hb, hg, r⟩
  · exact .inl h
  · exact .inr ⟨g, cap, cur, rfl, hb, k.heap hg (hF g rfl), r⟩
theorem OwnB.lt {w : World} {B : Nat} {v : Value} {l : Bytes} (h : OwnB w B v l) : ∀ k, v.ownBlock = some k → B ≤ k ∧ k < w.heap.size := World.ownsRow.lt h

/-! ### A slice of slices of bytes -/
def SlicesAt [bn : Inhabited Ban] (base : Nat) (w : World) (v : Value) (ls : List Bytes) : Prop :=
  ∃ us : List Value, us.length = ls.length ∧ (∀ (i : Nat) u l, us[i]? = some u → ls[i]? = some l → BytesAt base w u l) ∧
    ∃ ao cap, v = .slice ao ls.length cap ∧ ls.length ≤ cap ∧ cap ≤ maxLen ∧ (ls = [] ∨ ∃ g o, ao = some ⟨g, o, none⟩ ∧ ∀ (i : Nat) u, us[i]? = some u → w.cell? ⟨g, o + i, none⟩ = some u)
theorem SlicesAt.of_block [bn : Inhabited Ban] {base : Nat} {w : World} {g : Nat} {cs : Array Value} {t : TypeId} {fr : Nat × Nat} (h : w.heap[g]? = some (.cells cs t fr)) (ls : List Bytes)
    (hl : cs.size = ls.length) (hm : cs.size ≤ maxLen) (hb : ∀ (i : Nat) u l, cs[i]? = some u → ls[i]? = some l → BytesAt base w u l) : SlicesAt base w (.slice (some ⟨g, 0, none⟩) ls.length ls.length) ls := by
  refine ⟨cs.toList, by simpa using hl, fun i u l hu hl => hb i u l (by simpa using hu) hl, _, _, rfl, Nat.le_refl _, by omega, .inr ⟨g, 0, rfl, fun i u hu => ?_⟩⟩
  rw [Nat.zero_add, cell_of h]
  simpa using hu
def catB (ls : List Bytes) (k : Nat) : Bytes := (ls.take k).flatten
def catLen (ls : List Bytes) (k : Nat) : Nat := (catB ls k).length
theorem catB_zero (ls : List Bytes) : catB ls 0 = [] := by simp [catB]
theorem catB_all (ls : List Bytes) : catB ls ls.length = ls.flatten := by simp [catB]
theorem catB_succ {ls : List Bytes} {k : Nat} {l : Bytes} (h : ls[k]? = some l) : catB ls (k + 1) = catB ls k ++ l := by
  obtain ⟨hk, rfl⟩ := List.getElem?_eq_some_iff.1 h
  unfold catB
  rw [List.take_succ_eq_append_getElem hk, List.flatten_append, List.flatten_cons, List.flatten_nil, List.append_nil]
theorem catLen_succ {ls : List Bytes} {k : Nat} {l : Bytes} (h : ls[k]? = some l) : catLen ls (k + 1) = catLen ls k + l.length := by
  unfold catLen
  rw [catB_succ h, List.length_append]
theorem catLen_all (ls : List Bytes) : catLen ls ls.length = ls.flatten.length := by simp [catLen, catB_all]
theorem catLen_le (ls : List Bytes) (k : Nat) : catLen ls k ≤ ls.flatten.length := by
  unfold catLen catB
  conv => rhs; rw [← List.take_append_drop k ls]
  rw [List.flatten_append, List.length_append]
  omega

theorem info_u8 : (Try.prog.info? 5).map (fun i => (i.zero, i.size, i.bytes)) = some (some (.int .u8 0), 1, 1) := by kernel_rfl

/-- 'append' of bytes to a row that the call itself makes. -/
theorem wpList_append_bytes [bn : Inhabited Ban] {w : World} {ops : Array Oper} {rest : List Oper} {o : Oper} {a : Act} {Q : Exit → Act → World → Prop}
    (hg : o.guard = none) (s x : Operand) (hop : o.op = Op.call { callee := Callee.builtin Builtin.append, args := #[s, x], argTypes := #[27, 27] })
    (B : Nat) {v u : Value} {l m : Bytes} {base : Nat} (hown : OwnB w B v l) (hsrc : BytesAt base w u m) (hs : a.eval s = v) (hx : a.eval x = u)
    (hlen : l.length + m.length ≤ 70368744177664) (hB : B ≤ w.heap.size)
    (hK : ∀ v' w', OwnB w' B v' (l ++ m) → Keep (fun b => v.ownBlock = some b) w w' → wpList Try.prog ops Q rest (a.put o.dst v') w') :
    wpList Try.prog ops Q (o :: rest) a w := by
  refine wpList_plain hg fun K hK' => ?_
  obtain ⟨i0, hi, hz0, hz1, hz2⟩ := info_parts info_u8
  obtain ⟨ao, cap, rfl, hc, hm, hn, hcell⟩ := hsrc
  have hkeep : ∀ w', w.grownBy w' v.ownBlock → Keep (fun b => v.ownBlock = some b) w w' := fun w' hg => (Keep.refl _ w).grown hg (fun k hk => .inl hk)
  cases ao with
  | none =>
    obtain rfl := hn rfl
    have hm0 : m = [] := List.eq_nil_of_length_eq_zero (by omega)
    subst hm0
    have hrun := run_append_owned_none (P := Try.prog) w B 27 o.type 5 i0 1 Try.underlying27 hi v l.length (l.map u8v) hown
    unfold Oper.wp
    simp [execOp, hop, resolve, invoke, builtin, hs, hx, hrun, Result.andThen]
    exact hK' _ _ (hK v w (by simpa using hown) (Keep.refl _ _))
  | some ad =>
    obtain ⟨v', w', hrun, h1, h2, _⟩ := run_append_own (P := Try.prog) w B 27 o.type 5 i0 (.int .u8 0) 1 1 Try.underlying27 hi hz0 hz1 hz2 rfl (by decide) v l.length (l.map u8v) hown
      ad m.length cap (m.map u8v) (by simp) (fun j y hj => by
        rw [List.getElem?_map] at hj
        cases hmj : m[j]? with
        | none => simp [hmj] at hj
        | some z =>
          obtain ⟨ad', e, _, hcl⟩ := hcell j z hmj
          cases e
          simp [hmj] at hj
          rw [hcl, hj]) (u8_one m) (by unfold maxLen; omega) (by omega) hB
    unfold Oper.wp
    simp [execOp, hop, resolve, invoke, builtin, hs, hx, hrun, Result.andThen]
    refine hK' _ _ (hK v' w' ?_ (hkeep w' h2))
    unfold OwnB
    rw [List.length_append, List.map_append]
    exact h1

/-- 'append(s[:cap(s)], make([]byte, n)...)' at a nil slice: n bytes, all 0. -/
theorem wpList_append_zeros {w : World} {ops : Array Oper} {rest : List Oper} {o : Oper} {a : Act} {Q : Exit → Act → World → Prop}
    (hg : o.guard = none) (s x : Operand) (hop : o.op = Op.call { callee := Callee.builtin Builtin.append, args := #[s, x], argTypes := #[27, 3] })
    (B n : Nat) (h0 : 0 < n) (hn : n ≤ 70368744177664) (hs : a.eval s = .slice none 0 0) (hx : a.eval x = .int .i64 (n : Int)) (hB : B ≤ w.heap.size)
    (hK : ∀ g cap w', n ≤ cap → cap ≤ maxLen → OwnB w' B (.slice (some ⟨g, 0, none⟩) 0 cap) [] → OwnB w' B (.slice (some ⟨g, 0, none⟩) n cap) (List.replicate n 0) → Keep No w w' → wpList Try.prog ops Q rest (a.put o.dst (.slice (some ⟨g, 0, none⟩) n cap)) w') :
    wpList Try.prog ops Q (o :: rest) a w := by
  refine wpList_plain hg fun K hK' => ?_
  obtain ⟨i0, hi, hz0, hz1, hz2⟩ := info_parts info_u8
  have hrun := Lib.run_append_nil_zeros (P := Try.prog) w 27 3 o.type 5 i0 (.int .u8 0) .i64 .i64 Try.underlying27 Try.underlying3 hi hz0 n h0 (by omega) (by omega) (by rw [hz2]; omega)
  have hc := grownCap_ge w n 0 5
  have hm := grownCap_le_maxLen w n 0 5 (by unfold maxLen; omega)
  generalize grownCap w n 0 5 = cap at hrun hc hm
  have e1 : ∀ k, Builtin.zeroCells (Value.int .u8 0).cells k = (List.replicate k (u8v 0)).toArray := by
    intro k
    apply Array.ext
    · simp [Builtin.zeroCells, Value.cells]
    · intro i h1 h2
      simp [Builtin.zeroCells, Value.cells, u8v, Nat.mod_one]
  rw [e1, e1] at hrun
  have e2 : (List.replicate n (u8v 0)).toArray ++ (List.replicate (cap - n) (u8v 0)).toArray = (List.replicate cap (u8v 0)).toArray := by
    have : cap = n + (cap - n) := by omega
    rw [List.append_toArray, List.replicate_append_replicate, ← this]
  rw [e2] at hrun
  unfold Oper.wp
  simp [execOp, hop, resolve, invoke, builtin, hs, hx, hrun, Result.andThen]
  have hh : (w.drew.alloc (.cells (List.replicate cap (u8v 0)).toArray 5)).heap[w.heap.size]? = some (.cells (List.replicate cap (u8v 0)).toArray 5 (0, 0)) := heap_alloc_new w.drew _
  refine hK' _ _ (hK w.heap.size cap _ hc hm ⟨by simp, .inr ⟨_, cap, _, rfl, hB, hh, Nat.zero_le _, hm, by simp, by simp⟩⟩
    ⟨by simp, .inr ⟨_, cap, _, by simp, hB, hh, by simpa using hc, hm, by simp, ?_⟩⟩ ((Keep.refl _ _).drew.alloc _))
  simp [u8v]
  omega

/-! ### Small facts for the walks -/
@[go_sem] theorem eql_nil_bytes (w : World) (a : Option Addr) (n c : Nat) : (binOp .eql 27 (.slice a n c) (.slice none 0 0)).run Try.prog w = .ok (.bool a.isNone) w :=
  Lib.run_eql_slice_nil w _ _ a n c 0 0 Try.underlying27
end Go.Proofs.Ytpjggnfiocplmaa
