/- Rows of items and of records; one more. -/
import Derived.Test.YtgogfnafbeahoaaGreatLedO
namespace Go.Proofs.YtgogfnafbeahoaaGreat
open Go Go.RowKit

theorem flatMap_at {α : Type} (f : α → List Value) (k : Nat) (hf : ∀ x, (f x).length = k) : ∀ {l : List α} {i j : Nat} {x : α}, l[i]? = some x → j < k → (l.flatMap f)[i * k + j]? = (f x)[j]?
  | [], i, j, x, h, _ => by simp at h
  | y :: l, 0, j, x, h, hj => by
    simp at h
    subst h
    rw [List.flatMap_cons, List.getElem?_append_left (by rw [hf]; omega)]
    simp
  | y :: l, i + 1, j, x, h, hj => by
    have ih := flatMap_at f k hf (l := l) (i := i) (j := j) (x := x) (by simpa using h) hj
    rw [List.flatMap_cons, List.getElem?_append_right (by rw [hf, Nat.add_mul]; omega), hf, ← ih]
    congr 1
    rw [Nat.add_mul]
    omega
theorem flatMap_len {α : Type} (f : α → List Value) (k : Nat) (hf : ∀ x, (f x).length = k) : ∀ (l : List α), (l.flatMap f).length = l.length * k
  | [] => by simp
  | y :: l => by rw [List.flatMap_cons, List.length_append, hf, flatMap_len f k hf l, List.length_cons, Nat.add_mul]; omega
def itCell (x : ItemS × Value) : List Value := [.int .u64 x.1.n, .int .i64 x.1.s.c, x.2]
def ItsAt [bn : Inhabited Ban] (base : Nat) (w : World) (B : Nat) (v : Value) (l : List ItemS) : Prop :=
  ∃ xs : List (ItemS × Value), xs.map (·.1) = l ∧ (∀ x ∈ xs, BytesAt base w x.2 x.1.s.body) ∧ w.ownsRow B 53 3 v l.length (xs.flatMap itCell)
theorem ItsAt.nil [bn : Inhabited Ban] (base : Nat) (w : World) (B : Nat) : ItsAt base w B (.slice none 0 0) [] := ⟨[], rfl, fun x h => by simp at h, World.ownsRow_nil _ _ _ _⟩
theorem ItsAt.form [bn : Inhabited Ban] {base B : Nat} {w : World} {v : Value} {l : List ItemS} (h : ItsAt base w B v l) : ∃ ao cap, v = .slice ao l.length cap ∧ l.length ≤ cap ∧ cap ≤ maxLen := by
  obtain ⟨xs, _, _, h3⟩ := h
  exact row_form h3
theorem ItsAt.kind [bn : Inhabited Ban] {base B : Nat} {w : World} {v : Value} {l : List ItemS} (h : ItsAt base w B v l) : ∀ b, v.ownBlock = some b → B ≤ b ∧ ∃ cur, w.heap[b]? = some (.cells cur 53 (0, 0)) := by
  obtain ⟨xs, _, _, h3⟩ := h
  exact row_kind h3
theorem ItsAt.keep [bn : Inhabited Ban] {base B : Nat} {w w' : World} {v : Value} {l : List ItemS} {F : Nat → Prop} (h : ItsAt base w B v l) (hF : Foot base w F) (k : Keep F w w') (hn : ∀ b, v.ownBlock = some b → ¬ F b) : ItsAt base w' B v l := by
  obtain ⟨xs, h1, h2, h3⟩ := h
  exact ⟨xs, h1, fun x hx => (h2 x hx).keep hF k, row_keep h3 k hn⟩
theorem ItsAt.no [bn : Inhabited Ban] {base B : Nat} {w w' : World} {v : Value} {l : List ItemS} (h : ItsAt base w B v l) (k : Keep No w w') : ItsAt base w' B v l := h.keep (Foot.no _ _) k (fun _ _ e => e)
theorem ItsAt.cell [bn : Inhabited Ban] {base B : Nat} {w : World} {ao : Option Addr} {n cap : Nat} {l : List ItemS} (h : ItsAt base w B (.slice ao n cap) l) {i : Nat} {x : ItemS} (hi : l[i]? = some x) :
    ∃ g u, ao = some ⟨g, 0, none⟩ ∧ BytesAt base w u x.s.body ∧ w.cell? ⟨g, i * 3, none⟩ = some (.int .u64 x.n) ∧ w.cell? ⟨g, i * 3 + 1, none⟩ = some (.int .i64 x.s.c) ∧ w.cell? ⟨g, i * 3 + 2, none⟩ = some u := by
  obtain ⟨ao', cap', hq, _⟩ := h.form
  simp only [Value.slice.injEq] at hq
  obtain ⟨rfl, rfl, rfl⟩ := hq
  obtain ⟨xs, h1, h2, h3⟩ := h
  have hxs : ∃ u, xs[i]? = some (x, u) := by
    rw [← h1, List.getElem?_map] at hi
    cases hx : xs[i]? with
    | none => rw [hx] at hi; simp at hi
    | some y => rw [hx] at hi; simp at hi; exact ⟨y.2, by rw [← hi]⟩
  obtain ⟨u, hu⟩ := hxs
  have hl : (xs.flatMap itCell).length = l.length * 3 := by rw [flatMap_len itCell 3 (fun _ => rfl), ← h1, List.length_map]
  have c := fun (f : Nat) (hf : f < 3) (y : Value) (hy : (itCell (x, u))[f]? = some y) => row_cell h3 (j := i * 3 + f) (x := y) (by rw [flatMap_at itCell 3 (fun _ => rfl) hu hf]; exact hy) hl
  obtain ⟨g, rfl, c0⟩ := c 0 (by decide) _ rfl
  refine ⟨g, u, rfl, h2 _ (List.mem_of_getElem? hu), c0, ?_, ?_⟩
  · obtain ⟨_, e, h⟩ := c 1 (by decide) _ rfl; simp at e; subst e; exact h
  · obtain ⟨_, e, h⟩ := c 2 (by decide) _ rfl; simp at e; subst e; exact h
theorem info_item : (Tryz.prog.info? 53).map (fun i => (i.zero, i.size, i.bytes)) = some (some (.agg #[.int .u64 0, .int .i64 0, .slice none 0 0]), 3, 40) := by kernel_rfl
theorem info_rec : (Tryz.prog.info? 84).map (fun i => (i.zero, i.size, i.bytes)) = some (some (.agg #[.int .i64 0, .int .u64 0, .int .i64 0, .slice none 0 0]), 4, 48) := by kernel_rfl
theorem ownRow_foot {w : World} {B base size n : Nat} {t : TypeId} {v : Value} {xs : List Value} (h : w.ownsRow B t size v n xs) (hb : base ≤ B) (ht : t ≠ 5) : Foot base w (fun b => v.ownBlock = some b) := by
  intro b hb'
  obtain ⟨h1, cur, hz⟩ := row_kind h b hb'
  exact ⟨Nat.le_trans hb h1, heap_lt hz, fun cs fr e => by rw [hz] at e; simp at e; exact ht e.2.1⟩
theorem wpList_append_item [bn : Inhabited Ban] {base : Nat} {w : World} {ops : Array Oper} {rest : List Oper} {o : Oper} {a : Act} {Q : Exit → Act → World → Prop} (hg : o.guard = none) (s x : Operand)
    (ho : o.op = .call { callee := .builtin .append, args := #[s, x], argTypes := #[28, 28] }) {B : Nat} {v : Value} {l : List ItemS} (h : ItsAt base w B v l) (hbB : base ≤ B) (hs : a.eval s = v) {D : Nat} {y : ItemS} {uo : Option Addr} {uc : Nat}
    (hD : w.heap[D]? = some (.cells #[.int .u64 y.n, .int .i64 y.s.c, .slice uo y.s.body.length uc] 53 (0, 0))) (hx : a.eval x = .slice (some ⟨D, 0, none⟩) 1 1) (hu : BytesAt base w (.slice uo y.s.body.length uc) y.s.body) (hl : l.length ≤ 1099511627776) (hb : B ≤ w.heap.size)
    (hK : ∀ vo vc w', ItsAt base w' B (.slice vo (l.length + 1) vc) (l ++ [y]) → Keep (fun b => v.ownBlock = some b) w w' → wpList Tryz.prog ops Q rest (a.put o.dst (.slice vo (l.length + 1) vc)) w') : wpList Tryz.prog ops Q (o :: rest) a w := by
  obtain ⟨xs, h1, h2, h3⟩ := h
  obtain ⟨i0, hi0, hz0, hz1, hz2⟩ := info_parts info_item
  refine wpList_plain hg fun K hK' => ?_
  refine wp_append_lies w s x 28 ho B 53 i0 _ 3 40 Tryz.underlying28 hi0 hz0 hz1 hz2 rfl (by omega) v l.length (xs.flatMap itCell) hs h3
    ⟨D, 0, none⟩ 1 1 (itCell (y, .slice uo y.s.body.length uc)) hx rfl (World.news_of_block (cs := #[.int .u64 y.n, .int .i64 y.s.c, .slice uo y.s.body.length uc]) (t := 53) (fr := (0, 0)) hD) (by simp [itCell, Value.oneCell']) (by omega) (by unfold maxLen; omega) (by omega) hb w.heap.size rfl ?_
  intro g cap w' hown hgr hat hlt
  have k := own_grown hgr
  have hF := ownRow_foot h3 hbB (by decide)
  refine hK' _ _ (hK _ _ _ ⟨xs ++ [(y, .slice uo y.s.body.length uc)], by simp [h1], fun z hz => ?_, ?_⟩ k)
  · rcases List.mem_append.1 hz with hz | hz
    · exact (h2 z hz).keep hF k
    · rw [List.mem_singleton.1 hz]; exact hu.keep hF k
  · rw [List.flatMap_append, List.length_append]
    simpa using hown
theorem recCells_append (a b : List (RecS × Value)) : recCells (a ++ b) = recCells a ++ recCells b := by simp [recCells]
theorem wp_append_srec [bn : Inhabited Ban] {base : Nat} {w : World} {o : Oper} {a : Act} {K : Act → World → Prop} {Q : Exit → Act → World → Prop} (s x : Operand)
    (ho : o.op = .call { callee := .builtin .append, args := #[s, x], argTypes := #[57, 57] }) {v : Value} {l : List RecS} (h : RecsAt base w v l) (hs : a.eval s = v) {D : Nat} {y : RecS} {uo : Option Addr} {uc : Nat}
    (hD : w.heap[D]? = some (.cells #[.int .i64 y.who, .int .u64 y.n, .int .i64 y.s.c, .slice uo y.s.body.length uc] 84 (0, 0))) (hx : a.eval x = .slice (some ⟨D, 0, none⟩) 1 1) (hu : BytesAt base w (.slice uo y.s.body.length uc) y.s.body) (hl : l.length ≤ 1099511627776) (hb : base ≤ w.heap.size)
    (hK : ∀ vo vc w', RecsAt base w' (.slice vo (l.length + 1) vc) (l ++ [y]) → Keep (fun b => v.ownBlock = some b) w w' → (∀ b, (Value.slice vo (l.length + 1) vc).ownBlock = some b → v.ownBlock = some b ∨ w.heap.size ≤ b) → K (a.put o.dst (.slice vo (l.length + 1) vc)) w') : o.wp Tryz.prog a w K Q := by
  obtain ⟨xs, h1, h2, h3⟩ := h
  obtain ⟨i0, hi0, hz0, hz1, hz2⟩ := info_parts info_rec
  refine wp_append_lies w s x 57 ho base 84 i0 _ 4 48 Tryz.underlying57 hi0 hz0 hz1 hz2 rfl (by omega) v l.length (recCells xs) hs h3
    ⟨D, 0, none⟩ 1 1 (recCell y (.slice uo y.s.body.length uc)) hx rfl (World.news_of_block (cs := #[.int .i64 y.who, .int .u64 y.n, .int .i64 y.s.c, .slice uo y.s.body.length uc]) (t := 84) (fr := (0, 0)) hD) (by simp [recCell, Value.oneCell']) (by omega) (by unfold maxLen; omega) (by omega) hb w.heap.size rfl ?_
  intro g cap w' hown hgr hat hlt
  have k := own_grown hgr
  have hF := ownRow_foot h3 (Nat.le_refl _) (by decide)
  refine hK _ _ _ ⟨xs ++ [(y, .slice uo y.s.body.length uc)], by simp [h1], fun z hz => ?_, ?_⟩ k (fun c hc => ?_)
  · rcases List.mem_append.1 hz with hz | hz
    · exact (h2 z hz).keep hF k
    · rw [List.mem_singleton.1 hz]; exact hu.keep hF k
  · rw [recCells_append, List.length_append]
    have e : recCells [(y, Value.slice uo y.s.body.length uc)] = recCell y (.slice uo y.s.body.length uc) := by simp [recCells]
    rw [e]
    simpa using hown
  · simp [Value.ownBlock] at hc
    subst hc
    rcases hat with hat | rfl
    · exact .inl hat
    · exact .inr (Nat.le_refl _)
end Go.Proofs.YtgogfnafbeahoaaGreat
