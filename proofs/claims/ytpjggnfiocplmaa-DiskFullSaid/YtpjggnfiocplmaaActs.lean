/- Acts in memory. -/
import Derived.Test.YtpjggnfiocplmaaPrefix
import Derived.Deep.DeepCutAuto
import Derived.Deep.CutBlock
namespace Go.Proofs.Ytpjggnfiocplmaa
open Go Go.RowKit Go.Dr

/-! ### Acts in memory -/
def ActAt [bn : Inhabited Ban] (base : Nat) (w : World) (g o : Nat) (a : ActS) : Prop :=
  ∃ u, BytesAt base w u a.p ∧ w.cell? ⟨g, o, none⟩ = some (.int .u8 a.dop) ∧ w.cell? ⟨g, o + 1, none⟩ = some (.int .u64 a.seg) ∧ w.cell? ⟨g, o + 2, none⟩ = some u ∧
    w.cell? ⟨g, o + 3, none⟩ = some (.bool a.on) ∧ w.cell? ⟨g, o + 4, none⟩ = some (.int .i64 a.keep) ∧ w.cell? ⟨g, o + 5, none⟩ = some (.int .i64 a.torn)
theorem ActAt.keep [bn : Inhabited Ban] {base : Nat} {w w' : World} {g o : Nat} {a : ActS} {F : Nat → Prop} (h : ActAt base w g o a) (hF : Foot base w F) (k : Keep F w w') (hn : ¬ F g) : ActAt base w' g o a := by
  obtain ⟨u, h0, h1, h2, h3, h4, h5, h6⟩ := h
  exact ⟨u, h0.keep hF k, k.cell h1 hn, k.cell h2 hn, k.cell h3 hn, k.cell h4 hn, k.cell h5 hn, k.cell h6 hn⟩
/-- A slice of acts that came in. -/
def ActsAt [bn : Inhabited Ban] (base : Nat) (w : World) (v : Value) (l : List ActS) : Prop :=
  ∃ ao cap, v = .slice ao l.length cap ∧ l.length ≤ cap ∧ cap ≤ maxLen ∧ (l = [] ∨ ∃ g o, g < base ∧ ao = some ⟨g, o, none⟩ ∧ ∀ (i : Nat) a, l[i]? = some a → ActAt base w g (o + i * 6) a)

def actCells : List ActS → List Value → List Value
  | a :: l, u :: us => .int .u8 a.dop :: .int .u64 a.seg :: u :: .bool a.on :: .int .i64 a.keep :: .int .i64 a.torn :: actCells l us
  | _, _ => []
theorem actCells_append (a : ActS) (u : Value) : ∀ (l : List ActS) (us : List Value), us.length = l.length → actCells (l ++ [a]) (us ++ [u]) = actCells l us ++ [.int .u8 a.dop, .int .u64 a.seg, u, .bool a.on, .int .i64 a.keep, .int .i64 a.torn] := by
  intro l
  induction l with
  | nil => intro us h; obtain rfl := List.eq_nil_of_length_eq_zero h; rfl
  | cons x l ih =>
    intro us h
    cases us with
    | nil => simp at h
    | cons v us => simp only [List.cons_append, actCells, ih us (by simpa using h)]
theorem actCells_at : ∀ {l : List ActS} {us : List Value}, us.length = l.length → ∀ {i : Nat} {a : ActS} {u : Value}, l[i]? = some a → us[i]? = some u →
    (actCells l us)[i * 6]? = some (.int .u8 a.dop) ∧ (actCells l us)[i * 6 + 1]? = some (.int .u64 a.seg) ∧ (actCells l us)[i * 6 + 2]? = some u ∧
    (actCells l us)[i * 6 + 3]? = some (.bool a.on) ∧ (actCells l us)[i * 6 + 4]? = some (.int .i64 a.keep) ∧ (actCells l us)[i * 6 + 5]? = some (.int .i64 a.torn) := by
  intro l
  induction l with
  | nil => intro us _ i c u h; simp at h
  | cons x l ih =>
    intro us hl i a u h1 h2
    cases us with
    | nil => simp at hl
    | cons v us =>
      cases i with
      | zero => simp at h1 h2; subst h1 h2; simp [actCells]
      | succ i =>
        have e : (i + 1) * 6 = i * 6 + 1 + 1 + 1 + 1 + 1 + 1 := by omega
        have := ih (us := us) (by simpa using hl) (i := i) (a := a) (u := u) (by simpa using h1) (by simpa using h2)
        simp only [actCells, e]
        refine ⟨?_, ?_, ?_, ?_, ?_, ?_⟩
        · simpa using this.1
        · simpa [Nat.add_assoc] using this.2.1
        · simpa [Nat.add_assoc] using this.2.2.1
        · simpa [Nat.add_assoc] using this.2.2.2.1
        · simpa [Nat.add_assoc] using this.2.2.2.2.1
        · simpa [Nat.add_assoc] using this.2.2.2.2.2
/-- A slice of acts that the call itself makes. -/
def DoneAt [bn : Inhabited Ban] (base : Nat) (w : World) (v : Value) (l : List ActS) : Prop :=
  ∃ us : List Value, us.length = l.length ∧ (∀ (i : Nat) u a, us[i]? = some u → l[i]? = some a → BytesAt base w u a.p) ∧ w.ownsRow base 29 6 v l.length (actCells l us)
theorem DoneAt.nil [bn : Inhabited Ban] (base : Nat) (w : World) : DoneAt base w (.slice none 0 0) [] := ⟨[], rfl, fun i u c h => by simp at h, World.ownsRow_nil _ _ _ _⟩
theorem DoneAt.kind [bn : Inhabited Ban] {base : Nat} {w : World} {wv : Value} {l : List ActS} (h : DoneAt base w wv l) : ∀ b, wv.ownBlock = some b → base ≤ b ∧ ∃ cur, w.heap[b]? = some (.cells cur 29 (0, 0)) := by
  intro b hb
  obtain ⟨us, _, _, _, hw⟩ := h
  rcases hw with ⟨rfl, _⟩ | ⟨g, cap, cur, rfl, h1, h2, _⟩
  · simp [Value.ownBlock] at hb
  · simp [Value.ownBlock] at hb
    subst hb
    exact ⟨h1, cur, h2⟩
theorem DoneAt.footOk [bn : Inhabited Ban] {base : Nat} {w : World} {wv : Value} {l : List ActS} (h : DoneAt base w wv l) : Foot base w (fun b => wv.ownBlock = some b) := by
  intro b hb
  obtain ⟨h1, cur, h2⟩ := h.kind b hb
  exact ⟨h1, heap_lt h2, fun cs fr e => by rw [h2] at e; simp at e⟩
theorem DoneAt.keep [bn : Inhabited Ban] {base : Nat} {w w' : World} {wv : Value} {l : List ActS} {F : Nat → Prop} (h : DoneAt base w wv l) (hF : Foot base w F) (k : Keep F w w') (hn : ∀ b, wv.ownBlock = some b → ¬ F b) : DoneAt base w' wv l := by
  obtain ⟨us, h1, h2, h3, h4⟩ := h
  refine ⟨us, h1, fun i u c hu hc => (h2 i u c hu hc).keep hF k, h3, ?_⟩
  rcases h4 with h4 | ⟨g, cap, cur, rfl, h5, h6, h7⟩
  · exact .inl h4
  · exact .inr ⟨g, cap, cur, rfl, h5, k.heap h6 (hn g rfl), h7⟩
theorem DoneAt.no [bn : Inhabited Ban] {base : Nat} {w w' : World} {wv : Value} {l : List ActS} (h : DoneAt base w wv l) (k : Keep No w w') : DoneAt base w' wv l := h.keep (Foot.no _ _) k (fun _ _ h => h)
theorem DoneAt.form [bn : Inhabited Ban] {base : Nat} {w : World} {wv : Value} {l : List ActS} (h : DoneAt base w wv l) : ∃ ao cap, wv = .slice ao l.length cap ∧ l.length ≤ cap ∧ cap ≤ maxLen := by
  obtain ⟨us, _, _, _, h⟩ := h
  rcases h with ⟨rfl, h⟩ | ⟨g, cap, cur, rfl, _, _, h1, h2, _⟩
  · exact ⟨none, 0, by rw [h], by omega, by decide⟩
  · exact ⟨_, _, rfl, h1, h2⟩
theorem DoneAt.act [bn : Inhabited Ban] {base : Nat} {w : World} {ao : Option Addr} {n cap : Nat} {l : List ActS} (h : DoneAt base w (.slice ao n cap) l) (hn : 0 < l.length) :
    ∃ g, ao = some ⟨g, 0, none⟩ ∧ base ≤ g ∧ ∀ (i : Nat) a, l[i]? = some a → ActAt base w g (i * 6) a := by
  obtain ⟨us, hus, hb, hx, hw⟩ := h
  rcases hw with ⟨_, h0⟩ | ⟨g, cp, cur, hv, hbg, hg, h1, h2, h3, h4⟩
  · omega
  · simp only [Value.slice.injEq] at hv
    refine ⟨g, hv.1, hbg, fun i a ha => ?_⟩
    have hi : i < l.length := (List.getElem?_eq_some_iff.1 ha).1
    have hu : us[i]? = some us[i] := List.getElem?_eq_getElem (by omega)
    obtain ⟨e0, e1, e2, e3, e4, e5⟩ := actCells_at hus ha hu
    have cell : ∀ j x, (actCells l us)[j]? = some x → w.cell? ⟨g, j, none⟩ = some x := by
      intro j x hj
      rw [cell_of hg]
      rw [← h4, List.getElem?_take] at hj
      split at hj
      · simpa using hj
      · cases hj
    exact ⟨us[i], hb i _ _ hu ha, cell _ _ e0, cell _ _ e1, cell _ _ e2, cell _ _ e3, cell _ _ e4, cell _ _ e5⟩
theorem DiskAt.foot_kind [bn : Inhabited Ban] {base : Nat} {w : World} {p n s : Nat} {wv : Value} {d : DiskS} (h : DiskAt base w p n s wv d) {b : Nat} (hb : foot p n s wv b) {cs : Array Value} {t : TypeId} {fr : Nat × Nat} (hq : w.heap[b]? = some (.cells cs t fr)) :
    t = 99 ∨ t = 102 := by
  rcases hb with rfl | rfl | rfl | hb
  · rw [h.blk] at hq; simp at hq; exact .inl hq.2.1.symm
  · obtain ⟨_, _, hz⟩ := h.now.kind; rw [hz] at hq; cases hq
  · obtain ⟨_, _, hz⟩ := h.safe.kind; rw [hz] at hq; cases hq
  · obtain ⟨_, cur, hz⟩ := h.wait.kind b hb; rw [hz] at hq; simp at hq; exact .inr hq.2.1.symm
theorem DoneAt.disk [bn : Inhabited Ban] {base : Nat} {w w' : World} {wv dv : Value} {l : List ActS} {p n s : Nat} {d : DiskS} (h : DoneAt base w dv l) (hd : DiskAt base w p n s wv d) (k : Keep (foot p n s wv) w w') : DoneAt base w' dv l :=
  h.keep hd.foot_ok k (fun b hb hf => by
    obtain ⟨_, cur, hz⟩ := h.kind b hb
    rcases hd.foot_kind hf hz with h | h <;> simp at h)
theorem info_act : (Try.prog.info? 29).map (fun i => (i.zero, i.size, i.bytes)) = some (some (.agg #[.int .u8 0, .int .u64 0, .slice none 0 0, .bool false, .int .i64 0, .int .i64 0]), 6, 64) := by kernel_rfl

theorem wp_min {w : World} {o : Oper} {a : Act} {K : Act → World → Prop} {Q : Exit → Act → World → Prop} (x y : Int)
    (s t : Operand) (hop : o.op = Op.call { callee := Callee.builtin Builtin.min, args := #[s, t], argTypes := #[3, 3] })
    (hs : a.eval s = .int .i64 x) (ht : a.eval t = .int .i64 y)
    (hK : K (a.put o.dst (.int .i64 (min x y))) w) : o.wp Try.prog a w K Q := by
  unfold Oper.wp
  simp [execOp, hop, resolve, invoke, builtin, hs, ht, run_min, Result.andThen]
  exact hK
/-- append(done, a). -/
theorem wpList_append_act [bn : Inhabited Ban] {base : Nat} {w : World} {ops : Array Oper} {rest : List Oper} {o : Oper} {ac : Act} {Q : Exit → Act → World → Prop} {dv : Value} {ds : List ActS} (a : ActS) {u : Value}
    (hg : o.guard = none) (s x : Operand) (hop : o.op = Op.call { callee := Callee.builtin Builtin.append, args := #[s, x], argTypes := #[22, 22] })
    (h : DoneAt base w dv ds) (hu : BytesAt base w u a.p) (g : Nat) (hblk : w.heap[g]? = some (.cells #[.int .u8 a.dop, .int .u64 a.seg, u, .bool a.on, .int .i64 a.keep, .int .i64 a.torn] 29 (0, 0)))
    (hs : ac.eval s = dv) (hx : ac.eval x = .slice (some ⟨g, 0, none⟩) 1 1) (hlen : ds.length ≤ 1000000) (hb : base ≤ w.heap.size)
    (hK : ∀ v' w', DoneAt base w' v' (ds ++ [a]) → Keep (fun b => dv.ownBlock = some b) w w' → wpList Try.prog ops Q rest (ac.put o.dst v') w') : wpList Try.prog ops Q (o :: rest) ac w := by
  have hfo := h.footOk
  obtain ⟨us, hus, hub, hown⟩ := h
  obtain ⟨i0, hi0, hz0, hz1, hz2⟩ := info_parts info_act
  obtain ⟨uo, uc, rfl⟩ := hu.form
  refine wpList_append_own w hg s x 22 hop base 29 i0 _ 6 64 Try.underlying22 hi0 hz0 hz1 hz2 rfl (by omega) dv ds.length (actCells ds us) hs hown
    ⟨g, 0, none⟩ 1 1 [.int .u8 a.dop, .int .u64 a.seg, .slice uo a.p.length uc, .bool a.on, .int .i64 a.keep, .int .i64 a.torn] hx rfl (World.news_of_block hblk) (by simp [Value.oneCell']) (by unfold maxLen; omega) (by omega) hb ?_
  intro v' w' hown' hgrow _
  have hk : Keep (fun b => dv.ownBlock = some b) w w' := (Keep.refl _ _).grown hgrow (fun k hk => .inl hk)
  refine hK v' w' ⟨us ++ [.slice uo a.p.length uc], by simp [hus], ?_, ?_⟩ hk
  · intro i u' c' h1 h2
    by_cases hi : i < us.length
    · rw [List.getElem?_append_left hi] at h1
      rw [List.getElem?_append_left (by omega)] at h2
      exact (hub i u' c' h1 h2).keep hfo hk
    · rw [List.getElem?_append_right (by omega)] at h1
      rw [List.getElem?_append_right (by omega)] at h2
      rw [hus] at h1
      cases hj : i - ds.length with
      | zero => simp [hj] at h1 h2; subst h1 h2; exact hu.keep hfo hk
      | succ j => simp [hj] at h1
  · rw [actCells_append a _ _ _ hus]
    simpa using hown'

end Go.Proofs.Ytpjggnfiocplmaa
