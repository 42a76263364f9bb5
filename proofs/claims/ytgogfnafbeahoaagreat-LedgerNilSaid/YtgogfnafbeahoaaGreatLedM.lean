/- The ledger in memory. -/
import Derived.Test.YtgogfnafbeahoaaGreatWinN
import Derived.Test.YtgogfnafbeahoaaGreatLedP
import Derived.Test.YtgogfnafbeahoaaGreatLogZ
namespace Go.Proofs.YtgogfnafbeahoaaGreat
open Go Go.RowKit

/-! ### Rows of seven -/
theorem flat7_length : ∀ {ags : List (List Value)}, (∀ a ∈ ags, a.length = 7) → ags.flatten.length = ags.length * 7
  | [], _ => rfl
  | a :: l, h => by
    rw [List.flatten_cons, List.length_append, h a (by simp), flat7_length (fun b hb => h b (by simp [hb]))]
    simp
    omega
theorem flat7_get : ∀ {ags : List (List Value)} {i f : Nat} {a : List Value}, (∀ a ∈ ags, a.length = 7) → ags[i]? = some a → f < 7 → ags.flatten[i * 7 + f]? = a[f]?
  | [], i, f, a, _, hi, _ => by simp at hi
  | b :: l, 0, f, a, h, hi, hf => by
    simp at hi
    subst hi
    rw [List.flatten_cons, List.getElem?_append_left (by rw [h b (by simp)]; omega)]
    simp
  | b :: l, i + 1, f, a, h, hi, hf => by
    have ih := flat7_get (ags := l) (i := i) (f := f) (a := a) (fun b hb => h b (by simp [hb])) (by simpa using hi) hf
    rw [List.flatten_cons, List.getElem?_append_right (by rw [h b (by simp)]; omega), h b (by simp), ← ih]
    congr 1
    omega
theorem flat7_set : ∀ {ags : List (List Value)} {i f : Nat} {a : List Value} (u : Value), (∀ a ∈ ags, a.length = 7) → ags[i]? = some a → f < 7 → ags.flatten.set (i * 7 + f) u = (ags.set i (a.set f u)).flatten
  | [], i, f, a, _, _, hi, _ => by simp at hi
  | b :: l, 0, f, a, u, h, hi, hf => by
    simp at hi
    subst hi
    rw [List.set_cons_zero, List.flatten_cons, List.flatten_cons, List.set_append_left _ _ (by rw [h b (by simp)]; omega)]
    simp
  | b :: l, i + 1, f, a, u, h, hi, hf => by
    have ih := flat7_set (ags := l) (i := i) (f := f) (a := a) u (fun b hb => h b (by simp [hb])) (by simpa using hi) hf
    rw [List.set_cons_succ, List.flatten_cons, List.flatten_cons, List.set_append_right _ _ (by rw [h b (by simp)]; omega), h b (by simp), ← ih]
    congr 2
    omega

/-! ### The ledger's block -/
def ledCells (g inc : Nat) (ags : List (List Value)) (lv : Value) (safe m : Nat) : List Value := .pointer (some ⟨g, 0, none⟩) :: .int .u64 inc :: (ags.flatten ++ [lv, .int .i64 safe, .map (some m)])
theorem ledCells_ag {g inc : Nat} {ags : List (List Value)} {lv : Value} {safe m i f : Nat} {a : List Value} (h : ∀ a ∈ ags, a.length = 7) (hi : ags[i]? = some a) (hf : f < 7) : (ledCells g inc ags lv safe m)[2 + i * 7 + f]? = a[f]? := by
  have hl := (List.getElem?_eq_some_iff.1 hi).1
  rw [show 2 + i * 7 + f = (i * 7 + f) + 1 + 1 by omega]
  unfold ledCells
  rw [List.getElem?_cons_succ, List.getElem?_cons_succ, List.getElem?_append_left (by rw [flat7_length h]; omega)]
  exact flat7_get h hi hf
theorem ledCells_set {g inc : Nat} {ags : List (List Value)} {lv : Value} {safe m i f : Nat} {a : List Value} (u : Value) (h : ∀ a ∈ ags, a.length = 7) (hi : ags[i]? = some a) (hf : f < 7) :
    (ledCells g inc ags lv safe m).set (2 + i * 7 + f) u = ledCells g inc (ags.set i (a.set f u)) lv safe m := by
  have hl := (List.getElem?_eq_some_iff.1 hi).1
  rw [show 2 + i * 7 + f = (i * 7 + f) + 1 + 1 by omega]
  unfold ledCells
  rw [List.set_cons_succ, List.set_cons_succ, List.set_append_left _ _ (by rw [flat7_length h]; omega), flat7_set u h hi hf]
theorem ledCells_end {g inc : Nat} {ags : List (List Value)} {lv : Value} {safe m : Nat} (h : ∀ a ∈ ags, a.length = 7) (hl : ags.length = 16) :
    (ledCells g inc ags lv safe m)[114]? = some lv ∧ (ledCells g inc ags lv safe m)[115]? = some (.int .i64 safe) ∧ (ledCells g inc ags lv safe m)[116]? = some (.map (some m)) := by
  have hf := flat7_length h
  rw [hl] at hf
  unfold ledCells
  refine ⟨?_, ?_, ?_⟩ <;>
  · simp only [List.getElem?_cons_succ]
    rw [List.getElem?_append_right (by omega), hf]
    rfl
theorem ledCells_setL {g inc : Nat} {ags : List (List Value)} {lv : Value} {safe m : Nat} (u : Value) (h : ∀ a ∈ ags, a.length = 7) (hl : ags.length = 16) : (ledCells g inc ags lv safe m).set 114 u = ledCells g inc ags u safe m := by
  have hf := flat7_length h
  rw [hl] at hf
  unfold ledCells
  simp only [List.set_cons_succ]
  rw [List.set_append_right _ _ (by omega), hf]
  rfl
theorem ledCells_setS {g inc : Nat} {ags : List (List Value)} {lv : Value} {safe m : Nat} (n : Nat) (h : ∀ a ∈ ags, a.length = 7) (hl : ags.length = 16) : (ledCells g inc ags lv safe m).set 115 (.int .i64 n) = ledCells g inc ags lv n m := by
  have hf := flat7_length h
  rw [hl] at hf
  unfold ledCells
  simp only [List.set_cons_succ]
  rw [List.set_append_right _ _ (by omega), hf]
  rfl
def agCells (a : AgS) (ns ss : Value) : List Value := [.int .u64 a.floor, .int .u64 a.now.low, .int .u64 a.now.width, ns, .int .u64 a.safe.low, .int .u64 a.safe.width, ss]
/-- Where the spans lie. -/
def idV (r : RecS) : Value := .agg #[.int .i64 r.who, .int .u64 r.n]
def recCell (r : RecS) (u : Value) : List Value := [.int .i64 r.who, .int .u64 r.n, .int .i64 r.s.c, u]
def recCells (l : List (RecS × Value)) : List Value := l.flatMap (fun x => recCell x.1 x.2)
def RecsAt [bn : Inhabited Ban] (base : Nat) (w : World) (v : Value) (l : List RecS) : Prop :=
  ∃ xs : List (RecS × Value), xs.map (·.1) = l ∧ (∀ x ∈ xs, BytesAt base w x.2 x.1.s.body) ∧ w.ownsRow base 84 4 v l.length (recCells xs)
def ByAt (w : World) (m : Nat) (l : List RecS) : Prop :=
  ∃ es clock, w.heap[m]? = some (.map es clock) ∧ es.size = l.length ∧ ∀ (i : Nat) r, l[i]? = some r → (es[i]?).map (fun e => (e.key, e.val)) = some (idV r, .int .i64 i)
structure AgsAt (w : World) (ags : List (List Value)) (l : List AgS) : Prop where
  len : ags.length = 16
  len' : l.length = 16
  at' : ∀ (i : Nat) a, l[i]? = some a → ∃ ns ss, ags[i]? = some (agCells a ns ss) ∧ RunsAt w ns a.now.set ∧ RunsAt w ss a.safe.set
structure LedAt [bn : Inhabited Ban] (base : Nat) (w : World) (q g m : Nat) (lv : Value) (L : LedS) : Prop where
  blk : ∃ ags, w.heap[q]? = some (.cells (ledCells g L.inc ags lv L.safe m).toArray 110 (0, 0)) ∧ AgsAt w ags L.ag
  recs : RecsAt base w lv L.recs
  by' : ByAt w m L.recs
  qb : base ≤ q
  mb : base ≤ m
def gfoot (q m : Nat) (lv : Value) : Nat → Prop := fun b => b = q ∨ b = m ∨ lv.ownBlock = some b
theorem AgsAt.seven {w : World} {ags : List (List Value)} {l : List AgS} (h : AgsAt w ags l) : ∀ a ∈ ags, a.length = 7 := by
  intro a ha
  obtain ⟨i, hi, rfl⟩ := List.getElem_of_mem ha
  have hil : i < l.length := by rw [h.len', ← h.len]; exact hi
  obtain ⟨ns, ss, e, _⟩ := h.at' i _ (List.getElem?_eq_getElem hil)
  rw [List.getElem?_eq_getElem hi] at e
  simp at e
  rw [e]
  rfl
theorem AgsAt.keep {w w' : World} {ags : List (List Value)} {l : List AgS} {F : Nat → Prop} (h : AgsAt w ags l) (hF : FootR w F) (k : Keep F w w') : AgsAt w' ags l :=
  ⟨h.len, h.len', fun i a hi => by obtain ⟨ns, ss, e, h1, h2⟩ := h.at' i a hi; exact ⟨ns, ss, e, h1.keep hF k, h2.keep hF k⟩⟩
theorem RecsAt.keep [bn : Inhabited Ban] {base : Nat} {w w' : World} {v : Value} {l : List RecS} {F : Nat → Prop} (h : RecsAt base w v l) (hF : Foot base w F) (k : Keep F w w') (hn : ∀ b, v.ownBlock = some b → ¬ F b) : RecsAt base w' v l := by
  obtain ⟨xs, h1, h2, h3⟩ := h
  exact ⟨xs, h1, fun x hx => (h2 x hx).keep hF k, row_keep h3 k hn⟩
theorem RecsAt.form [bn : Inhabited Ban] {base : Nat} {w : World} {v : Value} {l : List RecS} (h : RecsAt base w v l) : ∃ ao cap, v = .slice ao l.length cap ∧ l.length ≤ cap ∧ cap ≤ maxLen := by
  obtain ⟨xs, _, _, h3⟩ := h
  exact row_form h3
theorem RecsAt.kind [bn : Inhabited Ban] {base : Nat} {w : World} {v : Value} {l : List RecS} (h : RecsAt base w v l) : ∀ b, v.ownBlock = some b → base ≤ b ∧ ∃ cur, w.heap[b]? = some (.cells cur 84 (0, 0)) := by
  obtain ⟨xs, _, _, h3⟩ := h
  exact row_kind h3
theorem ByAt.keep {w w' : World} {m : Nat} {l : List RecS} {F : Nat → Prop} (h : ByAt w m l) (k : Keep F w w') (hm : ¬ F m) : ByAt w' m l := by
  obtain ⟨es, clock, hb, r⟩ := h
  exact ⟨es, clock, k.heap hb hm, r⟩
section
variable [bn : Inhabited Ban] {base : Nat} {w w' : World} {q g m : Nat} {lv : Value} {L : LedS}
theorem LedAt.kind (h : LedAt base w q g m lv L) {b : Nat} (hb : gfoot q m lv b) : base ≤ b ∧ ((∃ cs t, w.heap[b]? = some (.cells cs t (0, 0)) ∧ (t = 110 ∨ t = 84)) ∨ ∃ es clock, w.heap[b]? = some (.map es clock)) := by
  rcases hb with rfl | rfl | hb
  · obtain ⟨ags, hz, _⟩ := h.blk
    exact ⟨h.qb, .inl ⟨_, _, hz, .inl rfl⟩⟩
  · obtain ⟨es, clock, hz, _⟩ := h.by'
    exact ⟨h.mb, .inr ⟨_, _, hz⟩⟩
  · obtain ⟨h1, cur, hz⟩ := h.recs.kind b hb
    exact ⟨h1, .inl ⟨_, _, hz, .inr rfl⟩⟩
theorem LedAt.foot (h : LedAt base w q g m lv L) : Foot base w (gfoot q m lv) := by
  intro b hb
  obtain ⟨h1, h2⟩ := h.kind hb
  rcases h2 with ⟨cs, t, hz, ht⟩ | ⟨es, clock, hz⟩
  · exact ⟨h1, heap_lt hz, fun cs fr e => by rw [hz] at e; simp at e; obtain ⟨_, rfl, _⟩ := e; rcases ht with ht | ht <;> simp at ht⟩
  · exact ⟨h1, heap_lt hz, fun cs fr e => by rw [hz] at e; simp at e⟩
theorem LedAt.footR (h : LedAt base w q g m lv L) : FootR w (gfoot q m lv) := by
  intro b hb hr
  obtain ⟨h1, h2⟩ := h.kind hb
  obtain ⟨cs', fr', e⟩ := hr
  rcases h2 with ⟨cs, t, hz, ht⟩ | ⟨es, clock, hz⟩
  · rw [hz] at e; simp at e; obtain ⟨_, rfl, _⟩ := e; rcases ht with ht | ht <;> simp at ht
  · rw [hz] at e; simp at e
theorem LedAt.keep {F : Nat → Prop} (h : LedAt base w q g m lv L) (hF : Foot base w F) (hR : FootR w F) (k : Keep F w w') (hn : ∀ b, gfoot q m lv b → ¬ F b) : LedAt base w' q g m lv L := by
  obtain ⟨ags, hz, ha⟩ := h.blk
  exact ⟨⟨ags, k.heap hz (hn q (.inl rfl)), ha.keep hR k⟩, h.recs.keep hF k (fun b hb => hn b (.inr (.inr hb))), h.by'.keep k (hn m (.inr (.inl rfl))), h.qb, h.mb⟩
theorem LedAt.no (h : LedAt base w q g m lv L) (k : Keep No w w') : LedAt base w' q g m lv L := h.keep (Foot.no _ _) (FootR.no _) k (fun _ _ h => h)
theorem LedAt.lt (h : LedAt base w q g m lv L) : ∀ b, gfoot q m lv b → b < w.heap.size := fun b hb => (h.foot b hb).2.1
theorem LedAt.apart (h : LedAt base w q g m lv L) : q ≠ m ∧ lv.ownBlock ≠ some q ∧ lv.ownBlock ≠ some m := by
  obtain ⟨ags, hz, _⟩ := h.blk
  obtain ⟨es, clock, hm, _⟩ := h.by'
  refine ⟨fun e => ?_, fun e => ?_, fun e => ?_⟩
  · subst e; rw [hz] at hm; simp at hm
  · obtain ⟨_, cur, hr⟩ := h.recs.kind _ e; rw [hz] at hr; simp at hr
  · obtain ⟨_, cur, hr⟩ := h.recs.kind _ e; rw [hm] at hr; simp at hr
end
end Go.Proofs.YtgogfnafbeahoaaGreat
