/- The document's segments: where a call goes; appending segments. -/
import Derived.Test.YtpjggnfiocplmaaRefB
import Derived.Deep.AppendLies
namespace Go.Proofs.Ytpjggnfiocplmaa
open Go Go.RowKit Go.Dr

/-! ### Where a call goes -/
structure IsAt (m : AMap) (k : Int) (a : Nat) : Prop where
  le : a ≤ m.length
  low : ∀ (j : Nat) (e : Int × Bytes), j < a → m[j]? = some e → e.1 < k
  high : ∀ e, m[a]? = some e → ¬ e.1 < k
theorem step6_split {c : CallS} : ∀ {m : AMap} {a : Nat}, a ≤ m.length → (∀ (j : Nat) (e : Int × Bytes), j < a → m[j]? = some e → e.1 < c.seg) → step6 m c = m.take a ++ step6 (m.drop a) c := by
  intro m a
  induction a generalizing m with
  | zero => intro _ _; simp
  | succ a ih =>
    intro hl h
    cases m with
    | nil => simp at hl
    | cons e m =>
      have h0 := h 0 e (by omega) rfl
      have h1 := ih (m := m) (by simpa using hl) (fun j x hj hx => h (j + 1) x (by omega) (by simpa using hx))
      simp only [List.take_succ_cons, List.drop_succ_cons, List.cons_append, ← h1]
      conv => lhs; unfold step6
      rw [if_pos h0]
theorem drop_at {m : AMap} {a : Nat} {e : Int × Bytes} (h : m[a]? = some e) : m.drop a = e :: m.drop (a + 1) := by
  obtain ⟨hlt, rfl⟩ := List.getElem?_eq_some_iff.1 h
  exact List.drop_eq_getElem_cons hlt
theorem step6_there_drop {m : AMap} {c : CallS} {a : Nat} (h : IsAt m c.seg a) {e : Int × Bytes} (he : m[a]? = some e) (hk : e.1 = c.seg) (hd : c.drop = true) : step6 m c = m.take a ++ m.drop (a + 1) := by
  rw [step6_split h.le h.low, drop_at he]
  unfold step6
  rw [if_neg (h.high e he), if_pos hk, hd]
  rfl
theorem step6_there {m : AMap} {c : CallS} {a : Nat} (h : IsAt m c.seg a) {e : Int × Bytes} (he : m[a]? = some e) (hk : e.1 = c.seg) (hd : c.drop = false) : step6 m c = m.take a ++ (c.seg, e.2 ++ c.p) :: m.drop (a + 1) := by
  rw [step6_split h.le h.low, drop_at he]
  unfold step6
  rw [if_neg (h.high e he), if_pos hk, hd]
  rfl
theorem step6_not_drop {m : AMap} {c : CallS} {a : Nat} (h : IsAt m c.seg a) (hn : ∀ e, m[a]? = some e → e.1 ≠ c.seg) (hd : c.drop = true) : step6 m c = m := by
  rw [step6_split h.le h.low]
  cases he : m[a]? with
  | none =>
    have : m.drop a = [] := List.drop_eq_nil_of_le (List.getElem?_eq_none_iff.1 he)
    rw [this]
    unfold step6
    rw [hd]
    simp only [if_true]
    rw [← this, List.take_append_drop]
  | some e =>
    rw [drop_at he]
    unfold step6
    rw [if_neg (h.high e he), if_neg (hn e he), hd]
    simp only [if_true]
    rw [← drop_at he, List.take_append_drop]
theorem step6_not {m : AMap} {c : CallS} {a : Nat} (h : IsAt m c.seg a) (hn : ∀ e, m[a]? = some e → e.1 ≠ c.seg) (hd : c.drop = false) : step6 m c = m.take a ++ (c.seg, c.p) :: m.drop a := by
  rw [step6_split h.le h.low]
  cases he : m[a]? with
  | none =>
    have : m.drop a = [] := List.drop_eq_nil_of_le (List.getElem?_eq_none_iff.1 he)
    rw [this]
    unfold step6
    rw [hd]
    rfl
  | some e =>
    rw [drop_at he]
    conv => lhs; unfold step6
    rw [if_neg (h.high e he), if_neg (hn e he), hd]
    rfl

/-! ### A part of a slice of segments, to be read -/
def SegsIn [bn : Inhabited Ban] (base : Nat) (w : World) (x : Value) (m : AMap) : Prop :=
  ∃ us : List Value, us.length = m.length ∧ (∀ (i : Nat) u e, us[i]? = some u → m[i]? = some e → BytesAt base w u e.2) ∧
    ∃ ao cap, x = .slice ao m.length cap ∧ ((ao = none ∧ m = [] ∧ cap = 0) ∨ ∃ ad, ao = some ad ∧ ∀ (j : Nat) y, (segCells m us)[j]? = some y → w.cell? (ad.add j) = some y)
theorem segCells_length : ∀ {m : AMap} {us : List Value}, us.length = m.length → (segCells m us).length = m.length * 2 := by
  intro m
  induction m with
  | nil => intro us _; simp [segCells]
  | cons c m ih =>
    intro us h
    cases us with
    | nil => simp at h
    | cons u us => simp only [segCells, List.length_cons, ih (us := us) (by simpa using h)]; omega
theorem segCells_one : ∀ {m : AMap} {us : List Value}, (∀ u ∈ us, u.oneCell' = true) → ∀ x ∈ segCells m us, x.oneCell' = true := by
  intro m
  induction m with
  | nil => intro us _ x h; simp [segCells] at h
  | cons c m ih =>
    intro us h x hx
    cases us with
    | nil => simp [segCells] at hx
    | cons u us =>
      simp only [segCells, List.mem_cons] at hx
      rcases hx with rfl | rfl | hx
      · rfl
      · exact h _ (by simp)
      · exact ih (fun u hu => h u (by simp [hu])) x hx
theorem segCells_append : ∀ {m m2 : AMap} {us us2 : List Value}, us.length = m.length → segCells (m ++ m2) (us ++ us2) = segCells m us ++ segCells m2 us2 := by
  intro m
  induction m with
  | nil => intro m2 us us2 h; obtain rfl := List.eq_nil_of_length_eq_zero h; rfl
  | cons c m ih =>
    intro m2 us us2 h
    cases us with
    | nil => simp at h
    | cons u us => simp only [List.cons_append, segCells, ih (us := us) (by simpa using h)]
theorem segCells_take : ∀ {m : AMap} {us : List Value} (a : Nat), us.length = m.length → segCells (m.take a) (us.take a) = (segCells m us).take (a * 2) := by
  intro m
  induction m with
  | nil => intro us a h; obtain rfl := List.eq_nil_of_length_eq_zero h; simp [segCells]
  | cons c m ih =>
    intro us a h
    cases us with
    | nil => simp at h
    | cons u us =>
      cases a with
      | zero => simp [segCells]
      | succ a =>
        have e : (a + 1) * 2 = a * 2 + 1 + 1 := by omega
        simp only [List.take_succ_cons, segCells, e, ih (us := us) a (by simpa using h)]
theorem segCells_drop : ∀ {m : AMap} {us : List Value} (a : Nat), us.length = m.length → segCells (m.drop a) (us.drop a) = (segCells m us).drop (a * 2) := by
  intro m
  induction m with
  | nil => intro us a h; obtain rfl := List.eq_nil_of_length_eq_zero h; simp [segCells]
  | cons c m ih =>
    intro us a h
    cases us with
    | nil => simp at h
    | cons u us =>
      cases a with
      | zero => simp [segCells]
      | succ a =>
        have e : (a + 1) * 2 = a * 2 + 1 + 1 := by omega
        simp only [List.drop_succ_cons, segCells, e, ih (us := us) a (by simpa using h)]

theorem info_seg : (Try.prog.info? 49).map (fun i => (i.zero, i.size, i.bytes)) = some (some (.agg #[.int .u64 0, .slice none 0 0]), 2, 32) := by kernel_rfl
/-- append(v, x...). -/
theorem run_append_segs [bn : Inhabited Ban] {base : Nat} {w : World} {v x : Value} {m m2 : AMap} (ty : TypeId) (h : SegsAt base w v m) (hx : SegsIn base w x m2) (hlen : m.length + m2.length ≤ 1000000) (hb : base ≤ w.heap.size) :
    ∃ v' w', (Builtin.append_ #[44, 44] ty #[v, x]).run Try.prog w = .ok v' w' ∧ SegsAt base w' v' (m ++ m2) ∧ Keep (fun b => v.ownBlock = some b) w w' ∧ (∀ b, v'.ownBlock = some b → v.ownBlock = some b ∨ b = w.heap.size) := by
  have hfo := h.footOk
  obtain ⟨us, hus, hub, hown⟩ := h
  obtain ⟨us2, hus2, hub2, ao, cap, rfl, hx⟩ := hx
  obtain ⟨i0, hi0, hz0, hz1, hz2⟩ := info_parts info_seg
  rcases hx with ⟨rfl, rfl, rfl⟩ | ⟨ad, rfl, hx⟩
  · refine ⟨v, w, run_append_owned_none (P := Try.prog) w base 44 ty 49 i0 2 Try.underlying44 hi0 v m.length (segCells m us) hown, ⟨us, by simpa using hus, by simpa using hub, by simpa using hown⟩, Keep.refl _ _, fun b hb => .inl hb⟩
  · have hone2 : ∀ u ∈ us2, u.oneCell' = true := by
      intro u hu
      obtain ⟨i, hi, rfl⟩ := List.getElem_of_mem hu
      obtain ⟨_, _, e⟩ := (hub2 i us2[i] m2[i] (List.getElem?_eq_getElem hi) (List.getElem?_eq_getElem (by omega))).form
      rw [e]; rfl
    obtain ⟨v', w', hrun, o1, g1, _, l1⟩ := run_append_own_at (P := Try.prog) w base 44 ty 49 i0 _ 2 32 Try.underlying44 hi0 hz0 hz1 hz2 rfl (by omega) v m.length (segCells m us) hown
      ad m2.length cap (segCells m2 us2) (segCells_length hus2) hx (segCells_one hone2) (by unfold maxLen; omega) (by omega) hb
    have hk : Keep (fun b => v.ownBlock = some b) w w' := (Keep.refl _ _).grown g1 (fun k hk => .inl hk)
    refine ⟨v', w', hrun, ⟨us ++ us2, by simp [hus, hus2], ?_, ?_⟩, hk, fun b hb => ?_⟩
    · intro i u e h1 h2
      by_cases hi : i < us.length
      · rw [List.getElem?_append_left hi] at h1
        rw [List.getElem?_append_left (by omega)] at h2
        exact (hub i u e h1 h2).keep hfo hk
      · rw [List.getElem?_append_right (by omega)] at h1
        rw [List.getElem?_append_right (by omega)] at h2
        rw [hus] at h1
        exact (hub2 _ u e h1 h2).keep hfo hk
    · rw [segCells_append hus, List.length_append]
      exact o1
    · rcases l1 with l1 | l1
      · exact .inl (by rw [← l1]; exact hb)
      · right; rw [l1] at hb; simp at hb; exact hb.symm

theorem wp_append_segs [bn : Inhabited Ban] {base : Nat} {w : World} {o : Oper} {a : Act} {K : Act → World → Prop} {Q : Exit → Act → World → Prop} {v x : Value} {m m2 : AMap} (s t : Operand)
    (hop : o.op = Op.call { callee := Callee.builtin Builtin.append, args := #[s, t], argTypes := #[44, 44] }) (hs : a.eval s = v) (ht : a.eval t = x)
    (h : SegsAt base w v m) (hx : SegsIn base w x m2) (hlen : m.length + m2.length ≤ 1000000) (hb : base ≤ w.heap.size)
    (hK : ∀ v' w', SegsAt base w' v' (m ++ m2) → Keep (fun b => v.ownBlock = some b) w w' → (∀ b, v'.ownBlock = some b → v.ownBlock = some b ∨ b = w.heap.size) → K (a.put o.dst v') w') : o.wp Try.prog a w K Q := by
  obtain ⟨v', w', hrun, h1, h2, h3⟩ := run_append_segs o.type h hx hlen hb
  unfold Oper.wp
  simp [execOp, hop, resolve, invoke, builtin, hs, ht, hrun, Result.andThen]
  exact hK v' w' h1 h2 h3
theorem wpList_append_segs [bn : Inhabited Ban] {base : Nat} {w : World} {ops : Array Oper} {rest : List Oper} {o : Oper} {a : Act} {Q : Exit → Act → World → Prop} {v x : Value} {m m2 : AMap} (hg : o.guard = none) (s t : Operand)
    (hop : o.op = Op.call { callee := Callee.builtin Builtin.append, args := #[s, t], argTypes := #[44, 44] }) (hs : a.eval s = v) (ht : a.eval t = x)
    (h : SegsAt base w v m) (hx : SegsIn base w x m2) (hlen : m.length + m2.length ≤ 1000000) (hb : base ≤ w.heap.size)
    (hK : ∀ v' w', SegsAt base w' v' (m ++ m2) → Keep (fun b => v.ownBlock = some b) w w' → (∀ b, v'.ownBlock = some b → v.ownBlock = some b ∨ b = w.heap.size) → wpList Try.prog ops Q rest (a.put o.dst v') w') : wpList Try.prog ops Q (o :: rest) a w :=
  wpList_plain hg fun _ hK' => wp_append_segs s t hop hs ht h hx hlen hb fun v' w' h1 h2 h3 => hK' _ _ (hK v' w' h1 h2 h3)

theorem SegsAt.src [bn : Inhabited Ban] {base : Nat} {w : World} {ao : Option Addr} {n cap : Nat} {m : AMap} (h : SegsAt base w (.slice ao n cap) m) :
    n = m.length ∧ n ≤ cap ∧ ∃ us : List Value, us.length = m.length ∧ (∀ (i : Nat) u e, us[i]? = some u → m[i]? = some e → BytesAt base w u e.2) ∧
      ((ao = none ∧ m = [] ∧ cap = 0) ∨ ∃ g, ao = some ⟨g, 0, none⟩ ∧ ∀ (j : Nat) y, (segCells m us)[j]? = some y → w.cell? ⟨g, j, none⟩ = some y) := by
  obtain ⟨us, hus, hb, hx, hw⟩ := h
  rcases hw with ⟨h1, h0⟩ | ⟨g, cp, cur, hv, hbg, hg, h1, h2, h3, h4⟩
  · simp at h1
    obtain rfl : m = [] := List.eq_nil_of_length_eq_zero h0
    exact ⟨by simp; omega, by omega, us, hus, hb, .inl ⟨h1.1, rfl, h1.2.2⟩⟩
  · simp only [Value.slice.injEq] at hv
    refine ⟨hv.2.1, by omega, us, hus, hb, .inr ⟨g, hv.1, fun j y hj => ?_⟩⟩
    rw [cell_of hg]
    rw [← h4, List.getElem?_take] at hj
    split at hj
    · simpa using hj
    · cases hj
theorem SegsAt.takeIn [bn : Inhabited Ban] {base : Nat} {w : World} {ao : Option Addr} {n cap : Nat} {m : AMap} (h : SegsAt base w (.slice ao n cap) m) (a : Nat) (ha : a ≤ m.length) : SegsIn base w (.slice ao a cap) (m.take a) := by
  obtain ⟨rfl, hn, us, hus, hub, hx⟩ := h.src
  have hl : (m.take a).length = a := by simp; omega
  refine ⟨us.take a, by simp [hus], fun i u e h1 h2 => ?_, ao, cap, by rw [hl], ?_⟩
  · rw [List.getElem?_take] at h1 h2
    split at h1
    · rename_i hi
      rw [if_pos hi] at h2
      exact hub i u e h1 h2
    · cases h1
  · rcases hx with ⟨rfl, rfl, rfl⟩ | ⟨g, rfl, hx⟩
    · exact .inl ⟨rfl, by simp, rfl⟩
    · refine .inr ⟨⟨g, 0, none⟩, rfl, fun j y hj => ?_⟩
      rw [segCells_take a hus, List.getElem?_take] at hj
      split at hj
      · rw [Addr.add_lit, Nat.zero_add]; exact hx j y hj
      · cases hj
theorem SegsAt.dropIn [bn : Inhabited Ban] {base : Nat} {w : World} {ao : Option Addr} {n cap : Nat} {m : AMap} (h : SegsAt base w (.slice ao n cap) m) (a : Nat) (ha : a ≤ m.length) :
    SegsIn base w (.slice (if cap = a then ao else ao.map (·.add (a * 2))) (n - a) (cap - a)) (m.drop a) := by
  obtain ⟨rfl, hn, us, hus, hub, hx⟩ := h.src
  have hl : (m.drop a).length = m.length - a := by simp
  refine ⟨us.drop a, by simp [hus], fun i u e h1 h2 => ?_, _, _, by rw [hl], ?_⟩
  · rw [List.getElem?_drop] at h1 h2
    exact hub _ u e h1 h2
  · rcases hx with ⟨rfl, rfl, rfl⟩ | ⟨g, rfl, hx⟩
    · exact .inl ⟨by simp, by simp, by omega⟩
    · by_cases hc : cap = a
      · refine .inr ⟨⟨g, 0, none⟩, by rw [if_pos hc], fun j y hj => ?_⟩
        have : m.drop a = [] := List.drop_eq_nil_of_le (by omega)
        rw [this] at hj
        simp [segCells] at hj
      · refine .inr ⟨(⟨g, 0, none⟩ : Addr).add (a * 2), by rw [if_neg hc]; rfl, fun j y hj => ?_⟩
        rw [segCells_drop a hus, List.getElem?_drop] at hj
        rw [Addr.add_lit, Addr.add_lit, Nat.zero_add]
        exact hx _ y hj
theorem SegsAt.allIn [bn : Inhabited Ban] {base : Nat} {w : World} {v : Value} {m : AMap} (h : SegsAt base w v m) : SegsIn base w v m := by
  obtain ⟨ao, cap, rfl, _, _⟩ := h.form
  have := h.takeIn m.length (Nat.le_refl _)
  rwa [List.take_length] at this
theorem SegsIn.keep [bn : Inhabited Ban] {base : Nat} {w w' : World} {x : Value} {m : AMap} (h : SegsIn base w x m) (k : Keep No w w') : SegsIn base w' x m := by
  obtain ⟨us, hus, hub, ao, cap, rfl, hx⟩ := h
  refine ⟨us, hus, fun i u e h1 h2 => (hub i u e h1 h2).no k, ao, cap, rfl, ?_⟩
  rcases hx with hx | ⟨ad, rfl, hx⟩
  · exact .inl hx
  · exact .inr ⟨ad, rfl, fun j y hj => k.cell (hx j y hj) (fun e => e)⟩
theorem SegsAt.made [bn : Inhabited Ban] (base : Nat) (w : World) (hb : base ≤ w.heap.size) : SegsAt base (w.alloc (.cells #[] 49)) (.slice (some ⟨w.heap.size, 0, none⟩) 0 0) [] :=
  ⟨[], rfl, fun i u c h => by simp at h, World.ownsRow_made w #[] 0 hb (by decide) rfl⟩
theorem SegsAt.one [bn : Inhabited Ban] {base : Nat} {w : World} {u : Value} {k : Int} {l : Bytes} (hu : BytesAt base w u l) (hb : base ≤ w.heap.size) :
    SegsAt base (w.alloc (.cells #[.int .u64 k, u] 49)) (.slice (some ⟨w.heap.size, 0, none⟩) 1 1) [(k, l)] := by
  refine ⟨[u], rfl, fun i u' c h1 h2 => ?_, ⟨rfl, .inr ⟨w.heap.size, 1, #[.int .u64 k, u], rfl, hb, heap_new w _, Nat.le_refl _, by decide, by simp, by simp [segCells]⟩⟩⟩
  match i, h1, h2 with
  | 0, h1, h2 => simp at h1 h2; subst h1 h2; exact hu.no ((Keep.refl _ _).alloc _)
end Go.Proofs.Ytpjggnfiocplmaa
