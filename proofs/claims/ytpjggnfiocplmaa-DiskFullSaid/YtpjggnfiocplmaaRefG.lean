/- The document's calls in memory: appending. -/
import Derived.Test.YtpjggnfiocplmaaRefF
namespace Go.Proofs.Ytpjggnfiocplmaa
open Go Go.RowKit Go.Dr

theorem info_rcall : (Try.prog.info? 113).map (fun i => (i.zero, i.size, i.bytes)) = some (some (.agg #[.int .u64 0, .slice none 0 0, .bool false]), 3, 40) := by kernel_rfl
theorem LAt.nil [bn : Inhabited Ban] (base : Nat) (w : World) : LAt base w (.slice none 0 0) [] := ⟨[], rfl, fun i u c h => by simp at h, World.ownsRow_nil _ _ _ _⟩
theorem LAt.kind [bn : Inhabited Ban] {base : Nat} {w : World} {v : Value} {m : List CallS} (h : LAt base w v m) : ∀ b, v.ownBlock = some b → base ≤ b ∧ ∃ cur, w.heap[b]? = some (.cells cur 113 (0, 0)) := by
  intro b hb
  obtain ⟨us, _, _, _, hw⟩ := h
  rcases hw with ⟨rfl, _⟩ | ⟨g, cap, cur, rfl, h1, h2, _⟩
  · simp [Value.ownBlock] at hb
  · simp [Value.ownBlock] at hb
    subst hb
    exact ⟨h1, cur, h2⟩
theorem LAt.footOk [bn : Inhabited Ban] {base : Nat} {w : World} {v : Value} {m : List CallS} (h : LAt base w v m) : Foot base w (fun b => v.ownBlock = some b) := by
  intro b hb
  obtain ⟨h1, cur, h2⟩ := h.kind b hb
  exact ⟨h1, heap_lt h2, fun cs fr e => by rw [h2] at e; simp at e⟩
theorem LAt.keep [bn : Inhabited Ban] {base : Nat} {w w' : World} {v : Value} {m : List CallS} {F : Nat → Prop} (h : LAt base w v m) (hF : Foot base w F) (k : Keep F w w') (hn : ∀ b, v.ownBlock = some b → ¬ F b) : LAt base w' v m := by
  obtain ⟨us, h1, h2, h3, h4⟩ := h
  refine ⟨us, h1, fun i u c hu hc => (h2 i u c hu hc).keep hF k, h3, ?_⟩
  rcases h4 with h4 | ⟨g, cap, cur, rfl, h5, h6, h7⟩
  · exact .inl h4
  · exact .inr ⟨g, cap, cur, rfl, h5, k.heap h6 (hn g rfl), h7⟩
theorem LAt.no [bn : Inhabited Ban] {base : Nat} {w w' : World} {v : Value} {m : List CallS} (h : LAt base w v m) (k : Keep No w w') : LAt base w' v m := h.keep (Foot.no _ _) k (fun _ _ h => h)
/-! ### A part of a slice of segments, to be read -/
def CallsIn [bn : Inhabited Ban] (base : Nat) (w : World) (x : Value) (m : List CallS) : Prop :=
  ∃ us : List Value, us.length = m.length ∧ (∀ (i : Nat) u e, us[i]? = some u → m[i]? = some e → BytesAt base w u e.p) ∧
    ∃ ao cap, x = .slice ao m.length cap ∧ ((ao = none ∧ m = [] ∧ cap = 0) ∨ ∃ ad, ao = some ad ∧ ∀ (j : Nat) y, (callCells m us)[j]? = some y → w.cell? (ad.add j) = some y)
theorem rcCells_append : ∀ {m m2 : List CallS} {us us2 : List Value}, us.length = m.length → callCells (m ++ m2) (us ++ us2) = callCells m us ++ callCells m2 us2 := by
  intro m
  induction m with
  | nil => intro m2 us us2 h; obtain rfl := List.eq_nil_of_length_eq_zero h; rfl
  | cons c m ih =>
    intro m2 us us2 h
    cases us with
    | nil => simp at h
    | cons u us => simp only [List.cons_append, callCells, ih (us := us) (by simpa using h)]
theorem rcCells_take : ∀ {m : List CallS} {us : List Value} (a : Nat), us.length = m.length → callCells (m.take a) (us.take a) = (callCells m us).take (a * 3) := by
  intro m
  induction m with
  | nil => intro us a h; obtain rfl := List.eq_nil_of_length_eq_zero h; simp [callCells]
  | cons c m ih =>
    intro us a h
    cases us with
    | nil => simp at h
    | cons u us =>
      cases a with
      | zero => simp [callCells]
      | succ a =>
        have e : (a + 1) * 3 = a * 3 + 1 + 1 + 1 := by omega
        simp only [List.take_succ_cons, callCells, e, ih (us := us) a (by simpa using h)]
/-- append(v, x...). -/
theorem run_append_rcalls [bn : Inhabited Ban] {base : Nat} {w : World} {v x : Value} {m m2 : List CallS} (ty : TypeId) (h : LAt base w v m) (hx : CallsIn base w x m2) (hlen : m.length + m2.length ≤ 1000000) (hb : base ≤ w.heap.size) :
    ∃ v' w', (Builtin.append_ #[38, 38] ty #[v, x]).run Try.prog w = .ok v' w' ∧ LAt base w' v' (m ++ m2) ∧ Keep (fun b => v.ownBlock = some b) w w' ∧ (∀ b, v'.ownBlock = some b → v.ownBlock = some b ∨ b = w.heap.size) := by
  have hfo := h.footOk
  obtain ⟨us, hus, hub, hown⟩ := h
  obtain ⟨us2, hus2, hub2, ao, cap, rfl, hx⟩ := hx
  obtain ⟨i0, hi0, hz0, hz1, hz2⟩ := info_parts info_rcall
  rcases hx with ⟨rfl, rfl, rfl⟩ | ⟨ad, rfl, hx⟩
  · refine ⟨v, w, run_append_owned_none (P := Try.prog) w base 38 ty 113 i0 3 Try.underlying38 hi0 v m.length (callCells m us) hown, ⟨us, by simpa using hus, by simpa using hub, by simpa using hown⟩, Keep.refl _ _, fun b hb => .inl hb⟩
  · have hone2 : ∀ u ∈ us2, u.oneCell' = true := by
      intro u hu
      obtain ⟨i, hi, rfl⟩ := List.getElem_of_mem hu
      obtain ⟨_, _, e⟩ := (hub2 i us2[i] m2[i] (List.getElem?_eq_getElem hi) (List.getElem?_eq_getElem (by omega))).form
      rw [e]; rfl
    obtain ⟨v', w', hrun, o1, g1, _, l1⟩ := run_append_own_at (P := Try.prog) w base 38 ty 113 i0 _ 3 40 Try.underlying38 hi0 hz0 hz1 hz2 rfl (by omega) v m.length (callCells m us) hown
      ad m2.length cap (callCells m2 us2) (callCells_length hus2) hx (callCells_one hone2) (by unfold maxLen; omega) (by omega) hb
    have hk : Keep (fun b => v.ownBlock = some b) w w' := (Keep.refl _ _).grown g1 (fun k hk => .inl hk)
    refine ⟨v', w', hrun, ⟨us ++ us2, by simp [hus, hus2], ?_, ?_⟩, hk, fun b hb => ?_⟩
    · intro i u e h1 h2
      by_cases hi : i < us.length
      · rw [List.getElem?_append_left hi] at h1
        rw [List.getElem?_append_left (by omega)] at h2
        exact (hub i u e h1 h2).keep hfo hk
      · rw [List.getElem?_append_right (by omega)] at h1
        rw [List.getElem?_append_right (by omega)] at h2
        rw [hus] at h1
        exact (hub2 _ u e h1 h2).keep hfo hk
    · rw [rcCells_append hus, List.length_append]
      exact o1
    · rcases l1 with l1 | l1
      · exact .inl (by rw [← l1]; exact hb)
      · right; rw [l1] at hb; simp at hb; exact hb.symm

theorem wp_append_rcalls [bn : Inhabited Ban] {base : Nat} {w : World} {o : Oper} {a : Act} {K : Act → World → Prop} {Q : Exit → Act → World → Prop} {v x : Value} {m m2 : List CallS} (s t : Operand)
    (hop : o.op = Op.call { callee := Callee.builtin Builtin.append, args := #[s, t], argTypes := #[38, 38] }) (hs : a.eval s = v) (ht : a.eval t = x)
    (h : LAt base w v m) (hx : CallsIn base w x m2) (hlen : m.length + m2.length ≤ 1000000) (hb : base ≤ w.heap.size)
    (hK : ∀ v' w', LAt base w' v' (m ++ m2) → Keep (fun b => v.ownBlock = some b) w w' → (∀ b, v'.ownBlock = some b → v.ownBlock = some b ∨ b = w.heap.size) → K (a.put o.dst v') w') : o.wp Try.prog a w K Q := by
  obtain ⟨v', w', hrun, h1, h2, h3⟩ := run_append_rcalls o.type h hx hlen hb
  unfold Oper.wp
  simp [execOp, hop, resolve, invoke, builtin, hs, ht, hrun, Result.andThen]
  exact hK v' w' h1 h2 h3
theorem wpList_append_rcalls [bn : Inhabited Ban] {base : Nat} {w : World} {ops : Array Oper} {rest : List Oper} {o : Oper} {a : Act} {Q : Exit → Act → World → Prop} {v x : Value} {m m2 : List CallS} (hg : o.guard = none) (s t : Operand)
    (hop : o.op = Op.call { callee := Callee.builtin Builtin.append, args := #[s, t], argTypes := #[38, 38] }) (hs : a.eval s = v) (ht : a.eval t = x)
    (h : LAt base w v m) (hx : CallsIn base w x m2) (hlen : m.length + m2.length ≤ 1000000) (hb : base ≤ w.heap.size)
    (hK : ∀ v' w', LAt base w' v' (m ++ m2) → Keep (fun b => v.ownBlock = some b) w w' → (∀ b, v'.ownBlock = some b → v.ownBlock = some b ∨ b = w.heap.size) → wpList Try.prog ops Q rest (a.put o.dst v') w') : wpList Try.prog ops Q (o :: rest) a w :=
  wpList_plain hg fun _ hK' => wp_append_rcalls s t hop hs ht h hx hlen hb fun v' w' h1 h2 h3 => hK' _ _ (hK v' w' h1 h2 h3)

theorem LAt.src [bn : Inhabited Ban] {base : Nat} {w : World} {ao : Option Addr} {n cap : Nat} {m : List CallS} (h : LAt base w (.slice ao n cap) m) :
    n = m.length ∧ n ≤ cap ∧ ∃ us : List Value, us.length = m.length ∧ (∀ (i : Nat) u e, us[i]? = some u → m[i]? = some e → BytesAt base w u e.p) ∧
      ((ao = none ∧ m = [] ∧ cap = 0) ∨ ∃ g, ao = some ⟨g, 0, none⟩ ∧ ∀ (j : Nat) y, (callCells m us)[j]? = some y → w.cell? ⟨g, j, none⟩ = some y) := by
  obtain ⟨us, hus, hb, hx, hw⟩ := h
  rcases hw with ⟨h1, h0⟩ | ⟨g, cp, cur, hv, hbg, hg, h1, h2, h3, h4⟩
  · simp at h1
    obtain rfl : m = [] := List.eq_nil_of_length_eq_zero h0
    exact ⟨by simp; omega, by omega, us, hus, hb, .inl ⟨h1.1, rfl, h1.2.2⟩⟩
  · simp only [Value.slice.injEq] at hv
    refine ⟨hv.2.1, by omega, us, hus, hb, .inr ⟨g, hv.1, fun j y hj => ?_⟩⟩
    rw [cell_of hg]
    rw [← h4, List.getElem?_take] at hj
    split at hj
    · simpa using hj
    · cases hj
theorem LAt.takeIn [bn : Inhabited Ban] {base : Nat} {w : World} {ao : Option Addr} {n cap : Nat} {m : List CallS} (h : LAt base w (.slice ao n cap) m) (a : Nat) (ha : a ≤ m.length) : CallsIn base w (.slice ao a cap) (m.take a) := by
  obtain ⟨rfl, hn, us, hus, hub, hx⟩ := h.src
  have hl : (m.take a).length = a := by simp; omega
  refine ⟨us.take a, by simp [hus], fun i u e h1 h2 => ?_, ao, cap, by rw [hl], ?_⟩
  · rw [List.getElem?_take] at h1 h2
    split at h1
    · rename_i hi
      rw [if_pos hi] at h2
      exact hub i u e h1 h2
    · cases h1
  · rcases hx with ⟨rfl, rfl, rfl⟩ | ⟨g, rfl, hx⟩
    · exact .inl ⟨rfl, by simp, rfl⟩
    · refine .inr ⟨⟨g, 0, none⟩, rfl, fun j y hj => ?_⟩
      rw [rcCells_take a hus, List.getElem?_take] at hj
      split at hj
      · rw [Addr.add_lit, Nat.zero_add]; exact hx j y hj
      · cases hj
theorem LAt.allIn [bn : Inhabited Ban] {base : Nat} {w : World} {v : Value} {m : List CallS} (h : LAt base w v m) : CallsIn base w v m := by
  obtain ⟨ao, cap, rfl, _, _⟩ := h.form
  have := h.takeIn m.length (Nat.le_refl _)
  rwa [List.take_length] at this
theorem CallsIn.keep [bn : Inhabited Ban] {base : Nat} {w w' : World} {x : Value} {m : List CallS} (h : CallsIn base w x m) (k : Keep No w w') : CallsIn base w' x m := by
  obtain ⟨us, hus, hub, ao, cap, rfl, hx⟩ := h
  refine ⟨us, hus, fun i u e h1 h2 => (hub i u e h1 h2).no k, ao, cap, rfl, ?_⟩
  rcases hx with hx | ⟨ad, rfl, hx⟩
  · exact .inl hx
  · exact .inr ⟨ad, rfl, fun j y hj => k.cell (hx j y hj) (fun e => e)⟩
theorem LAt.made [bn : Inhabited Ban] (base : Nat) (w : World) (hb : base ≤ w.heap.size) : LAt base (w.alloc (.cells #[] 113)) (.slice (some ⟨w.heap.size, 0, none⟩) 0 0) [] :=
  ⟨[], rfl, fun i u c h => by simp at h, World.ownsRow_made w #[] 0 hb (by decide) rfl⟩
theorem LAt.one [bn : Inhabited Ban] {base : Nat} {w : World} {u : Value} (c : CallS) (hu : BytesAt base w u c.p) (hb : base ≤ w.heap.size) :
    LAt base (w.alloc (.cells #[.int .u64 c.seg, u, .bool c.drop] 113)) (.slice (some ⟨w.heap.size, 0, none⟩) 1 1) [c] := by
  refine ⟨[u], rfl, fun i u' c' h1 h2 => ?_, ⟨rfl, .inr ⟨w.heap.size, 1, #[.int .u64 c.seg, u, .bool c.drop], rfl, hb, heap_new w _, Nat.le_refl _, by decide, by simp, by simp [callCells]⟩⟩⟩
  match i, h1, h2 with
  | 0, h1, h2 => simp at h1 h2; subst h1 h2; exact hu.no ((Keep.refl _ _).alloc _)
end Go.Proofs.Ytpjggnfiocplmaa
