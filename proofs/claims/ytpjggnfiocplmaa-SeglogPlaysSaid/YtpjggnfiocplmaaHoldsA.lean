/- Slices of records: a part, a copy, one more. -/
import Derived.Test.YtpjggnfiocplmaaSeqY
import Derived.Test.YtpjggnfiocplmaaRefO
namespace Go.Proofs.Ytpjggnfiocplmaa
open Go Go.RowKit Go.Dr

theorem recs_slices [bn : Inhabited Ban] {base : Nat} {w : World} {v : Value} {l : List Bytes} (h : LRecsAt base w v l) : SlicesAt base w v l := by
  obtain ⟨us, h1, h2, h3⟩ := h
  refine ⟨us, h1, h2, ?_⟩
  rcases h3.2 with ⟨rfl, h0⟩ | ⟨g, cap, cur, rfl, _, hz, h4, h5, h6, h7⟩
  · have : l = [] := List.eq_nil_of_length_eq_zero h0
    subst this
    exact ⟨none, 0, rfl, Nat.le_refl _, by decide, .inl rfl⟩
  · refine ⟨_, cap, rfl, h4, h5, .inr ⟨g, 0, rfl, fun i u hu => ?_⟩⟩
    rw [cell_of hz, Nat.zero_add]
    rw [← h7, List.getElem?_take] at hu
    split at hu
    · simpa using hu
    · cases hu
theorem slices_head [bn : Inhabited Ban] {base : Nat} {w : World} {ao : Option Addr} {n cap : Nat} {l : List Bytes} (h : SlicesAt base w (.slice ao n cap) l) (m : Nat) (hm : m ≤ l.length) : SlicesAt base w (.slice ao m cap) (l.take m) := by
  obtain ⟨us, h1, h2, ao', cap', hq, h3, h4, h5⟩ := h
  simp only [Value.slice.injEq] at hq
  obtain ⟨rfl, rfl, rfl⟩ := hq
  have hl : (l.take m).length = m := by rw [List.length_take, Nat.min_eq_left hm]
  refine ⟨us.take m, by rw [List.length_take, hl, h1, Nat.min_eq_left hm], fun i u b hu hb => ?_, ao, cap, by rw [hl], by rw [hl]; omega, h4, ?_⟩
  · rw [List.getElem?_take] at hu hb
    split at hu
    · exact h2 i u b hu (by rw [if_pos (by assumption)] at hb; exact hb)
    · cases hu
  · rcases h5 with rfl | ⟨g, o, rfl, h5⟩
    · exact .inl (by simp)
    · refine .inr ⟨g, o, rfl, fun i u hu => ?_⟩
      rw [List.getElem?_take] at hu
      split at hu
      · exact h5 i u hu
      · cases hu
theorem recs_nil [bn : Inhabited Ban] (base : Nat) (w : World) : LRecsAt base w (.slice none 0 0) [] := ⟨[], rfl, fun i u b h => by simp at h, World.ownsRow_nil _ _ _ _⟩
theorem recs_made [bn : Inhabited Ban] {base : Nat} {w : World} (hb : base ≤ w.heap.size) : LRecsAt base (w.alloc (.cells #[] 27)) (.slice (some ⟨w.heap.size, 0, none⟩) 0 0) [] :=
  ⟨[], rfl, fun i u c h => by simp at h, by simp, .inr ⟨w.heap.size, 0, #[], rfl, hb, heap_new w _, Nat.le_refl _, by decide, rfl, rfl⟩⟩
/-- append(v, x...). -/
theorem wp_append_recs [bn : Inhabited Ban] {base : Nat} {w : World} {o : Oper} {a : Act} {K : Act → World → Prop} {Q : Exit → Act → World → Prop} (s t : Operand)
    (hop : o.op = Op.call { callee := Callee.builtin Builtin.append, args := #[s, t], argTypes := #[64, 64] }) {v x : Value} {m m2 : List Bytes} (hs : a.eval s = v) (ht : a.eval t = x)
    (h : LRecsAt base w v m) (hx : LRecsAt base w x m2) (hlen : m.length + m2.length ≤ 1000000) (hb : base ≤ w.heap.size)
    (hK : ∀ v' w', LRecsAt base w' v' (m ++ m2) → Keep (fun b => v.ownBlock = some b) w w' → (∀ b, v'.ownBlock = some b → v.ownBlock = some b ∨ b = w.heap.size) → K (a.put o.dst v') w') : o.wp Try.prog a w K Q := by
  have hfo := h.foot
  obtain ⟨us, hus, hub, hown⟩ := h
  obtain ⟨us2, hus2, hub2, hown2⟩ := hx
  obtain ⟨i0, hi0, hz0, hz1, hz2⟩ := info_parts info_bytes
  have key : ∃ v' w', (Builtin.append_ #[64, 64] o.type #[v, x]).run Try.prog w = .ok v' w' ∧ LRecsAt base w' v' (m ++ m2) ∧ Keep (fun b => v.ownBlock = some b) w w' ∧ (∀ b, v'.ownBlock = some b → v.ownBlock = some b ∨ b = w.heap.size) := by
    rcases hown2.2 with ⟨rfl, h0⟩ | ⟨g, cap, cur, rfl, _, hz, h4, h5, h6, h7⟩
    · obtain rfl : m2 = [] := List.eq_nil_of_length_eq_zero h0
      refine ⟨v, w, ?_, ⟨us, by simpa using hus, by simpa using hub, by simpa using hown⟩, Keep.refl _ _, fun b hb => .inl hb⟩
      exact run_append_owned_none (P := Try.prog) w base 64 o.type 27 i0 1 Try.underlying64 hi0 v m.length us hown
    · have hone2 : ∀ u ∈ us2, u.oneCell' = true := by
        intro u hu
        obtain ⟨i, hi, rfl⟩ := List.getElem_of_mem hu
        obtain ⟨_, _, e⟩ := (hub2 i us2[i] m2[i] (List.getElem?_eq_getElem hi) (List.getElem?_eq_getElem (by omega))).form
        rw [e]; rfl
      have hcells : ∀ (j : Nat) y, us2[j]? = some y → w.cell? ((⟨g, 0, none⟩ : Addr).add j) = some y := by
        intro j y hy
        rw [Addr.add_lit, cell_of hz, Nat.zero_add]
        rw [← h7, List.getElem?_take] at hy
        split at hy
        · simpa using hy
        · cases hy
      obtain ⟨v', w', hrun, o1, g1, _, l1⟩ := run_append_own_at (P := Try.prog) w base 64 o.type 27 i0 _ 1 24 Try.underlying64 hi0 hz0 hz1 hz2 rfl (by omega) v m.length us hown
        ⟨g, 0, none⟩ m2.length cap us2 (by rw [hus2]; omega) hcells hone2 (by unfold maxLen; omega) (by omega) hb
      have hk : Keep (fun b => v.ownBlock = some b) w w' := (Keep.refl _ _).grown g1 (fun k hk => .inl hk)
      refine ⟨v', w', hrun, ⟨us ++ us2, by simp [hus, hus2], ?_, ?_⟩, hk, fun b hb => ?_⟩
      · intro i u e h1 h2
        by_cases hi : i < us.length
        · rw [List.getElem?_append_left hi] at h1
          rw [List.getElem?_append_left (by omega)] at h2
          exact (hub i u e h1 h2).keep hfo hk
        · rw [List.getElem?_append_right (by omega)] at h1
          rw [List.getElem?_append_right (by omega)] at h2
          rw [hus] at h1
          exact (hub2 _ u e h1 h2).keep hfo hk
      · rw [List.length_append]
        exact o1
      · rcases l1 with l1 | l1
        · exact .inl (by rw [← l1]; exact hb)
        · right; rw [l1] at hb; simp at hb; exact hb.symm
  obtain ⟨v', w', hrun, h1, h2, h3⟩ := key
  unfold Oper.wp
  simp [execOp, hop, resolve, invoke, builtin, hs, ht, hrun, Result.andThen]
  exact hK v' w' h1 h2 h3
theorem wpList_append_recs [bn : Inhabited Ban] {base : Nat} {w : World} {ops : Array Oper} {rest : List Oper} {o : Oper} {a : Act} {Q : Exit → Act → World → Prop} (hg : o.guard = none) (s t : Operand)
    (hop : o.op = Op.call { callee := Callee.builtin Builtin.append, args := #[s, t], argTypes := #[64, 64] }) {v x : Value} {m m2 : List Bytes} (hs : a.eval s = v) (ht : a.eval t = x)
    (h : LRecsAt base w v m) (hx : LRecsAt base w x m2) (hlen : m.length + m2.length ≤ 1000000) (hb : base ≤ w.heap.size)
    (hK : ∀ v' w', LRecsAt base w' v' (m ++ m2) → Keep (fun b => v.ownBlock = some b) w w' → (∀ b, v'.ownBlock = some b → v.ownBlock = some b ∨ b = w.heap.size) → wpList Try.prog ops Q rest (a.put o.dst v') w') : wpList Try.prog ops Q (o :: rest) a w :=
  wpList_plain hg fun _ hK' => wp_append_recs s t hop hs ht h hx hlen hb fun v' w' h1 h2 h3 => hK' _ _ (hK v' w' h1 h2 h3)
end Go.Proofs.Ytpjggnfiocplmaa
