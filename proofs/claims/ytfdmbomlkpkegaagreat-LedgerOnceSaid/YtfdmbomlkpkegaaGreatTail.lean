/- A row of one's own of which the head was cut off: slices behind an offset. -/
import Derived.Test.YtfdmbomlkpkegaaGreatDisk
namespace Go.Proofs.YtfdmbomlkpkegaaGreat
open Go Go.RowKit Go.Dr

/-- v is a slice of n cells of a block that nobody else writes; what lies ahead of it is of no matter. -/
def OwnsTail (w : World) (base : Nat) (e : TypeId) (v : Value) (n : Nat) (xs : List Value) : Prop :=
  xs.length = n ∧ ((v = .slice none 0 0 ∧ n = 0) ∨
    ∃ g off cap cur, v = .slice (some ⟨g, off, none⟩) n cap ∧ base ≤ g ∧ w.heap[g]? = some (.cells cur e (0, 0)) ∧ n ≤ cap ∧ cap ≤ maxLen ∧ off + cap ≤ cur.size ∧ (cur.toList.drop off).take n = xs)
theorem tail_nil (w : World) (base : Nat) (e : TypeId) : OwnsTail w base e (.slice none 0 0) 0 [] := ⟨rfl, .inl ⟨rfl, rfl⟩⟩
theorem tail_of_row {w : World} {base : Nat} {e : TypeId} {v : Value} {n : Nat} {xs : List Value} (h : w.ownsRow base e 1 v n xs) : OwnsTail w base e v n xs := by
  refine ⟨by have := h.1; omega, ?_⟩
  rcases h.2 with h0 | ⟨g, cap, cur, rfl, h1, h2, h3, h4, h5, h6⟩
  · exact .inl h0
  · exact .inr ⟨g, 0, cap, cur, rfl, h1, h2, h3, h4, by omega, by simpa using h6⟩
theorem tail_form {w : World} {base : Nat} {e : TypeId} {v : Value} {n : Nat} {xs : List Value} (h : OwnsTail w base e v n xs) : ∃ ao cap, v = .slice ao n cap ∧ n ≤ cap ∧ cap ≤ maxLen := by
  rcases h.2 with ⟨rfl, h0⟩ | ⟨g, off, cap, cur, rfl, _, _, h3, h4, _⟩
  · exact ⟨none, 0, by rw [h0], by omega, by decide⟩
  · exact ⟨_, _, rfl, h3, h4⟩
theorem tail_kind {w : World} {base : Nat} {e : TypeId} {v : Value} {n : Nat} {xs : List Value} (h : OwnsTail w base e v n xs) : ∀ b, v.ownBlock = some b → base ≤ b ∧ ∃ cur, w.heap[b]? = some (.cells cur e (0, 0)) := by
  intro b hb
  rcases h.2 with ⟨rfl, h0⟩ | ⟨g, off, cap, cur, rfl, h1, h2, _⟩
  · simp [Value.ownBlock] at hb
  · simp [Value.ownBlock] at hb
    subst hb
    exact ⟨h1, cur, h2⟩
theorem tail_keep {w w' : World} {base : Nat} {e : TypeId} {v : Value} {n : Nat} {xs : List Value} {F : Nat → Prop} (h : OwnsTail w base e v n xs) (k : Keep F w w') (hn : ∀ b, v.ownBlock = some b → ¬ F b) : OwnsTail w' base e v n xs := by
  refine ⟨h.1, ?_⟩
  rcases h.2 with h0 | ⟨g, off, cap, cur, rfl, h1, h2, r⟩
  · exact .inl h0
  · exact .inr ⟨g, off, cap, cur, rfl, h1, k.heap h2 (hn g rfl), r⟩
theorem tail_cell {w : World} {base : Nat} {e : TypeId} {n cap : Nat} {ao : Option Addr} {xs : List Value} (h : OwnsTail w base e (.slice ao n cap) n xs) {j : Nat} {x : Value} (hj : xs[j]? = some x) :
    ∃ g off, ao = some ⟨g, off, none⟩ ∧ w.cell? ⟨g, off + j, none⟩ = some x := by
  have hlt := (List.getElem?_eq_some_iff.1 hj).1
  rcases h.2 with ⟨hq, h0⟩ | ⟨g, off, cap', cur, hq, h1, h2, h3, h4, h5, h6⟩
  · have := h.1; omega
  · simp only [Value.slice.injEq] at hq
    obtain ⟨rfl, _, rfl⟩ := hq
    refine ⟨g, off, rfl, ?_⟩
    rw [cell_of h2]
    rw [← h6, List.getElem?_take] at hj
    split at hj
    · rw [List.getElem?_drop] at hj
      simpa using hj
    · cases hj
theorem run_append_room_off {P : Program} (w : World) (t ty e : TypeId) (i : TypeInfo) (ht : P.underlying t = some (.slice e)) (hi : P.info? e = some i) (h1s : i.size = 1) (g off sLen sCap : Nat) (cur : Array Value) (hg : w.heap[g]? = some (.cells cur e (0, 0)))
    (a : Addr) (m c : Nat) (news : List Value) (hl : news.length = m * i.size) (hnews : ∀ j u, news[j]? = some u → w.cell? (a.add j) = some u) (h1 : ∀ u ∈ news, u.oneCell' = true)
    (hroom : sLen + m ≤ sCap) (hfit : off + sLen * i.size + news.length ≤ cur.size) :
    (Builtin.append_ #[t, t] ty #[.slice (some ⟨g, off, none⟩) sLen sCap, .slice (some a) m c]).run P w =
      .ok (.slice (some ⟨g, off, none⟩) (sLen + m) sCap) (w.setRow g (cur.toList.take (off + sLen) ++ news ++ cur.toList.drop (off + sLen + m)).toArray) := by
  have hf := run_firstCells_some (P := P) w i.size m a m c news hl hnews
  have hst := run_storeCells_at P g (off + sLen * i.size) e news 0 cur w hg (by simpa using hfit) h1
  simp only [Nat.add_zero] at hst
  rw [hl, h1s, Nat.mul_one, Nat.mul_one] at hst
  rw [h1s] at hf
  simp [Builtin.append_, run_underlying ht, sizeOf, typeInfo, hi, Builtin.lenOf, hroom, hf, Addr.add_lit, hst, h1s]
/-- append(v, x...). -/
theorem run_append_tail {P : Program} (w : World) (base : Nat) (t ty e : TypeId) (i : TypeInfo) (z : Value) (bytes : Nat) (ht : P.underlying t = some (.slice e)) (hi : P.info? e = some i) (hz : i.zero = some z)
    (hsize : i.size = 1) (hby : i.bytes = bytes) (hzs : z.cells.size = 1)
    (v : Value) (n : Nat) (xs : List Value) (hown : OwnsTail w base e v n xs)
    (a : Addr) (m c : Nat) (news : List Value) (hl : news.length = m) (hnews : ∀ j u, news[j]? = some u → w.cell? (a.add j) = some u) (h1 : ∀ u ∈ news, u.oneCell' = true)
    (h63 : n + m ≤ maxLen) (hbytes : (n + m) * bytes ≤ 140737488355328) (hbase : base ≤ w.heap.size) (hsome : ∃ g off cap, v = .slice (some ⟨g, off, none⟩) n cap) :
    ∃ v' w', (Builtin.append_ #[t, t] ty #[v, .slice (some a) m c]).run P w = .ok v' w' ∧ OwnsTail w' base e v' (n + m) (xs ++ news) ∧ w.grownBy w' v.ownBlock ∧ (v'.ownBlock = v.ownBlock ∨ v'.ownBlock = some w.heap.size) := by
  subst hby
  have hsmall : n + m ≤ 9223372036854775807 := by simp only [maxLen] at h63; omega
  obtain ⟨g, off, cap, rfl⟩ := hsome
  rcases hown.2 with ⟨hq, _⟩ | ⟨g', off', cap', cur, hq, hbg, hg, hnc, hcm, hcs, htake⟩
  · cases hq
  · simp only [Value.slice.injEq, Option.some.injEq, Addr.mk.injEq, and_true, true_and] at hq
    obtain ⟨⟨rfl, rfl⟩, rfl⟩ := hq
    by_cases hroom : n + m ≤ cap
    · have hr := run_append_room_off (P := P) w t ty e i ht hi hsize g off n cap cur hg a m c news (by rw [hl, hsize, Nat.mul_one]) hnews h1 hroom (by rw [hsize, hl]; omega)
      have hlen1 : (cur.toList.take (off + n)).length = off + n := by rw [List.length_take, Array.length_toList]; omega
      refine ⟨_, _, hr, ⟨by rw [List.length_append, hown.1, hl], .inr ⟨g, off, cap, _, rfl, hbg, setRow_heap w g cur _ e _ hg, hroom, hcm, ?_, ?_⟩⟩, ⟨rfl, rfl, rfl, by simp, fun k _ hk => setRow_other w g k _ (fun e => hk (by simp [Value.ownBlock, e]))⟩, .inl rfl⟩
      · simp only [List.size_toArray, List.length_append, hlen1, List.length_drop, Array.length_toList]
        omega
      · have e1 : (cur.toList.take (off + n)).drop off = xs := by rw [← htake, List.drop_take, Nat.add_sub_cancel_left]
        show ((cur.toList.take (off + n) ++ news ++ cur.toList.drop (off + n + m)).drop off).take (n + m) = xs ++ news
        rw [List.append_assoc, List.drop_append_of_le_length (by rw [hlen1]; omega), e1, ← List.append_assoc, List.take_append_of_le_length (by rw [List.length_append, hown.1, hl]; exact Nat.le_refl _), List.take_of_length_le (by rw [List.length_append, hown.1, hl]; exact Nat.le_refl _)]
    · have holds : ∀ j u, xs[j]? = some u → w.cell? ((⟨g, off, none⟩ : Addr).add j) = some u := fun j u hu => by
        obtain ⟨g', off', hq, hc⟩ := tail_cell hown hu
        simp at hq
        obtain ⟨rfl, rfl⟩ := hq
        rw [Addr.add_lit]; exact hc
      have hr := run_append_grow (P := P) w t ty e i z ht hi hz ⟨g, off, none⟩ n cap xs (by rw [hown.1, hsize, Nat.mul_one]) holds a m c news (by rw [hl, hsize, Nat.mul_one]) hnews (by omega) (by omega) (growslice_fits (by omega) hbytes)
      have hge := grownCap_ge w (n + m) cap e
      have hcm2 : grownCap w (n + m) cap e ≤ maxLen := grownCap_le_maxLen w (n + m) cap e h63
      refine ⟨_, _, hr, ⟨by rw [List.length_append, hown.1, hl], .inr ⟨w.heap.size, 0, _, _, rfl, hbase, Go.heap_alloc_new w.drew _, hge, hcm2, ?_, ?_⟩⟩, ⟨rfl, rfl, rfl, by simp, fun k hk _ => Go.heap_alloc_old w.drew _ hk⟩, .inr rfl⟩
      · simp only [Array.size_append, List.size_toArray, size_zeroCells, hzs, hown.1, hl]
        omega
      · simp only [Array.toList_append, List.append_assoc, List.drop_zero]
        rw [← List.append_assoc, List.take_append_of_le_length (by rw [List.length_append, hown.1, hl]; exact Nat.le_refl _), List.take_of_length_le (by rw [List.length_append, hown.1, hl]; exact Nat.le_refl _)]
end Go.Proofs.YtfdmbomlkpkegaaGreat
