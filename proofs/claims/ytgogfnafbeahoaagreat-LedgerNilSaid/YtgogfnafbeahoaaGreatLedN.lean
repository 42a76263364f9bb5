/- The ledger: number, who, doneIncarnation, doneFloor. -/
import Derived.Test.YtgogfnafbeahoaaGreatLedM
namespace Go.Proofs.YtgogfnafbeahoaaGreat
open Go Go.RowKit Go.Dr

theorem gNumber_spec [bn : Inhabited Ban] {base i : Nat} {w : World} {s : InS} (h : InAt base w i s) (hlen : s.l.length ≤ 1099511627776) (hn : s.num.1 < 2305843009213693952) :
    Calls Tryz.prog 134 #[.pointer (some ⟨i, 0, none⟩)] w fun e w' => e = .returned (.int .u64 s.num.1) ∧ InAt base w' i s.num.2 ∧ Keep (· = i) w w' := by
  have hs := iNum_spec h hlen
  obtain ⟨n, he⟩ : ∃ n, n = s.num.1 := ⟨_, rfl⟩
  rw [← he] at hs hn ⊢
  have hd : decide (2305843009213693952 ≤ (n : Int)) = false := by simp; omega
  have hni : ¬ 2305843009213693952 ≤ (n : Int) := by omega
  clear h hlen he hn
  go_enter Tryz.func134, Tryz.ntmps134
  go_wp2_with (go_at_call 137; refine hs.mono ?_; rintro e w1 ⟨rfl, hi1, k1⟩)
  go_ret
  exact ⟨rfl, hi1, k1⟩
theorem gWho_spec [bn : Inhabited Ban] {base i : Nat} {w : World} {s : InS} (h : InAt base w i s) (hlen : s.l.length ≤ 1099511627776) (hn : s.num.1 < 16) :
    Calls Tryz.prog 136 #[.pointer (some ⟨i, 0, none⟩)] w fun e w' => e = .returned (.int .i64 s.num.1) ∧ InAt base w' i s.num.2 ∧ Keep (· = i) w w' := by
  have hs := iNum_spec h hlen
  obtain ⟨n, he⟩ : ∃ n, n = s.num.1 := ⟨_, rfl⟩
  rw [← he] at hs hn ⊢
  have hni : ¬ 16 ≤ (n : Int) := by omega
  have hlt : (n : Int) ≤ 15 := by omega
  clear h hlen he hn
  go_enter Tryz.func136, Tryz.ntmps136
  go_wp2_with (go_at_call 137; refine hs.mono ?_; rintro e w1 ⟨rfl, hi1, k1⟩)
  go_ret
  exact ⟨rfl, hi1, k1⟩
theorem InAt.footR [bn : Inhabited Ban] {base g : Nat} {w : World} {s : InS} (h : InAt base w g s) : FootR w (· = g) := by
  obtain ⟨_, v, h2, _⟩ := h
  exact FootR.block h2 (by decide)
theorem LedAt.notIn [bn : Inhabited Ban] {base : Nat} {w : World} {q g m i : Nat} {lv : Value} {L : LedS} {s : InS} (h : LedAt base w q g m lv L) (hi : InAt base w i s) : ∀ b, gfoot q m lv b → ¬ b = i := by
  rintro b hb rfl
  obtain ⟨_, v, h2, _⟩ := hi
  obtain ⟨_, h3⟩ := h.kind hb
  rcases h3 with ⟨cs, t, hz, ht⟩ | ⟨es, clock, hz⟩
  · rw [hz] at h2; simp at h2; obtain ⟨_, rfl⟩ := h2; rcases ht with ht | ht <;> simp at ht
  · rw [hz] at h2; simp at h2
theorem LedAt.byIn [bn : Inhabited Ban] {base : Nat} {w w' : World} {q g m i : Nat} {lv : Value} {L : LedS} {s : InS} (h : LedAt base w q g m lv L) (hi : InAt base w i s) (k : Keep (· = i) w w') : LedAt base w' q g m lv L :=
  h.keep hi.foot hi.footR k (h.notIn hi)
/-- A cell of the ledger's own, written. -/
theorem LedAt.set [bn : Inhabited Ban] {base : Nat} {w : World} {q g m : Nat} {lv : Value} {L : LedS} (h : LedAt base w q g m lv L) (j : Nat) (u : Value) :
    Foot base w (· = q) ∧ FootR w (· = q) ∧ Keep (· = q) w (w.setCell ⟨q, j, none⟩ u) := by
  obtain ⟨ags, hz, _⟩ := h.blk
  refine ⟨?_, FootR.block hz (by decide), keep_cell _ _⟩
  rintro b rfl
  exact ⟨h.qb, heap_lt hz, fun cs fr e => by rw [hz] at e; simp at e⟩
theorem toArray_set (l : List Value) (j : Nat) (u : Value) : l.toArray.setIfInBounds j u = (l.set j u).toArray := by simp
theorem LedAt.setInc [bn : Inhabited Ban] {base : Nat} {w : World} {q g m : Nat} {lv : Value} {L : LedS} (h : LedAt base w q g m lv L) (n : Nat) :
    LedAt base (w.setCell ⟨q, 1, none⟩ (.int .u64 n)) q g m lv { L with inc := n } := by
  obtain ⟨hF, hR, k⟩ := h.set 1 (.int .u64 n)
  obtain ⟨ap1, ap2, ap3⟩ := h.apart
  obtain ⟨ags, hz, ha⟩ := h.blk
  refine ⟨⟨ags, ?_, ha.keep hR k⟩, h.recs.keep hF k (fun b hb e => ap2 (by rw [hb, show b = q from e])), h.by'.keep k (fun e => ap1 e.symm), h.qb, h.mb⟩
  rw [heap_setCell_same hz, toArray_set]
  rfl
theorem LedAt.incCell [bn : Inhabited Ban] {base : Nat} {w : World} {q g m : Nat} {lv : Value} {L : LedS} (h : LedAt base w q g m lv L) : w.cell? ⟨q, 1, none⟩ = some (.int .u64 L.inc) ∧ w.cell? ⟨q, 0, none⟩ = some (.pointer (some ⟨g, 0, none⟩)) ∧ ∀ j, w.frozen? ⟨q, j, none⟩ = false := by
  obtain ⟨ags, hz, ha⟩ := h.blk
  rw [cell_of hz, cell_of hz]
  exact ⟨by simp [ledCells], by simp [ledCells], frozen_of hz⟩
theorem num_one {n : Nat} (hn : n < 18446744073709551616) : InS.num ⟨numB n, 0⟩ = (n, ⟨[], 0⟩) := by
  have := num_numB hn []
  rw [List.append_nil] at this
  exact this
theorem end_nil : InS.end' ⟨[], 0⟩ = ⟨[], 0⟩ := by unfold InS.end'; rw [if_pos rfl]
set_option maxRecDepth 100000 in
set_option maxHeartbeats 1000000 in
theorem gDoneInc_spec [bn : Inhabited Ban] {base : Nat} {w : World} {q g m i n : Nat} {lv : Value} {L : LedS} (h : LedAt base w q g m lv L) (hi : InAt base w i ⟨numB n, 0⟩) (hn : n < 2305843009213693952) (hl : L.inc < n) :
    Calls Tryz.prog 97 #[.pointer (some ⟨q, 0, none⟩), .pointer (some ⟨i, 0, none⟩)] w fun e w' => e = .returned (.bool true) ∧ LedAt base w' q g m lv (L.step (.inc n)) ∧ Keep (fun b => b = q ∨ b = i) w w' := by
  have hnl := numB_len64 (n := n) (by omega)
  have hnum := num_one (n := n) (by omega)
  have h1 := gNumber_spec hi (by show (numB n).length ≤ _; omega) (by rw [hnum]; exact hn)
  rw [hnum] at h1
  have hci : ¬ (n : Int) ≤ (L.inc : Int) := by omega
  have HH := Lib.hid (And.intro h hi)
  clear h hi hn hl hnl hnum
  go_enter Tryz.func97, Tryz.ntmps97
  go_wp2_with (first
    | (go_at_call 135; refine (iEnd_spec hi1).mono ?_; rw [end_nil]; rintro e w2 ⟨rfl, hi2, k2⟩; have hl2 := (HH.out.1.byIn HH.out.2 k1).byIn hi1 k2; obtain ⟨c1, c0, f2⟩ := hl2.incCell)
    | (go_at_call 134; refine h1.mono ?_; rintro e w1 ⟨rfl, hi1, k1⟩))
  go_ret
  refine ⟨rfl, hl2.setInc n, ((k1.trans k2 (fun _ _ e => e)).mono (fun x _ e => .inr e)).trans (keep_cell _ _) (fun x hx e => .inl e)⟩
/-- An agent's cells. -/
theorem LedAt.agCell [bn : Inhabited Ban] {base : Nat} {w : World} {q g m a : Nat} {lv : Value} {L : LedS} {x : AgS} (h : LedAt base w q g m lv L) (ha : L.ag[a]? = some x) :
    ∃ ns ss, RunsAt w ns x.now.set ∧ RunsAt w ss x.safe.set ∧ w.cell? ⟨q, 2 + a * 7, none⟩ = some (.int .u64 x.floor) ∧ w.cell? ⟨q, 2 + a * 7 + 1, none⟩ = some (.int .u64 x.now.low) ∧ w.cell? ⟨q, 2 + a * 7 + 2, none⟩ = some (.int .u64 x.now.width) ∧
      w.cell? ⟨q, 2 + a * 7 + 3, none⟩ = some ns ∧ w.cell? ⟨q, 2 + a * 7 + 4, none⟩ = some (.int .u64 x.safe.low) ∧ w.cell? ⟨q, 2 + a * 7 + 5, none⟩ = some (.int .u64 x.safe.width) ∧ w.cell? ⟨q, 2 + a * 7 + 6, none⟩ = some ss := by
  obtain ⟨ags, hz, hag⟩ := h.blk
  obtain ⟨ns, ss, e, h1, h2⟩ := hag.at' a x ha
  have c := fun (f : Nat) (hf : f < 7) => ledCells_ag (g := g) (inc := L.inc) (lv := lv) (safe := L.safe) (m := m) hag.seven e hf
  have c' := fun (f : Nat) (hf : f < 7) => (cell_of hz (2 + a * 7 + f)).trans ((List.getElem?_toArray ..).trans (c f hf))
  exact ⟨ns, ss, h1, h2, c' 0 (by decide), c' 1 (by decide), c' 2 (by decide), c' 3 (by decide), c' 4 (by decide), c' 5 (by decide), c' 6 (by decide)⟩
theorem AgsAt.set {w : World} {ags : List (List Value)} {l : List AgS} {a : Nat} {x y : AgS} (h : AgsAt w ags l) (ha : l[a]? = some x) {ns ss : Value} (h1 : RunsAt w ns y.now.set) (h2 : RunsAt w ss y.safe.set) :
    AgsAt w (ags.set a (agCells y ns ss)) (l.set a y) := by
  refine ⟨by simp [h.len], by simp [h.len'], fun i z hz => ?_⟩
  have hal := (List.getElem?_eq_some_iff.1 ha).1
  rw [List.getElem?_set] at hz ⊢
  by_cases e : a = i
  · subst e
    rw [if_pos rfl, if_pos hal] at hz
    rw [if_pos rfl, if_pos (by rw [h.len, ← h.len']; exact hal)]
    simp at hz
    subst hz
    exact ⟨ns, ss, rfl, h1, h2⟩
  · rw [if_neg e] at hz ⊢
    exact h.at' i z hz
theorem modify_set {l : List AgS} {a : Nat} {x : AgS} (f : AgS → AgS) (ha : l[a]? = some x) : l.modify a f = l.set a (f x) := by
  obtain ⟨hl, rfl⟩ := List.getElem?_eq_some_iff.1 ha
  apply List.ext_getElem?
  intro i
  rw [List.getElem?_modify, List.getElem?_set]
  by_cases e : a = i
  · subst e
    simp [hl]
  · simp [e]
theorem LedAt.setFloor [bn : Inhabited Ban] {base : Nat} {w : World} {q g m a : Nat} {lv : Value} {L : LedS} {x : AgS} (h : LedAt base w q g m lv L) (ha : L.ag[a]? = some x) (n : Nat) :
    LedAt base (w.setCell ⟨q, 2 + a * 7, none⟩ (.int .u64 n)) q g m lv (L.step (.floor a n)) := by
  obtain ⟨hF, hR, k⟩ := h.set (2 + a * 7) (.int .u64 n)
  obtain ⟨ap1, ap2, ap3⟩ := h.apart
  obtain ⟨ags, hz, hag⟩ := h.blk
  obtain ⟨ns, ss, e, h1, h2⟩ := hag.at' a x ha
  have hs := ledCells_set (g := g) (inc := L.inc) (lv := lv) (safe := L.safe) (m := m) (f := 0) (.int .u64 n) hag.seven e (by decide)
  refine ⟨⟨ags.set a (agCells { x with floor := n } ns ss), ?_, ?_⟩, h.recs.keep hF k (fun b hb e => ap2 (by rw [hb, show b = q from e])), h.by'.keep k (fun e => ap1 e.symm), h.qb, h.mb⟩
  · rw [heap_setCell_same hz, toArray_set]
    rw [Nat.add_zero] at hs
    rw [hs]
    rfl
  · show AgsAt _ _ (L.ag.modify a (fun g => { g with floor := n }))
    rw [modify_set _ ha]
    exact (hag.keep hR k).set ha (y := { x with floor := n }) (h1.keep hR k) (h2.keep hR k)
set_option maxRecDepth 100000 in
set_option maxHeartbeats 1000000 in
theorem gDoneFloor_spec [bn : Inhabited Ban] {base : Nat} {w : World} {q g m i a n : Nat} {lv : Value} {L : LedS} {x : AgS} (h : LedAt base w q g m lv L) (hi : InAt base w i ⟨numB a ++ numB n, 0⟩) (ha : L.ag[a]? = some x) (ha16 : a < 16) (hn : n < 2305843009213693952) (hl : x.floor < n) :
    Calls Tryz.prog 98 #[.pointer (some ⟨q, 0, none⟩), .pointer (some ⟨i, 0, none⟩)] w fun e w' => e = .returned (.bool true) ∧ LedAt base w' q g m lv (L.step (.floor a n)) ∧ Keep (fun b => b = q ∨ b = i) w w' := by
  have hnl := numB_len64 (n := n) (by omega)
  have hal := numB_len64 (n := a) (by omega)
  have hnum := num_one (n := n) (by omega)
  have hnuma := num_numB (n := a) (by omega) (numB n)
  have hi0 := hi.no (Keep.refl No w).drew
  have h1 := gWho_spec hi0 (by show (numB a ++ numB n).length ≤ _; rw [List.length_append]; omega) (by rw [hnuma]; exact ha16)
  rw [hnuma] at h1
  have hci : ¬ (n : Int) ≤ (x.floor : Int) := by omega
  have hai : (a : Int) < 16 := by omega
  have HH := Lib.hid (And.intro (h.no (Keep.refl No w).drew) (And.intro hi0 (And.intro hnl (And.intro hnum (And.intro hn ha)))))
  clear h hi hn hl hnl hnum hal hnuma ha hi0 ha16
  go_enter Tryz.func98, Tryz.ntmps98
  go_wp2_with fail
  refine wp_drawN (fun _ => True) [0, 1, 3, 4] [2, 5, 6] [] (by kernel_rfl) (by kernel_rfl) (fun _ _ _ _ _ h => h) trivial ?_
  iterate 4 (refine earlyN_cons (v := ?_) rfl rfl rfl ?_ ?_; rotate_left; focus (
    intro w' hS
    go_simp
    try with_reducible rfl))
  refine earlyN_nil (midN_cons rfl rfl (fun K hK => ?_))
  go_simp
  refine h1.mono ?_
  rintro e w1 ⟨rfl, hi1, k1⟩
  refine hK _ _ trivial ?_
  clear hK K
  refine midN_cons rfl rfl (fun K hK => ?_)
  go_simp
  refine hK _ _ trivial ?_
  clear hK K
  refine midN_cons rfl rfl (fun K hK => ?_)
  go_simp
  refine hK _ _ trivial ?_
  clear hK K
  refine midN_nil (tailN_nil ?_)
  have h2 := gNumber_spec hi1 (by show (numB n).length ≤ _; have := HH.out.2.2.1; omega) (by rw [HH.out.2.2.2.1]; exact HH.out.2.2.2.2.1)
  rw [HH.out.2.2.2.1] at h2
  go_wp2_with (first
    | (go_at_call 135; refine (iEnd_spec hi2).mono ?_; rw [end_nil]; rintro e w3 ⟨rfl, hi3, k3⟩; have hl3 := ((HH.out.1.byIn HH.out.2.1 k1).byIn hi1 k2).byIn hi2 k3; obtain ⟨_, _, _, _, c0, _⟩ := hl3.agCell HH.out.2.2.2.2.2; have f3 := hl3.incCell.2.2)
    | (go_at_call 134; refine h2.mono ?_; rintro e w2 ⟨rfl, hi2, k2⟩))
  go_ret
  exact ⟨rfl, hl3.setFloor HH.out.2.2.2.2.2 n, ((((Keep.refl No w).drew.no).trans ((k1.trans k2 (fun _ _ e => e)).trans k3 (fun _ _ e => e)) (fun x _ e => .inr e)).trans (keep_cell _ _) (fun x hx e => .inl e))⟩
end Go.Proofs.YtgogfnafbeahoaaGreat
