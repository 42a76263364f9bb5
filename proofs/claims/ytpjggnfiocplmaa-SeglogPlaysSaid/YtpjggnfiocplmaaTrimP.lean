/- Trim: the plain law. -/
import Derived.Test.YtpjggnfiocplmaaTrimA
import Derived.Test.YtpjggnfiocplmaaGood
namespace Go.Proofs.Ytpjggnfiocplmaa
open Go Go.RowKit

theorem nextOf_cons (x : Nat) (s : SegL) (l : List SegL) : nextOf x (s :: l) = nextOf (if s.headed then s.first + s.recs.length else x) l := rfl
theorem nextOf_indep : ∀ (C : List SegL) (x y : Nat), nextOf x C = nextOf y C ∨ (nextOf x C = x ∧ nextOf y C = y) := by
  intro C
  induction C with
  | nil => intro x y; exact .inr ⟨rfl, rfl⟩
  | cons s C ih =>
    intro x y
    rw [nextOf_cons, nextOf_cons]
    cases s.headed with
    | true => exact .inl rfl
    | false => exact ih x y
theorem nextOf_headed : ∀ (C : List SegL) (x y : Nat), (∃ t ∈ C, t.headed = true) → nextOf x C = nextOf y C := by
  intro C
  induction C with
  | nil => intro x y h; obtain ⟨t, h, _⟩ := h; cases h
  | cons s C ih =>
    intro x y h
    rw [nextOf_cons, nextOf_cons]
    cases hs : s.headed with
    | true => rfl
    | false =>
      refine ih _ _ ?_
      obtain ⟨t, ht, hh⟩ := h
      rcases List.mem_cons.1 ht with rfl | ht
      · rw [hs] at hh; cases hh
      · exact ⟨t, ht, hh⟩
theorem recsOf_cons (s : SegL) (l : List SegL) : recsOf (s :: l) = s.recs ++ recsOf l := rfl
theorem step6_cut {k : Int} (v : Bytes) (B : AMap) : ∀ {A : AMap}, (∀ e ∈ A, e.1 < k) → step6 (A ++ (k, v) :: B) ⟨k, [], true⟩ = A ++ B := by
  intro A
  induction A with
  | nil => intro _; simp [step6]
  | cons e m ih =>
    intro h
    have h1 := h e (by simp)
    have h2 := ih (fun e he => h e (by simp [he]))
    simp [step6, h1, h2]
theorem segMap_append (a b : List SegL) : segMap (a ++ b) = segMap a ++ segMap b := by simp [segMap]

/-- One segment goes. -/
theorem Good.dropOne {j : Nat} {l : List CallS} {A B : List SegL} {s : SegL} (h : Good j l (A ++ s :: B)) (hB : s.headed = true → ∃ t ∈ B, t.headed = true) (hA : s.recs ≠ [] → A = []) :
    Good j (l ++ [⟨s.n, [], true⟩]) (A ++ B) ∧ nextOf 0 (A ++ B) = nextOf 0 (A ++ s :: B) ∧ recsOf (A ++ B) = (recsOf (A ++ s :: B)).drop s.recs.length := by
  have hso := h.ok s (by simp)
  have hlt : ∀ e ∈ segMap A, e.1 < s.n := by
    have hs := h.sorted
    rw [segMap_append] at hs
    unfold Sorted at hs
    rw [List.pairwise_append] at hs
    exact fun e he => hs.2.2 e he (s.n, s.bytes) (List.mem_cons_self ..)
  have hnext : nextOf 0 (A ++ B) = nextOf 0 (A ++ s :: B) := by
    rw [nextOf_append, nextOf_append, nextOf_cons]
    cases hh : s.headed with
    | true => exact nextOf_headed B _ _ (hB hh)
    | false => rfl
  have hrec : recsOf (A ++ B) = (recsOf (A ++ s :: B)).drop s.recs.length := by
    rw [recsOf_append, recsOf_append, recsOf_cons]
    by_cases hr : s.recs = []
    · rw [hr]; simp
    · rw [hA hr]
      show recsOf B = (s.recs ++ recsOf B).drop s.recs.length
      rw [List.drop_left' rfl]
  refine ⟨⟨fun t ht => h.ok t ?_, fun t ht => h.pos t ?_, fun i t ht hh => ?_, ?_, ?_, ?_, ?_, ?_⟩, hnext, hrec⟩
  · rcases List.mem_append.1 ht with ht | ht
    · simp [ht]
    · simp [ht]
  · rcases List.mem_append.1 ht with ht | ht
    · simp [ht]
    · simp [ht]
  · by_cases hi : i < A.length
    · rw [List.getElem?_append_left hi] at ht
      have := h.chain i t (by rw [List.getElem?_append_left hi]; exact ht) hh
      rw [List.take_append_of_le_length (by omega)] at this ⊢
      exact this
    · obtain ⟨k, rfl⟩ : ∃ k, i = A.length + k := ⟨i - A.length, by omega⟩
      rw [List.getElem?_append_right (by omega), Nat.add_sub_cancel_left] at ht
      have h1 := h.chain (A.length + (k + 1)) t (by rw [List.getElem?_append_right (by omega), Nat.add_sub_cancel_left]; exact ht) hh
      rw [List.take_append, List.take_of_length_le (by omega), Nat.add_sub_cancel_left, nextOf_append] at h1 ⊢
      rw [List.take_succ_cons, nextOf_cons] at h1
      cases hd : s.headed with
      | false => rw [hd] at h1; exact h1
      | true =>
        rw [hd] at h1
        simp only [if_true] at h1
        have hc := h.chain A.length s (by simp) hd
        rw [List.take_append_of_le_length (Nat.le_refl _), List.take_length] at hc
        have hx : nextOf 0 A = 0 ∨ nextOf 0 A = s.first + s.recs.length := by
          by_cases hr : s.recs = []
          · rw [hr]; rcases hc with hc | hc
            · exact .inl hc
            · right; simp; exact hc.symm
          · left; rw [hA hr]; rfl
        rcases hx with hx | hx
        · rw [hx]
          rcases nextOf_indep (B.take k) 0 (s.first + s.recs.length) with e | ⟨e, _⟩
          · rw [e]; exact h1
          · exact .inl e
        · rw [hx]; exact h1
  · rw [segs6_snoc, h.map, segMap_append, segMap_append]
    exact step6_cut s.bytes (segMap B) hlt
  · rw [hnext]; exact h.next
  · rw [hnext, hrec, List.length_drop]; have := h.recs; omega
  · have := h.len; simp at this ⊢; omega
  · rw [wsum_snoc]; have := h.sum; simpa using this

/-! ### What Trim keeps -/
def keepAt (n : Nat) (last : Int) (j : Nat) (s : SegL) : Bool := neededB s.view n (decide ((j : Int) = last))
def leftOf (n : Nat) (last : Int) (ss : List SegL) : Nat → List SegL
  | 0 => []
  | j + 1 => match ss[j]? with
    | none => leftOf n last ss j
    | some s => if keepAt n last j s then leftOf n last ss j ++ [s] else leftOf n last ss j
def dropsOf (n : Nat) (last : Int) (ss : List SegL) : Nat → List CallS
  | 0 => []
  | j + 1 => match ss[j]? with
    | none => dropsOf n last ss j
    | some s => if keepAt n last j s then dropsOf n last ss j else dropsOf n last ss j ++ [⟨s.n, [], true⟩]
def cntOf (n : Nat) (last : Int) (ss : List SegL) : Nat → Nat
  | 0 => 0
  | j + 1 => match ss[j]? with
    | none => cntOf n last ss j
    | some s => if keepAt n last j s then cntOf n last ss j else cntOf n last ss j + s.recs.length
section
variable {n : Nat} {last : Int} {ss : List SegL} {j : Nat} {s : SegL}
theorem leftOf_keep (h : ss[j]? = some s) (hk : keepAt n last j s = true) : leftOf n last ss (j + 1) = leftOf n last ss j ++ [s] := by simp [leftOf, h, hk]
theorem leftOf_go (h : ss[j]? = some s) (hk : keepAt n last j s = false) : leftOf n last ss (j + 1) = leftOf n last ss j := by simp [leftOf, h, hk]
theorem dropsOf_keep (h : ss[j]? = some s) (hk : keepAt n last j s = true) : dropsOf n last ss (j + 1) = dropsOf n last ss j := by simp [dropsOf, h, hk]
theorem dropsOf_go (h : ss[j]? = some s) (hk : keepAt n last j s = false) : dropsOf n last ss (j + 1) = dropsOf n last ss j ++ [⟨s.n, [], true⟩] := by simp [dropsOf, h, hk]
theorem cntOf_keep (h : ss[j]? = some s) (hk : keepAt n last j s = true) : cntOf n last ss (j + 1) = cntOf n last ss j := by simp [cntOf, h, hk]
theorem cntOf_go (h : ss[j]? = some s) (hk : keepAt n last j s = false) : cntOf n last ss (j + 1) = cntOf n last ss j + s.recs.length := by simp [cntOf, h, hk]
end
theorem view_headed (s : SegL) : s.view.headed = s.headed := rfl
theorem endOf_ge {l : List SegV} : ∀ {k : Nat} {i : Nat} {s : SegV}, l[i]? = some s → s.headed = true → i < k → (i : Int) ≤ endOf l k := by
  intro k
  induction k with
  | zero => intro i s _ _ h; omega
  | succ k ih =>
    intro i s hi hh hk
    unfold endOf
    by_cases e : (l[k]?.map (·.headed)).getD false = true
    · rw [if_pos e]; omega
    · rw [if_neg e]
      refine ih hi hh ?_
      by_cases hik : i = k
      · subst hik; rw [hi] at e; exact absurd hh (by simpa using e)
      · omega
theorem endOf_is {l : List SegV} : ∀ {k : Nat}, (∃ i : Nat, i < k ∧ endOf l k = i ∧ ∃ s, l[i]? = some s ∧ s.headed = true) ∨ endOf l k = -1 := by
  intro k
  induction k with
  | zero => exact .inr rfl
  | succ k ih =>
    unfold endOf
    by_cases e : (l[k]?.map (·.headed)).getD false = true
    · rw [if_pos e]
      left
      cases hk : l[k]? with
      | none => rw [hk] at e; cases e
      | some s => rw [hk] at e; exact ⟨k, by omega, rfl, s, hk, by simpa using e⟩
    · rw [if_neg e]
      rcases ih with ⟨i, h1, h2⟩ | h
      · exact .inl ⟨i, by omega, h2⟩
      · exact .inr h
/-- A segment's records end where the next begin, or ahead of it. -/
theorem Good.next_ge {J : Nat} {l : List CallS} {ss : List SegL} (h : Good J l ss) {i : Nat} {s : SegL} (hi : ss[i]? = some s) (hh : s.headed = true) : ∀ {k : Nat}, i < k → k ≤ ss.length → s.first + s.recs.length ≤ nextOf 0 (ss.take k) := by
  have hf := ((h.ok s (List.mem_of_getElem? hi)).head hh).1
  intro k
  induction k with
  | zero => intro h; omega
  | succ k ih =>
    intro h1 h2
    have hk : ss[k]? = some ss[k] := List.getElem?_eq_getElem (by omega)
    have ht : ss.take (k + 1) = ss.take k ++ [ss[k]] := by rw [List.take_add_one, hk]; rfl
    have hc := h.chain k _ hk
    generalize ss[k] = t at *
    rw [ht, nextOf_snoc]
    by_cases e : i = k
    · subst e
      rw [hi] at hk
      cases hk
      rw [hh]
      simp
    · have ih := ih (by omega) (by omega)
      cases hd : t.headed with
      | true =>
        rcases hc hd with hc | hc
        · omega
        · simp only [if_true]; omega
      | false => simpa using ih
/-- Contiguity. -/
theorem next_recs : ∀ (B : List SegL) (x : Nat), (∀ s ∈ B, s.Ok) → x ≠ 0 → (∀ (i : Nat) s, B[i]? = some s → s.headed = true → nextOf x (B.take i) = 0 ∨ s.first = nextOf x (B.take i)) → nextOf x B = x + (recsOf B).length := by
  intro B
  induction B with
  | nil => intro x _ _ _; rfl
  | cons s B ih =>
    intro x ho hx hc
    rw [nextOf_cons, recsOf_cons, List.length_append]
    have h0 := hc 0 s rfl
    have hso := ho s (by simp)
    have hc' := fun (i : Nat) (t : SegL) (ht : B[i]? = some t) (hh : t.headed = true) => by
      have := hc (i + 1) t (by simpa using ht) hh
      rw [List.take_succ_cons, nextOf_cons] at this
      exact this
    cases hd : s.headed with
    | true =>
      rw [hd] at hc'
      simp only [if_true] at hc' ⊢
      have h1 : s.first = x := by
        rcases h0 hd with h0 | h0
        · exact absurd h0 hx
        · exact h0
      rw [ih (s.first + s.recs.length) (fun t ht => ho t (by simp [ht])) (by omega) hc']
      omega
    | false =>
      rw [hd] at hc'
      simp only [Bool.false_eq_true, if_false] at hc' ⊢
      rw [(hso.bare hd).1, ih x (fun t ht => ho t (by simp [ht])) hx hc']
      simp
/-- The disk as Trim leaves it. -/
def trimD (n : Nat) (last : Int) (ss : List SegL) (d : DiskS) : Nat → DiskS
  | 0 => d
  | j + 1 => match ss[j]? with
    | none => trimD n last ss d j
    | some s => if keepAt n last j s then trimD n last ss d j else ((trimD n last ss d j).drop s.n).1
theorem trimD_keep {n : Nat} {last : Int} {ss : List SegL} {d : DiskS} {j : Nat} {s : SegL} (h : ss[j]? = some s) (hk : keepAt n last j s = true) : trimD n last ss d (j + 1) = trimD n last ss d j := by simp [trimD, h, hk]
theorem trimD_go {n : Nat} {last : Int} {ss : List SegL} {d : DiskS} {j : Nat} {s : SegL} (h : ss[j]? = some s) (hk : keepAt n last j s = false) : trimD n last ss d (j + 1) = ((trimD n last ss d j).drop s.n).1 := by simp [trimD, h, hk]


theorem keepAt_eq (n : Nat) (last : Int) (j : Nat) (s : SegL) : keepAt n last j s = true ↔ s.headed = true ∧ ((j : Int) = last ∨ (0 < s.recs.length ∧ n < s.first + s.recs.length)) := by
  unfold keepAt neededB SegL.view
  dsimp only
  cases s.headed <;> simp
structure TrimI (J n : Nat) (last : Int) (ss : List SegL) (l : List CallS) (j : Nat) : Prop where
  good : Good J (l ++ dropsOf n last ss j) (leftOf n last ss j ++ ss.drop j)
  next : nextOf 0 (leftOf n last ss j ++ ss.drop j) = nextOf 0 ss
  recs : recsOf (leftOf n last ss j ++ ss.drop j) = (recsOf ss).drop (cntOf n last ss j)
  cnt : cntOf n last ss j + (recsOf (leftOf n last ss j ++ ss.drop j)).length = (recsOf ss).length
  left : ∀ (i : Nat) s, (leftOf n last ss j)[i]? = some s → s.headed = true ∧ ((0 < s.recs.length ∧ n < s.first + s.recs.length) ∨ (i + 1 = (leftOf n last ss j).length ∧ last < (j : Int)))
  orig : ∀ s ∈ leftOf n last ss j, ∃ i : Nat, i < j ∧ ss[i]? = some s
  len : (dropsOf n last ss j).length + (leftOf n last ss j).length = j
  first : cntOf n last ss j = 0 ∨ nextOf 0 ss - (recsOf (leftOf n last ss j ++ ss.drop j)).length ≤ n
theorem trim_all {J : Nat} {l : List CallS} {ss : List SegL} (h : Good J l ss) (n : Nat) {last : Int} (hlast : endOf (ss.map SegL.view) ss.length = last) : ∀ j, j ≤ ss.length → TrimI J n last ss l j := by
  have hge : ∀ (j : Nat) s, ss[j]? = some s → s.headed = true → (j : Int) ≤ last := fun j s hj hh => by
    rw [← hlast]
    exact endOf_ge (s := s.view) (by rw [List.getElem?_map, hj]; rfl) hh (List.getElem?_eq_some_iff.1 hj).1
  intro j
  induction j with
  | zero =>
    intro _
    refine ⟨?_, rfl, rfl, ?_, fun i s hi => ?_, fun s hs => ?_, rfl, .inl rfl⟩
    · simpa [leftOf, dropsOf] using h
    · simp [leftOf, cntOf]
    · simp [leftOf] at hi
    · simp [leftOf] at hs
  | succ j ih =>
    intro hj
    have I := ih (by omega)
    have hs : ss[j]? = some ss[j] := List.getElem?_eq_getElem (by omega)
    have hd : ss.drop j = ss[j] :: ss.drop (j + 1) := List.drop_eq_getElem_cons (by omega)
    have hgs := hge j _ hs
    have hch := h.chain j _ hs
    have hok := h.ok _ (List.getElem_mem (by omega : j < ss.length))
    generalize ss[j] = s at *
    by_cases hk : keepAt n last j s = true
    · have eL := leftOf_keep hs hk
      have eD := dropsOf_keep hs hk
      have eC := cntOf_keep hs hk
      have eS : leftOf n last ss (j + 1) ++ ss.drop (j + 1) = leftOf n last ss j ++ ss.drop j := by rw [eL, hd]; simp
      obtain ⟨hh, hkc⟩ := (keepAt_eq _ _ _ _).1 hk
      have hgj := hgs hh
      refine ⟨by rw [eD, eS]; exact I.good, by rw [eS]; exact I.next, by rw [eS, eC]; exact I.recs, by rw [eS, eC]; exact I.cnt, fun i t hi => ?_, fun t ht => ?_, by rw [eD, eL, List.length_append]; have := I.len; simp; omega, by rw [eS, eC]; exact I.first⟩
      · rw [eL] at hi
        rcases getElem?_snoc hi with hi | ⟨rfl, rfl⟩
        · obtain ⟨h1, h2⟩ := I.left i t hi
          refine ⟨h1, ?_⟩
          rcases h2 with h2 | ⟨_, h2⟩
          · exact .inl h2
          · omega
        · refine ⟨hh, ?_⟩
          rcases hkc with hkc | hkc
          · right; rw [eL]; simp; omega
          · exact .inl hkc
      · rw [eL] at ht
        rcases List.mem_append.1 ht with ht | ht
        · obtain ⟨i, h1, h2⟩ := I.orig t ht
          exact ⟨i, by omega, h2⟩
        · rw [List.mem_singleton.1 ht]; exact ⟨j, by omega, hs⟩
    · have hk : keepAt n last j s = false := by simpa using hk
      have hkn : ¬ (s.headed = true ∧ ((j : Int) = last ∨ (0 < s.recs.length ∧ n < s.first + s.recs.length))) := fun e => by rw [(keepAt_eq _ _ _ _).2 e] at hk; cases hk
      have eL := leftOf_go hs hk
      have eD := dropsOf_go hs hk
      have eC := cntOf_go hs hk
      have hB : s.headed = true → ∃ t ∈ ss.drop (j + 1), t.headed = true := fun hh => by
        have h1 := hgs hh
        have h2 : (j : Int) ≠ last := fun e => hkn ⟨hh, .inl e⟩
        rcases endOf_is (l := ss.map SegL.view) (k := ss.length) with ⟨i, hi, he, t, ht, hth⟩ | he
        · rw [hlast] at he
          rw [List.getElem?_map] at ht
          cases hti : ss[i]? with
          | none => rw [hti] at ht; cases ht
          | some t' =>
            rw [hti] at ht
            simp at ht
            subst ht
            refine ⟨t', ?_, hth⟩
            have : (ss.drop (j + 1))[i - (j + 1)]? = some t' := by rw [List.getElem?_drop, show j + 1 + (i - (j + 1)) = i by omega]; exact hti
            exact List.mem_of_getElem? this
        · rw [hlast] at he; omega
      have hA : s.recs ≠ [] → leftOf n last ss j = [] := fun hr => by
        have hh : s.headed = true := by
          cases hq : s.headed with
          | true => rfl
          | false => exact absurd (hok.bare hq).1 hr
        have hc0 : 0 < s.recs.length := List.length_pos_iff.2 hr
        have h1 := hgs hh
        cases hl : leftOf n last ss j with
        | nil => rfl
        | cons t r =>
          exfalso
          have ht0 : (leftOf n last ss j)[0]? = some t := by rw [hl]; rfl
          obtain ⟨h2, h3⟩ := I.left 0 t ht0
          obtain ⟨i, hij, hi⟩ := I.orig t (List.mem_of_getElem? ht0)
          have h4 := h.next_ge hi h2 hij (by omega)
          rcases h3 with ⟨h3, h5⟩ | ⟨_, h3⟩
          · rcases hch hh with hch | hch
            · omega
            · exact hkn ⟨hh, .inr ⟨hc0, by omega⟩⟩
          · omega
      have hg := I.good
      have hnx := I.next
      have hrc := I.recs
      rw [hd] at hg hnx hrc
      obtain ⟨g1, g2, g3⟩ := hg.dropOne hB hA
      have hcn := I.cnt
      rw [hd] at hcn
      refine ⟨by rw [eD, eL, ← List.append_assoc]; exact g1, by rw [eL, g2]; exact hnx, by rw [eL, eC, g3, hrc, List.drop_drop], ?_, fun i t hi => ?_, fun t ht => ?_, by rw [eD, eL, List.length_append]; have := I.len; simp; omega, ?_⟩
      · rw [eL, eC, g3, List.length_drop]
        have : s.recs.length ≤ (recsOf (leftOf n last ss j ++ s :: ss.drop (j + 1))).length := by rw [recsOf_append, recsOf_cons]; simp; omega
        omega
      · rw [eL] at hi ⊢
        obtain ⟨h1, h2⟩ := I.left i t hi
        exact ⟨h1, h2.imp (fun h => h) (fun ⟨a, b⟩ => ⟨a, by omega⟩)⟩
      · rw [eL] at ht
        obtain ⟨i, h1, h2⟩ := I.orig t ht
        exact ⟨i, by omega, h2⟩
      · rw [eL, eC]
        by_cases hr : s.recs = []
        · rw [hr]
          have e : recsOf (leftOf n last ss j ++ ss.drop (j + 1)) = recsOf (leftOf n last ss j ++ ss.drop j) := by rw [g3, hr, hd]; rfl
          rw [e]
          exact I.first
        · right
          have hh : s.headed = true := by
            cases hq : s.headed with
            | true => rfl
            | false => exact absurd (hok.bare hq).1 hr
          have hc0 : 0 < s.recs.length := List.length_pos_iff.2 hr
          have hA0 := hA hr
          rw [hA0] at hnx hg ⊢
          have hnx : nextOf 0 (s :: ss.drop (j + 1)) = nextOf 0 ss := hnx
          have hgc : Good J (l ++ dropsOf n last ss j) (s :: ss.drop (j + 1)) := hg
          rw [nextOf_cons, hh] at hnx
          simp only [if_true] at hnx
          have e := next_recs (ss.drop (j + 1)) (s.first + s.recs.length) (fun t ht => hgc.ok t (by simp [ht])) (by omega) (fun i t ht hth => by
            have := hgc.chain (i + 1) t (by simpa using ht) hth
            rw [List.take_succ_cons, nextOf_cons, hh] at this
            exact this)
          show nextOf 0 ss - (recsOf (ss.drop (j + 1))).length ≤ n
          have : ¬ n < s.first + s.recs.length := fun q => hkn ⟨hh, .inr ⟨hc0, q⟩⟩
          omega
theorem trim_rel {J : Nat} {ss : List SegL} {d : DiskS} {x : RDiskS} (h : Good J x.l ss) (hr : Rel6 d x) (n : Nat) {last : Int} (hlast : endOf (ss.map SegL.view) ss.length = last) :
    ∀ j, j ≤ ss.length → Rel6 (trimD n last ss d j) { x with l := x.l ++ dropsOf n last ss j } := by
  intro j
  induction j with
  | zero => intro _; simpa [trimD, dropsOf] using hr
  | succ j ih =>
    intro hj
    have hR := ih (by omega)
    have I := trim_all h n hlast j (by omega)
    have hs : ss[j]? = some ss[j] := List.getElem?_eq_getElem (by omega)
    have hd : ss.drop j = ss[j] :: ss.drop (j + 1) := List.drop_eq_getElem_cons (by omega)
    generalize ss[j] = s at *
    by_cases hk : keepAt n last j s = true
    · rw [trimD_keep hs hk, dropsOf_keep hs hk]
      exact hR
    · have hk : keepAt n last j s = false := by simpa using hk
      rw [trimD_go hs hk, dropsOf_go hs hk]
      have hm : mget (segs6 (x.l ++ dropsOf n last ss j)) s.n = some s.bytes := by
        rw [I.good.map]
        exact mget_mem I.good.sorted.keys (List.mem_map.2 ⟨s, by rw [hd]; simp, rfl⟩)
      have := (hR.drop s.n).1
      unfold RDiskS.drop at this
      dsimp only at this
      rw [hm] at this
      simpa [RDiskS.push] using this
end Go.Proofs.Ytpjggnfiocplmaa
