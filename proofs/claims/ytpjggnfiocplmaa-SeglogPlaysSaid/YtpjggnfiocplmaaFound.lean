/- What all walks stand on: drawn regions, the world, bytes, maps. -/
import Derived.OrdersHeld
import Derived.Tactics
import Derived.Laws.World
import Derived.Test.YtpjggnfiocplmaaProg
import Derived.WalkKit
import Derived.WalkLawsBesides
import Derived.WalkSpells
import Derived.Maps.RangeRun
import Derived.Shelf.SlMaps.Clone
import Derived.Deep.AppendLies
import Derived.Lib.AppendZeros
import Derived.Lib.Hide
import Derived.BigQuiet

/-! ## Draw -/
namespace Go.Dr
open Go
section
variable {P : Program} {ops : Array Oper} {Q : Exit → Act → World → Prop} {md : Region.Mode} {S : World → Prop} {T : Nat → Bool}

def needs (md : Region.Mode) (ops : Array Oper) : Nat → Nat → Nat → Bool
  | 0, _, _ => false
  | f + 1, j, i => ((ops[j]?).map (·.after.any fun e => Region.binds md e && (e.on == i || needs md ops f e.on i))).getD false

def Closed (md : Region.Mode) (ops : Array Oper) (listed : Array Bool) : Prop :=
  ∀ j o, ops[j]? = some o → listed.getD j false = true → ∀ e ∈ o.after, Region.binds md e = true → listed.getD e.on false = true

theorem getD_false_of_true {listed : Array Bool} {i : Nat} (h : listed.getD i true = false) : listed.getD i false = false := by
  rcases Nat.lt_or_ge i listed.size with h' | h'
  · simp [h'] at h ⊢; exact h
  · simp [Array.getElem?_eq_none h'] at h

theorem needs_listed {listed : Array Bool} (hc : Closed md ops listed) : ∀ f j i o, ops[j]? = some o →
    (∀ e ∈ o.after, Region.binds md e = true → listed.getD e.on false = true) → needs md ops f j i = true → listed.getD i false = true := by
  intro f
  induction f with
  | zero => intro j i o _ _ h; simp [needs] at h
  | succ f ih =>
    intro j i o ho hall h
    simp only [needs, ho, Option.map_some, Option.getD_some] at h
    obtain ⟨e, he, hb⟩ := Array.any_eq_true'.1 h
    simp only [Bool.and_eq_true, Bool.or_eq_true, beq_iff_eq] at hb
    have hl := hall e he hb.1
    rcases hb.2 with hb | hb
    · rw [← hb]; exact hl
    · cases hoe : ops[e.on]? with
      | none =>
        cases f with
        | zero => simp [needs] at hb
        | succ f => simp [needs, hoe] at hb
      | some o' => exact ih e.on i o' hoe (hc e.on o' hoe hl) hb

theorem Closed.set {listed : Array Bool} {i : Nat} (hc : Closed md ops listed) (hi : i ∈ Region.ready md ops listed) :
    Closed md ops (listed.setIfInBounds i true) := by
  intro j o ho hl e he hb
  by_cases hij : i = j
  · subst hij
    obtain ⟨_, o', ho', hall⟩ := mem_ready.1 hi
    rw [ho] at ho'
    cases ho'
    exact getD_set_true (hall e he hb)
  · rw [getD_set_ne false hij] at hl
    exact getD_set_true (hc j o ho hl e he hb)

def wpAnyT (P : Program) (md : Region.Mode) (ops : Array Oper) (Q : Exit → Act → World → Prop) (S : World → Prop) (T : Nat → Bool) :
    Nat → Array Bool → Act → World → Prop
  | 0, listed, a, w => Region.ready md ops listed = [] ∧ Q .normal a w
  | fuel + 1, listed, a, w =>
    (Region.ready md ops listed = [] → Q .normal a w) ∧
    ∀ i ∈ Region.ready md ops listed, wpOp P ops Q i (fun a' w' => (T i = false → S w') ∧ wpAnyT P md ops Q S T fuel (listed.setIfInBounds i true) a' w') a w

theorem wpAny_of_T : ∀ (fuel : Nat) (listed : Array Bool) (a : Act) (w : World), wpAnyT P md ops Q S T fuel listed a w → wpAny P md ops Q fuel listed a w
  | 0, _, _, _, h => h
  | fuel + 1, _, _, _, h => ⟨h.1, fun i hi => wpOp_mono (fun a' w' h' => wpAny_of_T fuel _ a' w' h'.2) (h.2 i hi)⟩

theorem wpAnyT_first {i : Nat} {oi : Oper} {v : Value} (hi : ops[i]? = some oi) (hsel : ∀ (j : Nat) (o : Oper) cs b, ops[j]? = some o → o.op ≠ .select cs b)
    (hQ : ∀ c a w, Q (.panic c) (a.put oi.dst v) w → Q (.panic c) a w) (hTi : T i = false)
    (hT : ∀ j, j < ops.size → T j = true → needs md ops ops.size j i = true) :
    ∀ (fuel : Nat) (listed : Array Bool) (a : Act) (w : World), Closed md ops listed →
      (∀ j oj, ops[j]? = some oj → j ≠ i → listed.getD j true = false → (∀ e ∈ oj.after, Region.binds md e = true → e.on ≠ i) → oi.apart ops oj = true) →
      i ∈ Region.ready md ops listed → YieldsIf P ops S oi v a → S w →
      wpAnyT P md ops Q S T fuel (listed.setIfInBounds i true) (a.put oi.dst v) w → wpAnyT P md ops Q S T (fuel + 1) listed a w := by
  intro fuel
  induction fuel with
  | zero =>
    intro listed a w _ _ hr hy hS H
    refine ⟨fun h => (by rw [h] at hr; cases hr), fun j hj => ?_⟩
    by_cases hji : j = i
    · subst hji; exact hy.wpOp hi hS ⟨fun _ => hS, H⟩
    · have := ready_mono hj hji
      rw [H.1] at this
      cases this
  | succ fuel ih =>
    intro listed a w hcl hfree hr hy hS H
    refine ⟨fun h => (by rw [h] at hr; cases hr), fun j hj => ?_⟩
    by_cases hji : j = i
    · subst hji; exact hy.wpOp hi hS ⟨fun _ => hS, H⟩
    · have h1 := H.2 j (ready_mono hj hji)
      obtain ⟨hjun, oj, hoj, hall⟩ := mem_ready.1 hj
      have hiun := getD_false_of_true (mem_ready.1 hr).1
      have hnot : ∀ e ∈ oj.after, Region.binds md e = true → e.on ≠ i := fun e he hb heq => by
        have h2 := hall e he hb
        rw [heq, hiun] at h2
        cases h2
      have hTj : T j = false := by
        cases hTj : T j with
        | false => rfl
        | true =>
          have hn := hT j (Array.getElem?_eq_some_iff.1 hoj).1 hTj
          have := needs_listed hcl _ j i oj hoj hall hn
          rw [hiun] at this
          cases this
      have h2 := wpOp_putIf hoj (hfree j oj hoj hji hjun hnot) (fun cs b => hsel i oi cs b hi) (fun cs b => hsel j oj cs b hoj) hQ hy h1
      have hfree' : ∀ k ok, ops[k]? = some ok → k ≠ i → (listed.setIfInBounds j true).getD k true = false →
          (∀ e ∈ ok.after, Region.binds md e = true → e.on ≠ i) → oi.apart ops ok = true := fun k ok hk hki hun hno => by
        refine hfree k ok hk hki ?_ hno
        by_cases hjk : j = k
        · subst hjk; exact hjun
        · rw [getD_set_ne true hjk] at hun; exact hun
      refine wpOp_mono (fun a' w' h3 => ⟨fun _ => h3.2.1 hTj, ih (listed.setIfInBounds j true) a' w' (hcl.set hj) hfree' (ready_mono hr (Ne.symm hji)) h3.1 (h3.2.1 hTj) ?_⟩) h2
      rw [Array.setIfInBounds_comm _ _ hji]
      exact h3.2.2

def Picks (ops : Array Oper) : List Nat → List Oper → Prop
  | [], [] => True
  | i :: r, o :: l => ops[i]? = some o ∧ Picks ops r l
  | _, _ => False
theorem Picks.nil : Picks ops [] [] := trivial
theorem Picks.cons {i : Nat} {o : Oper} {r : List Nat} {l : List Oper} (h : ops[i]? = some o) (t : Picks ops r l) : Picks ops (i :: r) (o :: l) := ⟨h, t⟩
/-- Induction over what is picked. -/
theorem Picks.rec' {C : (t : List Nat) → (a : List Oper) → Picks ops t a → Prop} (h0 : C [] [] Picks.nil) (h1 : ∀ i o r l (h : ops[i]? = some o) (t : Picks ops r l), C r l t → C (i :: r) (o :: l) (Picks.cons h t)) :
    ∀ {t : List Nat} {a : List Oper} (h : Picks ops t a), C t a h := by
  intro t
  induction t with
  | nil =>
    intro a h
    cases a with
    | nil => exact h0
    | cons => exact h.elim
  | cons i r ih =>
    intro a h
    cases a with
    | nil => exact h.elim
    | cons o l => exact h1 i o r l h.1 h.2 (ih h.2)

/-- Each of these operations, one behind the other, yields a value in every world of S. -/
def earlyOk (P : Program) (ops : Array Oper) (S : World → Prop) (K : Act → Prop) : List Oper → Act → Prop
  | [], a => K a
  | o :: r, a => ∃ v, o.dst.isSome = true ∧ YieldsIf P ops S o v a ∧ earlyOk P ops S K r (a.put o.dst v)

theorem earlyOk_nil {K : Act → Prop} {a : Act} (h : K a) : earlyOk P ops S K [] a := h
theorem earlyOk_cons {K : Act → Prop} {r : List Oper} {a : Act} {o : Oper} {v : Value} (hd : o.dst.isSome = true) (hg : o.guard = none)
    (hv : ∀ w, S w → (execOp a.eval o).run P w = .ok (.value v) w) (h : earlyOk P ops S K r (a.put o.dst v)) : earlyOk P ops S K (o :: r) a :=
  ⟨v, hd, .inl ⟨by simp [Region.wanted, hg], hv⟩, h⟩
theorem earlyOk_guarded {K : Act → Prop} {r : List Oper} {a : Act} {o : Oper} {v : Value} (hd : o.dst.isSome = true) (hg : Region.wanted o (yielded ops a.tmps) = true)
    (hv : ∀ w, S w → (execOp a.eval o).run P w = .ok (.value v) w) (h : earlyOk P ops S K r (a.put o.dst v)) : earlyOk P ops S K (o :: r) a :=
  ⟨v, hd, .inl ⟨hg, hv⟩, h⟩
theorem earlyOk_skip {K : Act → Prop} {r : List Oper} {a : Act} {o : Oper} (hd : o.dst.isSome = true) (hg : Region.wanted o (yielded ops a.tmps) = false)
    (h : earlyOk P ops S K r (a.put o.dst undef)) : earlyOk P ops S K (o :: r) a :=
  ⟨undef, hd, .inr ⟨hg, rfl⟩, h⟩

def takeable (md : Region.Mode) (ops : Array Oper) (T : Nat → Bool) : List Nat → Array Bool → Bool
  | [], _ => true
  | i :: r, listed => Region.free md ops listed i && (Region.ready md ops listed).contains i && !T i &&
      (List.range ops.size).all (fun j => !T j || needs md ops ops.size j i) && takeable md ops T r (listed.setIfInBounds i true)

def setAll : List Nat → Array Bool → Array Bool
  | [], l => l
  | i :: r, l => setAll r (l.setIfInBounds i true)

theorem early_take (hs : Region.noSelect ops = true) (hQ : ∀ c a d v w, Q (.panic c) (Act.put a (some d) v) w → Q (.panic c) a w) {K : Act → Prop} {w : World} (hS : S w) :
    ∀ (E : List Nat) (Es : List Oper), Picks ops E Es → ∀ (fuel : Nat) (listed : Array Bool) (a : Act), Closed md ops listed → takeable md ops T E listed = true → earlyOk P ops S K Es a →
      (∀ a', K a' → wpAnyT P md ops Q S T fuel (setAll E listed) a' w) → wpAnyT P md ops Q S T (fuel + E.length) listed a w := by
  intro E Es hp
  induction hp using Picks.rec' with
  | h0 => intro fuel listed a _ _ h hK; exact hK a h
  | h1 i o r l hi _ ih =>
    intro fuel listed a hcl ht h hK
    obtain ⟨v, hd, hy, h⟩ := h
    simp only [takeable, Bool.and_eq_true, Bool.not_eq_true', List.all_eq_true, List.mem_range, Bool.or_eq_true] at ht
    obtain ⟨⟨⟨⟨hf, hr⟩, hTi⟩, hT⟩, ht⟩ := ht
    have hr' : i ∈ Region.ready md ops listed := by simpa using hr
    obtain ⟨d, hd'⟩ := Option.isSome_iff_exists.1 hd
    rw [List.length_cons, ← Nat.add_assoc]
    refine wpAnyT_first hi (Region.noSelect_spec hs) (fun c a w => by rw [hd']; exact hQ c a d v w) hTi (fun j hj hTj => (hT j hj).resolve_left (by simp [hTj]))
      (fuel + r.length) listed a w hcl (Region.free_spec hi hf) hr' hy hS ?_
    exact ih fuel _ _ (hcl.set hr') ht h hK

def forcedSeq (md : Region.Mode) (ops : Array Oper) : List Nat → Array Bool → Bool
  | [], listed => (Region.ready md ops listed).isEmpty
  | i :: r, listed => Region.ready md ops listed == [i] && forcedSeq md ops r (listed.setIfInBounds i true)

/-- The next ones, one by one; behind each of them S is shown anew. -/
def midOk (P : Program) (ops : Array Oper) (Q : Exit → Act → World → Prop) (S : World → Prop) (K : Act → World → Prop) : List Oper → Act → World → Prop
  | [], a, w => K a w
  | o :: r, a, w => if Region.wanted o (yielded ops a.tmps) then o.wp P a w (fun a' w' => S w' ∧ midOk P ops Q S K r a' w') Q else S w ∧ midOk P ops Q S K r (a.put o.dst undef) w

theorem midOk_nil {K : Act → World → Prop} {a : Act} {w : World} (h : K a w) : midOk P ops Q S K [] a w := h
theorem midOk_cons {K : Act → World → Prop} {r : List Oper} {a : Act} {w : World} {o : Oper} (hg : o.guard = none)
    (h : ∀ K' : Act → World → Prop, (∀ a w, S w → midOk P ops Q S K r a w → K' a w) → o.wp P a w K' Q) : midOk P ops Q S K (o :: r) a w := by
  unfold midOk
  rw [if_pos (by simp [Region.wanted, hg])]
  exact h _ (fun a w hS h => ⟨hS, h⟩)

theorem late_take (fuel : Nat) : ∀ (t : List Nat) (Ts : List Oper), Picks ops t Ts → t.length = fuel → ∀ (listed : Array Bool) (a : Act) (w : World), (∀ i ∈ t, T i = true) → forcedSeq md ops t listed = true →
    wpList P ops Q Ts a w → wpAnyT P md ops Q S T fuel listed a w := by
  intro t Ts hp
  induction hp using Picks.rec' generalizing fuel with
  | h0 =>
    rintro rfl listed a w _ hf h
    simp only [forcedSeq, List.isEmpty_iff] at hf
    exact ⟨hf, h⟩
  | h1 i o r l hi _ ih =>
    rintro rfl listed a w hT hf h
    simp only [forcedSeq, Bool.and_eq_true, beq_iff_eq] at hf
    refine ⟨fun h0 => (by rw [hf.1] at h0; cases h0), fun j hj => ?_⟩
    rw [hf.1, List.mem_singleton] at hj
    subst hj
    refine wpOp_mono (fun a' w' h' => ⟨fun hj => (by rw [hT j (by simp)] at hj; cases hj), ih r.length rfl _ a' w' (fun i hi => hT i (by simp [hi])) hf.2 h'⟩) ?_
    unfold wpOp
    simp only [hi]
    exact h

theorem mid_take : ∀ (m : List Nat) (Ms : List Oper), Picks ops m Ms → ∀ (fuel : Nat) (t : List Nat) (Ts : List Oper), Picks ops t Ts → fuel = m.length + t.length → ∀ (listed : Array Bool) (a : Act) (w : World),
    (∀ i ∈ t, T i = true) → forcedSeq md ops (m ++ t) listed = true → midOk P ops Q S (wpList P ops Q Ts) Ms a w → wpAnyT P md ops Q S T fuel listed a w := by
  intro m Ms hp
  induction hp using Picks.rec' with
  | h0 => intro fuel t Ts ht hl listed a w hT hf h; exact late_take fuel t Ts ht (by simpa using hl.symm) listed a w hT hf h
  | h1 i o r l hi _ ih =>
    intro fuel t Ts ht hl listed a w hT hf h
    simp only [List.cons_append, forcedSeq, Bool.and_eq_true, beq_iff_eq] at hf
    obtain ⟨fuel, rfl⟩ : ∃ f, fuel = f + 1 := ⟨r.length + t.length, by simp at hl; omega⟩
    refine ⟨fun h0 => (by rw [hf.1] at h0; cases h0), fun j hj => ?_⟩
    rw [hf.1, List.mem_singleton] at hj
    subst hj
    unfold midOk at h
    unfold wpOp
    simp only [hi]
    split
    · rename_i hw
      rw [if_pos hw] at h
      exact .inl (Oper.wp_mono (fun a' w' h' => ⟨fun _ => h'.1, ih fuel t Ts ht (by simp at hl; omega) _ a' w' hT hf.2 h'.2⟩) h)
    · rename_i hw
      rw [if_neg hw] at h
      exact ⟨fun _ => h.1, ih fuel t Ts ht (by simp at hl; omega) _ _ w hT hf.2 h.2⟩

def drawCheck (ops : Array Oper) (E m t : List Nat) : Bool :=
  Region.noSelect ops && takeable .any ops t.contains E (Array.replicate ops.size false) && forcedSeq .any ops (m ++ t) (setAll E (Array.replicate ops.size false)) &&
    (E.length + (m.length + t.length) == ops.size)

/-- The same, by numbers: each operation is looked up when it is its turn. -/
def earlyN (P : Program) (ops : Array Oper) (S : World → Prop) (K : List Oper → Act → Prop) : List Nat → List Oper → Act → Prop
  | [], l, a => K l a
  | i :: r, l, a => ∃ o v, ops.toList[i]? = some o ∧ o.dst.isSome = true ∧ YieldsIf P ops S o v a ∧ earlyN P ops S K r (l ++ [o]) (a.put o.dst v)
theorem earlyN_nil {K : List Oper → Act → Prop} {l : List Oper} {a : Act} (h : K l a) : earlyN P ops S K [] l a := h
theorem earlyN_cons {K : List Oper → Act → Prop} {i : Nat} {r : List Nat} {l : List Oper} {a : Act} {o : Oper} {v : Value} (hi : ops.toList[i]? = some o) (hd : o.dst.isSome = true) (hg : o.guard = none)
    (hv : ∀ w, S w → (execOp a.eval o).run P w = .ok (.value v) w) (h : earlyN P ops S K r (l ++ [o]) (a.put o.dst v)) : earlyN P ops S K (i :: r) l a :=
  ⟨o, v, hi, hd, .inl ⟨by simp [Region.wanted, hg], hv⟩, h⟩
theorem earlyN_guarded {K : List Oper → Act → Prop} {i : Nat} {r : List Nat} {l : List Oper} {a : Act} {o : Oper} {v : Value} (hi : ops.toList[i]? = some o) (hd : o.dst.isSome = true) (hg : Region.wanted o (yielded ops a.tmps) = true)
    (hv : ∀ w, S w → (execOp a.eval o).run P w = .ok (.value v) w) (h : earlyN P ops S K r (l ++ [o]) (a.put o.dst v)) : earlyN P ops S K (i :: r) l a :=
  ⟨o, v, hi, hd, .inl ⟨hg, hv⟩, h⟩
theorem earlyN_skip {K : List Oper → Act → Prop} {i : Nat} {r : List Nat} {l : List Oper} {a : Act} {o : Oper} (hi : ops.toList[i]? = some o) (hd : o.dst.isSome = true) (hg : Region.wanted o (yielded ops a.tmps) = false)
    (h : earlyN P ops S K r (l ++ [o]) (a.put o.dst undef)) : earlyN P ops S K (i :: r) l a :=
  ⟨o, undef, hi, hd, .inr ⟨hg, rfl⟩, h⟩

def tailN (P : Program) (ops : Array Oper) (Q : Exit → Act → World → Prop) : List Nat → List Oper → Act → World → Prop
  | [], l, a, w => wpList P ops Q l a w
  | i :: r, l, a, w => ∃ o, ops.toList[i]? = some o ∧ tailN P ops Q r (l ++ [o]) a w
theorem tailN_nil {l : List Oper} {a : Act} {w : World} (h : wpList P ops Q l a w) : tailN P ops Q [] l a w := h
theorem tailN_cons {i : Nat} {r : List Nat} {l : List Oper} {a : Act} {w : World} {o : Oper} (hi : ops.toList[i]? = some o) (h : tailN P ops Q r (l ++ [o]) a w) : tailN P ops Q (i :: r) l a w := ⟨o, hi, h⟩

def midN (P : Program) (ops : Array Oper) (Q : Exit → Act → World → Prop) (S : World → Prop) (K : Act → World → Prop) : List Nat → Act → World → Prop
  | [], a, w => K a w
  | i :: r, a, w => ∃ o, ops.toList[i]? = some o ∧ if Region.wanted o (yielded ops a.tmps) then o.wp P a w (fun a' w' => S w' ∧ midN P ops Q S K r a' w') Q else S w ∧ midN P ops Q S K r (a.put o.dst undef) w
theorem midN_nil {K : Act → World → Prop} {a : Act} {w : World} (h : K a w) : midN P ops Q S K [] a w := h
theorem midN_cons {K : Act → World → Prop} {i : Nat} {r : List Nat} {a : Act} {w : World} {o : Oper} (hi : ops.toList[i]? = some o) (hg : o.guard = none)
    (h : ∀ K' : Act → World → Prop, (∀ a w, S w → midN P ops Q S K r a w → K' a w) → o.wp P a w K' Q) : midN P ops Q S K (i :: r) a w := by
  unfold midN
  refine ⟨o, hi, ?_⟩
  rw [if_pos (by simp [Region.wanted, hg])]
  exact h _ (fun a w hS h => ⟨hS, h⟩)

theorem earlyOk_of_N {K : List Oper → Act → Prop} : ∀ (E : List Nat) (l : List Oper) (a : Act), earlyN P ops S K E l a → ∃ Es, Picks ops E Es ∧ earlyOk P ops S (K (l ++ Es)) Es a := by
  intro E
  induction E with
  | nil => intro l a h; exact ⟨[], .nil, by rw [List.append_nil]; exact h⟩
  | cons i r ih =>
    intro l a h
    obtain ⟨o, v, hi, hd, hy, h⟩ := h
    rw [Array.getElem?_toList] at hi
    obtain ⟨Es, hp, he⟩ := ih _ _ h
    refine ⟨o :: Es, .cons hi hp, v, hd, hy, ?_⟩
    rw [List.append_assoc] at he
    exact he
theorem picks_of_tail : ∀ (t : List Nat) (l : List Oper) (a : Act) (w : World), tailN P ops Q t l a w → ∃ Ts, Picks ops t Ts ∧ wpList P ops Q (l ++ Ts) a w := by
  intro t
  induction t with
  | nil => intro l a w h; exact ⟨[], .nil, by rw [List.append_nil]; exact h⟩
  | cons i r ih =>
    intro l a w h
    obtain ⟨o, hi, h⟩ := h
    rw [Array.getElem?_toList] at hi
    obtain ⟨Ts, hp, he⟩ := ih _ _ _ h
    exact ⟨o :: Ts, .cons hi hp, by rw [List.append_assoc] at he; exact he⟩
theorem Picks.uniq : ∀ {t : List Nat} {a b : List Oper}, Picks ops t a → Picks ops t b → a = b := by
  intro t a b ha
  induction ha using Picks.rec' generalizing b with
  | h0 =>
    intro hb
    cases b with
    | nil => rfl
    | cons => exact hb.elim
  | h1 i o r l h _ ih =>
    intro hb
    cases b with
    | nil => exact hb.elim
    | cons o' l' =>
      obtain ⟨h', t'⟩ := hb
      rw [h] at h'
      cases h'
      rw [ih t']
theorem picks_all (ops : Array Oper) : ∀ (t : List Nat), (t.all fun i => decide (i < ops.size)) = true → ∃ Ts, Picks ops t Ts := by
  intro t
  induction t with
  | nil => intro _; exact ⟨[], .nil⟩
  | cons i r ih =>
    intro h
    simp only [List.all_cons, Bool.and_eq_true, decide_eq_true_eq] at h
    obtain ⟨Ts, hp⟩ := ih h.2
    exact ⟨_, .cons (Array.getElem?_eq_getElem h.1) hp⟩
theorem midOk_of_N {K : Act → World → Prop} : ∀ (m : List Nat) (Ms : List Oper), Picks ops m Ms → ∀ (a : Act) (w : World), midN P ops Q S K m a w → midOk P ops Q S K Ms a w := by
  intro m Ms hp
  induction hp using Picks.rec' with
  | h0 => intro a w h; exact h
  | h1 i o r l hi _ ih =>
    intro a w h
    obtain ⟨o, ho, h⟩ := h
    rw [Array.getElem?_toList, hi] at ho
    cases ho
    unfold midOk
    split
    · rename_i hw
      rw [if_pos hw] at h
      exact Oper.wp_mono (fun a w h => ⟨h.1, ih a w h.2⟩) h
    · rename_i hw
      rw [if_neg hw] at h
      exact ⟨h.1, ih _ _ h.2⟩
theorem midOk_mono {K K' : Act → World → Prop} (hK : ∀ a w, K a w → K' a w) : ∀ (Ms : List Oper) (a : Act) (w : World), midOk P ops Q S K Ms a w → midOk P ops Q S K' Ms a w := by
  intro Ms
  induction Ms with
  | nil => intro a w h; exact hK _ _ h
  | cons o r ih =>
    intro a w h
    unfold midOk at h ⊢
    split
    · rename_i hw
      rw [if_pos hw] at h
      exact Oper.wp_mono (fun a w h => ⟨h.1, ih a w h.2⟩) h
    · rename_i hw
      rw [if_neg hw] at h
      exact ⟨h.1, ih _ _ h.2⟩
theorem earlyOk_mono {K K' : Act → Prop} (hK : ∀ a, K a → K' a) : ∀ (Es : List Oper) (a : Act), earlyOk P ops S K Es a → earlyOk P ops S K' Es a := by
  intro Es
  induction Es with
  | nil => intro a h; exact hK _ h
  | cons o r ih =>
    intro a h
    obtain ⟨v, hd, hy, h⟩ := h
    exact ⟨v, hd, hy, ih _ h⟩

theorem wp_draw {id : Nat} {a : Act} {w : World} (S : World → Prop) (E m t : List Nat) {Es Ms Ts : List Oper} (hm : P.follows .mixedOrders = true)
    (hc : drawCheck ops E m t = true) (hE : Picks ops E Es) (hM : Picks ops m Ms) (hT : Picks ops t Ts)
    (hQ : ∀ c a d v w, Q (.panic c) (Act.put a (some d) v) w → Q (.panic c) a w) (hS : S w.drew)
    (h : earlyOk P ops S (fun a' => midOk P ops Q S (wpList P ops Q Ts) Ms a' w.drew) Es a) : (Code.region id ops true).wp P Q a w := by
  simp only [drawCheck, Bool.and_eq_true, beq_iff_eq] at hc
  obtain ⟨⟨⟨h1, h2⟩, h3⟩, h4⟩ := hc
  refine wp_region_any hm (wpAny_of_T (S := S) (T := t.contains) _ _ _ _ ?_)
  generalize hl : Array.replicate ops.size false = l at h2 h3 ⊢
  have hcl : Closed .any ops l := by
    intro j o hj hl'
    have hlt : j < ops.size := (Array.getElem?_eq_some_iff.1 hj).1
    subst hl
    simp [hlt] at hl'
  rw [← h4, Nat.add_comm]
  refine early_take h1 hQ hS E Es hE (m.length + t.length) _ a hcl h2 h ?_
  intro a' ha'
  exact mid_take m Ms hM _ t Ts hT rfl _ a' _ (fun i hi => by simpa using hi) h3 ha'

/-- **A region that leaves its order open.** E: taken first; m: one by one, S shown anew behind each; t: what waits for all of E. -/
theorem wp_drawN {id : Nat} {a : Act} {w : World} (S : World → Prop) (E m t : List Nat) (hm : P.follows .mixedOrders = true)
    (hc : (drawCheck ops E m t && ((m ++ t).all fun i => decide (i < ops.size))) = true)
    (hQ : ∀ c a d v w, Q (.panic c) (Act.put a (some d) v) w → Q (.panic c) a w) (hS : S w.drew)
    (h : earlyN P ops S (fun _ a' => midN P ops Q S (tailN P ops Q t []) m a' w.drew) E [] a) : (Code.region id ops true).wp P Q a w := by
  simp only [Bool.and_eq_true, List.all_append] at hc
  obtain ⟨hc, hm', ht'⟩ := hc
  obtain ⟨Es, hE, he⟩ := earlyOk_of_N E [] a h
  obtain ⟨Ms, hM⟩ := picks_all ops m hm'
  obtain ⟨Ts, hT⟩ := picks_all ops t ht'
  refine wp_draw S E m t hm hc hE hM hT hQ hS (earlyOk_mono (fun a h => ?_) _ _ he)
  refine midOk_mono (fun a w h => ?_) _ _ _ (midOk_of_N m Ms hM a _ h)
  obtain ⟨Ts', hT', h⟩ := picks_of_tail t [] a w h
  rw [hT.uniq hT']
  exact h
end
end Go.Dr

/-! ## World -/
namespace Go.Proofs.Ytpjggnfiocplmaa
open Go Go.RowKit

abbrev Bytes := List UInt8
def u8v (x : UInt8) : Value := .int .u8 (x.toNat : Int)
def No : Nat → Prop := fun _ => False

/-! ### What stays -/
structure Keep (F : Nat → Prop) (w w' : World) : Prop where
  os : w'.os = w.os
  tape : w'.tape = w.tape
  output : w'.output = w.output
  size : w.heap.size ≤ w'.heap.size
  block : ∀ b, b < w.heap.size → ¬ F b → w'.heap[b]? = w.heap[b]?
theorem Keep.refl (F : Nat → Prop) (w : World) : Keep F w w := ⟨rfl, rfl, rfl, Nat.le_refl _, fun _ _ _ => rfl⟩
theorem Keep.trans {F G : Nat → Prop} {a b c : World} (h : Keep F a b) (k : Keep G b c) (hG : ∀ x, x < a.heap.size → G x → F x) : Keep F a c :=
  ⟨k.os.trans h.os, k.tape.trans h.tape, k.output.trans h.output, Nat.le_trans h.size k.size,
    fun x hx hn => (k.block x (Nat.lt_of_lt_of_le hx h.size) (fun hg => hn (hG x hx hg))).trans (h.block x hx hn)⟩
theorem Keep.mono {F G : Nat → Prop} {a b : World} (h : Keep F a b) (hF : ∀ x, x < a.heap.size → F x → G x) : Keep G a b :=
  ⟨h.os, h.tape, h.output, h.size, fun x hx hn => h.block x hx (fun hf => hn (hF x hx hf))⟩
theorem Keep.no {F : Nat → Prop} {a b : World} (h : Keep No a b) : Keep F a b := h.mono (fun _ _ h => h.elim)
theorem Keep.then {F : Nat → Prop} {a b c : World} (h : Keep F a b) (k : Keep No b c) : Keep F a c := h.trans k (fun _ _ h => h.elim)
theorem Keep.alloc {F : Nat → Prop} {a w : World} (h : Keep F a w) (o : Obj) : Keep F a (w.alloc o) :=
  h.then ⟨rfl, rfl, rfl, by simp, fun k hk _ => Below.heap_alloc _ _ _ (by omega)⟩
theorem Keep.drew {F : Nat → Prop} {a w : World} (h : Keep F a w) : Keep F a w.drew := ⟨h.os, h.tape, h.output, h.size, h.block⟩
theorem Keep.setCell {F : Nat → Prop} {a w : World} (h : Keep F a w) {p : Addr} (hp : F p.block ∨ a.heap.size ≤ p.block) (u : Value) : Keep F a (w.setCell p u) :=
  ⟨h.os, h.tape, h.output, by simpa using h.size, fun k hk hn => by
    rw [Below.heap_setCell _ _ _ _ (fun e => by subst e; rcases hp with hp | hp; exact hn hp; omega)]
    exact h.block k hk hn⟩
theorem Keep.grown {F : Nat → Prop} {a w w' : World} {row : Option Nat} (h : Keep F a w) (hg : w.grownBy w' row) (hr : ∀ k, row = some k → F k ∨ a.heap.size ≤ k) : Keep F a w' :=
  ⟨hg.os.trans h.os, hg.tape.trans h.tape, hg.output.trans h.output, Nat.le_trans h.size hg.size, fun k hk hn => by
    rw [hg.block k (Nat.lt_of_lt_of_le hk h.size) (fun e => by rcases hr k e.symm with h' | h'; exact hn h'; omega)]
    exact h.block k hk hn⟩
theorem Keep.setObj {F : Nat → Prop} {a w : World} (h : Keep F a w) {r : Nat} (hp : F r ∨ a.heap.size ≤ r) (o : Obj) : Keep F a { w with heap := w.heap.setIfInBounds r o } :=
  ⟨h.os, h.tape, h.output, by simpa using h.size, fun k hk hn => by
    have : r ≠ k := fun e => by subst e; rcases hp with hp | hp; exact hn hp; omega
    show (w.heap.setIfInBounds r o)[k]? = _
    rw [Array.getElem?_setIfInBounds_ne this]
    exact h.block k hk hn⟩
theorem Keep.heap {F : Nat → Prop} {w w' : World} (h : Keep F w w') {b : Nat} {o : Obj} (hb : w.heap[b]? = some o) (hn : ¬ F b) : w'.heap[b]? = some o :=
  (h.block b (Array.getElem?_eq_some_iff.1 hb).1 hn).trans hb
theorem Keep.cell {F : Nat → Prop} {w w' : World} (h : Keep F w w') {p : Addr} {v : Value} (hc : w.cell? p = some v) (hn : ¬ F p.block) : w'.cell? p = some v :=
  (World.cell?_of_block (w := w) (h.block p.block (World.block_lt_of_cell? w p hc) hn)).trans hc
theorem Keep.below {F : Nat → Prop} {w w' : World} {B : Nat} (h : Keep F w w') (hF : ∀ x, F x → B ≤ x) (hB : B ≤ w.heap.size) : Below B w w' :=
  ⟨h.os, h.tape, h.output, h.size, fun k hk => h.block k (by omega) (fun hf => by have := hF k hf; omega)⟩
theorem heap_lt {w : World} {b : Nat} {o : Obj} (h : w.heap[b]? = some o) : b < w.heap.size := (Array.getElem?_eq_some_iff.1 h).1
/-- A cell of a block that is known whole. -/
theorem cell_of {w : World} {b : Nat} {cs : Array Value} {t : TypeId} {fr : Nat × Nat} (h : w.heap[b]? = some (.cells cs t fr)) (i : Nat) : w.cell? ⟨b, i, none⟩ = cs[i]? := by
  simp [World.cell?, h]
theorem frozen_of {w : World} {b : Nat} {cs : Array Value} {t : TypeId} (h : w.heap[b]? = some (.cells cs t (0, 0))) (i : Nat) : w.frozen? ⟨b, i, none⟩ = false := by
  simp [World.frozen?, h]
theorem heap_new (w : World) (o : Obj) : (w.alloc o).heap[w.heap.size]? = some o := heap_alloc_new w o
theorem heap_setCell_same {w : World} {b i : Nat} {cs : Array Value} {t : TypeId} {fr : Nat × Nat} {u : Value} (h : w.heap[b]? = some (.cells cs t fr)) :
    (w.setCell ⟨b, i, none⟩ u).heap[b]? = some (.cells (cs.setIfInBounds i u) t fr) := by
  simp [World.setCell, Array.getElem?_modify, h]

/-! ### Footprints -/
def Foot (base : Nat) (w : World) (F : Nat → Prop) : Prop :=
  ∀ b, F b → base ≤ b ∧ b < w.heap.size ∧ ∀ cs fr, w.heap[b]? ≠ some (.cells cs 5 fr)
theorem Foot.no (base : Nat) (w : World) : Foot base w No := fun _ h => h.elim

/-! ### Blocks in which no bytes are looked for (the caller may write to them) -/
structure Ban where
  Z : Nat → Prop
  top : Nat
  lt : ∀ b, Z b → b < top
abbrev noBan : Inhabited Ban := ⟨⟨No, 0, fun _ h => h.elim⟩⟩
abbrev oneBan (g : Nat) : Inhabited Ban := ⟨⟨(· = g), g + 1, fun b h => by have : b = g := h; omega⟩⟩
def ban [bn : Inhabited Ban] : Ban := default

/-! ### Bytes behind a slice -/
def ByteBlock [bn : Inhabited Ban] (base : Nat) (w : World) (b : Nat) : Prop := b < w.heap.size ∧ (b < base ∨ ∃ cs fr, w.heap[b]? = some (.cells cs 5 fr)) ∧ ¬ ban.Z b ∧ ban.top ≤ w.heap.size
theorem ByteBlock.not [bn : Inhabited Ban] {base : Nat} {w : World} {F : Nat → Prop} {b : Nat} (h : ByteBlock base w b) (hF : Foot base w F) : ¬ F b := by
  intro hb
  obtain ⟨h1, h2, h3⟩ := hF b hb
  rcases h.2.1 with h | ⟨cs, fr, h⟩
  · omega
  · exact h3 _ _ h
theorem ByteBlock.keep [bn : Inhabited Ban] {base : Nat} {w w' : World} {F : Nat → Prop} {b : Nat} (h : ByteBlock base w b) (hF : Foot base w F) (k : Keep F w w') : ByteBlock base w' b := by
  refine ⟨Nat.lt_of_lt_of_le h.1 k.size, ?_, h.2.2.1, Nat.le_trans h.2.2.2 k.size⟩
  have hn := h.not hF
  rcases h.2.1 with h2 | ⟨cs, fr, h2⟩
  · exact .inl h2
  · exact .inr ⟨cs, fr, k.heap h2 hn⟩

def BytesAt [bn : Inhabited Ban] (base : Nat) (w : World) (v : Value) (l : Bytes) : Prop :=
  ∃ ao cap, v = .slice ao l.length cap ∧ l.length ≤ cap ∧ cap ≤ maxLen ∧ (ao = none → cap = 0) ∧
    ∀ i x, l[i]? = some x → ∃ ad, ao = some ad ∧ ByteBlock base w ad.block ∧ w.cell? (ad.add i) = some (u8v x)

theorem BytesAt.form [bn : Inhabited Ban] {base : Nat} {w : World} {v : Value} {l : Bytes} (h : BytesAt base w v l) : ∃ ao cap, v = .slice ao l.length cap := by
  obtain ⟨ao, cap, h, _⟩ := h
  exact ⟨ao, cap, h⟩
theorem BytesAt.nil [bn : Inhabited Ban] (base : Nat) (w : World) : BytesAt base w (.slice none 0 0) [] := ⟨none, 0, rfl, Nat.le_refl _, by decide, fun _ => rfl, fun i x h => by simp at h⟩
theorem Addr.block_add (ad : Addr) (i : Nat) : (ad.add i).block = ad.block := by unfold Addr.add; split <;> rfl
theorem BytesAt.keep [bn : Inhabited Ban] {base : Nat} {w w' : World} {F : Nat → Prop} {v : Value} {l : Bytes} (h : BytesAt base w v l) (hF : Foot base w F) (k : Keep F w w') : BytesAt base w' v l := by
  obtain ⟨ao, cap, h1, h2, h3, h4, h5⟩ := h
  refine ⟨ao, cap, h1, h2, h3, h4, fun i x hx => ?_⟩
  obtain ⟨ad, e, hb, hc⟩ := h5 i x hx
  exact ⟨ad, e, hb.keep hF k, k.cell hc (by rw [Addr.block_add]; exact hb.not hF)⟩
theorem BytesAt.no [bn : Inhabited Ban] {base : Nat} {w w' : World} {v : Value} {l : Bytes} (h : BytesAt base w v l) (k : Keep No w w') : BytesAt base w' v l := h.keep (Foot.no _ _) k
theorem BytesAt.take [bn : Inhabited Ban] {base : Nat} {w : World} {ao : Option Addr} {n cap : Nat} {l : Bytes} (h : BytesAt base w (.slice ao n cap) l) (k : Nat) (hk : k ≤ l.length) : BytesAt base w (.slice ao k cap) (l.take k) := by
  obtain ⟨ao', cap', h1, h2, h3, h4, h5⟩ := h
  simp only [Value.slice.injEq] at h1
  obtain ⟨rfl, rfl, rfl⟩ := h1
  have hl : (l.take k).length = k := by simp; omega
  refine ⟨ao, cap, by rw [hl], by omega, h3, h4, fun i x hx => h5 i x ?_⟩
  rw [List.getElem?_take] at hx
  split at hx
  · exact hx
  · simp at hx
/-- Who writes to the banned blocks alone changes no bytes. -/
theorem BytesAt.banned [bn : Inhabited Ban] {base : Nat} {w w' : World} {v : Value} {l : Bytes} (h : BytesAt base w v l) (k : Keep ban.Z w w') : BytesAt base w' v l := by
  obtain ⟨ao, cap, h1, h2, h3, h4, h5⟩ := h
  refine ⟨ao, cap, h1, h2, h3, h4, fun i x hx => ?_⟩
  obtain ⟨ad, e, hb, hc⟩ := h5 i x hx
  refine ⟨ad, e, ⟨Nat.lt_of_lt_of_le hb.1 k.size, ?_, hb.2.2.1, Nat.le_trans hb.2.2.2 k.size⟩, k.cell hc (by rw [Addr.block_add]; exact hb.2.2.1)⟩
  rcases hb.2.1 with h2 | ⟨cs, fr, h2⟩
  · exact .inl h2
  · exact .inr ⟨cs, fr, k.heap h2 hb.2.2.1⟩
/-- Bytes: there is room above the ban. -/
theorem BytesAt.top [bn : Inhabited Ban] {base : Nat} {w : World} {v : Value} {l : Bytes} (h : BytesAt base w v l) (hl : l ≠ []) : ban.top ≤ w.heap.size := by
  obtain ⟨ao, cap, h1, h2, h3, h4, h5⟩ := h
  cases l with
  | nil => exact absurd rfl hl
  | cons x l =>
    obtain ⟨ad, e, hb, hc⟩ := h5 0 x rfl
    exact hb.2.2.2
/-- What lay there ahead of a block g that is new is not in g. -/
theorem BytesAt.toBan {base : Nat} {w w' : World} {v : Value} {l : Bytes} {g : Nat} (h : BytesAt (bn := noBan) base w v l) (k : Keep No w w') (hg : w.heap.size ≤ g) (hs : g < w'.heap.size) : BytesAt (bn := oneBan g) base w' v l := by
  obtain ⟨ao, cap, h1, h2, h3, h4, h5⟩ := h
  refine ⟨ao, cap, h1, h2, h3, h4, fun i x hx => ?_⟩
  obtain ⟨ad, e, hb, hc⟩ := h5 i x hx
  refine ⟨ad, e, ⟨Nat.lt_of_lt_of_le hb.1 k.size, ?_, fun hz => ?_, hs⟩, k.cell hc (fun h => h)⟩
  · rcases hb.2.1 with h2 | ⟨cs, fr, h2⟩
    · exact .inl h2
    · exact .inr ⟨cs, fr, k.heap h2 (fun h => h)⟩
  · have hz : ad.block = g := hz
    have := hb.1
    omega
theorem BytesAt.length [bn : Inhabited Ban] {base : Nat} {w : World} {ao : Option Addr} {n cap : Nat} {l : Bytes} (h : BytesAt base w (.slice ao n cap) l) : n = l.length := by
  obtain ⟨ao', cap', h1, _⟩ := h
  simp only [Value.slice.injEq] at h1
  exact h1.2.1

/-! ### A row of bytes that the call itself makes -/
def OwnB (w : World) (B : Nat) (v : Value) (l : Bytes) : Prop := w.ownsRow B 5 1 v l.length (l.map u8v)
theorem u8_one (l : Bytes) : ∀ u ∈ l.map u8v, u.oneCell' = true := by
  intro u hu
  obtain ⟨_, _, rfl⟩ := List.mem_map.1 hu
  rfl
theorem OwnB.bytes [bn : Inhabited Ban] {w : World} {B base : Nat} {v : Value} {l : Bytes} (h : OwnB w B v l) (hT : l ≠ [] → ban.top ≤ B) : BytesAt base w v l := by
  obtain ⟨_, h⟩ := h
  rcases h with ⟨rfl, hl⟩ | ⟨g, cap, cur, rfl, hb, hg, h1, h2, h3, h4⟩
  · obtain rfl := List.eq_nil_of_length_eq_zero hl
    exact BytesAt.nil _ _
  · refine ⟨_, cap, rfl, h1, h2, fun h => (by cases h), fun i x hx => ⟨_, rfl, ⟨heap_lt hg, .inr ⟨_, _, hg⟩, fun hz => ?_, ?_⟩, ?_⟩⟩
    · have h5 := ban.lt _ hz
      have h6 := hT (fun e => by subst e; simp at hx)
      have h5 : g < ban.top := h5
      omega
    · have h6 := hT (fun e => by subst e; simp at hx)
      have := heap_lt hg
      omega
    have hi : i < l.length := (List.getElem?_eq_some_iff.1 hx).1
    have e : (⟨g, 0, none⟩ : Addr).add i = ⟨g, i, none⟩ := by simp [Addr.add]; omega
    rw [e, cell_of hg]
    have hm : (l.map u8v)[i]? = some (u8v x) := by simp [hx]
    rw [← h4, List.getElem?_take, if_pos (by omega)] at hm
    simpa using hm
theorem OwnB.form {w : World} {B : Nat} {v : Value} {l : Bytes} (h : OwnB w B v l) : ∃ ao cap, v = .slice ao l.length cap := by
  obtain ⟨_, h⟩ := h
  rcases h with ⟨rfl, hl⟩ | ⟨g, cap, cur, rfl, _⟩
  · exact ⟨none, 0, by rw [hl]⟩
  · exact ⟨_, _, rfl⟩
theorem OwnB.nil (w : World) (B : Nat) : OwnB w B (.slice none 0 0) [] := World.ownsRow_nil _ _ _ _
theorem OwnB.keep {w w' : World} {B : Nat} {v : Value} {l : Bytes} {F : Nat → Prop} (h : OwnB w B v l) (k : Keep F w w') (hF : ∀ b, v.ownBlock = some b → ¬ F b) : OwnB w' B v l := by
  obtain ⟨h0, h⟩ := h
  refine ⟨h0, ?_⟩
  rcases h with h | ⟨g, cap, cur, rfl, hb, hg, r⟩
  · exact .inl h
  · exact .inr ⟨g, cap, cur, rfl, hb, k.heap hg (hF g rfl), r⟩
theorem OwnB.lt {w : World} {B : Nat} {v : Value} {l : Bytes} (h : OwnB w B v l) : ∀ k, v.ownBlock = some k → B ≤ k ∧ k < w.heap.size := World.ownsRow.lt h

/-! ### A slice of slices of bytes -/
def SlicesAt [bn : Inhabited Ban] (base : Nat) (w : World) (v : Value) (ls : List Bytes) : Prop :=
  ∃ us : List Value, us.length = ls.length ∧ (∀ (i : Nat) u l, us[i]? = some u → ls[i]? = some l → BytesAt base w u l) ∧
    ∃ ao cap, v = .slice ao ls.length cap ∧ ls.length ≤ cap ∧ cap ≤ maxLen ∧ (ls = [] ∨ ∃ g o, ao = some ⟨g, o, none⟩ ∧ ∀ (i : Nat) u, us[i]? = some u → w.cell? ⟨g, o + i, none⟩ = some u)
theorem SlicesAt.of_block [bn : Inhabited Ban] {base : Nat} {w : World} {g : Nat} {cs : Array Value} {t : TypeId} {fr : Nat × Nat} (h : w.heap[g]? = some (.cells cs t fr)) (ls : List Bytes)
    (hl : cs.size = ls.length) (hm : cs.size ≤ maxLen) (hb : ∀ (i : Nat) u l, cs[i]? = some u → ls[i]? = some l → BytesAt base w u l) : SlicesAt base w (.slice (some ⟨g, 0, none⟩) ls.length ls.length) ls := by
  refine ⟨cs.toList, by simpa using hl, fun i u l hu hl => hb i u l (by simpa using hu) hl, _, _, rfl, Nat.le_refl _, by omega, .inr ⟨g, 0, rfl, fun i u hu => ?_⟩⟩
  rw [Nat.zero_add, cell_of h]
  simpa using hu
def catB (ls : List Bytes) (k : Nat) : Bytes := (ls.take k).flatten
def catLen (ls : List Bytes) (k : Nat) : Nat := (catB ls k).length
theorem catB_zero (ls : List Bytes) : catB ls 0 = [] := by simp [catB]
theorem catB_all (ls : List Bytes) : catB ls ls.length = ls.flatten := by simp [catB]
theorem catB_succ {ls : List Bytes} {k : Nat} {l : Bytes} (h : ls[k]? = some l) : catB ls (k + 1) = catB ls k ++ l := by
  obtain ⟨hk, rfl⟩ := List.getElem?_eq_some_iff.1 h
  unfold catB
  rw [List.take_succ_eq_append_getElem hk, List.flatten_append, List.flatten_cons, List.flatten_nil, List.append_nil]
theorem catLen_succ {ls : List Bytes} {k : Nat} {l : Bytes} (h : ls[k]? = some l) : catLen ls (k + 1) = catLen ls k + l.length := by
  unfold catLen
  rw [catB_succ h, List.length_append]
theorem catLen_all (ls : List Bytes) : catLen ls ls.length = ls.flatten.length := by simp [catLen, catB_all]
theorem catLen_le (ls : List Bytes) (k : Nat) : catLen ls k ≤ ls.flatten.length := by
  unfold catLen catB
  conv => rhs; rw [← List.take_append_drop k ls]
  rw [List.flatten_append, List.length_append]
  omega

theorem info_u8 : (Try.prog.info? 5).map (fun i => (i.zero, i.size, i.bytes)) = some (some (.int .u8 0), 1, 1) := by kernel_rfl

/-- 'append' of bytes to a row that the call itself makes. -/
theorem wpList_append_bytes [bn : Inhabited Ban] {w : World} {ops : Array Oper} {rest : List Oper} {o : Oper} {a : Act} {Q : Exit → Act → World → Prop}
    (hg : o.guard = none) (s x : Operand) (hop : o.op = Op.call { callee := Callee.builtin Builtin.append, args := #[s, x], argTypes := #[27, 27] })
    (B : Nat) {v u : Value} {l m : Bytes} {base : Nat} (hown : OwnB w B v l) (hsrc : BytesAt base w u m) (hs : a.eval s = v) (hx : a.eval x = u)
    (hlen : l.length + m.length ≤ 70368744177664) (hB : B ≤ w.heap.size)
    (hK : ∀ v' w', OwnB w' B v' (l ++ m) → Keep (fun b => v.ownBlock = some b) w w' → wpList Try.prog ops Q rest (a.put o.dst v') w') :
    wpList Try.prog ops Q (o :: rest) a w := by
  refine wpList_plain hg fun K hK' => ?_
  obtain ⟨i0, hi, hz0, hz1, hz2⟩ := info_parts info_u8
  obtain ⟨ao, cap, rfl, hc, hm, hn, hcell⟩ := hsrc
  have hkeep : ∀ w', w.grownBy w' v.ownBlock → Keep (fun b => v.ownBlock = some b) w w' := fun w' hg => (Keep.refl _ w).grown hg (fun k hk => .inl hk)
  cases ao with
  | none =>
    obtain rfl := hn rfl
    have hm0 : m = [] := List.eq_nil_of_length_eq_zero (by omega)
    subst hm0
    have hrun := run_append_owned_none (P := Try.prog) w B 27 o.type 5 i0 1 Try.underlying27 hi v l.length (l.map u8v) hown
    unfold Oper.wp
    simp [execOp, hop, resolve, invoke, builtin, hs, hx, hrun, Result.andThen]
    exact hK' _ _ (hK v w (by simpa using hown) (Keep.refl _ _))
  | some ad =>
    obtain ⟨v', w', hrun, h1, h2, _⟩ := run_append_own (P := Try.prog) w B 27 o.type 5 i0 (.int .u8 0) 1 1 Try.underlying27 hi hz0 hz1 hz2 rfl (by decide) v l.length (l.map u8v) hown
      ad m.length cap (m.map u8v) (by simp) (fun j y hj => by
        rw [List.getElem?_map] at hj
        cases hmj : m[j]? with
        | none => simp [hmj] at hj
        | some z =>
          obtain ⟨ad', e, _, hcl⟩ := hcell j z hmj
          cases e
          simp [hmj] at hj
          rw [hcl, hj]) (u8_one m) (by unfold maxLen; omega) (by omega) hB
    unfold Oper.wp
    simp [execOp, hop, resolve, invoke, builtin, hs, hx, hrun, Result.andThen]
    refine hK' _ _ (hK v' w' ?_ (hkeep w' h2))
    unfold OwnB
    rw [List.length_append, List.map_append]
    exact h1

/-- 'append(s[:cap(s)], make([]byte, n)...)' at a nil slice: n bytes, all 0. -/
theorem wpList_append_zeros {w : World} {ops : Array Oper} {rest : List Oper} {o : Oper} {a : Act} {Q : Exit → Act → World → Prop}
    (hg : o.guard = none) (s x : Operand) (hop : o.op = Op.call { callee := Callee.builtin Builtin.append, args := #[s, x], argTypes := #[27, 3] })
    (B n : Nat) (h0 : 0 < n) (hn : n ≤ 70368744177664) (hs : a.eval s = .slice none 0 0) (hx : a.eval x = .int .i64 (n : Int)) (hB : B ≤ w.heap.size)
    (hK : ∀ g cap w', n ≤ cap → cap ≤ maxLen → OwnB w' B (.slice (some ⟨g, 0, none⟩) 0 cap) [] → OwnB w' B (.slice (some ⟨g, 0, none⟩) n cap) (List.replicate n 0) → Keep No w w' → wpList Try.prog ops Q rest (a.put o.dst (.slice (some ⟨g, 0, none⟩) n cap)) w') :
    wpList Try.prog ops Q (o :: rest) a w := by
  refine wpList_plain hg fun K hK' => ?_
  obtain ⟨i0, hi, hz0, hz1, hz2⟩ := info_parts info_u8
  have hrun := Lib.run_append_nil_zeros (P := Try.prog) w 27 3 o.type 5 i0 (.int .u8 0) .i64 .i64 Try.underlying27 Try.underlying3 hi hz0 n h0 (by omega) (by omega) (by rw [hz2]; omega)
  have hc := grownCap_ge w n 0 5
  have hm := grownCap_le_maxLen w n 0 5 (by unfold maxLen; omega)
  generalize grownCap w n 0 5 = cap at hrun hc hm
  have e1 : ∀ k, Builtin.zeroCells (Value.int .u8 0).cells k = (List.replicate k (u8v 0)).toArray := by
    intro k
    apply Array.ext
    · simp [Builtin.zeroCells, Value.cells]
    · intro i h1 h2
      simp [Builtin.zeroCells, Value.cells, u8v, Nat.mod_one]
  rw [e1, e1] at hrun
  have e2 : (List.replicate n (u8v 0)).toArray ++ (List.replicate (cap - n) (u8v 0)).toArray = (List.replicate cap (u8v 0)).toArray := by
    have : cap = n + (cap - n) := by omega
    rw [List.append_toArray, List.replicate_append_replicate, ← this]
  rw [e2] at hrun
  unfold Oper.wp
  simp [execOp, hop, resolve, invoke, builtin, hs, hx, hrun, Result.andThen]
  have hh : (w.drew.alloc (.cells (List.replicate cap (u8v 0)).toArray 5)).heap[w.heap.size]? = some (.cells (List.replicate cap (u8v 0)).toArray 5 (0, 0)) := heap_alloc_new w.drew _
  refine hK' _ _ (hK w.heap.size cap _ hc hm ⟨by simp, .inr ⟨_, cap, _, rfl, hB, hh, Nat.zero_le _, hm, by simp, by simp⟩⟩
    ⟨by simp, .inr ⟨_, cap, _, by simp, hB, hh, by simpa using hc, hm, by simp, ?_⟩⟩ ((Keep.refl _ _).drew.alloc _))
  simp [u8v]
  omega

/-! ### Small facts for the walks -/
@[go_sem] theorem eql_nil_bytes (w : World) (a : Option Addr) (n c : Nat) : (binOp .eql 27 (.slice a n c) (.slice none 0 0)).run Try.prog w = .ok (.bool a.isNone) w :=
  Lib.run_eql_slice_nil w _ _ a n c 0 0 Try.underlying27
end Go.Proofs.Ytpjggnfiocplmaa

/-! ## Lib -/
namespace Go.Proofs.Ytpjggnfiocplmaa
open Go Go.RowKit

theorem clone_spec [bn : Inhabited Ban] {base : Nat} {w : World} {v : Value} {l : Bytes} (h : BytesAt base w v l) (hl : l.length ≤ 35184372088832) :
    Calls Try.prog 57 #[v] w fun e w' => ∃ v', e = .returned v' ∧ OwnB w' w.heap.size v' l ∧ Keep No w w' := by
  have h0 := h
  obtain ⟨ao, cap, rfl, hc, hm, hn, hcell⟩ := h
  cases ao with
  | none =>
    obtain rfl := hn rfl
    obtain rfl : l = [] := List.eq_nil_of_length_eq_zero (by omega)
    go_enter Try.func57, Try.ntmps57
    go_wp2
    go_ret
    exact ⟨_, rfl, OwnB.nil _ _, Keep.refl _ _⟩
  | some ad =>
    have hk : Keep No w (w.alloc (.cells #[] 5)) := (Keep.refl _ _).alloc _
    have hown : OwnB (w.alloc (.cells #[] 5)) w.heap.size (.slice (some ⟨w.heap.size, 0, none⟩) 0 0) [] :=
      World.ownsRow_made w #[] 0 (Nat.le_refl _) (by decide) rfl
    have hsrc := h0.no hk
    clear h0 hcell hn
    go_enter Try.func57, Try.ntmps57
    go_wp2_with (at_builtin; refine wpList_append_bytes rfl _ _ rfl w.heap.size hown hsrc rfl rfl (by simp; omega) (by simp) ?_; intro v' w' hown' hk')
    go_ret
    refine ⟨_, rfl, hown', hk.trans hk' ?_⟩
    intro x hx hxx
    simp [Value.ownBlock] at hxx
    omega

set_option maxRecDepth 100000 in
/-- slices.Grow of a nil slice. -/
theorem grow_spec {w : World} {B : Nat} (n : Nat) (hn : n ≤ 70368744177664) (hB : B ≤ w.heap.size) :
    Calls Try.prog 100 #[.slice none 0 0, .int .i64 n] w fun e w' => ∃ v', e = .returned v' ∧ OwnB w' B v' [] ∧ Keep No w w' := by
  obtain ⟨i0, hi, hz0, hz1, hz2⟩ := info_parts info_u8
  by_cases h0 : n = 0
  · subst h0
    go_enter Try.func100, Try.ntmps100
    go_wp2
    go_ret
    exact ⟨_, rfl, OwnB.nil _ _, Keep.refl _ _⟩
  · have hp : (0 : Int) < (n : Int) := by omega
    have hb : (n : Int) ≤ 70368744177664 := by omega
    go_enter Try.func100, Try.ntmps100
    go_wp2_with (at_builtin; refine wpList_append_zeros rfl _ _ rfl B n (by omega) hn rfl rfl hB ?_; intro g cap w' hc hm ho1 ho2 hk)
    go_ret
    exact ⟨_, rfl, ho1, hk⟩

set_option maxRecDepth 100000 in
/-- slices.Concat. -/
theorem concat_spec [bn : Inhabited Ban] {base : Nat} {w : World} {v : Value} {ls : List Bytes} (h : SlicesAt base w v ls) (hl : ls.flatten.length ≤ 35184372088832) :
    Calls Try.prog 84 #[v] w fun e w' => ∃ v', e = .returned v' ∧ OwnB w' w.heap.size v' ls.flatten ∧ Keep No w w' := by
  obtain ⟨us, hus, hbs, ao, cap, rfl, hlc, hcm, hcells⟩ := h
  unfold maxLen at hcm
  have hn : (ls.length : Int) ≤ 9223372036854775807 := by omega
  have hz : ls.length ≤ us.length := by omega
  have HU := Lib.hid hus
  clear hus
  go_enter Try.func84, Try.ntmps84
  go_wp2
  go_loop [3, 11] (fun s i => ∃ k : Nat, k ≤ ls.length ∧ i = .int .i64 k ∧ s = .int .i64 (catLen ls k)) (fun _ i => ls.length - (intOf i).toNat)
  case atStart => exact ⟨0, Nat.zero_le _, rfl, rfl⟩
  case round =>
    obtain ⟨k, hk, rfl, rfl⟩ := hrel
    by_cases hlt : k < ls.length
    · rcases hcells with rfl | ⟨g, o, rfl, hcells⟩
      · simp at hlt
      · have hku : k < us.length := by omega
        have hc := hcells k us[k] (List.getElem?_eq_getElem hku)
        have hlk : ls[k]? = some ls[k] := List.getElem?_eq_getElem hlt
        have hb := hbs k _ _ (List.getElem?_eq_getElem hku) hlk
        obtain ⟨ao1, cap1, hu, _⟩ := hb
        have hs := catLen_succ hlk
        have hle := catLen_le ls (k + 1)
        have hb1 : (catLen ls k : Int) + (ls[k].length : Int) ≤ 35184372088832 := by omega
        have hb2 : (0 : Int) ≤ (catLen ls k : Int) + (ls[k].length : Int) := by omega
        have HS := Lib.hid hs
        rw [hu] at hc
        generalize ls[k].length = m at *
        clear hs hle hlk hbs hcells hu
        have hki : (k : Int) < (ls.length : Int) := by omega
        go_wp2
        go_round
        case rel => exact ⟨k + 1, by omega, by go_num, by rw [HS.out]; go_num⟩
        case measure => simp [intOf]; omega
    · have hki : ¬ (k : Int) < (ls.length : Int) := by omega
      obtain rfl : k = ls.length := by omega
      have hle := catLen_all ls
      have hb1 : (catLen ls ls.length : Int) ≤ 35184372088832 := by omega
      clear hle hki hlt hk
      go_wp2_with (go_at_call 100; refine (grow_spec (B := w.heap.size) (catLen ls ls.length) (by omega) (Nat.le_refl _)).mono ?_; rintro e w1 ⟨v0, rfl, hown0, hk0⟩)
      go_loopw [6, 27] (fun v i wr => ∃ k : Nat, k ≤ ls.length ∧ i = .int .i64 k ∧ OwnB wr w.heap.size v (catB ls k) ∧ Keep No w wr) (fun _ i _ => ls.length - (intOf i).toNat)
      case atStart => exact ⟨0, Nat.zero_le _, rfl, by rw [catB_zero]; exact hown0, hk0⟩
      case round =>
        clear hown0 hk0
        obtain ⟨k, hk, rfl, hown, hkp⟩ := hrel
        by_cases hlt : k < ls.length
        · rcases hcells with rfl | ⟨g, o, rfl, hcells⟩
          · simp at hlt
          · have hku : k < us.length := by omega
            have hc := hkp.cell (hcells k us[k] (List.getElem?_eq_getElem hku)) (fun h => h)
            have hlk : ls[k]? = some ls[k] := List.getElem?_eq_getElem hlt
            have hb := (hbs k _ _ (List.getElem?_eq_getElem hku) hlk).no hkp
            have hs := catB_succ hlk
            have hle := catLen_le ls (k + 1)
            rw [catLen_succ hlk] at hle
            unfold catLen at hle
            have hki : (k : Int) < (ls.length : Int) := by omega
            have HS := Lib.hid hs
            generalize us[k] = u at *
            generalize ls[k] = l at *
            clear hs hbs hcells hlk
            have hBs := hkp.size
            go_wp2_with (at_builtin; refine wpList_append_bytes rfl _ _ rfl w.heap.size hown hb rfl rfl (by omega) hBs ?_; intro v' w' hown' hk')
            go_roundw
            case rel => exact ⟨k + 1, by omega, by go_num, by rw [HS.out]; exact hown', hkp.trans hk' (fun x hx hxx => by have := (hown.lt x hxx).1; omega)⟩
            case measure => simp [intOf]; omega
        · have hki : ¬ (k : Int) < (ls.length : Int) := by omega
          obtain rfl : k = ls.length := by omega
          clear hki hlt hk
          go_wp2
          go_ret
          exact ⟨_, rfl, by rw [← catB_all]; exact hown, hkp⟩
end Go.Proofs.Ytpjggnfiocplmaa

/-! ## Map -/
namespace Go.Proofs.Ytpjggnfiocplmaa
open Go Go.RowKit

abbrev AMap := List (Int × Bytes)
def mget (m : AMap) (k : Int) : Option Bytes := (m.find? (fun e => e.1 == k)).map (·.2)
def mset : AMap → Int → Bytes → AMap
  | [], k, l => [(k, l)]
  | e :: m, k, l => if e.1 == k then (k, l) :: m else e :: mset m k l
def mdel : AMap → Int → AMap
  | [], _ => []
  | e :: m, k => if e.1 == k then m else e :: mdel m k
def msum : AMap → Nat
  | [] => 0
  | e :: m => e.2.length + msum m
def Keys (m : AMap) : Prop := m.Pairwise (fun a b => a.1 ≠ b.1)

theorem pairwise_inj {α β : Type} {f : α → β} : ∀ {l : List α}, l.Pairwise (fun a b => f a ≠ f b) → ∀ a ∈ l, ∀ b ∈ l, f a = f b → a = b := by
  intro l h
  induction h with
  | nil => intro a ha; cases ha
  | cons h _ ih =>
    intro a ha b hb e
    rcases List.mem_cons.1 ha with rfl | ha' <;> rcases List.mem_cons.1 hb with rfl | hb'
    · rfl
    · exact absurd e (h b hb')
    · exact absurd e.symm (h a ha')
    · exact ih a ha' b hb' e

def EntryAt [bn : Inhabited Ban] (base : Nat) (w : World) (e : MapEntry) (kv : Int × Bytes) : Prop := e.key = .int .u64 kv.1 ∧ BytesAt base w e.val kv.2

/-- The entries of a block, and what they stand for. -/
structure Ents [bn : Inhabited Ban] (base : Nat) (w : World) (es : List MapEntry) (clock : Nat) (m : AMap) : Prop where
  len : es.length = m.length
  all : ∀ p ∈ es.zip m, EntryAt base w p.1 p.2
  born : es.Pairwise (fun a b => a.born < b.born)
  clock : ∀ e ∈ es, e.born < clock
  keys : Keys m

def MapAt [bn : Inhabited Ban] (base : Nat) (w : World) (r : Nat) (m : AMap) : Prop := ∃ es clock, w.heap[r]? = some (.map es clock) ∧ Ents base w es.toList clock m

theorem Ents.keep [bn : Inhabited Ban] {base : Nat} {w w' : World} {es : List MapEntry} {clock : Nat} {m : AMap} {F : Nat → Prop} (h : Ents base w es clock m) (hF : Foot base w F) (k : Keep F w w') : Ents base w' es clock m :=
  ⟨h.len, fun p hp => ⟨(h.all p hp).1, (h.all p hp).2.keep hF k⟩, h.born, h.clock, h.keys⟩
theorem MapAt.keep [bn : Inhabited Ban] {base : Nat} {w w' : World} {r : Nat} {m : AMap} {F : Nat → Prop} (h : MapAt base w r m) (hF : Foot base w F) (k : Keep F w w') (hr : ¬ F r) : MapAt base w' r m := by
  obtain ⟨es, clock, hb, he⟩ := h
  exact ⟨es, clock, k.heap hb hr, he.keep hF k⟩
theorem MapAt.no [bn : Inhabited Ban] {base : Nat} {w w' : World} {r : Nat} {m : AMap} (h : MapAt base w r m) (k : Keep No w w') : MapAt base w' r m := h.keep (Foot.no _ _) k (fun h => h)
theorem MapAt.keys [bn : Inhabited Ban] {base : Nat} {w : World} {r : Nat} {m : AMap} (h : MapAt base w r m) : Keys m := by obtain ⟨_, _, _, he⟩ := h; exact he.keys
theorem MapAt.lt [bn : Inhabited Ban] {base : Nat} {w : World} {r : Nat} {m : AMap} (h : MapAt base w r m) : r < w.heap.size := by obtain ⟨_, _, hb, _⟩ := h; exact heap_lt hb
theorem MapAt.foot [bn : Inhabited Ban] {base : Nat} {w : World} {r : Nat} {m : AMap} (h : MapAt base w r m) (hb : base ≤ r) : Foot base w (· = r) := by
  obtain ⟨es, clock, hr, _⟩ := h
  rintro b rfl
  exact ⟨hb, heap_lt hr, fun cs fr e => by rw [hr] at e; cases e⟩

theorem findNow_ents [bn : Inhabited Ban] {base : Nat} {w : World} {k : Int} : ∀ (es : List MapEntry) (m : AMap) (i : Nat), es.length = m.length → (∀ p ∈ es.zip m, EntryAt base w p.1 p.2) →
    (mget m k = none ∧ Instr.findNow (.int .u64) (.int .u64 k) es i = some none ∧ (∀ e ∈ m, e.1 ≠ k)) ∨
    ∃ j v l, mget m k = some l ∧ Instr.findNow (.int .u64) (.int .u64 k) es i = some (some (i + j, v)) ∧ BytesAt base w v l ∧ j < es.length ∧ m[j]? = some (k, l) ∧ (es[j]?).map (·.val) = some v ∧ (es[j]?).map (·.key) = some (.int .u64 k) ∧ (∀ i' e, i' < j → m[i']? = some e → e.1 ≠ k) := by
  intro es
  induction es with
  | nil =>
    intro m i hl _
    cases m with
    | nil => exact .inl ⟨rfl, rfl, fun e he => by cases he⟩
    | cons => simp at hl
  | cons e es ih =>
    intro m i hl hall
    cases m with
    | nil => simp at hl
    | cons kv m =>
      have h0 := hall (e, kv) (by simp)
      obtain ⟨hk, hv⟩ := h0
      simp only at hk hv
      by_cases hkk : kv.1 = k
      · refine .inr ⟨0, e.val, kv.2, by simp [mget, hkk], ?_, hv, by simp, by simp [← hkk], by simp, by simp [hk, hkk], fun i' _ h => by omega⟩
        simp [Instr.findNow, hk, Instr.sameNow, hkk]
      · have hne : ¬ k = kv.1 := fun h => hkk h.symm
        have hbe : (k == kv.1) = false := by simpa using hne
        rcases ih m (i + 1) (by simpa using hl) (fun p hp => hall p (by simp [hp])) with ⟨h1, h2, h3⟩ | ⟨j, v, l, h1, h2, h3, h4, h5, h6, h7, h8⟩
        · refine .inl ⟨?_, ?_, ?_⟩
          · simpa [mget, List.find?_cons, hkk] using h1
          · simpa [Instr.findNow, hk, Instr.sameNow, hbe] using h2
          · intro x hx
            rcases List.mem_cons.1 hx with rfl | hx
            · exact hkk
            · exact h3 x hx
        · refine .inr ⟨j + 1, v, l, ?_, ?_, h3, by simpa using h4, by simpa using h5, by simpa using h6, by simpa using h7, ?_⟩
          · simpa [mget, List.find?_cons, hkk] using h1
          · simp only [Instr.findNow, hk, Instr.sameNow, if_true, hbe, h2]; congr 3; omega
          · intro i' x hi hx
            cases i' with
            | zero => simp at hx; subst hx; exact hkk
            | succ i' => exact h8 i' x (by omega) (by simpa using hx)

theorem isKey64 (k : Int) : MapKept.IsKey (.int .u64) (.int .u64 k) := by simp [MapKept.IsKey]

theorem zeroBytes (w : World) : (zeroValue 27).run Try.prog w = .ok (.slice none 0 0) w := by kernel_rfl

/-- A look-up, in whatever world that has this block. -/
theorem run_lookup [bn : Inhabited Ban] {base : Nat} {w : World} {r : Nat} {m : AMap} (h : MapAt base w r m) (k : Int) : ∃ v, BytesAt base w v ((mget m k).getD []) ∧ ∀ w' : World, w'.heap[r]? = w.heap[r]? →
    (Instr.lookup 96 (.map (some r)) (.int .u64 k) false).run Try.prog w' = .ok v w' ∧
    (Instr.lookup 96 (.map (some r)) (.int .u64 k) true).run Try.prog w' = .ok (.tuple #[v, .bool (mget m k).isSome]) w' := by
  obtain ⟨es, clock, hb, he⟩ := h
  rcases findNow_ents (k := k) es.toList m 0 he.len he.all with ⟨h1, h2, _⟩ | ⟨j, v, l, h1, h2, h3, _⟩
  · refine ⟨.slice none 0 0, by rw [h1]; exact BytesAt.nil _ _, fun w' hw => ?_⟩
    rw [hb] at hw
    refine ⟨?_, ?_⟩ <;>
      simp [Instr.lookup, run_underlying Try.underlying96, MapKept.run_getObj_map hw, MapKept.run_checkKey Try.underlying26 (isKey64 k), MapKept.run_findKey Try.underlying26 h2, h1, Result.andThen]
  · refine ⟨v, by rw [h1]; exact h3, fun w' hw => ?_⟩
    rw [hb] at hw
    refine ⟨?_, ?_⟩ <;>
      simp [Instr.lookup, run_underlying Try.underlying96, MapKept.run_getObj_map hw, MapKept.run_checkKey Try.underlying26 (isKey64 k), MapKept.run_findKey Try.underlying26 h2, h1, Result.andThen]

theorem mset_append {m : AMap} {k : Int} {l : Bytes} (h : ∀ e ∈ m, e.1 ≠ k) : mset m k l = m ++ [(k, l)] := by
  induction m with
  | nil => rfl
  | cons e m ih => simp [mset, h e (by simp), ih (fun x hx => h x (by simp [hx]))]
theorem mset_modify {k : Int} {l l0 : Bytes} : ∀ {m : AMap} {j : Nat}, m[j]? = some (k, l0) → (∀ i' e, i' < j → m[i']? = some e → e.1 ≠ k) → mset m k l = m.set j (k, l) := by
  intro m
  induction m with
  | nil => intro j h; simp at h
  | cons e m ih =>
    intro j h hj
    cases j with
    | zero => simp at h; subst h; simp [mset]
    | succ j =>
      have h0 := hj 0 e (by omega) (by simp)
      simp [mset, h0]
      exact ih (by simpa using h) (fun i' x hi hx => hj (i' + 1) x (by omega) (by simpa using hx))
theorem mdel_none {m : AMap} {k : Int} (h : ∀ e ∈ m, e.1 ≠ k) : mdel m k = m := by
  induction m with
  | nil => rfl
  | cons e m ih => simp [mdel, h e (by simp), ih (fun x hx => h x (by simp [hx]))]
theorem mdel_erase {k : Int} {l0 : Bytes} : ∀ {m : AMap} {j : Nat}, m[j]? = some (k, l0) → (∀ i' e, i' < j → m[i']? = some e → e.1 ≠ k) → mdel m k = m.eraseIdx j := by
  intro m
  induction m with
  | nil => intro j h; simp at h
  | cons e m ih =>
    intro j h hj
    cases j with
    | zero => simp at h; subst h; simp [mdel]
    | succ j =>
      have h0 := hj 0 e (by omega) (by simp)
      simp [mdel, h0]
      exact ih (by simpa using h) (fun i' x hi hx => hj (i' + 1) x (by omega) (by simpa using hx))
theorem mem_mset {m : AMap} {k : Int} {l : Bytes} {e : Int × Bytes} (h : e ∈ mset m k l) : e = (k, l) ∨ e ∈ m := by
  induction m with
  | nil => simp [mset] at h; exact .inl h
  | cons x m ih =>
    simp only [mset] at h
    split at h
    · rcases List.mem_cons.1 h with h | h
      · exact .inl h
      · exact .inr (by simp [h])
    · rcases List.mem_cons.1 h with h | h
      · exact .inr (by simp [h])
      · rcases ih h with h | h
        · exact .inl h
        · exact .inr (by simp [h])
theorem Keys.set {m : AMap} (h : Keys m) (k : Int) (l : Bytes) : Keys (mset m k l) := by
  induction h with
  | nil => simp [mset, Keys]
  | @cons x m h1 h2 ih =>
    simp only [mset]
    split
    · rename_i hx
      simp only [beq_iff_eq] at hx
      exact List.Pairwise.cons (fun b hb => by simpa [hx] using h1 b hb) h2
    · rename_i hx
      simp only [beq_iff_eq] at hx
      refine List.Pairwise.cons (fun b hb => ?_) ih
      rcases mem_mset hb with rfl | hb
      · exact hx
      · exact h1 b hb
theorem mem_mdel {m : AMap} {k : Int} {e : Int × Bytes} (h : e ∈ mdel m k) : e ∈ m := by
  induction m with
  | nil => simp [mdel] at h
  | cons x m ih =>
    simp only [mdel] at h
    split at h
    · simp [h]
    · rcases List.mem_cons.1 h with h | h
      · simp [h]
      · simp [ih h]
theorem Keys.del {m : AMap} (h : Keys m) (k : Int) : Keys (mdel m k) := by
  induction h with
  | nil => simp [mdel, Keys]
  | @cons x m h1 h2 ih =>
    simp only [mdel]
    split
    · exact h2
    · exact List.Pairwise.cons (fun b hb => h1 b (mem_mdel hb)) ih

/-- A store. -/
theorem run_store [bn : Inhabited Ban] {base : Nat} {w : World} {r : Nat} {m : AMap} (h : MapAt base w r m) (hr : base ≤ r) (k : Int) {v : Value} {l : Bytes} (hv : BytesAt base w v l) :
    ∃ w', (Instr.mapUpdate 96 (.map (some r)) (.int .u64 k) v).run Try.prog w = .ok () w' ∧ MapAt base w' r (mset m k l) ∧ Keep (· = r) w w' := by
  have hfoot := h.foot hr
  obtain ⟨es, clock, hb, he⟩ := h
  have hlt := heap_lt hb
  have fin : ∀ (es' : Array MapEntry) (clock' : Nat) (m' : AMap), Ents base w es'.toList clock' m' → MapAt base { w with heap := w.heap.setIfInBounds r (.map es' clock') } r m' ∧ Keep (· = r) w { w with heap := w.heap.setIfInBounds r (.map es' clock') } := by
    intro es' clock' m' he'
    have hk : Keep (· = r) w { w with heap := w.heap.setIfInBounds r (.map es' clock') } := Keep.setObj (F := (· = r)) (Keep.refl _ w) (r := r) (.inl rfl) _
    exact ⟨⟨es', clock', by simp [hlt], he'.keep hfoot hk⟩, hk⟩
  rcases findNow_ents (k := k) es.toList m 0 he.len he.all with ⟨h1, h2, h3⟩ | ⟨j, v0, l0, h1, h2, _, h4, h5, h6, h7, h8⟩
  · refine ⟨_, ?_, fin (es.push { key := .int .u64 k, val := v, born := clock }) (clock + 1) _ ?_⟩
    · simp [Instr.mapUpdate, run_underlying Try.underlying96, MapKept.run_getObj_map hb, MapKept.run_checkKey Try.underlying26 (isKey64 k), MapKept.run_findKey Try.underlying26 h2, MapKept.run_setObj_map _ hb, Result.andThen]
    · rw [mset_append h3]
      refine ⟨by simpa using he.len, ?_, ?_, ?_, ?_⟩
      · intro p hp
        rw [Array.toList_push, List.zip_append he.len] at hp
        rcases List.mem_append.1 hp with hp | hp
        · exact he.all p hp
        · simp at hp; subst hp; exact ⟨rfl, hv⟩
      · rw [Array.toList_push]
        refine List.pairwise_append.2 ⟨he.born, List.pairwise_singleton _ _, fun a ha b hb => ?_⟩
        simp at hb; subst hb; exact he.clock a ha
      · intro e hee
        rw [Array.toList_push] at hee
        rcases List.mem_append.1 hee with hee | hee
        · have := he.clock e hee; omega
        · simp at hee; subst hee; simp
      · have := he.keys.set k l
        rw [mset_append h3] at this
        exact this
  · have hj : j < es.size := by simpa using h4
    simp only [Nat.zero_add] at h2
    have hkey : (es[j]?).map (·.key) = some (.int .u64 k) := by simpa using h7
    refine ⟨_, ?_, fin (es.modify j fun e => { e with key := .int .u64 k, val := v }) clock _ ?_⟩
    · simp [Instr.mapUpdate, run_underlying Try.underlying96, MapKept.run_getObj_map hb, MapKept.run_checkKey Try.underlying26 (isKey64 k), MapKept.run_findKey Try.underlying26 h2, hkey, MapKept.run_keyThatStays (isKey64 k), MapKept.run_setObj_map _ hb, Result.andThen]
    · rw [mset_modify h5 h8]
      have hborn : ∀ (i : Nat), ((es.modify j fun e => { e with key := .int .u64 k, val := v })[i]?).map (fun e : MapEntry => e.born) = (es[i]?).map (fun e : MapEntry => e.born) := by
        intro i
        rw [Array.getElem?_modify]
        split
        · cases es[i]? <;> rfl
        · rfl
      have hb' : (es.modify j fun e => { e with key := .int .u64 k, val := v }).toList.map (fun e : MapEntry => e.born) = es.toList.map (fun e : MapEntry => e.born) := by
        apply List.ext_getElem?
        intro i
        rw [List.getElem?_map, List.getElem?_map, Array.getElem?_toList, Array.getElem?_toList]
        exact hborn i
      refine ⟨by simpa using he.len, ?_, ?_, ?_, ?_⟩
      · intro p hp
        obtain ⟨i, hi⟩ := List.mem_iff_getElem?.1 hp
        rw [List.getElem?_zip_eq_some] at hi
        obtain ⟨h1', h2'⟩ := hi
        rw [Array.getElem?_toList, Array.getElem?_modify] at h1'
        rw [List.getElem?_set] at h2'
        by_cases hij : j = i
        · subst hij
          have hjm : j < m.length := (List.getElem?_eq_some_iff.1 h5).1
          simp [hjm] at h2'
          simp [hj] at h1'
          rw [← h1', ← h2']
          exact ⟨rfl, hv⟩
        · simp [hij] at h1' h2'
          refine he.all p (List.mem_iff_getElem?.2 ⟨i, ?_⟩)
          rw [List.getElem?_zip_eq_some]
          exact ⟨by simpa using h1', h2'⟩
      · have := he.born
        rw [← List.pairwise_map (f := fun e : MapEntry => e.born) (R := fun a b => a < b)] at this ⊢
        rw [hb']; exact this
      · intro e hee
        have : e.born ∈ es.toList.map (fun e : MapEntry => e.born) := by rw [← hb']; exact List.mem_map_of_mem hee
        obtain ⟨e', he', heq⟩ := List.mem_map.1 this
        rw [← heq]; exact he.clock e' he'
      · have := he.keys.set k l
        rw [mset_modify h5 h8] at this
        exact this

/-- delete. -/
theorem run_del [bn : Inhabited Ban] {base : Nat} {w : World} {r : Nat} {m : AMap} (h : MapAt base w r m) (hr : base ≤ r) (k : Int) :
    ∃ w', (∀ ty, (Builtin.delete_ #[96, 26] ty #[.map (some r), .int .u64 k]).run Try.prog w = .ok (.tuple #[]) w') ∧ MapAt base w' r (mdel m k) ∧ Keep (· = r) w w' := by
  have hfoot := h.foot hr
  obtain ⟨es, clock, hb, he⟩ := h
  have hlt := heap_lt hb
  have fin : ∀ (es' : Array MapEntry) (m' : AMap), Ents base w es'.toList clock m' → MapAt base { w with heap := w.heap.setIfInBounds r (.map es' clock) } r m' ∧ Keep (· = r) w { w with heap := w.heap.setIfInBounds r (.map es' clock) } := by
    intro es' m' he'
    have hk : Keep (· = r) w { w with heap := w.heap.setIfInBounds r (.map es' clock) } := Keep.setObj (F := (· = r)) (Keep.refl _ w) (r := r) (.inl rfl) _
    exact ⟨⟨es', clock, by simp [hlt], he'.keep hfoot hk⟩, hk⟩
  rcases findNow_ents (k := k) es.toList m 0 he.len he.all with ⟨h1, h2, h3⟩ | ⟨j, v0, l0, h1, h2, _, h4, h5, h6, h7, h8⟩
  · refine ⟨_, fun ty => ?_, fin es _ ?_⟩
    · simp [Builtin.delete_, run_underlying Try.underlying96, MapKept.run_getObj_map hb, MapKept.run_checkKey Try.underlying26 (isKey64 k), MapKept.run_findKey Try.underlying26 h2, MapKept.run_setObj_map _ hb, Result.andThen]
    · rw [mdel_none h3]; exact he
  · have hj : j < es.size := by simpa using h4
    simp only [Nat.zero_add] at h2
    refine ⟨_, fun ty => ?_, fin (es.eraseIdxIfInBounds j) _ ?_⟩
    · simp [Builtin.delete_, run_underlying Try.underlying96, MapKept.run_getObj_map hb, MapKept.run_checkKey Try.underlying26 (isKey64 k), MapKept.run_findKey Try.underlying26 h2, MapKept.run_setObj_map _ hb, Result.andThen]
    · have hjm : j < m.length := (List.getElem?_eq_some_iff.1 h5).1
      have hlist : (es.eraseIdxIfInBounds j).toList = es.toList.eraseIdx j := by
        simp [Array.eraseIdxIfInBounds, hj]
      have hzip : ∀ {α β : Type} (a : List α) (b : List β) (j : Nat), (a.eraseIdx j).zip (b.eraseIdx j) = (a.zip b).eraseIdx j := by
        intro α β a
        induction a with
        | nil => intro b j; simp
        | cons x a ih =>
          intro b j
          cases b with
          | nil => simp
          | cons y b =>
            cases j with
            | zero => rfl
            | succ j => simp [ih]
      rw [mdel_erase h5 h8, hlist]
      refine ⟨by rw [List.length_eraseIdx_of_lt h4, List.length_eraseIdx_of_lt hjm, he.len], ?_, he.born.sublist (List.eraseIdx_sublist _ _), fun e hee => he.clock e (List.mem_of_mem_eraseIdx hee), he.keys.sublist (List.eraseIdx_sublist _ _)⟩
      intro p hp
      rw [hzip] at hp
      exact he.all p (List.mem_of_mem_eraseIdx hp)

/-! ### Ranging over a map -/
structure IterAt [bn : Inhabited Ban] (base : Nat) (w : World) (it r : Nat) (m left : AMap) : Prop where
  ex : ∃ es clock seen, w.heap[it]? = some (.mapIter (some r) clock seen clock) ∧ w.heap[r]? = some (.map es clock) ∧ Ents base w es.toList clock m ∧
    left = ((es.toList.zip m).filter (fun p => !seen.contains p.1.born)).map (·.2)

theorem mem_zip_left {α β : Type} {p : α × β} {a : List α} {b : List β} (h : p ∈ a.zip b) : p.1 ∈ a := (List.of_mem_zip (a := p.1) (b := p.2) h).1

theorem run_range [bn : Inhabited Ban] {base : Nat} {w : World} {r : Nat} {m : AMap} (h : MapAt base w r m) : ∃ o, (Instr.range 96 (.map (some r))).run Try.prog w = .ok (.pointer (some ⟨w.heap.size, 0, none⟩)) (w.alloc o) ∧
    IterAt base (w.alloc o) w.heap.size r m m := by
  obtain ⟨es, clock, hb, he⟩ := h
  have hk : Keep No w (w.alloc (.mapIter (some r) clock #[] clock)) := (Keep.refl _ w).alloc _
  refine ⟨.mapIter (some r) clock #[] clock, ?_, ⟨es, clock, #[], heap_new w _, hk.heap hb (fun h => h), he.keep (Foot.no _ _) hk, ?_⟩⟩
  · simp [Instr.range, run_underlying Try.underlying96, MapKept.run_getObj_map hb, newObj, Sem.run, Result.andThen]
  · have e : (es.toList.zip m).filter (fun p => !(#[] : Array Nat).contains p.1.born) = es.toList.zip m := List.filter_eq_self.2 (fun p _ => by simp)
    rw [e]
    exact (List.map_snd_zip (by rw [he.len]; exact Nat.le_refl _)).symm

theorem run_next [bn : Inhabited Ban] {base : Nat} {w : World} {it r : Nat} {m left : AMap} (h : IterAt base w it r m left) (hit : base ≤ it) (ty : TypeId) :
    (left = [] ∧ (Instr.next (.pointer (some ⟨it, 0, none⟩)) false ty).run Try.prog w = .ok (.tuple #[.bool false]) w) ∨
    ∃ kv ∈ left, ∃ v w', BytesAt base w v kv.2 ∧ (Instr.next (.pointer (some ⟨it, 0, none⟩)) false ty).run Try.prog w = .ok (.tuple #[.bool true, .int .u64 kv.1, v]) w' ∧
      (Instr.entry (.pointer (some ⟨it, 0, none⟩))).run Try.prog w' = .ok (.tuple #[.int .u64 kv.1, v]) w' ∧
      IterAt base w' it r m (left.filter (fun e => e.1 != kv.1)) ∧ Keep (· = it) w w' := by
  obtain ⟨es, clock, seen, hi, hb, he, hl⟩ := h.ex
  have hfoot : Foot base w (· = it) := by
    rintro b rfl
    exact ⟨hit, heap_lt hi, fun cs fr e => by rw [hi] at e; cases e⟩
  have hrne : r ≠ it := by rintro rfl; rw [hi] at hb; cases hb
  have hleft : (leftOf es seen).toList = ((es.toList.zip m).filter (fun p => !seen.contains p.1.born)).map (·.1) := by
    have e : es.toList = (es.toList.zip m).map (·.1) := (List.map_fst_zip (by rw [he.len]; exact Nat.le_refl _)).symm
    have : (leftOf es seen).toList = es.toList.filter (fun e => !seen.contains e.born) := by simp [leftOf]
    rw [this]
    conv => lhs; rw [e]
    rw [List.filter_map]
    rfl
  rcases run_next_at (P := Try.prog) w ty it r clock clock seen es clock hi hb he.clock (Nat.le_refl _) with ⟨h0, hrun⟩ | ⟨e, hel, w1, hw1, hrun⟩
  · left
    refine ⟨?_, hrun⟩
    have : (leftOf es seen).toList = [] := List.eq_nil_of_length_eq_zero (by simpa using h0)
    rw [hleft] at this
    rw [hl, List.map_eq_nil_iff.1 this]
    rfl
  · right
    rw [hleft] at hel
    obtain ⟨p, hp, rfl⟩ := List.mem_map.1 hel
    obtain ⟨hpz, hps⟩ := List.mem_filter.1 hp
    obtain ⟨hpk, hpv⟩ := he.all p hpz
    have hk : Keep (· = it) w (ChangeMaps.setBlock w1 it (.mapIter (some r) clock (seen.push p.1.born) clock)) := by
      rcases hw1 with rfl | rfl
      · exact Keep.setObj (F := (· = it)) (Keep.refl _ w1) (r := it) (.inl rfl) _
      · exact Keep.setObj (F := (· = it)) (Keep.drew (Keep.refl _ w)) (r := it) (.inl rfl) _
    have hil : it < w1.heap.size := by rcases hw1 with rfl | rfl <;> exact heap_lt hi
    have hi' : (ChangeMaps.setBlock w1 it (.mapIter (some r) clock (seen.push p.1.born) clock)).heap[it]? = some (.mapIter (some r) clock (seen.push p.1.born) clock) := by
      simp [ChangeMaps.setBlock, hil]
    have hb' := hk.heap hb hrne
    have hnd : (es.toList.map (fun e : MapEntry => e.born)).Nodup := by
      rw [List.nodup_iff_pairwise_ne, List.pairwise_map]
      exact he.born.imp (fun h => Nat.ne_of_lt h)
    rw [hpk] at hrun
    refine ⟨p.2, by rw [hl]; exact List.mem_map_of_mem hp, p.1.val, _, hpv, hrun, ?_, ⟨es, clock, seen.push p.1.born, hi', hb', he.keep hfoot hk, ?_⟩, hk⟩
    · rw [run_entry_at _ it r clock seen es clock p.1 hi' hb' (mem_zip_left hpz) hnd, hpk]
    · rw [hl, List.filter_map]
      congr 1
      rw [List.filter_filter]
      apply List.filter_congr
      intro q hq
      have hborn : (es.toList.zip m).Pairwise (fun a b => a.1.born ≠ b.1.born) := by
        have := he.born.imp (S := fun a b : MapEntry => a.born ≠ b.born) (fun h => Nat.ne_of_lt h)
        have e : es.toList = (es.toList.zip m).map (·.1) := (List.map_fst_zip (by rw [he.len]; exact Nat.le_refl _)).symm
        rw [e, List.pairwise_map] at this
        exact this
      have hkeys : (es.toList.zip m).Pairwise (fun a b => a.2.1 ≠ b.2.1) := by
        have := he.keys
        unfold Keys at this
        have e : m = (es.toList.zip m).map (·.2) := (List.map_snd_zip (by rw [he.len]; exact Nat.le_refl _)).symm
        rw [e, List.pairwise_map] at this
        exact this
      have hiff : q.1.born = p.1.born ↔ q.2.1 = p.2.1 := by
        constructor
        · intro h; rw [pairwise_inj (f := fun a : MapEntry × (Int × Bytes) => a.1.born) hborn q hq p hpz h]
        · intro h; rw [pairwise_inj (f := fun a : MapEntry × (Int × Bytes) => a.2.1) hkeys q hq p hpz h]
      by_cases h1 : q.1.born = p.1.born
      · simp [h1, hiff.1 h1]
      · have h2 : ¬ q.2.1 = p.2.1 := fun h => h1 (hiff.2 h)
        simp [h1, h2]

/-- How many are left: for a loop's measure. -/
def leftNum (w : World) (it : Nat) : Nat := match w.heap[it]? with
  | some (.mapIter (some r) _ seen _) => (match w.heap[r]? with | some (.map es _) => (leftOf es seen).size | _ => 0)
  | _ => 0
theorem IterAt.num [bn : Inhabited Ban] {base : Nat} {w : World} {it r : Nat} {m left : AMap} (h : IterAt base w it r m left) : leftNum w it = left.length := by
  obtain ⟨es, clock, seen, hi, hb, he, hl⟩ := h.ex
  have e : es.toList = (es.toList.zip m).map (·.1) := (List.map_fst_zip (by rw [he.len]; exact Nat.le_refl _)).symm
  have h1 : (leftOf es seen).toList = es.toList.filter (fun e => !seen.contains e.born) := by simp [leftOf]
  have h2 : (leftOf es seen).size = left.length := by
    rw [← Array.length_toList, h1, hl, List.length_map]
    conv => lhs; rw [e]
    rw [List.filter_map, List.length_map]
    rfl
  simp only [leftNum, hi, hb, h2]
theorem msum_filter {m : AMap} (h : Keys m) {kv : Int × Bytes} (hm : kv ∈ m) : msum m = kv.2.length + msum (m.filter (fun e => e.1 != kv.1)) := by
  induction h with
  | nil => cases hm
  | @cons x m h1 h2 ih =>
    rcases List.mem_cons.1 hm with rfl | hm
    · have e : m.filter (fun e => e.1 != kv.1) = m := List.filter_eq_self.2 (fun y hy => by simpa using (h1 y hy).symm)
      simp [msum, e]
    · have := h1 kv hm
      simp [msum, this, ih hm]
      omega
theorem length_filter {m : AMap} (h : Keys m) {kv : Int × Bytes} (hm : kv ∈ m) : (m.filter (fun e => e.1 != kv.1)).length + 1 = m.length := by
  induction h with
  | nil => cases hm
  | @cons x m h1 h2 ih =>
    rcases List.mem_cons.1 hm with rfl | hm
    · have e : m.filter (fun e => e.1 != kv.1) = m := List.filter_eq_self.2 (fun y hy => by simpa using (h1 y hy).symm)
      simp [e]
    · have := h1 kv hm
      simp [this, ih hm]
theorem Keys.filter {m : AMap} (h : Keys m) (p : Int × Bytes → Bool) : Keys (m.filter p) := h.sublist List.filter_sublist
theorem IterAt.keep [bn : Inhabited Ban] {base : Nat} {w w' : World} {it r : Nat} {m left : AMap} {F : Nat → Prop} (h : IterAt base w it r m left) (hF : Foot base w F) (k : Keep F w w') (h1 : ¬ F it) (h2 : ¬ F r) : IterAt base w' it r m left := by
  obtain ⟨es, clock, seen, hi, hb, he, hl⟩ := h.ex
  exact ⟨es, clock, seen, k.heap hi h1, k.heap hb h2, he.keep hF k, hl⟩
end Go.Proofs.Ytpjggnfiocplmaa

/-! ## DrawB -/
namespace Go.Dr
open Go
section
variable {P : Program} {ops : Array Oper} {Q : Exit → Act → World → Prop} {md : Region.Mode} {S : World → Prop} {T : Nat → Bool}

def forcedPre (md : Region.Mode) (ops : Array Oper) : List Nat → Array Bool → Bool
  | [], _ => true
  | i :: r, listed => Region.ready md ops listed == [i] && forcedPre md ops r (listed.setIfInBounds i true)

theorem mid_pre : ∀ (m : List Nat) (Ms : List Oper), Picks ops m Ms → ∀ (fuel : Nat) (listed : Array Bool) (a : Act) (w : World) (K : Act → World → Prop), Closed md ops listed → S w → forcedPre md ops m listed = true →
    midOk P ops Q S K Ms a w → (∀ a w, S w → Closed md ops (setAll m listed) → K a w → wpAnyT P md ops Q S T fuel (setAll m listed) a w) → wpAnyT P md ops Q S T (fuel + m.length) listed a w := by
  intro m Ms hp
  induction hp using Picks.rec' with
  | h0 => intro fuel listed a w K hcl hS hf h hK; exact hK a w hS hcl h
  | h1 i o r l hi _ ih =>
    intro fuel listed a w K hcl hS hf h hK
    simp only [forcedPre, Bool.and_eq_true, beq_iff_eq] at hf
    rw [List.length_cons, ← Nat.add_assoc]
    have hr : i ∈ Region.ready md ops listed := by rw [hf.1]; simp
    refine ⟨fun h0 => (by rw [hf.1] at h0; cases h0), fun j hj => ?_⟩
    rw [hf.1, List.mem_singleton] at hj
    subst hj
    unfold midOk at h
    unfold wpOp
    simp only [hi]
    split
    · rename_i hw
      rw [if_pos hw] at h
      exact .inl (Oper.wp_mono (fun a' w' h' => ⟨fun _ => h'.1, ih fuel _ a' w' K (hcl.set hr) h'.1 hf.2 h'.2 hK⟩) h)
    · rename_i hw
      rw [if_neg hw] at h
      exact ⟨fun _ => h.1, ih fuel _ _ w K (hcl.set hr) h.1 hf.2 h.2 hK⟩

def drawCheck2 (ops : Array Oper) (E m E2 m2 : List Nat) : Bool :=
  Region.noSelect ops && takeable .any ops (fun _ => false) E (Array.replicate ops.size false) && forcedPre .any ops m (setAll E (Array.replicate ops.size false)) &&
    takeable .any ops (fun _ => false) E2 (setAll m (setAll E (Array.replicate ops.size false))) && forcedSeq .any ops m2 (setAll E2 (setAll m (setAll E (Array.replicate ops.size false)))) &&
    (E.length + (m.length + (E2.length + m2.length)) == ops.size)

theorem setAll_closed : ∀ (E : List Nat) (listed : Array Bool), Closed md ops listed → takeable md ops T E listed = true → Closed md ops (setAll E listed) := by
  intro E
  induction E with
  | nil => intro listed h _; exact h
  | cons i r ih =>
    intro listed h ht
    simp only [takeable, Bool.and_eq_true, Bool.not_eq_true'] at ht
    obtain ⟨⟨⟨⟨_, hr⟩, _⟩, _⟩, ht⟩ := ht
    exact ih _ (h.set (by simpa using hr)) ht

/-- **A region that leaves its order open, in four parts.** -/
theorem wp_drawN2 {id : Nat} {a : Act} {w : World} (S : World → Prop) (E m E2 m2 : List Nat) (hm : P.follows .mixedOrders = true)
    (hc : (drawCheck2 ops E m E2 m2 && ((m ++ m2).all fun i => decide (i < ops.size))) = true)
    (hQ : ∀ c a d v w, Q (.panic c) (Act.put a (some d) v) w → Q (.panic c) a w) (hS : S w.drew)
    (h : earlyN P ops S (fun _ a' => midN P ops Q S (fun a2 w2 => earlyN P ops S (fun _ a3 => midN P ops Q S (fun a4 w4 => wpList P ops Q [] a4 w4) m2 a3 w2) E2 [] a2) m a' w.drew) E [] a) : (Code.region id ops true).wp P Q a w := by
  simp only [Bool.and_eq_true, List.all_append] at hc
  obtain ⟨hc, hm', ht'⟩ := hc
  simp only [drawCheck2, Bool.and_eq_true, beq_iff_eq] at hc
  obtain ⟨⟨⟨⟨⟨h1, h2⟩, h3⟩, h4⟩, h5⟩, h6⟩ := hc
  obtain ⟨Es, hE, he⟩ := earlyOk_of_N E [] a h
  obtain ⟨Ms, hM⟩ := picks_all ops m hm'
  obtain ⟨Ms2, hM2⟩ := picks_all ops m2 ht'
  refine wp_region_any hm (wpAny_of_T (S := S) (T := fun _ => false) _ _ _ _ ?_)
  generalize hl : Array.replicate ops.size false = l at h2 h3 h4 h5 ⊢
  have hcl : Closed .any ops l := by
    intro j o hj hl'
    have hlt : j < ops.size := (Array.getElem?_eq_some_iff.1 hj).1
    subst hl
    simp [hlt] at hl'
  rw [← h6, Nat.add_comm]
  refine early_take h1 hQ hS E Es hE (m.length + (E2.length + m2.length)) _ a hcl h2 he ?_
  intro a' ha'
  rw [Nat.add_comm]
  refine mid_pre m Ms hM (E2.length + m2.length) _ a' _ _ (setAll_closed E l hcl h2) hS h3 (midOk_of_N m Ms hM a' _ ha') ?_
  intro a2 w2 hS2 hcl2 hK
  obtain ⟨Es2, hE2, he2⟩ := earlyOk_of_N E2 [] a2 hK
  rw [Nat.add_comm]
  refine early_take h1 hQ hS2 E2 Es2 hE2 m2.length _ a2 hcl2 h4 he2 ?_
  intro a3 ha3
  exact mid_take m2 Ms2 hM2 _ [] [] .nil (by simp) _ a3 _ (fun i hi => by simp at hi) (by simpa using h5) (midOk_of_N m2 Ms2 hM2 a3 _ ha3)
end
end Go.Dr

/-! ## DrawC -/
namespace Go.Dr
open Go
section
variable {P : Program} {ops : Array Oper} {Q : Exit → Act → World → Prop} {S : World → Prop}

def total : List (List Nat × List Nat) → Nat
  | [] => 0
  | (E, m) :: r => total r + m.length + E.length
def stagesCheck (ops : Array Oper) : List (List Nat × List Nat) → Array Bool → Bool
  | [], listed => (Region.ready .any ops listed).isEmpty
  | (E, m) :: r, listed => takeable .any ops (fun _ => false) E listed && forcedPre .any ops m (setAll E listed) && (m.all fun i => decide (i < ops.size)) && stagesCheck ops r (setAll m (setAll E listed))
def stagesN (P : Program) (ops : Array Oper) (Q : Exit → Act → World → Prop) (S : World → Prop) : List (List Nat × List Nat) → Act → World → Prop
  | [], a, w => wpList P ops Q [] a w
  | (E, m) :: r, a, w => earlyN P ops S (fun _ a' => midN P ops Q S (fun a2 w2 => stagesN P ops Q S r a2 w2) m a' w) E [] a

theorem stages_take (hs : Region.noSelect ops = true) (hQ : ∀ c a d v w, Q (.panic c) (Act.put a (some d) v) w → Q (.panic c) a w) :
    ∀ (st : List (List Nat × List Nat)) (listed : Array Bool) (a : Act) (w : World), Closed .any ops listed → S w → stagesCheck ops st listed = true → stagesN P ops Q S st a w → wpAnyT P .any ops Q S (fun _ => false) (total st) listed a w := by
  intro st
  induction st with
  | nil =>
    intro listed a w _ _ hc h
    simp only [stagesCheck, List.isEmpty_iff] at hc
    exact ⟨hc, h⟩
  | cons e r ih =>
    obtain ⟨E, m⟩ := e
    intro listed a w hcl hS hc h
    simp only [stagesCheck, Bool.and_eq_true] at hc
    obtain ⟨⟨⟨h2, h3⟩, hm'⟩, h4⟩ := hc
    simp only [stagesN] at h
    obtain ⟨Es, hE, he⟩ := earlyOk_of_N E [] a h
    obtain ⟨Ms, hM⟩ := picks_all ops m hm'
    refine early_take hs hQ hS E Es hE (total r + m.length) _ a hcl h2 he ?_
    intro a' ha'
    refine mid_pre m Ms hM (total r) _ a' _ _ (setAll_closed E listed hcl h2) hS h3 (midOk_of_N m Ms hM a' _ ha') ?_
    intro a2 w2 hS2 hcl2 hK
    exact ih _ a2 w2 hcl2 hS2 h4 hK

/-- **A region that leaves its order open, in stages.** -/
theorem wp_drawS {id : Nat} {a : Act} {w : World} (S : World → Prop) (st : List (List Nat × List Nat)) (hm : P.follows .mixedOrders = true)
    (hc : (Region.noSelect ops && stagesCheck ops st (Array.replicate ops.size false) && (total st == ops.size)) = true)
    (hQ : ∀ c a d v w, Q (.panic c) (Act.put a (some d) v) w → Q (.panic c) a w) (hS : S w.drew)
    (h : stagesN P ops Q S st a w.drew) : (Code.region id ops true).wp P Q a w := by
  simp only [Bool.and_eq_true, beq_iff_eq] at hc
  obtain ⟨⟨h1, h2⟩, h3⟩ := hc
  refine wp_region_any hm (wpAny_of_T (S := S) (T := fun _ => false) _ _ _ _ ?_)
  generalize hl : Array.replicate ops.size false = l at h2 ⊢
  have hcl : Closed .any ops l := by
    intro j o hj hl'
    have hlt : j < ops.size := (Array.getElem?_eq_some_iff.1 hj).1
    subst hl
    simp [hlt] at hl'
  rw [← h3]
  exact stages_take h1 hQ st l a w.drew hcl hS h2 h
end
end Go.Dr
