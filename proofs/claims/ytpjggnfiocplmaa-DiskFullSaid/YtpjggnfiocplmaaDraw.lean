/- A region that leaves its order open: the operations that only compute or read are taken first, in the text's order; the others come up one by one. No program is named here. -/
import Derived.OrdersHeld
import Derived.Tactics
import Derived.Laws.World
namespace Go.Dr
open Go
section
variable {P : Program} {ops : Array Oper} {Q : Exit → Act → World → Prop} {md : Region.Mode} {S : World → Prop} {T : Nat → Bool}

def needs (md : Region.Mode) (ops : Array Oper) : Nat → Nat → Nat → Bool
  | 0, _, _ => false
  | f + 1, j, i => ((ops[j]?).map (·.after.any fun e => Region.binds md e && (e.on == i || needs md ops f e.on i))).getD false

def Closed (md : Region.Mode) (ops : Array Oper) (listed : Array Bool) : Prop :=
  ∀ j o, ops[j]? = some o → listed.getD j false = true → ∀ e ∈ o.after, Region.binds md e = true → listed.getD e.on false = true

theorem getD_false_of_true {listed : Array Bool} {i : Nat} (h : listed.getD i true = false) : listed.getD i false = false := by
  rcases Nat.lt_or_ge i listed.size with h' | h'
  · simp [h'] at h ⊢; exact h
  · simp [Array.getElem?_eq_none h'] at h

theorem needs_listed {listed : Array Bool} (hc : Closed md ops listed) : ∀ f j i o, ops[j]? = some o →
    (∀ e ∈ o.after, Region.binds md e = true → listed.getD e.on false = true) → needs md ops f j i = true → listed.getD i false = true := by
  intro f
  induction f with
  | zero => intro j i o _ _ h; simp [needs] at h
  | succ f ih =>
    intro j i o ho hall h
    simp only [needs, ho, Option.map_some, Option.getD_some] at h
    obtain ⟨e, he, hb⟩ := Array.any_eq_true'.1 h
    simp only [Bool.and_eq_true, Bool.or_eq_true, beq_iff_eq] at hb
    have hl := hall e he hb.1
    rcases hb.2 with hb | hb
    · rw [← hb]; exact hl
    · cases hoe : ops[e.on]? with
      | none =>
        cases f with
        | zero => simp [needs] at hb
        | succ f => simp [needs, hoe] at hb
      | some o' => exact ih e.on i o' hoe (hc e.on o' hoe hl) hb

theorem Closed.set {listed : Array Bool} {i : Nat} (hc : Closed md ops listed) (hi : i ∈ Region.ready md ops listed) :
    Closed md ops (listed.setIfInBounds i true) := by
  intro j o ho hl e he hb
  by_cases hij : i = j
  · subst hij
    obtain ⟨_, o', ho', hall⟩ := mem_ready.1 hi
    rw [ho] at ho'
    cases ho'
    exact getD_set_true (hall e he hb)
  · rw [getD_set_ne false hij] at hl
    exact getD_set_true (hc j o ho hl e he hb)

def wpAnyT (P : Program) (md : Region.Mode) (ops : Array Oper) (Q : Exit → Act → World → Prop) (S : World → Prop) (T : Nat → Bool) :
    Nat → Array Bool → Act → World → Prop
  | 0, listed, a, w => Region.ready md ops listed = [] ∧ Q .normal a w
  | fuel + 1, listed, a, w =>
    (Region.ready md ops listed = [] → Q .normal a w) ∧
    ∀ i ∈ Region.ready md ops listed, wpOp P ops Q i (fun a' w' => (T i = false → S w') ∧ wpAnyT P md ops Q S T fuel (listed.setIfInBounds i true) a' w') a w

theorem wpAny_of_T : ∀ (fuel : Nat) (listed : Array Bool) (a : Act) (w : World), wpAnyT P md ops Q S T fuel listed a w → wpAny P md ops Q fuel listed a w
  | 0, _, _, _, h => h
  | fuel + 1, _, _, _, h => ⟨h.1, fun i hi => wpOp_mono (fun a' w' h' => wpAny_of_T fuel _ a' w' h'.2) (h.2 i hi)⟩

theorem wpAnyT_first {i : Nat} {oi : Oper} {v : Value} (hi : ops[i]? = some oi) (hsel : ∀ (j : Nat) (o : Oper) cs b, ops[j]? = some o → o.op ≠ .select cs b)
    (hQ : ∀ c a w, Q (.panic c) (a.put oi.dst v) w → Q (.panic c) a w) (hTi : T i = false)
    (hT : ∀ j, j < ops.size → T j = true → needs md ops ops.size j i = true) :
    ∀ (fuel : Nat) (listed : Array Bool) (a : Act) (w : World), Closed md ops listed →
      (∀ j oj, ops[j]? = some oj → j ≠ i → listed.getD j true = false → (∀ e ∈ oj.after, Region.binds md e = true → e.on ≠ i) → oi.apart ops oj = true) →
      i ∈ Region.ready md ops listed → YieldsIf P ops S oi v a → S w →
      wpAnyT P md ops Q S T fuel (listed.setIfInBounds i true) (a.put oi.dst v) w → wpAnyT P md ops Q S T (fuel + 1) listed a w := by
  intro fuel
  induction fuel with
  | zero =>
    intro listed a w _ _ hr hy hS H
    refine ⟨fun h => (by rw [h] at hr; cases hr), fun j hj => ?_⟩
    by_cases hji : j = i
    · subst hji; exact hy.wpOp hi hS ⟨fun _ => hS, H⟩
    · have := ready_mono hj hji
      rw [H.1] at this
      cases this
  | succ fuel ih =>
    intro listed a w hcl hfree hr hy hS H
    refine ⟨fun h => (by rw [h] at hr; cases hr), fun j hj => ?_⟩
    by_cases hji : j = i
    · subst hji; exact hy.wpOp hi hS ⟨fun _ => hS, H⟩
    · have h1 := H.2 j (ready_mono hj hji)
      obtain ⟨hjun, oj, hoj, hall⟩ := mem_ready.1 hj
      have hiun := getD_false_of_true (mem_ready.1 hr).1
      have hnot : ∀ e ∈ oj.after, Region.binds md e = true → e.on ≠ i := fun e he hb heq => by
        have h2 := hall e he hb
        rw [heq, hiun] at h2
        cases h2
      have hTj : T j = false := by
        cases hTj : T j with
        | false => rfl
        | true =>
          have hn := hT j (Array.getElem?_eq_some_iff.1 hoj).1 hTj
          have := needs_listed hcl _ j i oj hoj hall hn
          rw [hiun] at this
          cases this
      have h2 := wpOp_putIf hoj (hfree j oj hoj hji hjun hnot) (fun cs b => hsel i oi cs b hi) (fun cs b => hsel j oj cs b hoj) hQ hy h1
      have hfree' : ∀ k ok, ops[k]? = some ok → k ≠ i → (listed.setIfInBounds j true).getD k true = false →
          (∀ e ∈ ok.after, Region.binds md e = true → e.on ≠ i) → oi.apart ops ok = true := fun k ok hk hki hun hno => by
        refine hfree k ok hk hki ?_ hno
        by_cases hjk : j = k
        · subst hjk; exact hjun
        · rw [getD_set_ne true hjk] at hun; exact hun
      refine wpOp_mono (fun a' w' h3 => ⟨fun _ => h3.2.1 hTj, ih (listed.setIfInBounds j true) a' w' (hcl.set hj) hfree' (ready_mono hr (Ne.symm hji)) h3.1 (h3.2.1 hTj) ?_⟩) h2
      rw [Array.setIfInBounds_comm _ _ hji]
      exact h3.2.2

def Picks (ops : Array Oper) : List Nat → List Oper → Prop
  | [], [] => True
  | i :: r, o :: l => ops[i]? = some o ∧ Picks ops r l
  | _, _ => False
theorem Picks.nil : Picks ops [] [] := trivial
theorem Picks.cons {i : Nat} {o : Oper} {r : List Nat} {l : List Oper} (h : ops[i]? = some o) (t : Picks ops r l) : Picks ops (i :: r) (o :: l) := ⟨h, t⟩
/-- Induction over what is picked. -/
theorem Picks.rec' {C : (t : List Nat) → (a : List Oper) → Picks ops t a → Prop} (h0 : C [] [] Picks.nil) (h1 : ∀ i o r l (h : ops[i]? = some o) (t : Picks ops r l), C r l t → C (i :: r) (o :: l) (Picks.cons h t)) :
    ∀ {t : List Nat} {a : List Oper} (h : Picks ops t a), C t a h := by
  intro t
  induction t with
  | nil =>
    intro a h
    cases a with
    | nil => exact h0
    | cons => exact h.elim
  | cons i r ih =>
    intro a h
    cases a with
    | nil => exact h.elim
    | cons o l => exact h1 i o r l h.1 h.2 (ih h.2)

/-- Each of these operations, one behind the other, yields a value in every world of S. -/
def earlyOk (P : Program) (ops : Array Oper) (S : World → Prop) (K : Act → Prop) : List Oper → Act → Prop
  | [], a => K a
  | o :: r, a => ∃ v, o.dst.isSome = true ∧ YieldsIf P ops S o v a ∧ earlyOk P ops S K r (a.put o.dst v)

theorem earlyOk_nil {K : Act → Prop} {a : Act} (h : K a) : earlyOk P ops S K [] a := h
theorem earlyOk_cons {K : Act → Prop} {r : List Oper} {a : Act} {o : Oper} {v : Value} (hd : o.dst.isSome = true) (hg : o.guard = none)
    (hv : ∀ w, S w → (execOp a.eval o).run P w = .ok (.value v) w) (h : earlyOk P ops S K r (a.put o.dst v)) : earlyOk P ops S K (o :: r) a :=
  ⟨v, hd, .inl ⟨by simp [Region.wanted, hg], hv⟩, h⟩
theorem earlyOk_guarded {K : Act → Prop} {r : List Oper} {a : Act} {o : Oper} {v : Value} (hd : o.dst.isSome = true) (hg : Region.wanted o (yielded ops a.tmps) = true)
    (hv : ∀ w, S w → (execOp a.eval o).run P w = .ok (.value v) w) (h : earlyOk P ops S K r (a.put o.dst v)) : earlyOk P ops S K (o :: r) a :=
  ⟨v, hd, .inl ⟨hg, hv⟩, h⟩
theorem earlyOk_skip {K : Act → Prop} {r : List Oper} {a : Act} {o : Oper} (hd : o.dst.isSome = true) (hg : Region.wanted o (yielded ops a.tmps) = false)
    (h : earlyOk P ops S K r (a.put o.dst undef)) : earlyOk P ops S K (o :: r) a :=
  ⟨undef, hd, .inr ⟨hg, rfl⟩, h⟩

def takeable (md : Region.Mode) (ops : Array Oper) (T : Nat → Bool) : List Nat → Array Bool → Bool
  | [], _ => true
  | i :: r, listed => Region.free md ops listed i && (Region.ready md ops listed).contains i && !T i &&
      (List.range ops.size).all (fun j => !T j || needs md ops ops.size j i) && takeable md ops T r (listed.setIfInBounds i true)

def setAll : List Nat → Array Bool → Array Bool
  | [], l => l
  | i :: r, l => setAll r (l.setIfInBounds i true)

theorem early_take (hs : Region.noSelect ops = true) (hQ : ∀ c a d v w, Q (.panic c) (Act.put a (some d) v) w → Q (.panic c) a w) {K : Act → Prop} {w : World} (hS : S w) :
    ∀ (E : List Nat) (Es : List Oper), Picks ops E Es → ∀ (fuel : Nat) (listed : Array Bool) (a : Act), Closed md ops listed → takeable md ops T E listed = true → earlyOk P ops S K Es a →
      (∀ a', K a' → wpAnyT P md ops Q S T fuel (setAll E listed) a' w) → wpAnyT P md ops Q S T (fuel + E.length) listed a w := by
  intro E Es hp
  induction hp using Picks.rec' with
  | h0 => intro fuel listed a _ _ h hK; exact hK a h
  | h1 i o r l hi _ ih =>
    intro fuel listed a hcl ht h hK
    obtain ⟨v, hd, hy, h⟩ := h
    simp only [takeable, Bool.and_eq_true, Bool.not_eq_true', List.all_eq_true, List.mem_range, Bool.or_eq_true] at ht
    obtain ⟨⟨⟨⟨hf, hr⟩, hTi⟩, hT⟩, ht⟩ := ht
    have hr' : i ∈ Region.ready md ops listed := by simpa using hr
    obtain ⟨d, hd'⟩ := Option.isSome_iff_exists.1 hd
    rw [List.length_cons, ← Nat.add_assoc]
    refine wpAnyT_first hi (Region.noSelect_spec hs) (fun c a w => by rw [hd']; exact hQ c a d v w) hTi (fun j hj hTj => (hT j hj).resolve_left (by simp [hTj]))
      (fuel + r.length) listed a w hcl (Region.free_spec hi hf) hr' hy hS ?_
    exact ih fuel _ _ (hcl.set hr') ht h hK

def forcedSeq (md : Region.Mode) (ops : Array Oper) : List Nat → Array Bool → Bool
  | [], listed => (Region.ready md ops listed).isEmpty
  | i :: r, listed => Region.ready md ops listed == [i] && forcedSeq md ops r (listed.setIfInBounds i true)

/-- The next ones, one by one; behind each of them S is shown anew. -/
def midOk (P : Program) (ops : Array Oper) (Q : Exit → Act → World → Prop) (S : World → Prop) (K : Act → World → Prop) : List Oper → Act → World → Prop
  | [], a, w => K a w
  | o :: r, a, w => if Region.wanted o (yielded ops a.tmps) then o.wp P a w (fun a' w' => S w' ∧ midOk P ops Q S K r a' w') Q else S w ∧ midOk P ops Q S K r (a.put o.dst undef) w

theorem midOk_nil {K : Act → World → Prop} {a : Act} {w : World} (h : K a w) : midOk P ops Q S K [] a w := h
theorem midOk_cons {K : Act → World → Prop} {r : List Oper} {a : Act} {w : World} {o : Oper} (hg : o.guard = none)
    (h : ∀ K' : Act → World → Prop, (∀ a w, S w → midOk P ops Q S K r a w → K' a w) → o.wp P a w K' Q) : midOk P ops Q S K (o :: r) a w := by
  unfold midOk
  rw [if_pos (by simp [Region.wanted, hg])]
  exact h _ (fun a w hS h => ⟨hS, h⟩)

theorem late_take (fuel : Nat) : ∀ (t : List Nat) (Ts : List Oper), Picks ops t Ts → t.length = fuel → ∀ (listed : Array Bool) (a : Act) (w : World), (∀ i ∈ t, T i = true) → forcedSeq md ops t listed = true →
    wpList P ops Q Ts a w → wpAnyT P md ops Q S T fuel listed a w := by
  intro t Ts hp
  induction hp using Picks.rec' generalizing fuel with
  | h0 =>
    rintro rfl listed a w _ hf h
    simp only [forcedSeq, List.isEmpty_iff] at hf
    exact ⟨hf, h⟩
  | h1 i o r l hi _ ih =>
    rintro rfl listed a w hT hf h
    simp only [forcedSeq, Bool.and_eq_true, beq_iff_eq] at hf
    refine ⟨fun h0 => (by rw [hf.1] at h0; cases h0), fun j hj => ?_⟩
    rw [hf.1, List.mem_singleton] at hj
    subst hj
    refine wpOp_mono (fun a' w' h' => ⟨fun hj => (by rw [hT j (by simp)] at hj; cases hj), ih r.length rfl _ a' w' (fun i hi => hT i (by simp [hi])) hf.2 h'⟩) ?_
    unfold wpOp
    simp only [hi]
    exact h

theorem mid_take : ∀ (m : List Nat) (Ms : List Oper), Picks ops m Ms → ∀ (fuel : Nat) (t : List Nat) (Ts : List Oper), Picks ops t Ts → fuel = m.length + t.length → ∀ (listed : Array Bool) (a : Act) (w : World),
    (∀ i ∈ t, T i = true) → forcedSeq md ops (m ++ t) listed = true → midOk P ops Q S (wpList P ops Q Ts) Ms a w → wpAnyT P md ops Q S T fuel listed a w := by
  intro m Ms hp
  induction hp using Picks.rec' with
  | h0 => intro fuel t Ts ht hl listed a w hT hf h; exact late_take fuel t Ts ht (by simpa using hl.symm) listed a w hT hf h
  | h1 i o r l hi _ ih =>
    intro fuel t Ts ht hl listed a w hT hf h
    simp only [List.cons_append, forcedSeq, Bool.and_eq_true, beq_iff_eq] at hf
    obtain ⟨fuel, rfl⟩ : ∃ f, fuel = f + 1 := ⟨r.length + t.length, by simp at hl; omega⟩
    refine ⟨fun h0 => (by rw [hf.1] at h0; cases h0), fun j hj => ?_⟩
    rw [hf.1, List.mem_singleton] at hj
    subst hj
    unfold midOk at h
    unfold wpOp
    simp only [hi]
    split
    · rename_i hw
      rw [if_pos hw] at h
      exact .inl (Oper.wp_mono (fun a' w' h' => ⟨fun _ => h'.1, ih fuel t Ts ht (by simp at hl; omega) _ a' w' hT hf.2 h'.2⟩) h)
    · rename_i hw
      rw [if_neg hw] at h
      exact ⟨fun _ => h.1, ih fuel t Ts ht (by simp at hl; omega) _ _ w hT hf.2 h.2⟩

def drawCheck (ops : Array Oper) (E m t : List Nat) : Bool :=
  Region.noSelect ops && takeable .any ops t.contains E (Array.replicate ops.size false) && forcedSeq .any ops (m ++ t) (setAll E (Array.replicate ops.size false)) &&
    (E.length + (m.length + t.length) == ops.size)

/-- The same, by numbers: each operation is looked up when it is its turn. -/
def earlyN (P : Program) (ops : Array Oper) (S : World → Prop) (K : List Oper → Act → Prop) : List Nat → List Oper → Act → Prop
  | [], l, a => K l a
  | i :: r, l, a => ∃ o v, ops.toList[i]? = some o ∧ o.dst.isSome = true ∧ YieldsIf P ops S o v a ∧ earlyN P ops S K r (l ++ [o]) (a.put o.dst v)
theorem earlyN_nil {K : List Oper → Act → Prop} {l : List Oper} {a : Act} (h : K l a) : earlyN P ops S K [] l a := h
theorem earlyN_cons {K : List Oper → Act → Prop} {i : Nat} {r : List Nat} {l : List Oper} {a : Act} {o : Oper} {v : Value} (hi : ops.toList[i]? = some o) (hd : o.dst.isSome = true) (hg : o.guard = none)
    (hv : ∀ w, S w → (execOp a.eval o).run P w = .ok (.value v) w) (h : earlyN P ops S K r (l ++ [o]) (a.put o.dst v)) : earlyN P ops S K (i :: r) l a :=
  ⟨o, v, hi, hd, .inl ⟨by simp [Region.wanted, hg], hv⟩, h⟩
theorem earlyN_guarded {K : List Oper → Act → Prop} {i : Nat} {r : List Nat} {l : List Oper} {a : Act} {o : Oper} {v : Value} (hi : ops.toList[i]? = some o) (hd : o.dst.isSome = true) (hg : Region.wanted o (yielded ops a.tmps) = true)
    (hv : ∀ w, S w → (execOp a.eval o).run P w = .ok (.value v) w) (h : earlyN P ops S K r (l ++ [o]) (a.put o.dst v)) : earlyN P ops S K (i :: r) l a :=
  ⟨o, v, hi, hd, .inl ⟨hg, hv⟩, h⟩
theorem earlyN_skip {K : List Oper → Act → Prop} {i : Nat} {r : List Nat} {l : List Oper} {a : Act} {o : Oper} (hi : ops.toList[i]? = some o) (hd : o.dst.isSome = true) (hg : Region.wanted o (yielded ops a.tmps) = false)
    (h : earlyN P ops S K r (l ++ [o]) (a.put o.dst undef)) : earlyN P ops S K (i :: r) l a :=
  ⟨o, undef, hi, hd, .inr ⟨hg, rfl⟩, h⟩

def tailN (P : Program) (ops : Array Oper) (Q : Exit → Act → World → Prop) : List Nat → List Oper → Act → World → Prop
  | [], l, a, w => wpList P ops Q l a w
  | i :: r, l, a, w => ∃ o, ops.toList[i]? = some o ∧ tailN P ops Q r (l ++ [o]) a w
theorem tailN_nil {l : List Oper} {a : Act} {w : World} (h : wpList P ops Q l a w) : tailN P ops Q [] l a w := h
theorem tailN_cons {i : Nat} {r : List Nat} {l : List Oper} {a : Act} {w : World} {o : Oper} (hi : ops.toList[i]? = some o) (h : tailN P ops Q r (l ++ [o]) a w) : tailN P ops Q (i :: r) l a w := ⟨o, hi, h⟩

def midN (P : Program) (ops : Array Oper) (Q : Exit → Act → World → Prop) (S : World → Prop) (K : Act → World → Prop) : List Nat → Act → World → Prop
  | [], a, w => K a w
  | i :: r, a, w => ∃ o, ops.toList[i]? = some o ∧ if Region.wanted o (yielded ops a.tmps) then o.wp P a w (fun a' w' => S w' ∧ midN P ops Q S K r a' w') Q else S w ∧ midN P ops Q S K r (a.put o.dst undef) w
theorem midN_nil {K : Act → World → Prop} {a : Act} {w : World} (h : K a w) : midN P ops Q S K [] a w := h
theorem midN_cons {K : Act → World → Prop} {i : Nat} {r : List Nat} {a : Act} {w : World} {o : Oper} (hi : ops.toList[i]? = some o) (hg : o.guard = none)
    (h : ∀ K' : Act → World → Prop, (∀ a w, S w → midN P ops Q S K r a w → K' a w) → o.wp P a w K' Q) : midN P ops Q S K (i :: r) a w := by
  unfold midN
  refine ⟨o, hi, ?_⟩
  rw [if_pos (by simp [Region.wanted, hg])]
  exact h _ (fun a w hS h => ⟨hS, h⟩)

theorem earlyOk_of_N {K : List Oper → Act → Prop} : ∀ (E : List Nat) (l : List Oper) (a : Act), earlyN P ops S K E l a → ∃ Es, Picks ops E Es ∧ earlyOk P ops S (K (l ++ Es)) Es a := by
  intro E
  induction E with
  | nil => intro l a h; exact ⟨[], .nil, by rw [List.append_nil]; exact h⟩
  | cons i r ih =>
    intro l a h
    obtain ⟨o, v, hi, hd, hy, h⟩ := h
    rw [Array.getElem?_toList] at hi
    obtain ⟨Es, hp, he⟩ := ih _ _ h
    refine ⟨o :: Es, .cons hi hp, v, hd, hy, ?_⟩
    rw [List.append_assoc] at he
    exact he
theorem picks_of_tail : ∀ (t : List Nat) (l : List Oper) (a : Act) (w : World), tailN P ops Q t l a w → ∃ Ts, Picks ops t Ts ∧ wpList P ops Q (l ++ Ts) a w := by
  intro t
  induction t with
  | nil => intro l a w h; exact ⟨[], .nil, by rw [List.append_nil]; exact h⟩
  | cons i r ih =>
    intro l a w h
    obtain ⟨o, hi, h⟩ := h
    rw [Array.getElem?_toList] at hi
    obtain ⟨Ts, hp, he⟩ := ih _ _ _ h
    exact ⟨o :: Ts, .cons hi hp, by rw [List.append_assoc] at he; exact he⟩
theorem Picks.uniq : ∀ {t : List Nat} {a b : List Oper}, Picks ops t a → Picks ops t b → a = b := by
  intro t a b ha
  induction ha using Picks.rec' generalizing b with
  | h0 =>
    intro hb
    cases b with
    | nil => rfl
    | cons => exact hb.elim
  | h1 i o r l h _ ih =>
    intro hb
    cases b with
    | nil => exact hb.elim
    | cons o' l' =>
      obtain ⟨h', t'⟩ := hb
      rw [h] at h'
      cases h'
      rw [ih t']
theorem picks_all (ops : Array Oper) : ∀ (t : List Nat), (t.all fun i => decide (i < ops.size)) = true → ∃ Ts, Picks ops t Ts := by
  intro t
  induction t with
  | nil => intro _; exact ⟨[], .nil⟩
  | cons i r ih =>
    intro h
    simp only [List.all_cons, Bool.and_eq_true, decide_eq_true_eq] at h
    obtain ⟨Ts, hp⟩ := ih h.2
    exact ⟨_, .cons (Array.getElem?_eq_getElem h.1) hp⟩
theorem midOk_of_N {K : Act → World → Prop} : ∀ (m : List Nat) (Ms : List Oper), Picks ops m Ms → ∀ (a : Act) (w : World), midN P ops Q S K m a w → midOk P ops Q S K Ms a w := by
  intro m Ms hp
  induction hp using Picks.rec' with
  | h0 => intro a w h; exact h
  | h1 i o r l hi _ ih =>
    intro a w h
    obtain ⟨o, ho, h⟩ := h
    rw [Array.getElem?_toList, hi] at ho
    cases ho
    unfold midOk
    split
    · rename_i hw
      rw [if_pos hw] at h
      exact Oper.wp_mono (fun a w h => ⟨h.1, ih a w h.2⟩) h
    · rename_i hw
      rw [if_neg hw] at h
      exact ⟨h.1, ih _ _ h.2⟩
theorem midOk_mono {K K' : Act → World → Prop} (hK : ∀ a w, K a w → K' a w) : ∀ (Ms : List Oper) (a : Act) (w : World), midOk P ops Q S K Ms a w → midOk P ops Q S K' Ms a w := by
  intro Ms
  induction Ms with
  | nil => intro a w h; exact hK _ _ h
  | cons o r ih =>
    intro a w h
    unfold midOk at h ⊢
    split
    · rename_i hw
      rw [if_pos hw] at h
      exact Oper.wp_mono (fun a w h => ⟨h.1, ih a w h.2⟩) h
    · rename_i hw
      rw [if_neg hw] at h
      exact ⟨h.1, ih _ _ h.2⟩
theorem earlyOk_mono {K K' : Act → Prop} (hK : ∀ a, K a → K' a) : ∀ (Es : List Oper) (a : Act), earlyOk P ops S K Es a → earlyOk P ops S K' Es a := by
  intro Es
  induction Es with
  | nil => intro a h; exact hK _ h
  | cons o r ih =>
    intro a h
    obtain ⟨v, hd, hy, h⟩ := h
    exact ⟨v, hd, hy, ih _ h⟩

theorem wp_draw {id : Nat} {a : Act} {w : World} (S : World → Prop) (E m t : List Nat) {Es Ms Ts : List Oper} (hm : P.follows .mixedOrders = true)
    (hc : drawCheck ops E m t = true) (hE : Picks ops E Es) (hM : Picks ops m Ms) (hT : Picks ops t Ts)
    (hQ : ∀ c a d v w, Q (.panic c) (Act.put a (some d) v) w → Q (.panic c) a w) (hS : S w.drew)
    (h : earlyOk P ops S (fun a' => midOk P ops Q S (wpList P ops Q Ts) Ms a' w.drew) Es a) : (Code.region id ops true).wp P Q a w := by
  simp only [drawCheck, Bool.and_eq_true, beq_iff_eq] at hc
  obtain ⟨⟨⟨h1, h2⟩, h3⟩, h4⟩ := hc
  refine wp_region_any hm (wpAny_of_T (S := S) (T := t.contains) _ _ _ _ ?_)
  generalize hl : Array.replicate ops.size false = l at h2 h3 ⊢
  have hcl : Closed .any ops l := by
    intro j o hj hl'
    have hlt : j < ops.size := (Array.getElem?_eq_some_iff.1 hj).1
    subst hl
    simp [hlt] at hl'
  rw [← h4, Nat.add_comm]
  refine early_take h1 hQ hS E Es hE (m.length + t.length) _ a hcl h2 h ?_
  intro a' ha'
  exact mid_take m Ms hM _ t Ts hT rfl _ a' _ (fun i hi => by simpa using hi) h3 ha'

/-- **A region that leaves its order open.** E: taken first; m: one by one, S shown anew behind each; t: what waits for all of E. -/
theorem wp_drawN {id : Nat} {a : Act} {w : World} (S : World → Prop) (E m t : List Nat) (hm : P.follows .mixedOrders = true)
    (hc : (drawCheck ops E m t && ((m ++ t).all fun i => decide (i < ops.size))) = true)
    (hQ : ∀ c a d v w, Q (.panic c) (Act.put a (some d) v) w → Q (.panic c) a w) (hS : S w.drew)
    (h : earlyN P ops S (fun _ a' => midN P ops Q S (tailN P ops Q t []) m a' w.drew) E [] a) : (Code.region id ops true).wp P Q a w := by
  simp only [Bool.and_eq_true, List.all_append] at hc
  obtain ⟨hc, hm', ht'⟩ := hc
  obtain ⟨Es, hE, he⟩ := earlyOk_of_N E [] a h
  obtain ⟨Ms, hM⟩ := picks_all ops m hm'
  obtain ⟨Ts, hT⟩ := picks_all ops t ht'
  refine wp_draw S E m t hm hc hE hM hT hQ hS (earlyOk_mono (fun a h => ?_) _ _ he)
  refine midOk_mono (fun a w h => ?_) _ _ _ (midOk_of_N m Ms hM a _ h)
  obtain ⟨Ts', hT', h⟩ := picks_of_tail t [] a w h
  rw [hT.uniq hT']
  exact h
end
end Go.Dr
