/- Scripts as text, without any program: words, numbers, events. -/
import Derived.Lib.AtoiTie
import Derived.Lib.AtoiAllCases
import Derived.Lib.AtoiAll
import Derived.Lib.AtoiBound
import Derived.Lib.ItoaLen
import Derived.Lib.Join
namespace Go.Proofs.YtlbjkmpdakmgeaaDoor
open Go

/-! ### Hex -/
def hexD (n : Nat) : UInt8 := if n < 10 then UInt8.ofNat (48 + n) else UInt8.ofNat (87 + n)
def hexB (b : UInt8) : List UInt8 := [hexD (b.toNat / 16), hexD (b.toNat % 16)]
def hexF (p : List UInt8) : List UInt8 := if p = [] then [45] else p.flatMap hexB
def digF (c : UInt8) : Option Nat := if 48 ≤ c.toNat ∧ c.toNat ≤ 57 then some (c.toNat - 48) else if 97 ≤ c.toNat ∧ c.toNat ≤ 102 then some (c.toNat - 87) else none
def pairsF : List UInt8 → Option (List UInt8)
  | [] => some []
  | [_] => none
  | a :: b :: r => match digF a, digF b with
    | some x, some y => (pairsF r).map (UInt8.ofNat (16 * x + y) :: ·)
    | _, _ => none
def unhexF (s : List UInt8) : Option (List UInt8) := if s = [45] then some [] else if s = [] then none else pairsF s

theorem digF_lt {c : UInt8} {x : Nat} (h : digF c = some x) : x < 16 := by
  unfold digF at h
  split at h
  · simp at h; omega
  · split at h
    · simp at h; omega
    · cases h
theorem hexD_digF {c : UInt8} {x : Nat} (h : digF c = some x) : hexD x = c := by
  unfold digF at h
  split at h
  · simp only [Option.some.injEq] at h
    have h10 : x < 10 := by omega
    unfold hexD
    rw [if_pos h10]
    apply UInt8.toNat_inj.1
    simp
    omega
  · split at h
    · simp only [Option.some.injEq] at h
      have h10 : ¬ x < 10 := by omega
      unfold hexD
      rw [if_neg h10]
      apply UInt8.toNat_inj.1
      simp
      omega
    · cases h
theorem digF_hexD {x : Nat} (h : x < 16) : digF (hexD x) = some x := by
  have : ∀ x : Fin 16, digF (hexD x.val) = some x.val := by decide
  exact this ⟨x, h⟩
theorem pairsF_hex : ∀ p : List UInt8, pairsF (p.flatMap hexB) = some p
  | [] => rfl
  | b :: r => by
    have h := b.toNat_lt
    rw [List.flatMap_cons]
    have e0 : hexB b ++ r.flatMap hexB = hexD (b.toNat / 16) :: hexD (b.toNat % 16) :: r.flatMap hexB := rfl
    rw [e0]
    unfold pairsF
    rw [digF_hexD (by omega), digF_hexD (by omega)]
    simp only
    rw [pairsF_hex r]
    have e : UInt8.ofNat (16 * (b.toNat / 16) + b.toNat % 16) = b := by
      apply UInt8.toNat_inj.1
      simp
      omega
    rw [e]
    rfl
theorem hex_pairsF : ∀ (s p : List UInt8), pairsF s = some p → p.flatMap hexB = s
  | [], p, h => by simp [pairsF] at h; subst h; rfl
  | [_], p, h => by simp [pairsF] at h
  | a :: b :: r, p, h => by
    unfold pairsF at h
    cases ha : digF a with
    | none => rw [ha] at h; simp at h
    | some x =>
      cases hb : digF b with
      | none => rw [ha, hb] at h; simp at h
      | some y =>
        rw [ha, hb] at h
        simp only [Option.map_eq_some_iff] at h
        obtain ⟨q, hq, rfl⟩ := h
        have hx := digF_lt ha
        have hy := digF_lt hb
        rw [List.flatMap_cons, hex_pairsF r q hq]
        have e : (UInt8.ofNat (16 * x + y)).toNat = 16 * x + y := by simp; omega
        unfold hexB
        rw [e, show (16 * x + y) / 16 = x by omega, show (16 * x + y) % 16 = y by omega, hexD_digF ha, hexD_digF hb]
        rfl
theorem hexB_ne (p : List UInt8) : p.flatMap hexB ≠ [45] := by
  cases p with
  | nil => simp
  | cons b r => intro h; simp [hexB] at h
theorem unhexF_hexF (p : List UInt8) : unhexF (hexF p) = some p := by
  unfold hexF
  by_cases h : p = []
  · subst h; rfl
  · rw [if_neg h]
    unfold unhexF
    rw [if_neg (hexB_ne p), if_neg (by cases p with | nil => exact absurd rfl h | cons b r => simp [hexB]), pairsF_hex]
theorem hexF_unhexF {s p : List UInt8} (h : unhexF s = some p) : hexF p = s := by
  unfold unhexF at h
  split at h
  · rename_i e; simp at h; subst h; subst e; rfl
  · split at h
    · cases h
    · rename_i h1 h2
      have := hex_pairsF s p h
      unfold hexF
      rw [if_neg ?_, this]
      intro e
      subst e
      exact h2 this.symm

/-! ### Numbers -/
def Int64 (n : Int) : Prop := -9223372036854775808 ≤ n ∧ n ≤ 9223372036854775807
instance (n : Int) : Decidable (Int64 n) := inferInstanceAs (Decidable (_ ∧ _))
def numF (s : List UInt8) : Option Int := match Lib.atoiAll s with
  | .ok n => if Lib.itoa n = s then some n else none
  | _ => none

theorem digits_fold (r : List UInt8) : ∀ u : Nat, u < 18446744073709551616 → Lib.parseUint10 0 (Lib.decDigits u ++ r) = Lib.parseUint10 u r := by
  intro u
  induction u using Nat.strongRecOn generalizing r with
  | _ u ih =>
    intro hu
    have step : ∀ (acc d : Nat), d < 10 → acc * 10 + d < 18446744073709551616 → Lib.parseUint10 acc (UInt8.ofNat (48 + d) :: r) = Lib.parseUint10 (acc * 10 + d) r := by
      intro acc d hd ha
      have e : (UInt8.ofNat (48 + d)).toNat = 48 + d := by simp; omega
      show (if 48 ≤ (UInt8.ofNat (48 + d)).toNat ∧ (UInt8.ofNat (48 + d)).toNat ≤ 57 then _ else _) = _
      rw [e, if_pos (by omega), if_neg (by omega), show 48 + d - 48 = d by omega, if_neg (by omega)]
    by_cases h : u < 10
    · rw [Lib.decDigits_one h]
      show Lib.parseUint10 0 (UInt8.ofNat (48 + u) :: r) = _
      rw [step 0 u h (by omega)]
      simp
    · rw [Lib.decDigits, dif_neg h, List.append_assoc, ih (u / 10) (by omega) _ (by omega)]
      show Lib.parseUint10 (u / 10) (UInt8.ofNat (48 + u % 10) :: r) = _
      rw [step (u / 10) (u % 10) (by omega) (by omega), show u / 10 * 10 + u % 10 = u by omega]
theorem decDigits_ne (u : Nat) : Lib.decDigits u ≠ [] := by
  intro h
  have := Lib.decDigits_length u
  rw [h] at this
  have := Lib.nDigits_pos u
  simp at *
  omega
theorem parseMag_digits {u : Nat} (h : u < 18446744073709551616) : Lib.parseMag (Lib.decDigits u) = .ok u := by
  unfold Lib.parseMag
  rw [if_neg (decDigits_ne u)]
  have := digits_fold [] u h
  rw [List.append_nil] at this
  rw [this]
  rfl
theorem digits_mem : ∀ (u : Nat) (c : UInt8), c ∈ Lib.decDigits u → 48 ≤ c.toNat ∧ c.toNat ≤ 57 := by
  intro u
  induction u using Nat.strongRecOn with
  | _ u ih =>
    intro c hc
    by_cases h : u < 10
    · rw [Lib.decDigits_one h] at hc
      simp at hc
      subst hc
      simp
      omega
    · rw [Lib.decDigits, dif_neg h, List.mem_append] at hc
      rcases hc with hc | hc
      · exact ih (u / 10) (by omega) c hc
      · simp at hc
        subst hc
        simp
        omega
/-- What a number is written with. -/
theorem itoa_mem {n : Int} {c : UInt8} (h : c ∈ Lib.itoa n) : c.toNat = 45 ∨ (48 ≤ c.toNat ∧ c.toNat ≤ 57) := by
  unfold Lib.itoa at h
  split at h
  · rcases List.mem_cons.1 h with h | h
    · left; rw [h]; rfl
    · exact .inr (digits_mem _ _ h)
  · exact .inr (digits_mem _ _ h)
theorem itoa_ne (n : Int) : Lib.itoa n ≠ [] := by
  unfold Lib.itoa
  split
  · simp
  · exact decDigits_ne _
theorem atoi_itoa {n : Int} (h : Int64 n) : Lib.atoiAll (Lib.itoa n) = .ok n := by
  obtain ⟨h0, h1⟩ := h
  unfold Lib.itoa
  by_cases hn : n < 0
  · rw [if_pos hn]
    unfold Lib.atoiAll
    simp only
    rw [show (45 : UInt8).toNat = 45 from rfl]
    simp only [or_true, if_true, not_true_eq_false, false_and, if_false, true_and]
    rw [parseMag_digits (by omega)]
    simp only
    rw [if_neg (by omega)]
    congr 1
    omega
  · rw [if_neg hn]
    have hm := digits_mem n.toNat
    have hp := parseMag_digits (u := n.toNat) (by omega)
    generalize hd : Lib.decDigits n.toNat = l at hm hp
    cases l with
    | nil => exact absurd hd (decDigits_ne _)
    | cons c r =>
      have hc := hm c (by simp)
      unfold Lib.atoiAll
      simp only
      rw [if_neg (by omega), hp]
      simp only
      rw [if_neg (by omega), if_neg (by omega), if_neg (by omega)]
      congr 1
      omega
theorem numF_iff {s : List UInt8} {n : Int} : numF s = some n ↔ Lib.itoa n = s ∧ Int64 n := by
  unfold numF
  constructor
  · intro h
    cases ha : Lib.atoiAll s with
    | ok m =>
      rw [ha] at h
      simp only at h
      split at h
      · rename_i e
        simp at h
        subst h
        exact ⟨e, Lib.atoiAll_bounds ha⟩
      · cases h
    | range => rw [ha] at h; cases h
    | _ => rw [ha] at h; cases h
  · rintro ⟨rfl, h⟩
    rw [atoi_itoa h]
    simp
theorem numF_itoa {n : Int} (h : Int64 n) : numF (Lib.itoa n) = some n := numF_iff.2 ⟨rfl, h⟩

/-! ### The document's numbers -/
def magD (d : List UInt8) (below : Bool) : Option Nat :=
  if d.length < 1 ∨ 19 < d.length ∨ (d.head? = some 48 ∧ (1 < d.length ∨ below = true)) then none else Lib.decFrom 0 d
def numD (s : List UInt8) : Option Int :=
  if s.head? = some 45 then
    match magD s.tail true with
    | some n => if 9223372036854775808 < n then none else some (-(n : Int))
    | none => none
  else match magD s false with
    | some n => if 9223372036854775807 < n then none else some (n : Int)
    | none => none

theorem digit_ofNat {c : UInt8} (h : 48 ≤ c.toNat ∧ c.toNat ≤ 57) : UInt8.ofNat (48 + (c.toNat - 48)) = c := by
  apply UInt8.toNat_inj.1
  simp
  omega
theorem digitVal_of {c : UInt8} (h : 48 ≤ c.toNat ∧ c.toNat ≤ 57) : Lib.digitVal c = some (c.toNat - 48) := by
  unfold Lib.digitVal
  rw [if_pos h]
theorem digits_of_from : ∀ (l : List UInt8) (acc n : Nat), 1 ≤ acc → Lib.decFrom acc l = some n → Lib.decDigits n = Lib.decDigits acc ++ l
  | [], acc, n, _, h => by simp [Lib.decFrom] at h; subst h; simp
  | c :: r, acc, n, ha, h => by
    unfold Lib.decFrom at h
    cases hd : Lib.digitVal c with
    | none => rw [hd] at h; cases h
    | some d =>
      rw [hd] at h
      obtain ⟨h1, h2, rfl⟩ := Lib.digitVal_eq hd
      have := digits_of_from r _ n (by omega) h
      rw [this]
      rw [Lib.decDigits, dif_neg (by omega), show (acc * 10 + (c.toNat - 48)) / 10 = acc by omega, show (acc * 10 + (c.toNat - 48)) % 10 = c.toNat - 48 by omega, digit_ofNat ⟨h1, h2⟩]
      simp
theorem from_digits : ∀ (u : Nat) (r : List UInt8), Lib.decFrom 0 (Lib.decDigits u ++ r) = Lib.decFrom u r := by
  intro u
  induction u using Nat.strongRecOn with
  | _ u ih =>
    intro r
    have step : ∀ (acc d : Nat), d < 10 → Lib.decFrom acc (UInt8.ofNat (48 + d) :: r) = Lib.decFrom (acc * 10 + d) r := by
      intro acc d hd
      have e : (UInt8.ofNat (48 + d)).toNat = 48 + d := by simp; omega
      unfold Lib.decFrom
      rw [digitVal_of (by omega), e, show 48 + d - 48 = d by omega]
      simp only
      cases r <;> rfl
    by_cases h : u < 10
    · rw [Lib.decDigits_one h]
      show Lib.decFrom 0 (UInt8.ofNat (48 + u) :: r) = _
      rw [step 0 u h]
      simp
    · rw [Lib.decDigits, dif_neg h, List.append_assoc, ih (u / 10) (by omega)]
      show Lib.decFrom (u / 10) (UInt8.ofNat (48 + u % 10) :: r) = _
      rw [step _ _ (by omega), show u / 10 * 10 + u % 10 = u by omega]
theorem digits_head : ∀ u : Nat, 1 ≤ u → (Lib.decDigits u).head? ≠ some 48 := by
  intro u
  induction u using Nat.strongRecOn with
  | _ u ih =>
    intro h1 h
    by_cases hu : u < 10
    · rw [Lib.decDigits_one hu] at h
      simp only [List.head?_cons, Option.some.injEq] at h
      have := congrArg UInt8.toNat h
      simp at this
      omega
    · rw [Lib.decDigits, dif_neg hu] at h
      have hne := decDigits_ne (u / 10)
      cases hd : Lib.decDigits (u / 10) with
      | nil => exact hne hd
      | cons a b =>
        rw [hd] at h
        exact ih (u / 10) (by omega) (by omega) (by rw [hd]; simpa using h)
theorem nDigits_le19 {u : Nat} (h : u ≤ 9223372036854775808) : (Lib.decDigits u).length ≤ 19 := by
  rw [Lib.decDigits_length]
  rcases Nat.lt_or_ge 19 (Lib.nDigits u) with h' | h'
  · exfalso
    have h20 := Lib.decDigits_length u
    have : ∀ (k u : Nat), Lib.nDigits u = k + 1 → 1 ≤ u → 10 ^ k ≤ u := by
      intro k
      induction k with
      | zero => intro u _ h; simpa using h
      | succ k ih =>
        intro u hu h1
        by_cases hs : u < 10
        · rw [Lib.nDigits_small hs] at hu; omega
        · rw [Lib.nDigits_big hs] at hu
          have := ih (u / 10) (by omega) (by omega)
          rw [Nat.pow_succ]
          omega
    have h1 : 1 ≤ u := by
      rcases Nat.eq_zero_or_pos u with e | e
      · subst e; rw [Lib.nDigits_small (by omega)] at h'; omega
      · exact e
    have h2 := this (Lib.nDigits u - 1) u (by omega) h1
    have h3 : 10 ^ 19 ≤ 10 ^ (Lib.nDigits u - 1) := Nat.pow_le_pow_right (by decide) (by omega)
    have h4 : (10 : Nat) ^ 19 = 10000000000000000000 := by decide
    omega
  · exact h'
theorem magD_digits {u : Nat} (h : u ≤ 9223372036854775808) {below : Bool} (hb : below = true → 1 ≤ u) : magD (Lib.decDigits u) below = some u := by
  unfold magD
  have hne := decDigits_ne u
  have hl : 1 ≤ (Lib.decDigits u).length := by
    cases hd : Lib.decDigits u with
    | nil => exact absurd hd hne
    | cons a b => simp
  have h19 := nDigits_le19 h
  rw [if_neg ?_]
  · have := from_digits u []
    rw [List.append_nil] at this
    rw [this]
    rfl
  · rintro (h | h | ⟨h, h'⟩)
    · omega
    · omega
    · rcases Nat.eq_zero_or_pos u with e | e
      · subst e
        rcases h' with h' | h'
        · rw [Lib.decDigits_one (by omega)] at h'; simp at h'
        · have := hb h'; omega
      · exact digits_head u e h
theorem digits_magD {d : List UInt8} {below : Bool} {n : Nat} (h : magD d below = some n) : Lib.decDigits n = d ∧ (below = true → 1 ≤ n) := by
  unfold magD at h
  split at h
  · cases h
  · rename_i hg
    cases d with
    | nil => simp at hg
    | cons c r =>
      unfold Lib.decFrom at h
      cases hd : Lib.digitVal c with
      | none => rw [hd] at h; cases h
      | some v =>
        rw [hd] at h
        obtain ⟨h1, h2, rfl⟩ := Lib.digitVal_eq hd
        simp only at h
        by_cases h48 : c = 48
        · subst h48
          simp at hg
          obtain ⟨_, hr, hb⟩ := hg
          subst hr
          have e : n = 0 := by simpa [Lib.decFrom] using h.symm
          subst e
          refine ⟨by rw [Lib.decDigits_one (by omega)]; rfl, fun hh => ?_⟩
          simp [hb] at hh
        · have h49 : 49 ≤ c.toNat := by
            rcases Nat.lt_or_ge c.toNat 49 with h' | h'
            · exact absurd (UInt8.toNat_inj.1 (show c.toNat = (48 : UInt8).toNat by show c.toNat = 48; omega)) h48
            · exact h'
          have hf := digits_of_from r _ n (by omega) h
          rw [hf, Lib.decDigits_one (by omega)]
          refine ⟨?_, fun _ => ?_⟩
          · rw [show 0 * 10 + (c.toNat - 48) = c.toNat - 48 by omega, digit_ofNat ⟨h1, h2⟩]
            rfl
          · rcases Nat.eq_zero_or_pos n with e | e
            · subst e
              rw [Lib.decDigits_one (by omega), Lib.decDigits_one (by omega)] at hf
              simp only [List.cons_append, List.nil_append, List.cons.injEq] at hf
              have := congrArg UInt8.toNat hf.1
              simp at this
              omega
            · exact e
theorem numD_iff {s : List UInt8} {n : Int} : numD s = some n ↔ Lib.itoa n = s ∧ Int64 n := by
  constructor
  · intro h
    unfold numD at h
    split at h
    · rename_i hs
      obtain ⟨r, rfl⟩ : ∃ r, s = 45 :: r := by
        cases s with
        | nil => simp at hs
        | cons a b => simp at hs; subst hs; exact ⟨b, rfl⟩
      simp only [List.tail_cons] at h
      cases hm : magD r true with
      | none => rw [hm] at h; cases h
      | some m =>
        rw [hm] at h
        simp only at h
        split at h
        · cases h
        · simp at h
          obtain ⟨hd, hp⟩ := digits_magD hm
          have := hp rfl
          subst h
          refine ⟨?_, by unfold Int64; omega⟩
          unfold Lib.itoa
          rw [if_pos (by omega), show (-(m : Int)).natAbs = m by omega, hd]
    · cases hm : magD s false with
      | none => rw [hm] at h; cases h
      | some m =>
        rw [hm] at h
        simp only at h
        split at h
        · cases h
        · simp at h
          obtain ⟨hd, _⟩ := digits_magD hm
          subst h
          refine ⟨?_, by unfold Int64; omega⟩
          unfold Lib.itoa
          rw [if_neg (by omega), show ((m : Int)).toNat = m by omega, hd]
  · rintro ⟨rfl, h0, h1⟩
    unfold numD Lib.itoa
    by_cases hn : n < 0
    · rw [if_pos hn]
      simp only [List.head?_cons, if_true, List.tail_cons]
      rw [magD_digits (by omega) (fun _ => by omega)]
      simp only
      rw [if_neg (by omega)]
      congr 1
      omega
    · rw [if_neg hn, if_neg ?_, magD_digits (by omega) (fun h => by cases h)]
      · simp only
        rw [if_neg (by omega)]
        congr 1
        omega
      · intro h
        have := digits_mem n.toNat
        cases hd : Lib.decDigits n.toNat with
        | nil => exact decDigits_ne _ hd
        | cons c r =>
          rw [hd] at h this
          simp at h
          subst h
          have := this 45 (by simp)
          simp at this
theorem numD_eq (s : List UInt8) : numD s = numF s := by
  cases h : numF s with
  | some n => exact numD_iff.2 (numF_iff.1 h)
  | none =>
    cases h' : numD s with
    | none => rfl
    | some n => rw [numF_iff.2 (numD_iff.1 h')] at h; cases h
end Go.Proofs.YtlbjkmpdakmgeaaDoor
