/- Package pack: In.Num. -/
import Derived.Test.YtgogfnafbeahoaaGreatPackB
import Derived.Laws.BitsAllLaws
namespace Go.Proofs.YtgogfnafbeahoaaGreat
open Go Go.RowKit

/-- The number ahead: it and what is left, or the error. -/
def numP : Nat → Nat → List UInt8 → Except Int (Nat × List UInt8)
  | _, _, [] => .error 2
  | i, acc, b :: r =>
    if i = 9 ∧ 1 < b.toNat then .error 7 else if b.toNat = 0 ∧ 0 < i then .error 2
    else if b.toNat < 128 then .ok (acc + b.toNat * 128 ^ i, r) else numP (i + 1) (acc + b.toNat % 128 * 128 ^ i) r
def InS.numR (s : InS) : Except Int (Nat × List UInt8) → Nat × InS
  | .ok (n, r) => (n, { s with l := r })
  | .error c => (0, s.fail c)
def InS.num (s : InS) : Nat × InS := if s.e = 0 then s.numR (numP 0 0 s.l) else (0, s)
theorem andNot128 (b : UInt8) : bits .andNot .u8 (b.toNat : Int) 128 = ((b.toNat % 128 : Nat) : Int) := by
  have h : ∀ k : Fin 256, bits .andNot .u8 (k.val : Int) 128 = ((k.val % 128 : Nat) : Int) := by decide +kernel
  exact h ⟨b.toNat, b.toNat_lt⟩
theorem num_step {k acc c : Nat} (hk : k ≤ 9) (hacc : acc < 128 ^ k) (h9 : k = 9 → c ≤ 1) :
    bits .or .u64 (acc : Int) (IntKind.u64.wrap ((c : Int) % 128 * 2 ^ (7 * k))) = ((acc + c % 128 * 128 ^ k : Nat) : Int) ∧ acc + c % 128 * 128 ^ k < 128 ^ (k + 1) := by
  have e1 : (128 : Nat) ^ k = 2 ^ (7 * k) := by rw [Nat.pow_mul]
  have hm : c % 128 < 128 := Nat.mod_lt _ (by decide)
  have hX : c % 128 * 2 ^ (7 * k) < 18446744073709551616 := by
    by_cases h : k = 9
    · have := h9 h
      subst h
      have h2 : c % 128 ≤ 1 := by omega
      have := Nat.mul_le_mul_right (2 ^ (7 * 9)) h2
      exact Nat.lt_of_le_of_lt this (by decide)
    · have h2 : (2 : Nat) ^ (7 * k) ≤ 2 ^ 56 := Nat.pow_le_pow_right (by decide) (by omega)
      have := Nat.mul_le_mul (Nat.le_of_lt hm) h2
      exact Nat.lt_of_le_of_lt this (by decide)
  have hA : acc < 18446744073709551616 := by
    have h2 : (128 : Nat) ^ k ≤ 128 ^ 9 := Nat.pow_le_pow_right (by decide) hk
    have h3 : (128 : Nat) ^ 9 < 18446744073709551616 := by decide
    omega
  have e2 : (c : Int) % 128 * 2 ^ (7 * k) = ((c % 128 * 2 ^ (7 * k) : Nat) : Int) := by push_cast; rfl
  constructor
  · rw [e2, wraps_u64 _ (by omega) (by omega), u64_or_nat acc _ hA hX]
    congr 1
    rw [Nat.or_comm, ← Nat.shiftLeft_eq, ← Nat.shiftLeft_add_eq_or_of_lt (by rw [← e1]; exact hacc), Nat.shiftLeft_eq, ← e1]
    exact Nat.add_comm _ _
  · rw [Nat.pow_succ]
    have h2 : c % 128 * 128 ^ k ≤ 127 * 128 ^ k := Nat.mul_le_mul_right _ (by omega)
    generalize (128 : Nat) ^ k = z at *
    omega
set_option maxRecDepth 100000 in
set_option maxHeartbeats 2000000 in
theorem iNum_spec [bn : Inhabited Ban] {base g : Nat} {w : World} {s : InS} (h : InAt base w g s) (hlen : s.l.length ≤ 1099511627776) : Calls Tryz.prog 137 #[.pointer (some ⟨g, 0, none⟩)] w fun e w' => e = .returned (.int .u64 s.num.1) ∧ InAt base w' g s.num.2 ∧ Keep (· = g) w w' := by
  have he := iErr_spec h
  by_cases h0 : s.e = 0
  · obtain ⟨h1, v, h2, h3⟩ := id h
    obtain ⟨ao, cap, rfl⟩ := h3.form
    obtain ⟨hcl, hcm⟩ : s.l.length ≤ cap ∧ cap ≤ maxLen := by obtain ⟨_, _, hq, q1, q2, _⟩ := h3; simp at hq; omega
    have c0 := cell_of h2 0
    have f0 := frozen_of h2
    simp at c0
    have hli : (s.l.length : Int) ≤ 1099511627776 := by omega
    have hfail := fun c => iFail_spec h c
    rw [h0] at he
    obtain ⟨N, hN⟩ : ∃ N, N = numP 0 0 s.l := ⟨_, rfl⟩
    have hnum : s.num = s.numR N := by rw [hN]; unfold InS.num; rw [if_pos h0]
    rw [hnum]
    have HH := Lib.hid (And.intro h (And.intro h3 (And.intro hcl (And.intro hcm hN))))
    clear hnum h h2 h3 hcl hcm hN h0 h1 hlen
    go_enter Tryz.func137, Tryz.ntmps137
    go_wp2_with (go_at_call 132; refine he.mono ?_; rintro e w1 ⟨rfl, rfl⟩)
    go_loopw [3, 14] (fun nv iv wr => ∃ (k acc : Nat), nv = .int .u64 acc ∧ iv = .int .i64 k ∧ k ≤ s.l.length ∧ k ≤ 9 ∧ acc < 128 ^ k ∧ N = numP k acc (s.l.drop k) ∧ wr = w1) (fun _ iv _ => s.l.length - (intOf iv).toNat)
    case atStart => exact ⟨0, 0, rfl, rfl, Nat.zero_le _, Nat.zero_le _, by decide, HH.out.2.2.2.2, rfl⟩
    case round =>
      obtain ⟨k, acc, rfl, rfl, hkl, hk9, hacc, hNk, rfl⟩ := hrel
      by_cases hlt : k < s.l.length
      · obtain ⟨b, hb⟩ : ∃ b, s.l[k]? = some b := ⟨_, List.getElem?_eq_getElem hlt⟩
        have hdrop : s.l.drop k = b :: s.l.drop (k + 1) := by
          obtain ⟨q1, q2⟩ := List.getElem?_eq_some_iff.1 hb
          rw [List.drop_eq_getElem_cons q1, q2]
        rw [hdrop] at hNk
        obtain ⟨ad, hao, hcell⟩ : ∃ ad, ao = some ad ∧ wr.cell? (ad.add k) = some (.int .u8 b.toNat) := by
          obtain ⟨_, _, hq, _, _, _, hc⟩ := HH.out.2.1
          simp only [Value.slice.injEq] at hq
          obtain ⟨rfl, _, rfl⟩ := hq
          obtain ⟨ad, e, _, hc⟩ := hc k b hb
          exact ⟨ad, e, hc⟩
        subst hao
        have hlti : (k : Int) < (s.l.length : Int) := by omega
        have hb256 := b.toNat_lt
        have hbi : (b.toNat : Int) ≤ 255 := by omega
        have han := andNot128 b
        obtain ⟨c, hc⟩ : ∃ c, c = b.toNat := ⟨_, rfl⟩
        rw [← hc] at hcell han hbi hb256
        unfold numP at hNk
        rw [← hc] at hNk
        have HB := Lib.hid (And.intro hNk (And.intro hkl (And.intro hacc (And.intro hb hdrop))))
        have HCC := Lib.hid hc
        clear hNk hkl hacc hb hdrop hc hlt
        have hdone : c < 128 → (k = 9 → c ≤ 1) → ¬ (c = 0 ∧ 0 < k) → N = .ok (acc + c * 128 ^ k, s.l.drop (k + 1)) := fun h1 h2 h3 => by
          rw [HB.out.1, if_neg (by omega), if_neg h3, if_pos h1]
        obtain ⟨o, c', hsl, hsub⟩ := slice_l (some ad) s.l.length cap (k + 1) ((k : Int) + 1) (by simp) (by omega) HH.out.2.2.1
        have hrest := hsub base wr s.l HH.out.2.1
        rw [List.take_length] at hrest
        have hset := HH.out.1.setRest hrest
        have HS := Lib.hid hset
        have hst := fun h => num_step (k := k) (acc := acc) (c := c) hk9 HB.out.2.2.1 h
        have HN := Lib.hid (And.intro hdone hst)
        clear hset hrest hsub hdone hst
        have fin : c < 128 → (k = 9 → c ≤ 1) → ¬ (c = 0 ∧ 0 < k) → (s.numR N).1 = acc + c % 128 * 128 ^ k ∧ (s.numR N).2 = { s with l := s.l.drop (k + 1) } := fun h1 h2 h3 => by
          rw [HN.out.1 h1 h2 h3, Nat.mod_eq_of_lt h1]
          exact ⟨rfl, rfl⟩
        have HF := Lib.hid fin
        clear fin
        by_cases h9 : k = 9
        · have q9 : ((k : Int) == 9) = true := by rw [h9]; rfl
          have hk0i : (0 : Int) < (k : Int) := by omega
          by_cases hc1 : 1 < c
          · have hc1i : (1 : Int) < (c : Int) := by omega
            have hNe : N = .error 7 := by rw [HB.out.1, if_pos ⟨h9, hc1⟩]
            have hf := hfail 7
            have HE := Lib.hid hNe
            clear hNe
            try clear h9
            try clear hz
            go_wp2_with (go_at_call 133; refine hf.mono ?_; rintro e w2 ⟨rfl, hi, k2⟩)
            go_ret
            rw [HE.out]
            exact ⟨rfl, hi, k2⟩
          · have hc1i : ¬ (1 : Int) < (c : Int) := by omega
            by_cases hz : c = 0
            · have qz : ((c : Int) == 0) = true := by rw [hz]; rfl
              have hNe : N = .error 2 := by rw [HB.out.1, if_neg (by omega), if_pos ⟨hz, by omega⟩]
              have hf := hfail 2
              have HE := Lib.hid hNe
              clear hNe
              try clear h9
              try clear hz
              go_wp2_with (go_at_call 133; refine hf.mono ?_; rintro e w2 ⟨rfl, hi, k2⟩)
              go_ret
              rw [HE.out]
              exact ⟨rfl, hi, k2⟩
            · have qz : ((c : Int) == 0) = false := by rw [beq_eq_false_iff_ne]; omega
              have hci : (c : Int) < 128 := by omega
              have hor := (HN.out.2 (fun _ => by omega)).1
              obtain ⟨f1, f2⟩ := HF.out (by omega) (fun _ => by omega) (by omega)
              obtain ⟨M, hM⟩ : ∃ M, M = (s.numR N).1 := ⟨_, rfl⟩
              rw [← f1, ← hM] at hor
              have HE := Lib.hid (And.intro f2 hM)
              clear f1 f2 hM
              try clear h9
              try clear hz
              go_wp2_with fail
              go_ret
              rw [HE.out.1, ← HE.out.2]
              exact ⟨rfl, HS.out, keep_cell _ _⟩
        · have q9 : ((k : Int) == 9) = false := by rw [beq_eq_false_iff_ne]; omega
          by_cases hz : c = 0
          · have qz : ((c : Int) == 0) = true := by rw [hz]; rfl
            have hci : (c : Int) < 128 := by omega
            by_cases hk0 : 0 < k
            · have hk0i : (0 : Int) < (k : Int) := by omega
              have hNe : N = .error 2 := by rw [HB.out.1, if_neg (by omega), if_pos ⟨hz, hk0⟩]
              have hf := hfail 2
              have HE := Lib.hid hNe
              clear hNe
              try clear h9
              try clear hz
              go_wp2_with (go_at_call 133; refine hf.mono ?_; rintro e w2 ⟨rfl, hi, k2⟩)
              go_ret
              rw [HE.out]
              exact ⟨rfl, hi, k2⟩
            · have hk0i : ¬ (0 : Int) < (k : Int) := by omega
              have hor := (HN.out.2 (fun h => by omega)).1
              obtain ⟨f1, f2⟩ := HF.out (by omega) (fun h => by omega) (by omega)
              obtain ⟨M, hM⟩ : ∃ M, M = (s.numR N).1 := ⟨_, rfl⟩
              rw [← f1, ← hM] at hor
              have HE := Lib.hid (And.intro f2 hM)
              clear f1 f2 hM
              try clear h9
              try clear hz
              go_wp2_with fail
              go_ret
              rw [HE.out.1, ← HE.out.2]
              exact ⟨rfl, HS.out, keep_cell _ _⟩
          · have qz : ((c : Int) == 0) = false := by rw [beq_eq_false_iff_ne]; omega
            by_cases h128 : c < 128
            · have hci : (c : Int) < 128 := by omega
              have hor := (HN.out.2 (fun h => by omega)).1
              obtain ⟨f1, f2⟩ := HF.out (by omega) (fun h => by omega) (by omega)
              obtain ⟨M, hM⟩ : ∃ M, M = (s.numR N).1 := ⟨_, rfl⟩
              rw [← f1, ← hM] at hor
              have HE := Lib.hid (And.intro f2 hM)
              clear f1 f2 hM
              try clear h9
              try clear hz
              go_wp2_with fail
              go_ret
              rw [HE.out.1, ← HE.out.2]
              exact ⟨rfl, HS.out, keep_cell _ _⟩
            · have hci : ¬ (c : Int) < 128 := by omega
              obtain ⟨hor, hlt2⟩ := HN.out.2 (fun h => by omega)
              obtain ⟨M, hM⟩ : ∃ M, M = acc + c % 128 * 128 ^ k := ⟨_, rfl⟩
              rw [← hM] at hor hlt2
              have hN2 : N = numP (k + 1) M (s.l.drop (k + 1)) := by rw [HB.out.1, if_neg (by omega), if_neg (by omega), if_neg h128, hM]
              have HE := Lib.hid (And.intro hlt2 hN2)
              clear hlt2 hN2 hM
              go_wp2_with fail
              go_roundw
              case rel => exact ⟨k + 1, M, rfl, by go_num, by omega, by omega, HE.out.1, HE.out.2, trivial⟩
              case measure => simp [intOf]; omega
      · obtain rfl : k = s.l.length := by omega
        have hkk : ¬ (s.l.length : Int) < (s.l.length : Int) := by omega
        have hNe : N = .error 2 := by rw [hNk, List.drop_length]; rfl
        have hf := hfail 2
        have HE := Lib.hid hNe
        clear hNe hNk hkl hk9 hacc hlt
        go_wp2_with (go_at_call 133; refine hf.mono ?_; rintro e w2 ⟨rfl, hi, k2⟩)
        go_ret
        rw [HE.out]
        exact ⟨rfl, hi, k2⟩
  · have hs : s.num = (0, s) := by unfold InS.num; rw [if_neg h0]
    have hq : (s.e == 0) = false := by simpa using h0
    have HH := Lib.hid h
    rw [hs]
    clear hs h
    go_enter Tryz.func137, Tryz.ntmps137
    go_wp2_with (go_at_call 132; refine he.mono ?_; rintro e w1 ⟨rfl, rfl⟩)
    go_ret
    exact ⟨rfl, HH.out, Keep.refl _ _⟩
end Go.Proofs.YtgogfnafbeahoaaGreat
