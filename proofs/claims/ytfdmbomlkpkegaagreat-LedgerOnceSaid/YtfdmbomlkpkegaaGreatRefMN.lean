/- The document's marks: sumpterref01.Lay, Sum, Take, Open, Close; sumpterref07.Head, Record. The document's Take and Open. -/
import Derived.Test.YtfdmbomlkpkegaaGreatLogX
import Derived.Deep.DeepCutAuto
import Derived.Deep.CutBlock

/-! ## RefM -/
namespace Go.Proofs.YtfdmbomlkpkegaaGreat
open Go Go.RowKit

/-! ### Bit by bit -/
theorem xor_mod2 (a b : Nat) : (a ^^^ b) % 2 = (a % 2 + b % 2) % 2 := by
  have h := @Nat.xor_mod_two_pow a b 1
  rw [Nat.pow_one] at h
  rw [h]
  rcases Nat.mod_two_eq_zero_or_one a with h1 | h1 <;> rcases Nat.mod_two_eq_zero_or_one b with h2 | h2 <;> rw [h1, h2] <;> rfl
theorem xor_xor (a p : Nat) : a ^^^ p ^^^ p = a := by rw [Nat.xor_assoc, Nat.xor_self, Nat.xor_zero]
def stepN (r : Nat) : Nat := if r % 2 = 0 then r / 2 else r / 2 ^^^ 3988292384
theorem stepN_xor (a b : Nat) : stepN (a ^^^ b) = stepN a ^^^ stepN b := by
  unfold stepN
  rw [xor_mod2, Nat.xor_div_two]
  generalize a / 2 = x
  generalize b / 2 = y
  generalize 3988292384 = p
  rcases Nat.mod_two_eq_zero_or_one a with h1 | h1 <;> rcases Nat.mod_two_eq_zero_or_one b with h2 | h2 <;> simp only [h1, h2] <;> simp
  · rw [Nat.xor_assoc]
  · rw [Nat.xor_assoc, Nat.xor_assoc, Nat.xor_comm p]
  · rw [Nat.xor_assoc, ← Nat.xor_assoc p, Nat.xor_comm p y, xor_xor]
theorem stepN_two (a : Nat) : stepN (2 * a) = a := by
  unfold stepN
  rw [if_pos (by omega)]
  omega
theorem stepN_four (r : Nat) : stepN (stepN (stepN (stepN r))) = halfN r := by
  have h : r = 16 * (r / 16) ^^^ r % 16 := by
    have h1 : r % 16 < 2 ^ 4 := by omega
    have h2 := Nat.two_pow_add_eq_or_of_lt h1 (r / 16)
    have h3 : 16 * (r / 16) ^^^ r % 16 = 16 * (r / 16) ||| r % 16 := by
      apply Nat.eq_of_testBit_eq
      intro i
      rw [Nat.testBit_xor, Nat.testBit_or]
      by_cases hi : i < 4
      · have : (2 ^ 4 * (r / 16)).testBit i = false := by rw [Nat.testBit_two_pow_mul]; simp; omega
        rw [show 16 * (r / 16) = 2 ^ 4 * (r / 16) from rfl, this]; simp
      · have : (r % 16).testBit i = false := Nat.testBit_lt_two_pow (Nat.lt_of_lt_of_le h1 (Nat.pow_le_pow_right (by decide) (by omega)))
        rw [this]; simp
    rw [h3, show 16 * (r / 16) ||| r % 16 = 2 ^ 4 * (r / 16) ||| r % 16 from rfl, ← h2]
    omega
  have h4 : ∀ q, stepN (stepN (stepN (stepN (16 * q)))) = q := by
    intro q
    rw [show 16 * q = 2 * (2 * (2 * (2 * q))) by omega]
    simp only [stepN_two]
  have h5 : ∀ m : Fin 16, stepN (stepN (stepN (stepN m.val))) = tabN m.val := by decide
  have h6 := h5 ⟨r % 16, by omega⟩
  dsimp only at h6
  unfold halfN
  conv => lhs; rw [h]
  simp only [stepN_xor]
  rw [h4, h6]
/-- A bit of the byte comes in. -/
def bstepN (r bit : Nat) : Nat := if r % 2 = bit then r / 2 else r / 2 ^^^ 3988292384
theorem bstepN_step (r c : Nat) : bstepN r (c % 2) ^^^ (c / 2) = stepN (r ^^^ c) := by
  unfold bstepN stepN
  rw [xor_mod2, Nat.xor_div_two]
  generalize r / 2 = x
  generalize c / 2 = y
  generalize 3988292384 = p
  rcases Nat.mod_two_eq_zero_or_one r with h1 | h1 <;> rcases Nat.mod_two_eq_zero_or_one c with h2 | h2 <;> simp only [h1, h2] <;> simp
  · rw [Nat.xor_assoc, Nat.xor_assoc, Nat.xor_comm p]
  · rw [Nat.xor_assoc, Nat.xor_assoc, Nat.xor_comm p]
/-- After k bits. -/
def bitsN (r c : Nat) : Nat → Nat
  | 0 => r
  | k + 1 => bstepN (bitsN r c k) (c / 2 ^ k % 2)
theorem bitsN_step (r c k : Nat) : bitsN r c (k + 1) ^^^ (c / 2 ^ (k + 1)) = stepN (bitsN r c k ^^^ (c / 2 ^ k)) := by
  rw [← bstepN_step, Nat.pow_succ, ← Nat.div_div_eq_div_mul]
  rfl
theorem bitsN_byte (r : Nat) (x : UInt8) : bitsN r x.toNat 8 = byteN r x := by
  have h0 : bitsN r x.toNat 8 = bitsN r x.toNat 8 ^^^ (x.toNat / 2 ^ 8) := by
    have := x.toNat_lt
    rw [show x.toNat / 2 ^ 8 = 0 by omega, Nat.xor_zero]
  rw [h0, bitsN_step, bitsN_step, bitsN_step, bitsN_step, stepN_four, bitsN_step, bitsN_step, bitsN_step, bitsN_step, stepN_four]
  simp [bitsN, byteN]
theorem bitsN_lt (r : Nat) (hr : r < 4294967296) (c : Nat) : ∀ k, bitsN r c k < 4294967296
  | 0 => hr
  | k + 1 => by
    have h := bitsN_lt r hr c k
    unfold bitsN bstepN
    split
    · omega
    · exact Nat.xor_lt_two_pow (n := 32) (by omega) (by omega)

/-! ### Lay, Sum -/
set_option maxRecDepth 100000 in
set_option maxHeartbeats 2000000 in
theorem rLay_spec [bn : Inhabited Ban] {w : World} (hT : ban.top ≤ w.heap.size) (n k : Nat) (hk : k ≤ 8) (hn : n < 2 ^ 64) :
    Calls Tryz.prog 191 #[.int .u64 n, .int .i64 k] w fun e w' => ∃ v, e = .returned v ∧ OwnB w' w.heap.size v (layB n k) ∧ Keep No w w' := by
  have hki : (k : Int) ≤ 8 := by omega
  go_enter Tryz.func191, Tryz.ntmps191
  go_wp2
  go_loopw [0, 5, 6] (fun nv o i wr => ∃ j : Nat, j ≤ k ∧ i = .int .i64 j ∧ nv = .int .u64 (n / 2 ^ (8 * j) : Nat) ∧ OwnB wr w.heap.size o (layB n j) ∧ Keep No w wr) (fun _ _ i _ => k - (intOf i).toNat)
  case atStart => exact ⟨0, Nat.zero_le _, rfl, by simp, OwnB.nil _ _, Keep.refl _ _⟩
  case round =>
    obtain ⟨j, hj, rfl, rfl, hO, hkp⟩ := hrel
    by_cases hlt : j < k
    · have hji : (j : Int) < (k : Int) := by omega
      have hlj := layB_length n j
      obtain ⟨ao, cap, rfl⟩ := hO.form
      have hs := layB_succ n j
      have hd : n / 2 ^ (8 * j) / 256 = n / 2 ^ (8 * (j + 1)) := by
        rw [Nat.div_div_eq_div_mul, show 8 * (j + 1) = 8 * j + 8 from rfl, Nat.pow_add]
      have hmn : n / 2 ^ (8 * j) < 2 ^ 64 := Nat.lt_of_le_of_lt (Nat.div_le_self _ _) hn
      generalize n / 2 ^ (8 * j) = m at *
      have hx : ((m : Int) % 256) = (((UInt8.ofNat m).toNat : Nat) : Int) := by
        rw [UInt8.toNat_ofNat']
        push_cast
        rfl
      generalize UInt8.ofNat m = x at *
      have hmd : Int.tdiv (m : Int) 256 = ((m / 256 : Nat) : Int) := by rw [Int.tdiv_eq_ediv_of_nonneg (Int.natCast_nonneg _)]; omega
      have hmw : IntKind.u64.wrap ((m / 256 : Nat) : Int) = ((m / 256 : Nat) : Int) := by rw [IntKind.wrap_u64]; omega
      clear hmn
      have kA : Keep No wr (wr.alloc (.cells #[.int .u8 x.toNat] 5)) := (Keep.refl _ _).alloc _
      have hb1 : BytesAt w.heap.size (wr.alloc (.cells #[.int .u8 x.toNat] 5)) (.slice (some ⟨wr.heap.size, 0, none⟩) 1 1) [x] := BytesAt.of_block [x] (heap_new wr _) (by simp [maxLen]) (Nat.le_trans hT hkp.size)
      have hO1 : OwnB (wr.alloc (.cells #[.int .u8 x.toNat] 5)) w.heap.size _ (layB n j) := hO.keep kA (fun _ _ h => h)
      have HK := Lib.hid (And.intro (hkp.then kA) (And.intro hs (And.intro hlt hd)))
      clear hO hkp kA hs hlt hd
      rw [hlj] at hO1 ⊢
      go_wp2_with (at_builtin; refine wpList_append_bytes rfl _ _ rfl w.heap.size hO1 hb1 rfl rfl (by rw [hlj]; simp; omega) (by have := HK.out.1.size; omega) ?_; intro v' w' hown' hk')
      go_roundw
      case rel => exact ⟨j + 1, by have := HK.out.2.2.1; omega, by go_num, by rw [← HK.out.2.2.2, show (m : Int) / 256 = ((m / 256 : Nat) : Int) by omega, hmw], by rw [HK.out.2.1]; exact hown', HK.out.1.trans hk' (fun b hb h => by have := hO1.lt b h; omega)⟩
      case measure => have := HK.out.2.2.1; simp [intOf]; omega
    · have hji : ¬ (j : Int) < (k : Int) := by omega
      obtain rfl : j = k := by omega
      go_wp2
      go_ret
      exact ⟨_, rfl, hO, hkp⟩

set_option maxRecDepth 100000 in
set_option maxHeartbeats 4000000 in
theorem rSum_spec [bn : Inhabited Ban] {base : Nat} {w : World} {v : Value} {l : Bytes} (h : BytesAt base w v l) :
    Calls Tryz.prog 192 #[v] w fun e w' => e = .returned (.int .u32 (moreN 0 l : Nat)) ∧ w' = w := by
  have hcap : l.length ≤ maxLen := by obtain ⟨_, _, hq, h1, h2, _⟩ := h; omega
  unfold maxLen at hcap
  have hli : (l.length : Int) ≤ 9223372036854775807 := by omega
  obtain ⟨ao, cap, rfl, _, _, _, hcell⟩ := h
  clear hcap
  go_enter Tryz.func192, Tryz.ntmps192
  go_wp2
  go_loop [3, 10] (fun r i => ∃ j : Nat, j ≤ l.length ∧ i = .int .i64 j ∧ r = .int .u32 (foldN 4294967295 (l.take j) : Nat)) (fun _ i => l.length - (intOf i).toNat)
  case atStart => exact ⟨0, Nat.zero_le _, rfl, rfl⟩
  case round =>
    obtain ⟨j, hj, rfl, rfl⟩ := hrel
    by_cases hlt : j < l.length
    · have hji : (j : Int) < (l.length : Int) := by omega
      have hxj : l[j]? = some l[j] := List.getElem?_eq_getElem hlt
      obtain ⟨ad, rfl, _, hcl⟩ := hcell j _ hxj
      have hlt0 := foldN_lt (l.take j) (r := 4294967295) (by decide)
      have hst : foldN 4294967295 (l.take (j + 1)) = bitsN (foldN 4294967295 (l.take j)) l[j].toNat 8 := by
        rw [List.take_add_one, hxj, bitsN_byte]
        simp only [Option.toList_some, foldN_append]
        rfl
      have hx := l[j].toNat_lt
      unfold u8v at hcl
      generalize foldN 4294967295 (l.take j) = r0 at *
      generalize l[j].toNat = x at *
      have HK := Lib.hid (And.intro hst (And.intro hlt hlt0))
      have hxi : (x : Int) < 256 := by omega
      clear hst hlt hlt0 hxj hcell hx
      go_wp2
      go_loop [3, 6] (fun r k => ∃ q : Nat, q ≤ 8 ∧ k = .int .i64 q ∧ r = .int .u32 (bitsN r0 x q : Nat)) (fun _ k => 8 - (intOf k).toNat)
      case atStart => exact ⟨0, Nat.zero_le _, rfl, rfl⟩
      case round =>
        obtain ⟨q, hq, rfl, rfl⟩ := hrel
        by_cases hq8 : q < 8
        · have hqi : (q : Int) < 8 := by omega
          have hr1 := bitsN_lt r0 HK.out.2.2 x q
          have hst1 : bitsN r0 x (q + 1) = bstepN (bitsN r0 x q) (x / 2 ^ q % 2) := rfl
          generalize bitsN r0 x q = r1 at *
          have hb1 : (x : Int) / 2 ^ q % 4294967296 % 2 = ((x / 2 ^ q % 2 : Nat) : Int) := by
            have h1 : (x : Int) / 2 ^ q = ((x / 2 ^ q : Nat) : Int) := by push_cast; rfl
            have h2 := Nat.div_le_self x (2 ^ q)
            rw [h1]
            omega
          generalize x / 2 ^ q % 2 = bit at *
          have hr2 : (r1 : Int) % 2 = ((r1 % 2 : Nat) : Int) := by omega
          have hd2 : Int.tdiv (r1 : Int) 2 = ((r1 / 2 : Nat) : Int) := by rw [Int.tdiv_eq_ediv_of_nonneg (Int.natCast_nonneg _)]; omega
          have hx2 : bits .xor .u32 ((r1 / 2 : Nat) : Int) 3988292384 = ((r1 / 2 ^^^ 3988292384 : Nat) : Int) := bits_xor_u32_nat _ _ (by omega) (by decide)
          have hw2 : IntKind.u32.wrap ((r1 / 2 : Nat) : Int) = ((r1 / 2 : Nat) : Int) := by rw [IntKind.wrap_u32]; omega
          unfold bstepN at hst1
          by_cases he : r1 % 2 = bit
          · rw [if_pos he] at hst1
            have hei : ((r1 : Int) % 2 != (x : Int) / 2 ^ q % 4294967296 % 2) = false := by rw [hb1]; simp; omega
            have HH := Lib.hid hst1
            clear hst1 he hb1 hr2
            go_wp2
            go_round
            case rel => exact ⟨q + 1, by omega, by go_num, by rw [HH.out]; congr 1⟩
            case measure => simp [intOf]; omega
          · rw [if_neg he] at hst1
            have hei : ((r1 : Int) % 2 != (x : Int) / 2 ^ q % 4294967296 % 2) = true := by rw [hb1]; simp; omega
            have HH := Lib.hid hst1
            clear hst1 he hb1 hr2
            go_wp2
            go_round
            case rel => exact ⟨q + 1, by omega, by go_num, by rw [HH.out]; congr 1⟩
            case measure => simp [intOf]; omega
        · have hqi : ¬ (q : Int) < 8 := by omega
          obtain rfl : q = 8 := by omega
          rw [← HK.out.1]
          go_wp2
          go_round
          case rel => exact ⟨j + 1, by have := HK.out.2.1; omega, by go_num, rfl⟩
          case measure => have := HK.out.2.1; simp [intOf]; omega
    · have hji : ¬ (j : Int) < (l.length : Int) := by omega
      obtain rfl : j = l.length := by omega
      rw [List.take_length] at *
      have hf := foldN_lt l (r := 4294967295) (by decide)
      have hm : moreN 0 l = 4294967295 - foldN 4294967295 l := rfl
      generalize foldN 4294967295 l = r1 at *
      have HM := Lib.hid hm
      clear hm
      have hs : (4294967295 : Int) - (r1 : Int) = ((4294967295 - r1 : Nat) : Int) := by omega
      go_wp2
      go_ret
      exact ⟨by rw [HM.out]; rfl, rfl⟩

/-! ### Close, Head, Record -/
theorem slices2 [bn : Inhabited Ban] {base : Nat} {w : World} {v1 v2 : Value} {a b : Bytes} (h1 : BytesAt base w v1 a) (h2 : BytesAt base w v2 b) :
    SlicesAt base (w.alloc (.cells #[v1, v2] 59)) (.slice (some ⟨w.heap.size, 0, none⟩) 2 2) [a, b] := by
  have kA : Keep No w (w.alloc (.cells #[v1, v2] 59)) := (Keep.refl _ _).alloc _
  exact SlicesAt.of_block (heap_new w _) [a, b] rfl (by simp [maxLen]) (fun i u l e1 e2 => by
    match i, e1, e2 with
    | 0, e1, e2 => simp at e1 e2; subst e1 e2; exact h1.no kA
    | 1, e1, e2 => simp at e1 e2; subst e1 e2; exact h2.no kA)
theorem slices3 [bn : Inhabited Ban] {base : Nat} {w : World} {v1 v2 v3 : Value} {a b c : Bytes} (h1 : BytesAt base w v1 a) (h2 : BytesAt base w v2 b) (h3 : BytesAt base w v3 c) :
    SlicesAt base (w.alloc (.cells #[v1, v2, v3] 59)) (.slice (some ⟨w.heap.size, 0, none⟩) 3 3) [a, b, c] := by
  have kA : Keep No w (w.alloc (.cells #[v1, v2, v3] 59)) := (Keep.refl _ _).alloc _
  exact SlicesAt.of_block (heap_new w _) [a, b, c] rfl (by simp [maxLen]) (fun i u l e1 e2 => by
    match i, e1, e2 with
    | 0, e1, e2 => simp at e1 e2; subst e1 e2; exact h1.no kA
    | 1, e1, e2 => simp at e1 e2; subst e1 e2; exact h2.no kA
    | 2, e1, e2 => simp at e1 e2; subst e1 e2; exact h3.no kA)

set_option maxRecDepth 100000 in
set_option maxHeartbeats 2000000 in
theorem rClose_spec [bn : Inhabited Ban] {base : Nat} {w : World} {v : Value} {l : Bytes} (h : BytesAt base w v l) (hT : ban.top ≤ w.heap.size) (hl : l.length ≤ 1099511627776) :
    Calls Tryz.prog 193 #[v] w fun e w' => ∃ v', e = .returned v' ∧ OwnB w' w.heap.size v' (closeB l) ∧ Keep No w w' := by
  obtain ⟨ao, cap, rfl⟩ := h.form
  have hsum := rSum_spec h
  have hm := moreN_lt 0 l
  unfold closeB
  generalize moreN 0 l = m at *
  have hmw : IntKind.u64.wrap (m : Int) = (m : Int) := by rw [IntKind.wrap_u64]; omega
  have hlay := rLay_spec hT m 4 (by decide) (by omega)
  have hl4 := layB_length m 4
  generalize layB m 4 = b at *
  have hjoin := fun (w' : World) (v2 : Value) (k : Keep No w w') (h2 : BytesAt base w' v2 b) => join_spec (slices2 (h.no k) h2) (by simp [hl4]; omega)
  have HC := Lib.hid hjoin
  clear hjoin h hm hl4 hl
  go_enter Tryz.func193, Tryz.ntmps193
  go_wp2_with (first
    | (go_at_call 97; refine (HC.out _ _ k2 hv2).mono ?_; rintro e w3 ⟨v3, rfl, own3, k3⟩)
    | (go_at_call 191; refine hlay.mono ?_; rintro e w2 ⟨v2, rfl, own2, k2⟩; obtain ⟨o2, c2, rfl⟩ := own2.form; have hv2 := own2.bytes (base := base) (fun _ => hT))
    | (go_at_call 192; refine hsum.mono ?_; rintro e w1 ⟨rfl, rfl⟩))
  go_ret
  refine ⟨_, rfl, ?_, (k2.alloc _).then k3⟩
  have e : [l, b].flatten = l ++ b := by simp
  rw [e] at own3
  exact own3.mono (k2.alloc _).size

set_option maxRecDepth 100000 in
theorem rHead_spec [bn : Inhabited Ban] {w : World} (hT : ban.top ≤ w.heap.size) (n : Nat) (hn : n < 2 ^ 64) :
    Calls Tryz.prog 149 #[.int .u64 n] w fun e w' => ∃ v, e = .returned v ∧ OwnB w' w.heap.size v (headB n) ∧ Keep No w w' := by
  have hlay := rLay_spec hT n 8 (Nat.le_refl _) hn
  clear hn
  go_enter Tryz.func149, Tryz.ntmps149
  go_wp2_with (first
    | (go_at_call 193; refine (rClose_spec (own1.bytes (base := w.heap.size) (fun _ => hT)) (Nat.le_trans hT k1.size) (by rw [layB_length]; decide)).mono ?_; rintro e w2 ⟨v2, rfl, own2, k2⟩)
    | (go_at_call 191; refine hlay.mono ?_; rintro e w1 ⟨v1, rfl, own1, k1⟩))
  go_ret
  exact ⟨_, rfl, own2.mono k1.size, k1.then k2⟩

set_option maxRecDepth 100000 in
set_option maxHeartbeats 2000000 in
theorem rRecord_spec [bn : Inhabited Ban] {base : Nat} {w : World} {v : Value} {l : Bytes} (h : BytesAt base w v l) (hT : ban.top ≤ w.heap.size) (hl : l.length ≤ 1099511627776) :
    Calls Tryz.prog 147 #[v] w fun e w' => ∃ v', e = .returned v' ∧ OwnB w' w.heap.size v' (recB l) ∧ Keep No w w' := by
  obtain ⟨ao, cap, rfl⟩ := h.form
  have hlay := rLay_spec hT l.length 4 (by decide) (by omega)
  have hlw : IntKind.u64.wrap (l.length : Int) = (l.length : Int) := by rw [IntKind.wrap_u64]; omega
  have hl4 := layB_length l.length 4
  unfold recB
  generalize layB l.length 4 = a at *
  have hm := moreN_lt 0 (a ++ l)
  have hcat := fun (w' : World) (v1 : Value) (k : Keep No w w') (h1 : BytesAt base w' v1 a) => join_spec (slices2 h1 (h.no k)) (by simp [hl4]; omega)
  have e2 : [a, l].flatten = a ++ l := by simp
  rw [e2] at hcat
  have hsum := fun (w' : World) (u : Value) (hu : BytesAt base w' u (a ++ l)) => rSum_spec hu
  generalize moreN 0 (a ++ l) = m at *
  have hmw : IntKind.u64.wrap (m : Int) = (m : Int) := by rw [IntKind.wrap_u64]; omega
  have hlay2 := fun (w' : World) (hT : ban.top ≤ w'.heap.size) => rLay_spec hT m 4 (by decide) (by omega)
  have hl4b := layB_length m 4
  generalize layB m 4 = b at *
  have hcat2 := fun (w' : World) (v1 v2 : Value) (k : Keep No w w') (h1 : BytesAt base w' v1 a) (h2 : BytesAt base w' v2 b) => join_spec (slices3 h1 h2 (h.no k)) (by simp [hl4, hl4b]; omega)
  have HC := Lib.hid hcat
  have HD := Lib.hid hcat2
  have HL := Lib.hid hlay2
  have HS := Lib.hid hsum
  clear hcat hcat2 hlay2 hsum hl4 hl4b hm e2 h hl
  go_enter Tryz.func147, Tryz.ntmps147
  go_wp2_with (first
    | (go_at_call 97; refine (HD.out _ _ _ k4 hv4 hb4).mono ?_; rintro e w5 ⟨v5, rfl, own5, k5⟩)
    | (go_at_call 191; refine (HL.out _ (Nat.le_trans hT k3.size)).mono ?_; rintro e w4 ⟨v4, rfl, own4, k4'⟩; obtain ⟨o4, c4, rfl⟩ := own4.form; have hb4 := own4.bytes (base := base) (fun _ => Nat.le_trans hT k3.size); have hv4 := hv3.no k4'; have k4 := k3.then k4')
    | (go_at_call 192; refine (HS.out _ _ hb3).mono ?_; rintro e w6 ⟨rfl, rfl⟩)
    | (go_at_call 97; refine (HC.out _ _ k1 hv1).mono ?_; rintro e w3 ⟨v3, rfl, own3, k3'⟩; have hb3 := own3.bytes (base := base) (fun _ => Nat.le_trans hT (k1.alloc _).size); have hv3 := (hv1.no (((Keep.refl _ _).alloc _).then k3')); have k3 := (k1.alloc _).then k3')
    | (go_at_call 191; refine hlay.mono ?_; rintro e w1 ⟨v1, rfl, own1, k1⟩; obtain ⟨o1, c1, rfl⟩ := own1.form; have hv1 := own1.bytes (base := base) (fun _ => hT)))
  go_ret
  refine ⟨_, rfl, ?_, (k4.alloc _).then k5⟩
  have e : [a, b, l].flatten = a ++ (b ++ l) := by simp
  rw [e] at own5
  exact own5.mono (k4.alloc _).size
end Go.Proofs.YtfdmbomlkpkegaaGreat

/-! ## RefN -/
namespace Go.Proofs.YtfdmbomlkpkegaaGreat
open Go Go.RowKit Go.Dr

theorem takeN_drop {l : Bytes} {j : Nat} {x : UInt8} (h : l[j]? = some x) : takeN (l.drop j) = x.toNat + 256 * takeN (l.drop (j + 1)) := by
  obtain ⟨h1, h2⟩ := List.getElem?_eq_some_iff.1 h
  rw [List.drop_eq_getElem_cons h1, h2]
  rfl
theorem takeN_lay4 {m : Nat} (h : m < 4294967296) : takeN (layB m 4) = m := by
  rw [takeN_lay]
  exact Nat.mod_eq_of_lt h

set_option maxRecDepth 100000 in
theorem rTake_spec [bn : Inhabited Ban] {base : Nat} {w : World} {v : Value} {l : Bytes} (h : BytesAt base w v l) (hl : l.length ≤ 8) :
    Calls Tryz.prog 206 #[v] w fun e w' => e = .returned (.int .u64 (takeN l : Nat)) ∧ w' = w := by
  obtain ⟨ao, cap, rfl, hc, hm, hn, hcell⟩ := h
  have hli : (l.length : Int) ≤ 8 := by omega
  go_enter Tryz.func206, Tryz.ntmps206
  go_wp2
  go_loop [3, 4] (fun s i => ∃ j : Nat, j ≤ l.length ∧ i = .int .i64 ((j : Int) - 1) ∧ s = .int .u64 (takeN (l.drop j) : Nat)) (fun _ i => (intOf i + 1).toNat)
  case atStart => exact ⟨l.length, Nat.le_refl _, by go_num, by simp [takeN]⟩
  case round =>
    obtain ⟨j, hj, rfl, rfl⟩ := hrel
    rcases j with _ | j
    · have hji : ¬ (0 : Int) ≤ ((0 : Nat) : Int) - 1 := by decide
      go_wp2
      go_ret
      exact ⟨rfl, rfl⟩
    · have hj1 : ((j + 1 : Nat) : Int) - 1 = (j : Int) := by omega
      have hj0 : (0 : Int) ≤ (j : Int) := by omega
      have hxj : l[j]? = some l[j] := List.getElem?_eq_getElem (by omega)
      obtain ⟨ad, rfl, hbb, hcl⟩ := hcell j _ hxj
      have hst := takeN_drop hxj
      have hb := takeN_lt (l.drop (j + 1))
      rw [List.length_drop] at hb
      have hp : 2 ^ (8 * (l.length - (j + 1))) ≤ 2 ^ 56 := Nat.pow_le_pow_right (by decide) (by omega)
      have hb := Nat.lt_of_lt_of_le hb hp
      clear hp
      have hx := l[j].toNat_lt
      generalize l[j] = x at *
      generalize takeN (l.drop (j + 1)) = t at *
      unfold u8v at hcl
      have hw1 : IntKind.u64.wrap (256 * (t : Int)) = ((256 * t : Nat) : Int) := by rw [IntKind.wrap_u64]; omega
      have hw2 : IntKind.u64.wrap (256 * (t : Int) + (x.toNat : Int)) = ((takeN (l.drop j) : Nat) : Int) := by rw [hst, IntKind.wrap_u64]; omega
      have hji : (j : Int) < (l.length : Int) := by omega
      have hxi : (x.toNat : Int) < 256 := by omega
      have hxw : IntKind.u64.wrap (x.toNat : Int) = (x.toNat : Int) := by rw [IntKind.wrap_u64]; omega
      rw [hj1]
      have HJ := Lib.hid hj
      clear hst hb hx hxj hcell hj hj1
      go_wp2
      go_round
      case rel => exact ⟨j, by have := HJ.out; omega, by go_num, by rfl⟩
      case measure => simp [intOf]

theorem slices1 [bn : Inhabited Ban] {base : Nat} {w : World} {v1 : Value} {a : Bytes} (h1 : BytesAt base w v1 a) :
    SlicesAt base (w.alloc (.cells #[v1] 59)) (.slice (some ⟨w.heap.size, 0, none⟩) 1 1) [a] := by
  have kA : Keep No w (w.alloc (.cells #[v1] 59)) := (Keep.refl _ _).alloc _
  exact SlicesAt.of_block (heap_new w _) [a] rfl (by simp [maxLen]) (fun i u l e1 e2 => by
    match i, e1, e2 with
    | 0, e1, e2 => simp at e1 e2; subst e1 e2; exact h1.no kA)

set_option maxRecDepth 100000 in
set_option maxHeartbeats 2000000 in
theorem rOpen_close [bn : Inhabited Ban] {base : Nat} {w : World} {v : Value} {t : Bytes} (h : BytesAt base w v (closeB t)) (_hT : ban.top ≤ w.heap.size) (hl : t.length ≤ 1000) :
    Calls Tryz.prog 205 #[v] w fun e w' => ∃ v', e = .returned (.tuple #[v', .int .i64 0]) ∧ OwnB w' w.heap.size v' t ∧ Keep No w w' := by
  obtain ⟨ao, cap, rfl⟩ := h.form
  have hcl := closeB_length t
  have hcap : (closeB t).length ≤ cap ∧ cap ≤ maxLen := by obtain ⟨_, _, hq, h1, h2, _⟩ := h; simp at hq; omega
  unfold maxLen at hcap
  obtain ⟨o2, c2, hrun, hsub⟩ := slice_l ao (closeB t).length cap t.length t.length rfl (by omega) hcap.1
  have e1 : ((closeB t).take (closeB t).length).drop t.length = layB (moreN 0 t) 4 := by rw [List.take_of_length_le (Nat.le_refl _)]; unfold closeB; exact List.drop_left' rfl
  have e2 : (closeB t).take t.length = t := by unfold closeB; exact List.take_left' rfl
  have hs2 := hsub base w _ h
  rw [e1] at hs2
  have ht := h.take t.length (by omega)
  rw [e2] at ht
  have htk := fun (w' : World) (k : Keep No w w') => rTake_spec (hs2.no k) (by rw [layB_length]; decide)
  have hm := moreN_lt 0 t
  rw [takeN_lay4 (by exact hm)] at htk
  have hsum := fun (w' : World) (k : Keep No w w') => rSum_spec (ht.no k)
  have hn4 : (closeB t).length - t.length = 4 := by omega
  have hj := fun (w' : World) (k : Keep No w w') => join_spec (slices1 (ht.no k)) (by simp; omega)
  have hci : ((closeB t).length : Int) - 4 = (t.length : Int) := by omega
  have hc4 : ¬ ((closeB t).length : Int) < 4 := by omega
  have hci2 : (t.length : Int) ≤ (cap : Int) := by omega
  have hci3 : (t.length : Int) ≤ 1000 := by omega
  generalize moreN 0 t = m at *
  have hmw : IntKind.u64.wrap (m : Int) = (m : Int) := by rw [IntKind.wrap_u64]; omega
  rw [hn4] at hrun htk
  have HC := Lib.hid (And.intro htk (And.intro hsum hj))
  clear htk hsum hj hm h hs2 ht e1 e2 hn4 hsub hcap hl hcl
  generalize (closeB t).length = q at *
  go_enter Tryz.func205, Tryz.ntmps205
  go_upto_region 4 with fail
  refine wp_drawN (fun w' => Keep No w w') [0, 1, 2, 4, 5, 6] [3, 7] [8, 9] (by kernel_rfl) (by kernel_rfl) (fun _ _ _ _ _ h => h) (Keep.refl _ _).drew ?_
  have kd : Keep No w w.drew := (Keep.refl _ _).drew
  iterate 6 (refine earlyN_cons (v := ?_) rfl rfl rfl ?_ ?_; rotate_left; focus (
    intro w' hq
    go_simp
    try with_reducible rfl))
  refine earlyN_nil ?_
  refine midN_cons rfl rfl (fun K hK => ?_)
  go_simp
  refine (HC.out.1 _ kd).mono ?_
  rintro e w1 ⟨rfl, rfl⟩
  refine hK _ _ kd ?_
  clear hK K
  refine midN_cons rfl rfl (fun K hK => ?_)
  go_simp
  refine (HC.out.2.1 _ kd).mono ?_
  rintro e w1 ⟨rfl, rfl⟩
  refine hK _ _ kd ?_
  clear hK K
  refine midN_nil (tailN_cons rfl (tailN_cons rfl (tailN_nil ?_)))
  go_wp2_with (go_at_call 97; refine (HC.out.2.2 _ kd).mono ?_; rintro e w3 ⟨v3, rfl, own3, k3⟩)
  go_ret2
  refine ⟨_, rfl, ?_, (kd.alloc _).then k3⟩
  have e : [t].flatten = t := by simp
  rw [e] at own3
  exact own3.mono (kd.alloc _).size
end Go.Proofs.YtfdmbomlkpkegaaGreat
