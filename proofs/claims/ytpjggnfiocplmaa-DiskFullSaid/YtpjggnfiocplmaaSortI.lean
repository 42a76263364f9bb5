/- Sorting numbers: math/bits.Len, the generator. -/
import Derived.Test.YtpjggnfiocplmaaSortC
import Derived.Sort.LotD5
import Derived.Lib.BitFns
import Derived.Lib.Walk
import Derived.Lib.Small
import Derived.Lib.Strings
import Derived.Lib.Tables
import Derived.Laws.Bits64b
namespace Go.Proofs.Ytpjggnfiocplmaa
open Go Go.RowKit Go.Sort

theorem bitsLen_256 {n : Nat} (h : 256 ≤ n) : bitsLen n = 8 + bitsLen (n / 256) := by
  have p : ∀ k : Nat, 2 ^ (8 + k) = 256 * 2 ^ k := fun k => by rw [Nat.pow_add]
  have h1 : 0 < n / 256 := by omega
  apply Nat.le_antisymm
  · have := lt_two_pow_bitsLen (n / 256)
    rw [bitsLen_le_iff, p]
    omega
  · have h3 : ¬ bitsLen n < 8 + bitsLen (n / 256) := fun hlt => by
      obtain ⟨k, hk⟩ : ∃ k, bitsLen (n / 256) = k + 1 := by
        cases hb : bitsLen (n / 256) with
        | zero => have := (bitsLen_le_iff (n / 256) 0).1 (by omega); simp at this; omega
        | succ k => exact ⟨k, rfl⟩
      have h4 : bitsLen n ≤ 8 + k := by omega
      rw [bitsLen_le_iff, p] at h4
      have h5 : bitsLen (n / 256) ≤ k := by rw [bitsLen_le_iff]; omega
      omega
    omega
theorem len8_bits : ∀ n : Nat, n < 256 → Lib.len8 n = bitsLen n ∧ bitsLen n ≤ 8 := by
  have h : ∀ n : Fin 256, Lib.len8 (n.val : Int) = bitsLen n.val ∧ bitsLen n.val ≤ 8 := by decide +kernel
  exact fun n hn => h ⟨n, hn⟩
theorem tab_at (y : Int) (h0 : 0 ≤ y) (h1 : y < 256) (h : y.toNat < Lib.len8tab.size) : ((Lib.len8tab[y.toNat]'h).toNat : Int) = bitsLen y.toNat ∧ bitsLen y.toNat ≤ 8 := by
  have := len8_bits y.toNat (by omega)
  refine ⟨?_, this.2⟩
  rw [← this.1]
  unfold Lib.len8
  have e : ((y.toNat : Nat) : Int).toNat = y.toNat := Int.toNat_natCast _
  rw [e, getElem?_pos Lib.len8tab y.toNat h]
  rfl
theorem wrap_small (a : Int) (h0 : 0 ≤ a) (h1 : a ≤ 1000) : wrap64 a = a := by unfold wrap64; omega

set_option maxRecDepth 100000 in
theorem fold_tab : ({ data := ((([0, 1, 2, 2, 3, 3, 3, 3, 4, 4, 4, 4, 4, 4, 4, 4, 5, 5, 5, 5, 5, 5, 5, 5, 5, 5, 5, 5, 5, 5, 5, 5, 6, 6, 6, 6, 6, 6, 6, 6, 6, 6, 6, 6, 6, 6, 6, 6, 6, 6, 6, 6, 6, 6, 6, 6, 6, 6, 6, 6, 6, 6, 6, 6] : List UInt8).append [7, 7, 7, 7, 7, 7, 7, 7, 7, 7, 7, 7, 7, 7, 7, 7, 7, 7, 7, 7, 7, 7, 7, 7, 7, 7, 7, 7, 7, 7, 7, 7, 7, 7, 7, 7, 7, 7, 7, 7, 7, 7, 7, 7, 7, 7, 7, 7, 7, 7, 7, 7, 7, 7, 7, 7, 7, 7, 7, 7, 7, 7, 7, 7]).append (([8, 8, 8, 8, 8, 8, 8, 8, 8, 8, 8, 8, 8, 8, 8, 8, 8, 8, 8, 8, 8, 8, 8, 8, 8, 8, 8, 8, 8, 8, 8, 8, 8, 8, 8, 8, 8, 8, 8, 8, 8, 8, 8, 8, 8, 8, 8, 8, 8, 8, 8, 8, 8, 8, 8, 8, 8, 8, 8, 8, 8, 8, 8, 8] : List UInt8).append [8, 8, 8, 8, 8, 8, 8, 8, 8, 8, 8, 8, 8, 8, 8, 8, 8, 8, 8, 8, 8, 8, 8, 8, 8, 8, 8, 8, 8, 8, 8, 8, 8, 8, 8, 8, 8, 8, 8, 8, 8, 8, 8, 8, 8, 8, 8, 8, 8, 8, 8, 8, 8, 8, 8, 8, 8, 8, 8, 8, 8, 8, 8, 8])).toArray } : ByteArray) = Lib.len8tab := by decide +kernel

set_option maxRecDepth 100000 in
set_option maxHeartbeats 4000000 in
theorem len64_spec (x : Int) (h0 : 0 ≤ x) (hx : x < 65536) (w : World) : Calls Try.prog 116 #[.int .u64 x] w fun e w' => e = .returned (.int .i64 (bitsLen x.toNat)) ∧ w' = w := by
  have HX := Lib.hid (And.intro h0 hx)
  go_enter Try.func116, Try.ntmps116
  rw [fold_tab]
  have hy : x < 4294967296 := by omega
  by_cases h : x < 256
  · go_wp2
    go_ret
    refine ⟨congrArg Ending.returned (congrArg (Value.int IntKind.i64) ?_), rfl⟩
    have ht := tab_at x h0 h (by rw [Lib.len8tab_size]; omega)
    rw [ht.1, wrap_small (bitsLen x.toNat : Int) (by omega) (by omega), wrap_small _ (by omega) (by omega)]
  · have hq : x / 256 < (Lib.len8tab.size : Int) := by rw [Lib.len8tab_size]; omega
    have hq2 : (x / 256).toNat < Lib.len8tab.size := by rw [Lib.len8tab_size]; omega
    have h5 : 0 ≤ x / 256 := by omega
    have h6 : x / 256 < 256 := by omega
    go_wp2
    go_ret
    refine ⟨congrArg Ending.returned (congrArg (Value.int IntKind.i64) ?_), rfl⟩
    have ht := tab_at (x / 256) h5 h6 hq2
    have hb := bitsLen_256 (n := x.toNat) (by omega)
    rw [show x.toNat / 256 = (x / 256).toNat by omega] at hb
    rw [ht.1, wrap_small (bitsLen (x / 256).toNat : Int) (by omega) (by omega), wrap_small _ (by omega) (by omega), hb]
    omega
set_option maxHeartbeats 1000000 in
theorem len_spec (x : Int) (h0 : 0 ≤ x) (hx : x < 65536) (w : World) : Calls Try.prog 103 #[.int .u64 x] w fun e w' => e = .returned (.int .i64 (bitsLen x.toNat)) ∧ w' = w := by
  go_enter Try.func103, Try.ntmps103
  go_wp2_with (go_at_call 116; refine (len64_spec x h0 hx _).mono ?_; rintro e w' ⟨rfl, rfl⟩)
  go_ret
  exact ⟨rfl, rfl⟩
theorem wrap_pow (k : Nat) (hk : k ≤ 62) : IntKind.u64.wrap ((2 : Int) ^ k) = ((1 <<< k : Nat) : Int) := by
  have h : (2 : Nat) ^ k ≤ 2 ^ 62 := Nat.pow_le_pow_right (by decide) hk
  rw [IntKind.wrap_u64, Nat.one_shiftLeft, show ((2 : Int) ^ k) = ((2 ^ k : Nat) : Int) by push_cast; rfl]
  generalize (2 : Nat) ^ k = p at h
  omega
set_option maxHeartbeats 1000000 in
theorem npow2_spec (n : Nat) (hn : n < 65536) (w : World) : Calls Try.prog 118 #[.int .i64 n] w fun e w' => e = .returned (.int .u64 ((1 <<< bitsLen n : Nat) : Int)) ∧ w' = w := by
  have hl := fun w => len_spec (n : Int) (by omega) (by omega) w
  simp only [Int.toNat_natCast] at hl
  have hk : bitsLen n ≤ 62 := by rw [bitsLen_le_iff]; omega
  have hp := wrap_pow (bitsLen n) hk
  have hni : (n : Int) < 65536 := by omega
  go_enter Try.func118, Try.ntmps118
  go_wp2_with (go_at_call 103; refine (hl _).mono ?_; rintro e w' ⟨rfl, rfl⟩)
  go_ret
  exact ⟨rfl, rfl⟩
end Go.Proofs.Ytpjggnfiocplmaa
