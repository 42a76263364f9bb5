/- Sorting numbers: the generator; breaking patterns. -/
import Derived.Test.YtpjggnfiocplmaaSortI
import Derived.Test.YtpjggnfiocplmaaSortG
import Derived.Test.YtpjggnfiocplmaaSortE
import Derived.Sort.Row
namespace Go.Proofs.Ytpjggnfiocplmaa
open Go Go.RowKit Go.Sort

/-- The generator's box. -/
def BoxU (w : World) (s : Nat) (n : Nat) : Prop := w.heap[s]? = some (.cells #[.int .u64 n] 168 (0, 0))
theorem setCell_twice (w : World) (blk off : Nat) (v v' : Value) : (w.setCell ⟨blk, off, none⟩ v).setCell ⟨blk, off, none⟩ v' = w.setCell ⟨blk, off, none⟩ v' := by
  rw [setCell_eq, setCell_eq, mapBlock_mapBlock, setCell_eq]
  congr 1
  funext c
  simp

set_option maxRecDepth 100000 in
set_option maxHeartbeats 2000000 in
theorem xnext_spec {w : World} {s X : Nat} (h : BoxU w s X) (hX : X < 18446744073709551616) :
    Calls Try.prog 119 #[.pointer (some ⟨s, 0, none⟩)] w fun e w' => e = .returned (.int .u64 (xorNextN X : Nat)) ∧ BoxU w' s (xorNextN X) ∧ Keep (· = s) w w' := by
  have c0 := cell_of h 0
  have f0 := frozen_of h 0
  simp at c0
  obtain ⟨A, hA⟩ : ∃ A, A = X ^^^ (X * 8192 % 18446744073709551616) := ⟨_, rfl⟩
  obtain ⟨B, hB⟩ : ∃ B, B = A ^^^ (A / 128) := ⟨_, rfl⟩
  obtain ⟨C, hC⟩ : ∃ C, C = B ^^^ (B * 131072 % 18446744073709551616) := ⟨_, rfl⟩
  have lA : A < 18446744073709551616 := by rw [hA]; exact Nat.xor_lt_two_pow (n := 64) (by omega) (by omega)
  have lB : B < 18446744073709551616 := by rw [hB]; exact Nat.xor_lt_two_pow (n := 64) (by omega) (by omega)
  have e1 : bits .xor .u64 (X : Int) (IntKind.u64.wrap ((X : Int) * 8192)) = (A : Int) := by
    rw [IntKind.wrap_u64, show ((X : Int) * 8192 % 18446744073709551616) = ((X * 8192 % 18446744073709551616 : Nat) : Int) by omega, bits_xor_u64_nat _ _ hX (by omega), hA]
  have e2 : bits .xor .u64 (A : Int) ((A : Int) / 128) = (B : Int) := by
    rw [show ((A : Int) / 128) = ((A / 128 : Nat) : Int) by omega, bits_xor_u64_nat _ _ lA (by omega), hB]
  have e3 : bits .xor .u64 (B : Int) (IntKind.u64.wrap ((B : Int) * 131072)) = (C : Int) := by
    rw [IntKind.wrap_u64, show ((B : Int) * 131072 % 18446744073709551616) = ((B * 131072 % 18446744073709551616 : Nat) : Int) by omega, bits_xor_u64_nat _ _ lB (by omega), hC]
  have hv : xorNextN X = C := by unfold xorNextN; simp only []; rw [← hA, ← hB, ← hC]
  rw [hv]
  have hss : ∀ v v', (w.setCell ⟨s, 0, none⟩ v).setCell ⟨s, 0, none⟩ v' = w.setCell ⟨s, 0, none⟩ v' := setCell_twice w s 0
  have hfin : BoxU ((w.setCell ⟨s, 0, none⟩ (.int .u64 C)).drewN 3) s C ∧ Keep (· = s) w ((w.setCell ⟨s, 0, none⟩ (.int .u64 C)).drewN 3) := by
    have hb2 := heap_setCell_same (i := 0) (u := .int .u64 C) h
    refine ⟨?_, (Keep.setCell (F := (· = s)) (Keep.refl _ _) (p := ⟨s, 0, none⟩) (.inl rfl) _).drewN 3⟩
    have : ((w.setCell ⟨s, 0, none⟩ (.int .u64 C)).drewN 3).heap[s]? = (w.setCell ⟨s, 0, none⟩ (.int .u64 C)).heap[s]? := rfl
    unfold BoxU
    rw [this, hb2]
    simp
  have HF := Lib.hid hfin
  clear hA hB hC hv h hfin
  go_enter Try.func119, Try.ntmps119
  go_wp2
  go_region
  all_goals go_wp2
  all_goals go_region
  all_goals go_wp2
  all_goals go_region
  all_goals go_wp2
  go_ret
  exact ⟨rfl, HF.out⟩

def brkN (a n m : Nat) (st : UInt64 × Array Int) (idx : Nat) : Nat → UInt64 × Array Int
  | 0 => st
  | k + 1 => breakStep a n m (brkN a n m st idx k) (idx + k)
theorem brkN_size (a n m : Nat) (st : UInt64 × Array Int) (idx : Nat) : ∀ k, (brkN a n m st idx k).2.size = st.2.size := by
  intro k
  induction k with
  | zero => rfl
  | succ k ih => simp only [brkN, breakStep]; rw [size_swp, ih]
theorem breakPatterns_eq {d : Array Int} {a b n : Nat} (hn : b - a = n) (h : 8 ≤ n) : breakPatterns d a b = (brkN a n (1 <<< bitsLen n) (UInt64.ofNat n, d) (a + n / 4 * 2 - 1) 3).2 := by
  unfold breakPatterns
  simp only [hn]
  rw [if_pos h]
  rfl

set_option maxRecDepth 100000 in
set_option maxHeartbeats 4000000 in
theorem brk_spec {w : World} {g off cap a b : Nat} {d : Array Int} (h : Row64 w g off d) (hab : 12 < b - a) (hb : b ≤ d.size) (hsz : d.size < 65536) :
    Calls Try.prog 108 #[.slice (some ⟨g, off, none⟩) d.size cap, .int .i64 a, .int .i64 b] w fun e w' => e = .returned (.tuple #[]) ∧ Row64 w' g off (breakPatterns d a b) ∧ Keep (· = g) w w' := by
  obtain ⟨n, hn⟩ : ∃ n : Nat, b - a = n := ⟨_, rfl⟩
  obtain ⟨q, hq⟩ : ∃ q : Nat, n / 4 = q := ⟨_, rfl⟩
  obtain ⟨m, hm⟩ : ∃ m : Nat, m = 1 <<< bitsLen n := ⟨_, rfl⟩
  have e0 : (b : Int) - (a : Int) = (n : Int) := by omega
  have e1 : (n : Int).tdiv 4 = (q : Int) := by rw [← hq]; rfl
  have hn8 : (8 : Int) ≤ (n : Int) := by omega
  have hni : (n : Int) ≤ 1099511627776 := by omega
  have hqi : (q : Int) ≤ 1099511627776 := by omega
  have hai : (a : Int) ≤ 1099511627776 := by omega
  have hbp := breakPatterns_eq (d := d) hn (by omega)
  rw [hq, ← hm] at hbp
  have hm2 : m ≤ 2 * n := by rw [hm, Nat.one_shiftLeft]; exact two_pow_bitsLen_le (by omega)
  have hm1 : 1 ≤ m := by rw [hm, Nat.one_shiftLeft]; exact Nat.two_pow_pos _
  have hmi : (m : Int) ≤ 1099511627776 := by omega
  have hmi1 : (1 : Int) ≤ (m : Int) := by omega
  obtain ⟨x0, hx0⟩ : ∃ x0 : Nat, x0 = a + q * 2 - 1 := ⟨_, rfl⟩
  have hx0i : (a : Int) + (q : Int) * 2 - 1 = (x0 : Int) := by omega
  have hxa : a ≤ x0 := by omega
  have hxb : x0 + 2 < b := by omega
  rw [← hx0] at hbp
  rw [hbp]
  have hpow := npow2_spec n (by omega)
  rw [← hm] at hpow
  have hgl := h.lt
  have kA : Keep No w (w.alloc (.cells #[.int .u64 n] 168)) := (Keep.refl _ _).alloc _
  have hbx : BoxU (w.alloc (.cells #[.int .u64 n] 168)) w.heap.size n := heap_new w _
  have hr0 := h.keep kA (fun e => e)
  have HA := Lib.hid (And.intro hbx (And.intro hr0 (And.intro kA (And.intro hn (And.intro hq (And.intro hm hx0))))))
  clear hbx hr0 kA hn hq hm hx0 h hbp
  have hu64 : (brkN a n m (UInt64.ofNat n, d) x0 0).1.toNat = n := by show (UInt64.ofNat n).toNat = n; rw [UInt64.toNat_ofNat']; omega
  have HSZ := Lib.hid hsz
  clear hsz
  go_enter Try.func108, Try.ntmps108
  go_upto_block 0 with (go_at_call 118; refine (hpow _).mono ?_; rintro e w' ⟨rfl, rfl⟩)
  go_wp2
  go_loopw [9] (fun vi wr => ∃ (k : Nat), vi = .int .i64 ((x0 + k : Nat) : Int) ∧ k ≤ 3 ∧ BoxU wr w.heap.size (brkN a n m (UInt64.ofNat n, d) x0 k).1.toNat ∧ Row64 wr g off (brkN a n m (UInt64.ofNat n, d) x0 k).2 ∧ Keep (· = g) w wr) (fun vi _ => ((x0 : Int) + 3 - intOf vi).toNat)
  case atStart => exact ⟨0, by go_num, by omega, by rw [hu64]; exact HA.out.1, HA.out.2.1, HA.out.2.2.1.no⟩
  case round =>
    clear hu64
    obtain ⟨k, rfl, hk3, hB, hR, hK⟩ := hrel
    by_cases hk : k < 3
    · have hki : ((x0 + k : Nat) : Int) ≤ (a : Int) + (q : Int) * 2 + 1 := by omega
      have hsk := brkN_size a n m (UInt64.ofNat n, d) x0 k
      have hst : brkN a n m (UInt64.ofNat n, d) x0 (k + 1) = breakStep a n m (brkN a n m (UInt64.ofNat n, d) x0 k) (x0 + k) := rfl
      generalize brkN a n m (UInt64.ofNat n, d) x0 k = st at *
      obtain ⟨r, dk⟩ := st
      simp only [] at hB hR hsk
      obtain ⟨X, hX⟩ : ∃ X, X = xorNextN r.toNat := ⟨_, rfl⟩
      have hXl : X < 18446744073709551616 := by rw [hX]; exact xorNextN_lt _ r.toNat_lt
      obtain ⟨o, ho⟩ : ∃ o, o = X &&& (m - 1) := ⟨_, rfl⟩
      have hol : o ≤ m - 1 := by rw [ho]; exact Nat.and_le_right
      have eb : bits .and .u64 (X : Int) ((m : Int) - 1) = (o : Int) := by
        rw [show (m : Int) - 1 = ((m - 1 : Nat) : Int) by omega, bits_and_u64_nat _ _ hXl (by omega), ho]
      obtain ⟨o2, ho2⟩ : ∃ o2, o2 = (if o ≥ n then o - n else o) := ⟨_, rfl⟩
      have ho2n : o2 < n := by rw [ho2]; split <;> omega
      have hbs : breakStep a n m (r, dk) (x0 + k) = (xorNext r, swp dk (x0 + k) (a + o2)) := by
        unfold breakStep
        simp only []
        rw [xorNext_toNat, ← hX, ← ho, ← ho2]
      rw [hbs] at hst
      have hnx := xnext_spec hB r.toNat_lt
      rw [← hX] at hnx
      have hrx : X = (xorNext r).toNat := by rw [xorNext_toNat, ← hX]
      have hoi : (o : Int) ≤ 1099511627776 := by omega
      have HI := Lib.hid (And.intro hR (And.intro hK (And.intro hst (And.intro hrx hsk))))
      clear hR hK hst hbs hrx hX ho hB
      obtain ⟨y, hy⟩ : ∃ y : Nat, y = x0 + k := ⟨_, rfl⟩
      rw [← hy] at hki ⊢
      have hya : a ≤ y := by omega
      have hyb : y < b := by omega
      have HY := Lib.hid (And.intro hy hsk)
      clear hy
      go_upto_if 43 with (go_at_call 119; refine hnx.mono ?_; rintro e w5 ⟨rfl, hB5, hK5⟩)
      go_cut [10] (fun v wx => v = .int .i64 (o2 : Int) ∧ wx = w5)
      case first =>
        by_cases hon : n ≤ o
        · have honi : (n : Int) ≤ (o : Int) := by omega
          have e : o2 = o - n := by rw [ho2, if_pos hon]
          clear ho2
          go_wp2
          go_meet
          exact ⟨by congr 1; omega, rfl⟩
        · have honi : ¬ (n : Int) ≤ (o : Int) := by omega
          have e : o2 = o := by rw [ho2, if_neg hon]
          clear ho2
          go_wp2
          go_meet
          exact ⟨by congr 1; omega, rfl⟩
      case rest =>
        obtain ⟨rfl, rfl⟩ := hcut
        have hR5 := HI.out.1.keep hK5 (fun e => by have e : g = w.heap.size := e; omega)
        have hK6 := HI.out.2.1.trans hK5 (fun y hy e => by have e : y = w.heap.size := e; omega)
        obtain ⟨G, hG⟩ : ∃ G : Nat → Int, ∀ t, G t = dk[t]! := ⟨fun t => dk[t]!, fun _ => rfl⟩
        have hcw : ∀ t, t < d.size → wc.cell? ⟨g, off + t, none⟩ = some (.int .u64 (G t)) := fun t ht => by rw [hG]; exact hR5.cell (by omega)
        have hfw : ∀ t, t < d.size → wc.frozen? ⟨g, off + t, none⟩ = false := fun t _ => hR5.frozen t
        have hsw := hR5.swapD (i := y) (j := a + o2) (by omega) (by omega)
        rw [← hG, ← hG] at hsw
        have hfin : ∀ wx, Row64 wx g off (swp dk y (a + o2)) → Keep (· = g) w wx → BoxU wx w.heap.size X → ∃ (k' : Nat), Value.int .i64 ((y : Int) + 1) = .int .i64 ((x0 + k' : Nat) : Int) ∧ k' ≤ 3 ∧ BoxU wx w.heap.size (brkN a n m (UInt64.ofNat n, d) x0 k').1.toNat ∧ Row64 wx g off (brkN a n m (UInt64.ofNat n, d) x0 k').2 ∧ Keep (· = g) w wx := fun wx h1 h2 h3 =>
          ⟨k + 1, by have := HY.out.1; congr 1; omega, by omega, by rw [HI.out.2.2.1]; simp only []; rw [← HI.out.2.2.2.1]; exact h3, by rw [HI.out.2.2.1, ← HY.out.1]; exact h1, h2⟩
        have hbk : ∀ wx, Keep (· = g) wc wx → BoxU wx w.heap.size X := fun wx kx => kx.heap hB5 (fun e => by have e : w.heap.size = g := e; omega)
        have HM := Lib.hid (And.intro hsw (And.intro hK6 (And.intro hfin hbk)))
        clear hR5 hK6 hG hsw hfin hbk hB5 hK5 ho2 hsk
        have hoa : a + o2 < d.size := by omega
        have hyd : y < d.size := by omega
        by_cases hsame : y = a + o2
        · have HE := Lib.hid hsame
          subst hsame
          go_wp2
          go_region
          all_goals go_wp2
          go_roundw
          case rel => exact HM.out.2.2.1 _ HM.out.1.1 (HM.out.2.1.trans HM.out.1.2 (fun _ _ e => e)) (HM.out.2.2.2 _ HM.out.1.2)
          case measure => have := HY.out.1; simp [intOf]; omega
        · by_cases hlt2 : y < a + o2
          · go_wp2
            go_region
            all_goals go_wp2
            go_roundw
            case rel => exact HM.out.2.2.1 _ HM.out.1.1 (HM.out.2.1.trans HM.out.1.2 (fun _ _ e => e)) (HM.out.2.2.2 _ HM.out.1.2)
            case measure => have := HY.out.1; simp [intOf]; omega
          · have hlt3 : a + o2 < y := by omega
            go_wp2
            go_region
            all_goals go_wp2
            go_roundw
            case rel => exact HM.out.2.2.1 _ HM.out.1.1 (HM.out.2.1.trans HM.out.1.2 (fun _ _ e => e)) (HM.out.2.2.2 _ HM.out.1.2)
            case measure => have := HY.out.1; simp [intOf]; omega
    · have hki : ¬ ((x0 + k : Nat) : Int) ≤ (a : Int) + (q : Int) * 2 + 1 := by omega
      obtain rfl : k = 3 := by omega
      have HI := Lib.hid (And.intro hR hK)
      clear hR hK hB
      go_wp2
      go_end0
      exact ⟨rfl, HI.out.1, HI.out.2⟩
end Go.Proofs.Ytpjggnfiocplmaa
