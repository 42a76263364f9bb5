/- sumpterref01.Same on bytes. -/
import Derived.Test.YtpjggnfiocplmaaCopy
import Derived.Test.YtpjggnfiocplmaaRefA
import Derived.Deep.QuietTactic
import Derived.BigQuiet
namespace Go.Proofs.Ytpjggnfiocplmaa
open Go Go.RowKit Go.Dr

theorem Keep.drewN {F : Nat → Prop} {a w : World} (h : Keep F a w) (n : Nat) : Keep F a (w.drewN n) := ⟨h.os, h.tape, h.output, h.size, h.block⟩

set_option maxRecDepth 100000 in
set_option maxHeartbeats 400000 in
theorem r1same_spec [bn : Inhabited Ban] {base : Nat} {w : World} {u v : Value} {l m : Bytes} (hu : BytesAt base w u l) (hv : BytesAt base w v m) :
    Calls Try.prog 26 #[u, v] w fun e w' => e = .returned (.bool (l == m)) ∧ Keep No w w' := by
  obtain ⟨ao, cap, rfl, hlc, hcm, _, hcell⟩ := hu
  obtain ⟨bo, cap', rfl, hlc', hcm', _, hcell'⟩ := hv
  unfold maxLen at hcm
  by_cases hlen : l.length = m.length
  · have hln : (l.length : Int) ≤ 9223372036854775807 := by omega
    have HL := Lib.hid hlen
    rw [← hlen]
    have hq : ((l.length : Int) != (l.length : Int)) = false := by simp
    clear hlen hcm hcm' hlc hlc'
    go_enter Try.func26, Try.ntmps26
    go_wp2
    go_loopw [13] (fun i wr => ∃ k : Nat, k ≤ l.length ∧ i = .int .i64 k ∧ l.take k = m.take k ∧ Keep No w wr) (fun i _ => l.length - (intOf i).toNat)
    case atStart => exact ⟨0, Nat.zero_le _, rfl, by simp, Keep.refl _ _⟩
    case round =>
      obtain ⟨k, hk, rfl, heq, hkp⟩ := hrel
      by_cases hlt : k < l.length
      · have hki : (k : Int) < (l.length : Int) := by omega
        obtain ⟨ad, rfl, _, hx⟩ := hcell k l[k] (List.getElem?_eq_getElem hlt)
        have hlt' : k < m.length := by have := HL.out; omega
        obtain ⟨bd, rfl, _, hy⟩ := hcell' k m[k] (List.getElem?_eq_getElem hlt')
        have hx := hkp.cell hx (fun e => e)
        have hy := hkp.cell hy (fun e => e)
        have tl : l.take (k + 1) = l.take k ++ [l[k]] := List.take_succ_eq_append_getElem hlt
        have tm : m.take (k + 1) = m.take k ++ [m[k]] := List.take_succ_eq_append_getElem hlt'
        have hlx : l[k]? = some l[k] := List.getElem?_eq_getElem hlt
        have hmy : m[k]? = some m[k] := List.getElem?_eq_getElem hlt'
        generalize l[k] = x at *
        generalize m[k] = y at *
        have hn : ∀ z : UInt8, 0 ≤ (z.toNat : Int) ∧ (z.toNat : Int) ≤ 255 := fun z => ⟨by omega, by have := z.toNat_lt; omega⟩
        have HE := Lib.hid (And.intro heq (And.intro tl (And.intro tm (And.intro hlx (And.intro hmy (And.intro hcell hcell'))))))
        clear heq tl tm hlx hmy hcell hcell'
        unfold u8v at hx hy
        by_cases hxy : x = y
        · subst hxy
          have hne : ((x.toNat : Int) != (x.toNat : Int)) = false := by simp
          go_wp2
          go_quiet (fail)
          go_wp2
          go_roundw
          case rel => exact ⟨k + 1, by omega, by go_num, by rw [HE.out.2.1, HE.out.2.2.1, HE.out.1], hkp.drewN _⟩
          case measure => simp [intOf]; omega
        · have hne : ((x.toNat : Int) != (y.toNat : Int)) = true := by
            simp only [bne_iff_ne, ne_eq]
            intro h
            exact hxy (UInt8.toNat_inj.1 (by omega))
          have hf : (l == m) = false := by
            rw [beq_eq_false_iff_ne]
            intro e
            have h1 := HE.out.2.2.2.1
            rw [e, HE.out.2.2.2.2.1] at h1
            exact hxy (by simpa using h1.symm)
          have HF := Lib.hid hf
          clear hf hxy
          go_wp2
          go_quiet (fail)
          go_wp2
          go_ret
          exact ⟨by rw [HF.out]; rfl, hkp.drewN _⟩
      · have hki : ¬ (k : Int) < (l.length : Int) := by omega
        obtain rfl : k = l.length := by omega
        have ht : (l == m) = true := by
          rw [beq_iff_eq]
          have h1 : l.take l.length = l := List.take_length
          have h2 : m.take l.length = m := by rw [HL.out]; exact List.take_length
          rw [h1, h2] at heq
          exact heq
        have HT := Lib.hid ht
        clear ht heq hki hlt hk
        go_wp2
        go_ret
        exact ⟨by rw [HT.out]; rfl, hkp⟩
  · have hq : ((l.length : Int) != (m.length : Int)) = true := by simp; omega
    have hf : (l == m) = false := by
      rw [beq_eq_false_iff_ne]
      intro e
      exact hlen (by rw [e])
    rw [hf]
    clear hf hlen
    go_enter Try.func26, Try.ntmps26
    go_wp2
    go_ret
    exact ⟨rfl, Keep.refl _ _⟩
end Go.Proofs.Ytpjggnfiocplmaa
