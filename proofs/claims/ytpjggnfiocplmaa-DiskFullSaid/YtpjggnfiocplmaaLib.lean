/- The library's functions on bytes: bytes.Clone, slices.Grow, slices.Concat. -/
import Derived.Test.YtpjggnfiocplmaaWorld
import Derived.BigQuiet
namespace Go.Proofs.Ytpjggnfiocplmaa
open Go Go.RowKit

theorem clone_spec [bn : Inhabited Ban] {base : Nat} {w : World} {v : Value} {l : Bytes} (h : BytesAt base w v l) (hl : l.length ≤ 35184372088832) :
    Calls Try.prog 57 #[v] w fun e w' => ∃ v', e = .returned v' ∧ OwnB w' w.heap.size v' l ∧ Keep No w w' := by
  have h0 := h
  obtain ⟨ao, cap, rfl, hc, hm, hn, hcell⟩ := h
  cases ao with
  | none =>
    obtain rfl := hn rfl
    obtain rfl : l = [] := List.eq_nil_of_length_eq_zero (by omega)
    go_enter Try.func57, Try.ntmps57
    go_wp2
    go_ret
    exact ⟨_, rfl, OwnB.nil _ _, Keep.refl _ _⟩
  | some ad =>
    have hk : Keep No w (w.alloc (.cells #[] 5)) := (Keep.refl _ _).alloc _
    have hown : OwnB (w.alloc (.cells #[] 5)) w.heap.size (.slice (some ⟨w.heap.size, 0, none⟩) 0 0) [] :=
      World.ownsRow_made w #[] 0 (Nat.le_refl _) (by decide) rfl
    have hsrc := h0.no hk
    clear h0 hcell hn
    go_enter Try.func57, Try.ntmps57
    go_wp2_with (at_builtin; refine wpList_append_bytes rfl _ _ rfl w.heap.size hown hsrc rfl rfl (by simp; omega) (by simp) ?_; intro v' w' hown' hk')
    go_ret
    refine ⟨_, rfl, hown', hk.trans hk' ?_⟩
    intro x hx hxx
    simp [Value.ownBlock] at hxx
    omega

set_option maxRecDepth 100000 in
/-- slices.Grow of a nil slice. -/
theorem grow_spec {w : World} {B : Nat} (n : Nat) (hn : n ≤ 70368744177664) (hB : B ≤ w.heap.size) :
    Calls Try.prog 100 #[.slice none 0 0, .int .i64 n] w fun e w' => ∃ v', e = .returned v' ∧ OwnB w' B v' [] ∧ Keep No w w' := by
  obtain ⟨i0, hi, hz0, hz1, hz2⟩ := info_parts info_u8
  by_cases h0 : n = 0
  · subst h0
    go_enter Try.func100, Try.ntmps100
    go_wp2
    go_ret
    exact ⟨_, rfl, OwnB.nil _ _, Keep.refl _ _⟩
  · have hp : (0 : Int) < (n : Int) := by omega
    have hb : (n : Int) ≤ 70368744177664 := by omega
    go_enter Try.func100, Try.ntmps100
    go_wp2_with (at_builtin; refine wpList_append_zeros rfl _ _ rfl B n (by omega) hn rfl rfl hB ?_; intro g cap w' hc hm ho1 ho2 hk)
    go_ret
    exact ⟨_, rfl, ho1, hk⟩

set_option maxRecDepth 100000 in
/-- slices.Concat. -/
theorem concat_spec [bn : Inhabited Ban] {base : Nat} {w : World} {v : Value} {ls : List Bytes} (h : SlicesAt base w v ls) (hl : ls.flatten.length ≤ 35184372088832) :
    Calls Try.prog 84 #[v] w fun e w' => ∃ v', e = .returned v' ∧ OwnB w' w.heap.size v' ls.flatten ∧ Keep No w w' := by
  obtain ⟨us, hus, hbs, ao, cap, rfl, hlc, hcm, hcells⟩ := h
  unfold maxLen at hcm
  have hn : (ls.length : Int) ≤ 9223372036854775807 := by omega
  have hz : ls.length ≤ us.length := by omega
  have HU := Lib.hid hus
  clear hus
  go_enter Try.func84, Try.ntmps84
  go_wp2
  go_loop [3, 11] (fun s i => ∃ k : Nat, k ≤ ls.length ∧ i = .int .i64 k ∧ s = .int .i64 (catLen ls k)) (fun _ i => ls.length - (intOf i).toNat)
  case atStart => exact ⟨0, Nat.zero_le _, rfl, rfl⟩
  case round =>
    obtain ⟨k, hk, rfl, rfl⟩ := hrel
    by_cases hlt : k < ls.length
    · rcases hcells with rfl | ⟨g, o, rfl, hcells⟩
      · simp at hlt
      · have hku : k < us.length := by omega
        have hc := hcells k us[k] (List.getElem?_eq_getElem hku)
        have hlk : ls[k]? = some ls[k] := List.getElem?_eq_getElem hlt
        have hb := hbs k _ _ (List.getElem?_eq_getElem hku) hlk
        obtain ⟨ao1, cap1, hu, _⟩ := hb
        have hs := catLen_succ hlk
        have hle := catLen_le ls (k + 1)
        have hb1 : (catLen ls k : Int) + (ls[k].length : Int) ≤ 35184372088832 := by omega
        have hb2 : (0 : Int) ≤ (catLen ls k : Int) + (ls[k].length : Int) := by omega
        have HS := Lib.hid hs
        rw [hu] at hc
        generalize ls[k].length = m at *
        clear hs hle hlk hbs hcells hu
        have hki : (k : Int) < (ls.length : Int) := by omega
        go_wp2
        go_round
        case rel => exact ⟨k + 1, by omega, by go_num, by rw [HS.out]; go_num⟩
        case measure => simp [intOf]; omega
    · have hki : ¬ (k : Int) < (ls.length : Int) := by omega
      obtain rfl : k = ls.length := by omega
      have hle := catLen_all ls
      have hb1 : (catLen ls ls.length : Int) ≤ 35184372088832 := by omega
      clear hle hki hlt hk
      go_wp2_with (go_at_call 100; refine (grow_spec (B := w.heap.size) (catLen ls ls.length) (by omega) (Nat.le_refl _)).mono ?_; rintro e w1 ⟨v0, rfl, hown0, hk0⟩)
      go_loopw [6, 27] (fun v i wr => ∃ k : Nat, k ≤ ls.length ∧ i = .int .i64 k ∧ OwnB wr w.heap.size v (catB ls k) ∧ Keep No w wr) (fun _ i _ => ls.length - (intOf i).toNat)
      case atStart => exact ⟨0, Nat.zero_le _, rfl, by rw [catB_zero]; exact hown0, hk0⟩
      case round =>
        clear hown0 hk0
        obtain ⟨k, hk, rfl, hown, hkp⟩ := hrel
        by_cases hlt : k < ls.length
        · rcases hcells with rfl | ⟨g, o, rfl, hcells⟩
          · simp at hlt
          · have hku : k < us.length := by omega
            have hc := hkp.cell (hcells k us[k] (List.getElem?_eq_getElem hku)) (fun h => h)
            have hlk : ls[k]? = some ls[k] := List.getElem?_eq_getElem hlt
            have hb := (hbs k _ _ (List.getElem?_eq_getElem hku) hlk).no hkp
            have hs := catB_succ hlk
            have hle := catLen_le ls (k + 1)
            rw [catLen_succ hlk] at hle
            unfold catLen at hle
            have hki : (k : Int) < (ls.length : Int) := by omega
            have HS := Lib.hid hs
            generalize us[k] = u at *
            generalize ls[k] = l at *
            clear hs hbs hcells hlk
            have hBs := hkp.size
            go_wp2_with (at_builtin; refine wpList_append_bytes rfl _ _ rfl w.heap.size hown hb rfl rfl (by omega) hBs ?_; intro v' w' hown' hk')
            go_roundw
            case rel => exact ⟨k + 1, by omega, by go_num, by rw [HS.out]; exact hown', hkp.trans hk' (fun x hx hxx => by have := (hown.lt x hxx).1; omega)⟩
            case measure => simp [intOf]; omega
        · have hki : ¬ (k : Int) < (ls.length : Int) := by omega
          obtain rfl : k = ls.length := by omega
          clear hki hlt hk
          go_wp2
          go_ret
          exact ⟨_, rfl, by rw [← catB_all]; exact hown, hkp⟩
end Go.Proofs.Ytpjggnfiocplmaa
