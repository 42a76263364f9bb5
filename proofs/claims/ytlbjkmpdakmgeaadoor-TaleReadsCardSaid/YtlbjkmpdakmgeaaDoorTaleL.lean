/- Package tale: an event's line. -/
import Derived.Test.YtlbjkmpdakmgeaaDoorTaleH
namespace Go.Proofs.YtlbjkmpdakmgeaaDoor
open Go Go.RowKit Go.Dr

def findF (n : Nat) : LineS × Bool := match linesF.find? (fun k => k.kind == n) with
  | some k => (k, true)
  | none => (⟨0, [], []⟩, false)
theorem find_drop (n : Nat) {k : Nat} (hk : k < 12) : (linesF.drop k).find? (fun x => x.kind == n) = if (lineAt k).kind = n then some (lineAt k) else (linesF.drop (k + 1)).find? (fun x => x.kind == n) := by
  rw [lineAt_drop k hk, List.find?_cons]
  by_cases h : (lineAt k).kind = n
  · rw [if_pos h, h]; simp
  · rw [if_neg h, beq_eq_false_iff_ne.2 h]
theorem lineAt_kind : ∀ k : Nat, k < 12 → (lineAt k).kind < 12 := fun _k hk => lines_lt _ (lineAt_mem hk)
set_option maxRecDepth 100000 in
theorem find_spec (w : World) (n : Nat) (hn : n < 256) :
    Calls Tryd.prog 36 #[.int .u8 n] w fun e w' => e = .returned (.tuple #[lineV (findF n).1, .bool (findF n).2]) ∧ Keep No w w' := by
  obtain ⟨R, hR⟩ : ∃ R, R = findF n := ⟨_, rfl⟩
  rw [← hR]
  have HR := Lib.hid hR
  clear hR
  go_enter Tryd.func36, Tryd.ntmps36
  go_wp2_with (go_at_call 31; refine (lines_spec _).mono ?_; rintro e w' ⟨rfl, rfl⟩)
  obtain ⟨W, hW⟩ : ∃ W, W = (w.alloc (.cells #[.int .u8 0, strV [], strV []] 68)).alloc (.cells linesC 68) := ⟨_, rfl⟩
  have hkW : Keep No w W := by rw [hW]; exact ((Keep.refl _ _).alloc _).alloc _
  have hl : W.heap[w.heap.size + 1]? = some (.cells linesC 68) := by
    rw [hW]
    have := heap_new (w.alloc (.cells #[.int .u8 0, strV [], strV []] 68)) (.cells linesC 68)
    rw [World.size_alloc] at this
    exact this
  have hb : W.heap[w.heap.size]? = some (.cells #[.int .u8 0, strV [], strV []] 68) := by
    rw [hW]
    exact ((Keep.refl No _).alloc _).heap (heap_new _ _) (fun e => e)
  show Code.wp _ _ _ _ ((w.alloc (.cells #[.int .u8 0, strV [], strV []] 68)).alloc (.cells linesC 68))
  rw [← hW]
  have hsz := heap_lt hl
  clear hW
  go_loopw [8] (fun i wr => ∃ k : Nat, k ≤ 12 ∧ i = .int .i64 k ∧ Keep No W wr ∧ Hid (linesF.find? (fun x => x.kind == n) = (linesF.drop k).find? (fun x => x.kind == n))) (fun i _ => 12 - (intOf i).toNat)
  case atStart => exact ⟨0, by omega, rfl, Keep.refl _ _, Lib.hid rfl⟩
  case round =>
    obtain ⟨k, hk, rfl, hkp, hf⟩ := hrel
    have hb := hkp.heap hb (fun e => e)
    by_cases hlt : k < 12
    · have hki : (k : Int) < 12 := by omega
      obtain ⟨c0, c1, c2⟩ := lines_cells (hkp.heap hl (fun e => e)) hlt
      have hd := find_drop n hlt
      have hkk := lineAt_kind k hlt
      generalize lineAt k = L at *
      have b0 := cell_of hb 0
      have b1 := cell_of hb 1
      have b2 := cell_of hb 2
      have hfz := frozen_of hb
      simp at b0 b1 b2
      obtain ⟨kd, nm, pt⟩ := L
      simp only at c0 c1 c2 hd hkk
      have hn0 : (n : Int) ≤ 255 := by omega
      have hkd : (kd : Int) ≤ 255 := by omega
      by_cases he : kd = n
      · rw [if_pos he] at hd
        have hf2 : R = (⟨kd, nm, pt⟩, true) := by rw [HR.out]; unfold findF; rw [hf.out, hd]
        subst he hf2
        clear hd hf hkk
        have hlw : w.heap.size < wr.heap.size := heap_lt hb
        have b0' : ∀ o, (wr.alloc o).cell? ⟨w.heap.size, 0, none⟩ = some (.int .u8 0) := fun o => ((Keep.refl No _).alloc _).cell b0 (fun e => e)
        have b1' : ∀ o, (wr.alloc o).cell? ⟨w.heap.size, 1, none⟩ = some (strV []) := fun o => ((Keep.refl No _).alloc _).cell b1 (fun e => e)
        have b2' : ∀ o, (wr.alloc o).cell? ⟨w.heap.size, 2, none⟩ = some (strV []) := fun o => ((Keep.refl No _).alloc _).cell b2 (fun e => e)
        have bf' : ∀ o i, (wr.alloc o).frozen? ⟨w.heap.size, i, none⟩ = false := fun o => frozen_of (((Keep.refl No _).alloc _).heap hb (fun e => e))
        go_wp2
        have hkz : Keep No w wr := hkW.then hkp
        have hX := ((Keep.refl No _).alloc (.cells #[.int .u8 kd, .string ⟨nm.toArray⟩, .string ⟨pt.toArray⟩] 68)).heap (heap_setCell_same (i := 2) (u := .string ⟨pt.toArray⟩) (heap_setCell_same (i := 1) (u := .string ⟨nm.toArray⟩) (heap_setCell_same (i := 0) (u := .int .u8 kd) hb))) (fun e => e)
        have f0 := cell_of hX 0
        have f1 := cell_of hX 1
        have f2 := cell_of hX 2
        simp at f0 f1 f2
        exact bodyPost_ret (v := .tuple #[lineV ⟨kd, nm, pt⟩, .bool true]) (by simp [results, Tryd.results36, go_sem, lineV, f0, f1, f2]) rfl ⟨rfl, (((hkz.setCell (.inr (Nat.le_refl _)) _).setCell (.inr (Nat.le_refl _)) _).setCell (.inr (Nat.le_refl _)) _).alloc _⟩
      · rw [if_neg he] at hd
        have hf2 := Lib.hid (hf.out.trans hd)
        have hq : ((kd : Int) == (n : Int)) = false := by rw [beq_eq_false_iff_ne]; omega
        clear hd hf hkk he
        go_wp2
        go_roundw
        case rel => exact ⟨k + 1, by omega, by go_num, hkp.alloc _, hf2⟩
        case measure => simp [intOf]; omega
    · obtain rfl : k = 12 := by omega
      have hf2 : R = (⟨0, [], []⟩, false) := by rw [HR.out]; unfold findF; rw [hf.out]; rfl
      subst hf2
      clear hf
      have b0 := cell_of hb 0
      have b1 := cell_of hb 1
      have b2 := cell_of hb 2
      have hfz := frozen_of hb
      simp at b0 b1 b2
      go_wp2
      have hkz : Keep No w wr := hkW.then hkp
      have hX := (heap_setCell_same (i := 2) (u := .string ⟨#[]⟩) (heap_setCell_same (i := 1) (u := .string ⟨#[]⟩) (heap_setCell_same (i := 0) (u := .int .u8 0) hb)))
      have f0 := cell_of hX 0
      have f1 := cell_of hX 1
      have f2 := cell_of hX 2
      simp at f0 f1 f2
      exact bodyPost_ret (v := .tuple #[lineV ⟨0, [], []⟩, .bool false]) (by simp [results, Tryd.results36, go_sem, lineV, f0, f1, f2]) rfl ⟨rfl, (((hkz.setCell (.inr (Nat.le_refl _)) _).setCell (.inr (Nat.le_refl _)) _).setCell (.inr (Nat.le_refl _)) _)⟩
end Go.Proofs.YtlbjkmpdakmgeaaDoor
