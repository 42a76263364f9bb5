/- Package span: GetItem. -/
import Derived.Test.YtgogfnafbeahoaaGreatSpanC
namespace Go.Proofs.YtgogfnafbeahoaaGreat
open Go Go.RowKit

def InS.item (s : InS) : ItemS × InS := if s.num.2.span.2.e = 0 then (⟨s.num.1, s.num.2.span.1⟩, s.num.2.span.2) else (⟨0, ⟨0, []⟩⟩, s.num.2.span.2)
set_option maxRecDepth 100000 in
set_option maxHeartbeats 2000000 in
theorem tGet_spec [bn : Inhabited Ban] {base g : Nat} {w : World} {s : InS} (h : InAt base w g s) (hlen : s.l.length ≤ 1099511627776) :
    Calls Tryz.prog 138 #[.pointer (some ⟨g, 0, none⟩)] w fun e w' => ∃ v, e = .returned (.agg #[.int .u64 s.item.1.n, .int .i64 s.item.1.s.c, v]) ∧ OwnB w' w.heap.size v s.item.1.s.body ∧ InAt base w' g s.item.2 ∧ Keep (· = g) w w' := by
  obtain ⟨b2, hb2⟩ : ∃ b, b = w.heap.size := ⟨_, rfl⟩
  have hgl : g < w.heap.size := by obtain ⟨_, v, h2, _⟩ := h; exact heap_lt h2
  obtain ⟨W, hW⟩ : ∃ W, W = w.alloc (.cells #[.int .u64 0, .int .i64 0, .slice none 0 0] 53) := ⟨_, rfl⟩
  have kW : Keep No w W := by rw [hW]; exact (Keep.refl _ _).alloc _
  have hA : W.heap[b2]? = some (.cells #[.int .u64 0, .int .i64 0, .slice none 0 0] 53 (0, 0)) := by rw [hW, hb2]; exact heap_new _ _
  have hn := iNum_spec (h.no kW) hlen
  obtain ⟨k, hk⟩ : ∃ k, k = s.num.1 := ⟨_, rfl⟩
  obtain ⟨s1, hs1⟩ : ∃ s1, s1 = s.num.2 := ⟨_, rfl⟩
  have hl1 : s1.l.length ≤ 1099511627776 := by rw [hs1]; exact Nat.le_trans (num_len s) hlen
  have hit : s.item = if s1.span.2.e = 0 then (⟨k, s1.span.1⟩, s1.span.2) else (⟨0, ⟨0, []⟩⟩, s1.span.2) := by rw [hs1, hk]; rfl
  rw [← hk, ← hs1] at hn
  have HH := Lib.hid (And.intro kW (And.intro hA (And.intro hl1 (And.intro hit (And.intro hgl h)))))
  clear kW hA hl1 hit hgl h hk hs1 hlen
  subst hb2
  go_enter Tryz.func138, Tryz.ntmps138
  go_wp2_with fail
  rw [← hW]
  clear hW
  refine hn.mono ?_
  rintro e w1 ⟨rfl, hi1, k1⟩
  clear hn
  have kA := fun (w : World) o => (Keep.refl No w).alloc o
  have hB3 := heap_new w1 (.cells #[.int .u64 k, .int .i64 0, .slice none 0 0] 53)
  have hi3 := hi1.no (kA w1 (.cells #[.int .u64 k, .int .i64 0, .slice none 0 0] 53))
  have hs := sGet_spec hi3 HH.out.2.2.1
  have HB := Lib.hid (And.intro hB3 (And.intro hi3 k1))
  clear hB3 hi3 k1 hi1
  go_wp2_with fail
  refine hs.mono ?_
  rintro e w4 ⟨v4, rfl, own4, hi4, k4⟩
  clear hs
  obtain ⟨vo, vc, rfl⟩ := own4.form
  have hit := HH.out.2.2.2.1
  have hgl := HH.out.2.2.2.2.1
  have hz1 := HB.out.2.2.size
  have hzW := HH.out.1.size
  have hne : ¬ w1.heap.size = g := fun e => by omega
  have hne2 : ¬ w.heap.size = g := fun e => by omega
  have hB4 := k4.heap HB.out.1 hne
  have hA4 := k4.heap ((kA w1 _).heap (HB.out.2.2.heap HH.out.2.1 hne2) (fun e => e)) hne2
  have c4 := cell_of hB4 1
  have c5 := cell_of hB4 2
  have f4 := frozen_of hB4
  simp at c4 c5
  have kE := (keep_cell (g := w1.heap.size) (i := 1) w4 (.int .i64 s1.span.1.c)).setCell (p := ⟨w1.heap.size, 2, none⟩) (.inl rfl) (.slice vo s1.span.1.body.length vc)
  have hBY := heap_setCell_same (i := 2) (u := .slice vo s1.span.1.body.length vc) (heap_setCell_same (i := 1) (u := .int .i64 s1.span.1.c) hB4)
  obtain ⟨Y, hY⟩ : ∃ Y, (w4.setCell ⟨w1.heap.size, 1, none⟩ (.int .i64 s1.span.1.c)).setCell ⟨w1.heap.size, 2, none⟩ (.slice vo s1.span.1.body.length vc) = Y := ⟨_, rfl⟩
  have hiY := hi4.keepF kE (by rintro b rfl; exact ⟨by have := hi4.at'; omega, heap_lt hB4, fun cs fr e => by rw [hB4] at e; simp at e⟩) (fun e => hne e.symm)
  rw [hY] at hBY kE hiY
  have hlA := heap_lt HH.out.2.1
  have hAY := kE.heap hA4 (fun e => by omega)
  have hie := iErr_spec hiY
  have cY := cell_of hBY 0
  have cY1 := cell_of hBY 1
  have cY2 := cell_of hBY 2
  have cA := cell_of hAY 0
  have cA1 := cell_of hAY 1
  have cA2 := cell_of hAY 2
  have fA := frozen_of hAY
  simp at cY cY1 cY2 cA cA1 cA2
  go_wp2_with fail
  refine hie.mono ?_
  rintro e w5 ⟨rfl, hw5⟩
  subst hw5
  have hFZ : Foot base w5 (· = w.heap.size) := by
    rintro b rfl
    exact ⟨by have := hi4.at'; omega, heap_lt hAY, fun cs fr e => by rw [hAY] at e; simp at e⟩
  have kW1 : Keep (· = g) w w1 := (HH.out.1.no (F := (· = g))).trans HB.out.2.2 (fun x _ h => h)
  have ho4 := own4.lt
  simp at ho4
  have own5 := own4.mono (B' := w.heap.size) (by simp; omega)
  have own6 := own5.keep kE (fun b hb => by have := ho4 b hb; omega)
  clear hY
  by_cases he : s1.span.2.e = 0
  · rw [if_pos he] at hit
    rw [he]
    go_wp2_with fail
    have hZ := heap_setCell_same (i := 2) (u := .slice vo s1.span.1.body.length vc) (heap_setCell_same (i := 1) (u := .int .i64 s1.span.1.c) (heap_setCell_same (i := 0) (u := .int .u64 k) hAY))
    have kZ := ((keep_cell (g := w.heap.size) (i := 0) w5 (.int .u64 k)).setCell (p := ⟨w.heap.size, 1, none⟩) (.inl rfl) (.int .i64 s1.span.1.c)).setCell (p := ⟨w.heap.size, 2, none⟩) (.inl rfl) (.slice vo s1.span.1.body.length vc)
    have z0 := cell_of hZ 0
    have z1 := cell_of hZ 1
    have z2 := cell_of hZ 2
    simp at z0 z1 z2
    refine bodyPost_ret (v := .agg #[.int .u64 k, .int .i64 s1.span.1.c, .slice vo s1.span.1.body.length vc]) (by simp [results, Tryz.results138, go_sem, z0, z1, z2]) rfl ?_
    rw [hit]
    have kAll := (((kW1.trans (kA w1 (.cells #[.int .u64 k, .int .i64 0, .slice none 0 0] 53)) (fun x _ h => h.elim)).trans k4 (fun x _ h => h)).trans kE (fun x hx h => by omega)).trans kZ (fun x hx h => by omega)
    have hiZ := hiY.keepF kZ hFZ (by omega)
    exact ⟨_, rfl, own6.keep kZ (fun b hb => by have := ho4 b hb; omega), hiZ, kAll⟩
  · rw [if_neg he] at hit
    have hq : (s1.span.2.e == 0) = false := by simpa using he
    go_wp2_with fail
    have hZ := heap_setCell_same (i := 2) (u := .slice none 0 0) (heap_setCell_same (i := 1) (u := .int .i64 0) (heap_setCell_same (i := 0) (u := .int .u64 0) hAY))
    have kZ := ((keep_cell (g := w.heap.size) (i := 0) w5 (.int .u64 0)).setCell (p := ⟨w.heap.size, 1, none⟩) (.inl rfl) (.int .i64 0)).setCell (p := ⟨w.heap.size, 2, none⟩) (.inl rfl) (.slice none 0 0)
    have z0 := cell_of hZ 0
    have z1 := cell_of hZ 1
    have z2 := cell_of hZ 2
    simp at z0 z1 z2
    refine bodyPost_ret (v := .agg #[.int .u64 0, .int .i64 0, .slice none 0 0]) (by simp [results, Tryz.results138, go_sem, z0, z1, z2]) rfl ?_
    rw [hit]
    have kAll := (((kW1.trans (kA w1 (.cells #[.int .u64 k, .int .i64 0, .slice none 0 0] 53)) (fun x _ h => h.elim)).trans k4 (fun x _ h => h)).trans kE (fun x hx h => by omega)).trans kZ (fun x hx h => by omega)
    have hiZ := hiY.keepF kZ hFZ (by omega)
    exact ⟨_, rfl, OwnB.nil _ _, hiZ, kAll⟩
end Go.Proofs.YtgogfnafbeahoaaGreat
