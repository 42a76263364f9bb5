/- Package span: Get. -/
import Derived.Test.YtgogfnafbeahoaaGreatSpanB
namespace Go.Proofs.YtgogfnafbeahoaaGreat
open Go Go.RowKit

def InS.cls (s : InS) : InS := if s.byte.1 < 8 then s.byte.2 else s.byte.2.fail 2
def InS.span (s : InS) : SpanS × InS := if (s.cls.some 4096).2.e = 0 then (⟨s.byte.1, (s.cls.some 4096).1⟩, (s.cls.some 4096).2) else (⟨0, []⟩, (s.cls.some 4096).2)
theorem byte_len (s : InS) : s.byte.2.l.length ≤ s.l.length ∧ s.byte.1 < 256 := by
  unfold InS.byte
  split
  · split
    · rename_i h
      simp [InS.fail]
    · rename_i b r h
      rw [h]
      have := b.toNat_lt
      simp
      exact this
  · exact ⟨Nat.le_refl _, by show (0 : Nat) < 256; decide⟩
theorem cls_len (s : InS) : s.cls.l.length ≤ s.l.length := by
  unfold InS.cls
  split
  · exact (byte_len s).1
  · exact (byte_len s).1
theorem InAt.keepF [bn : Inhabited Ban] {base g : Nat} {w w' : World} {s : InS} {F : Nat → Prop} (h : InAt base w g s) (k : Keep F w w') (hF : Foot base w F) (hg : ¬ F g) : InAt base w' g s := by
  obtain ⟨h1, v, h2, h3⟩ := h
  exact ⟨h1, v, k.heap h2 hg, h3.keep hF k⟩
set_option maxRecDepth 100000 in
set_option maxHeartbeats 2000000 in
theorem sGet_spec [bn : Inhabited Ban] {base g : Nat} {w : World} {s : InS} (h : InAt base w g s) (hlen : s.l.length ≤ 1099511627776) :
    Calls Tryz.prog 165 #[.pointer (some ⟨g, 0, none⟩)] w fun e w' => ∃ v, e = .returned (.agg #[.int .i64 s.span.1.c, v]) ∧ OwnB w' w.heap.size v s.span.1.body ∧ InAt base w' g s.span.2 ∧ Keep (· = g) w w' := by
  obtain ⟨b2, hb2⟩ : ∃ b, b = w.heap.size := ⟨_, rfl⟩
  have hgl : g < w.heap.size := by obtain ⟨_, v, h2, _⟩ := h; exact heap_lt h2
  obtain ⟨W, hW⟩ : ∃ W, W = w.alloc (.cells #[.int .i64 0, .slice none 0 0] 51) := ⟨_, rfl⟩
  have kW : Keep No w W := by rw [hW]; exact (Keep.refl _ _).alloc _
  have hA : W.heap[b2]? = some (.cells #[.int .i64 0, .slice none 0 0] 51 (0, 0)) := by rw [hW, hb2]; exact heap_new _ _
  have hby := iByte_spec (h.no kW)
  obtain ⟨k, hk⟩ : ∃ k, k = s.byte.1 := ⟨_, rfl⟩
  obtain ⟨s1, hs1⟩ : ∃ s1, s1 = s.byte.2 := ⟨_, rfl⟩
  obtain ⟨s2, hs2⟩ : ∃ s2, s2 = s.cls := ⟨_, rfl⟩
  rw [← hk, ← hs1] at hby
  have hk256 : k < 256 := by rw [hk]; exact (byte_len s).2
  have hki : (k : Int) ≤ 255 := by omega
  have hc : s2 = if k < 8 then s1 else s1.fail 2 := by rw [hs2, hk, hs1]; rfl
  have hl2 : s2.l.length ≤ 1099511627776 := by rw [hs2]; exact Nat.le_trans (cls_len s) hlen
  have hsp : s.span = if (s2.some 4096).2.e = 0 then (⟨k, (s2.some 4096).1⟩, (s2.some 4096).2) else (⟨0, []⟩, (s2.some 4096).2) := by rw [hs2, hk]; rfl
  obtain ⟨bb, hbb⟩ : ∃ bb, bb = (s2.some 4096).1 := ⟨_, rfl⟩
  obtain ⟨s3, hs3⟩ : ∃ s3, s3 = (s2.some 4096).2 := ⟨_, rfl⟩
  rw [← hbb, ← hs3] at hsp
  have HH := Lib.hid (And.intro kW (And.intro hA (And.intro hc (And.intro hl2 (And.intro hsp (And.intro hbb (And.intro hs3 (And.intro hgl (And.intro hb2 h)))))))))
  clear kW hA hc hl2 hsp hbb hs3 hgl h hk hs1 hs2 hk256 hlen
  subst hb2
  go_enter Tryz.func165, Tryz.ntmps165
  go_wp2_with fail
  rw [← hW]
  clear hW
  refine hby.mono ?_
  rintro e w1 ⟨rfl, hi1, k1⟩
  clear hby
  have kA := fun (w : World) o => (Keep.refl No w).alloc o
  have hB3 := heap_new w1 (.cells #[.int .i64 k, .slice none 0 0] 51)
  have hi3 := hi1.no (kA w1 (.cells #[.int .i64 k, .slice none 0 0] 51))
  have hb1 := hi1.at'
  have HB := Lib.hid (And.intro hB3 (And.intro hi3 (And.intro k1 hb1)))
  clear hB3 hi3 k1 hi1 hb1
  by_cases h8 : k < 8
  · have h8i : ¬ (8 : Int) ≤ (k : Int) := by omega
    have hc := HH.out.2.2.1
    rw [if_pos h8] at hc
    subst hc
    have hbs := iBytes_spec HB.out.2.1 HH.out.2.2.2.1 4096 (by decide)
    rw [← HH.out.2.2.2.2.2.1, ← HH.out.2.2.2.2.2.2.1] at hbs
    go_wp2_with fail
    refine hbs.mono ?_
    rintro e w4 ⟨v4, rfl, own4, hi4, k4⟩
    clear hbs
    obtain ⟨vo, vc, rfl⟩ := own4.form
    have hgl := HH.out.2.2.2.2.2.2.2.1
    have hs1 := HB.out.2.2.1.size
    have hsW := HH.out.1.size
    have hne : ¬ w1.heap.size = g := fun e => by omega
    have hne2 : ¬ w.heap.size = g := fun e => by omega
    have hB4 := k4.heap HB.out.1 hne
    have hA4 := k4.heap ((kA w1 _).heap (HB.out.2.2.1.heap HH.out.2.1 hne2) (fun e => e)) hne2
    have c4 := cell_of hB4 1
    have f4 := frozen_of hB4
    simp at c4
    obtain ⟨Y, hY⟩ : ∃ Y, w4.setCell ⟨w1.heap.size, 1, none⟩ (.slice vo bb.length vc) = Y := ⟨_, rfl⟩
    have kE : Keep (· = w1.heap.size) w4 (w4.setCell ⟨w1.heap.size, 1, none⟩ (.slice vo bb.length vc)) := keep_cell _ _
    have hBY := heap_setCell_same (i := 1) (u := .slice vo bb.length vc) hB4
    have hiY := hi4.keepF kE (by rintro b rfl; exact ⟨by have := hi4.at'; omega, heap_lt hB4, fun cs fr e => by rw [hB4] at e; simp at e⟩) (fun e => hne e.symm)
    rw [hY] at hBY kE hiY
    have hlA := heap_lt HH.out.2.1
    have hAY := kE.heap hA4 (fun e => by omega)
    have hie := iErr_spec hiY
    have hsp := HH.out.2.2.2.2.1
    have hsz4 := k4.size
    have cY := cell_of hBY 0
    have cY1 := cell_of hBY 1
    have cA := cell_of hAY 0
    have cA1 := cell_of hAY 1
    have fA := frozen_of hAY
    simp at cY cY1 cA cA1
    go_wp2_with fail
    refine hie.mono ?_
    rintro e w5 ⟨rfl, hw5⟩
    subst hw5
    by_cases he : s3.e = 0
    · rw [if_pos he] at hsp
      rw [he]
      go_wp2_with fail
      have hZ := heap_setCell_same (i := 1) (u := .slice vo bb.length vc) (heap_setCell_same (i := 0) (u := .int .i64 k) hAY)
      have kZ := (keep_cell (g := w.heap.size) (i := 0) w5 (.int .i64 k)).setCell (p := ⟨w.heap.size, 1, none⟩) (.inl rfl) (.slice vo bb.length vc)
      have z0 := cell_of hZ 0
      have z1 := cell_of hZ 1
      simp at z0 z1
      refine bodyPost_ret (v := .agg #[.int .i64 k, .slice vo bb.length vc]) (by simp [results, Tryz.results165, go_sem, z0, z1]) rfl ?_
      rw [hsp]
      have hFZ : Foot base w5 (· = w.heap.size) := by
        rintro b rfl
        exact ⟨by have := hi4.at'; omega, heap_lt hAY, fun cs fr e => by rw [hAY] at e; simp at e⟩
      have kW1 : Keep (· = g) w w1 := (HH.out.1.no (F := (· = g))).trans HB.out.2.2.1 (fun x _ h => h)
      have kAll := (((kW1.trans (kA w1 (.cells #[.int .i64 k, .slice none 0 0] 51)) (fun x _ h => h.elim)).trans k4 (fun x _ h => h)).trans kE (fun x hx h => by omega)).trans kZ (fun x hx h => by omega)
      have hiZ := hiY.keepF kZ hFZ (by omega)
      have ho4 := own4.lt
      simp at ho4
      exact ⟨_, rfl, (((own4.mono (by simp; omega)).keep kE (fun b hb => by have := ho4 b hb; omega)).keep kZ (fun b hb => by have := ho4 b hb; omega)), hiZ, kAll⟩
    · rw [if_neg he] at hsp
      have hq : (s3.e == 0) = false := by simpa using he
      go_wp2_with fail
      have hZ := heap_setCell_same (i := 1) (u := .slice none 0 0) (heap_setCell_same (i := 0) (u := .int .i64 0) hAY)
      have kZ := (keep_cell (g := w.heap.size) (i := 0) w5 (.int .i64 0)).setCell (p := ⟨w.heap.size, 1, none⟩) (.inl rfl) (.slice none 0 0)
      have z0 := cell_of hZ 0
      have z1 := cell_of hZ 1
      simp at z0 z1
      refine bodyPost_ret (v := .agg #[.int .i64 0, .slice none 0 0]) (by simp [results, Tryz.results165, go_sem, z0, z1]) rfl ?_
      rw [hsp]
      have hFZ : Foot base w5 (· = w.heap.size) := by
        rintro b rfl
        exact ⟨by have := hi4.at'; omega, heap_lt hAY, fun cs fr e => by rw [hAY] at e; simp at e⟩
      have kW1 : Keep (· = g) w w1 := (HH.out.1.no (F := (· = g))).trans HB.out.2.2.1 (fun x _ h => h)
      have kAll := (((kW1.trans (kA w1 (.cells #[.int .i64 k, .slice none 0 0] 51)) (fun x _ h => h.elim)).trans k4 (fun x _ h => h)).trans kE (fun x hx h => by omega)).trans kZ (fun x hx h => by omega)
      have hiZ := hiY.keepF kZ hFZ (by omega)
      exact ⟨_, rfl, OwnB.nil _ _, hiZ, kAll⟩
  · have h8i : (8 : Int) ≤ (k : Int) := by omega
    have hc := HH.out.2.2.1
    rw [if_neg h8] at hc
    have hf := iFail_spec HB.out.2.1 2
    rw [← hc] at hf
    go_wp2_with fail
    refine hf.mono ?_
    rintro e w2 ⟨rfl, hi2, k2⟩
    clear hf
    have hbs := iBytes_spec hi2 HH.out.2.2.2.1 4096 (by decide)
    rw [← HH.out.2.2.2.2.2.1, ← HH.out.2.2.2.2.2.2.1] at hbs
    go_wp2_with fail
    refine hbs.mono ?_
    rintro e w4 ⟨v4, rfl, own40, hi4, k40⟩
    clear hbs
    have own4 := own40.mono k2.size
    have k4 := k2.trans k40 (fun x _ h => h)
    clear own40 k40
    obtain ⟨vo, vc, rfl⟩ := own4.form
    have hgl := HH.out.2.2.2.2.2.2.2.1
    have hs1 := HB.out.2.2.1.size
    have hsW := HH.out.1.size
    have hne : ¬ w1.heap.size = g := fun e => by omega
    have hne2 : ¬ w.heap.size = g := fun e => by omega
    have hB4 := k4.heap HB.out.1 hne
    have hA4 := k4.heap ((kA w1 _).heap (HB.out.2.2.1.heap HH.out.2.1 hne2) (fun e => e)) hne2
    have c4 := cell_of hB4 1
    have f4 := frozen_of hB4
    simp at c4
    obtain ⟨Y, hY⟩ : ∃ Y, w4.setCell ⟨w1.heap.size, 1, none⟩ (.slice vo bb.length vc) = Y := ⟨_, rfl⟩
    have kE : Keep (· = w1.heap.size) w4 (w4.setCell ⟨w1.heap.size, 1, none⟩ (.slice vo bb.length vc)) := keep_cell _ _
    have hBY := heap_setCell_same (i := 1) (u := .slice vo bb.length vc) hB4
    have hiY := hi4.keepF kE (by rintro b rfl; exact ⟨by have := hi4.at'; omega, heap_lt hB4, fun cs fr e => by rw [hB4] at e; simp at e⟩) (fun e => hne e.symm)
    rw [hY] at hBY kE hiY
    have hlA := heap_lt HH.out.2.1
    have hAY := kE.heap hA4 (fun e => by omega)
    have hie := iErr_spec hiY
    have hsp := HH.out.2.2.2.2.1
    have hsz4 := k4.size
    have cY := cell_of hBY 0
    have cY1 := cell_of hBY 1
    have cA := cell_of hAY 0
    have cA1 := cell_of hAY 1
    have fA := frozen_of hAY
    simp at cY cY1 cA cA1
    go_wp2_with fail
    refine hie.mono ?_
    rintro e w5 ⟨rfl, hw5⟩
    subst hw5
    by_cases he : s3.e = 0
    · rw [if_pos he] at hsp
      rw [he]
      go_wp2_with fail
      have hZ := heap_setCell_same (i := 1) (u := .slice vo bb.length vc) (heap_setCell_same (i := 0) (u := .int .i64 k) hAY)
      have kZ := (keep_cell (g := w.heap.size) (i := 0) w5 (.int .i64 k)).setCell (p := ⟨w.heap.size, 1, none⟩) (.inl rfl) (.slice vo bb.length vc)
      have z0 := cell_of hZ 0
      have z1 := cell_of hZ 1
      simp at z0 z1
      refine bodyPost_ret (v := .agg #[.int .i64 k, .slice vo bb.length vc]) (by simp [results, Tryz.results165, go_sem, z0, z1]) rfl ?_
      rw [hsp]
      have hFZ : Foot base w5 (· = w.heap.size) := by
        rintro b rfl
        exact ⟨by have := hi4.at'; omega, heap_lt hAY, fun cs fr e => by rw [hAY] at e; simp at e⟩
      have kW1 : Keep (· = g) w w1 := (HH.out.1.no (F := (· = g))).trans HB.out.2.2.1 (fun x _ h => h)
      have kAll := (((kW1.trans (kA w1 (.cells #[.int .i64 k, .slice none 0 0] 51)) (fun x _ h => h.elim)).trans k4 (fun x _ h => h)).trans kE (fun x hx h => by omega)).trans kZ (fun x hx h => by omega)
      have hiZ := hiY.keepF kZ hFZ (by omega)
      have ho4 := own4.lt
      simp at ho4
      exact ⟨_, rfl, (((own4.mono (by simp; omega)).keep kE (fun b hb => by have := ho4 b hb; omega)).keep kZ (fun b hb => by have := ho4 b hb; omega)), hiZ, kAll⟩
    · rw [if_neg he] at hsp
      have hq : (s3.e == 0) = false := by simpa using he
      go_wp2_with fail
      have hZ := heap_setCell_same (i := 1) (u := .slice none 0 0) (heap_setCell_same (i := 0) (u := .int .i64 0) hAY)
      have kZ := (keep_cell (g := w.heap.size) (i := 0) w5 (.int .i64 0)).setCell (p := ⟨w.heap.size, 1, none⟩) (.inl rfl) (.slice none 0 0)
      have z0 := cell_of hZ 0
      have z1 := cell_of hZ 1
      simp at z0 z1
      refine bodyPost_ret (v := .agg #[.int .i64 0, .slice none 0 0]) (by simp [results, Tryz.results165, go_sem, z0, z1]) rfl ?_
      rw [hsp]
      have hFZ : Foot base w5 (· = w.heap.size) := by
        rintro b rfl
        exact ⟨by have := hi4.at'; omega, heap_lt hAY, fun cs fr e => by rw [hAY] at e; simp at e⟩
      have kW1 : Keep (· = g) w w1 := (HH.out.1.no (F := (· = g))).trans HB.out.2.2.1 (fun x _ h => h)
      have kAll := (((kW1.trans (kA w1 (.cells #[.int .i64 k, .slice none 0 0] 51)) (fun x _ h => h.elim)).trans k4 (fun x _ h => h)).trans kE (fun x hx h => by omega)).trans kZ (fun x hx h => by omega)
      have hiZ := hiY.keepF kZ hFZ (by omega)
      exact ⟨_, rfl, OwnB.nil _ _, hiZ, kAll⟩
end Go.Proofs.YtgogfnafbeahoaaGreat
