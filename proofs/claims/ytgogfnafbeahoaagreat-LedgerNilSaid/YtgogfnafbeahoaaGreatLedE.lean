/- The ledger's errors, and slices.Equal of numbers. -/
import Derived.Test.YtgogfnafbeahoaaGreatLedOp
namespace Go.Proofs.YtgogfnafbeahoaaGreat
open Go Go.RowKit Go.Dr Go.Shelf

/-! ### Equal numbers in a row -/
def UsAt (w : World) (v : Value) (l : List Nat) : Prop := ∃ ao cap, v = .slice ao l.length cap ∧ (l ≠ [] → ∃ g o, ao = some ⟨g, o, none⟩ ∧ ∀ (k x : Nat), l[k]? = some x → w.cell? ⟨g, o + k, none⟩ = some (.int .u64 x))
theorem UsAt.nil (w : World) : UsAt w (.slice none 0 0) [] := ⟨none, 0, rfl, fun h => absurd rfl h⟩
theorem UsAt.no {w w' : World} {v : Value} {l : List Nat} (h : UsAt w v l) (k : Keep No w w') : UsAt w' v l := by
  obtain ⟨ao, cap, rfl, h⟩ := h
  refine ⟨ao, cap, rfl, fun hl => ?_⟩
  obtain ⟨g, o, e, hh⟩ := h hl
  exact ⟨g, o, e, fun i x hx => k.cell (hh i x hx) (fun e => e)⟩
theorem OwnN.nums {w : World} {B : Nat} {v : Value} {l : List Nat} (h : OwnN w B v l) : UsAt w v l := by
  obtain ⟨ao, cap, rfl, _, _⟩ := h.form
  refine ⟨ao, cap, rfl, fun hl => ?_⟩
  cases ao with
  | none => rcases h.2 with ⟨_, h0⟩ | ⟨g, cap', cur, e, _⟩
            · exact absurd (List.length_eq_zero_iff.1 h0) hl
            · cases e
  | some a =>
    rcases h.2 with ⟨e, _⟩ | ⟨g, cap', cur, e, _⟩
    · cases e
    · cases e
      refine ⟨g, 0, rfl, fun i x hx => ?_⟩
      obtain ⟨g', e, hc⟩ := row_cell h (j := i) (x := u64v x) (by rw [List.getElem?_map, hx]; rfl) (by simp)
      cases e
      rw [Nat.zero_add]
      exact hc
set_option maxRecDepth 100000 in
theorem eq64_spec {w : World} {va vb : Value} {l m : List Nat} (ha : UsAt w va l) (hb : UsAt w vb m) (hl : l.length ≤ 268435456) (_hm : m.length ≤ 268435456) :
    Calls Tryz.prog 14 #[va, vb] w fun e w' => e = .returned (.bool (decide (l = m))) ∧ Keep No w w' := by
  obtain ⟨ao, ac, rfl, ha⟩ := ha
  obtain ⟨bo, bc, rfl, hb⟩ := hb
  have hli : (l.length : Int) ≤ 268435456 := by omega
  obtain ⟨bb, hbb⟩ : ∃ bb, bb = decide (l = m) := ⟨_, rfl⟩
  rw [← hbb]
  by_cases hlm : l.length = m.length
  · have HH := Lib.hid (And.intro ha (And.intro hb hlm))
    have HD := Lib.hid hbb
    clear hbb
    have hcmp : ((l.length : Int) != (m.length : Int)) = false := by simp [hlm]
    clear ha hb hlm hl
    go_enter Tryz.func14, Tryz.ntmps14
    go_wp2_with fail
    go_loopw [13] (fun iv wr => ∃ (k : Nat), iv = .int .i64 k ∧ k ≤ l.length ∧ l.take k = m.take k ∧ Keep No w wr) (fun iv _ => l.length - (intOf iv).toNat)
    case atStart => exact ⟨0, rfl, Nat.zero_le _, by simp, Keep.refl _ _⟩
    case round =>
      obtain ⟨k, rfl, hk, htk, kr⟩ := hrel
      by_cases hlt : k < l.length
      · have hltm : k < m.length := by rw [← HH.out.2.2]; exact hlt
        have hr : l[k]? = some l[k] := List.getElem?_eq_getElem hlt
        have hs : m[k]? = some m[k] := List.getElem?_eq_getElem hltm
        obtain ⟨r, hre⟩ : ∃ r, r = l[k] := ⟨_, rfl⟩
        obtain ⟨s, hse⟩ : ∃ s, s = m[k] := ⟨_, rfl⟩
        rw [← hre] at hr
        rw [← hse] at hs
        obtain ⟨g, o, rfl, hrow⟩ := HH.out.1 (fun e => by rw [e] at hlt; simp at hlt)
        obtain ⟨g2, o2, rfl, hrow2⟩ := HH.out.2.1 (fun e => by rw [e] at hltm; simp at hltm)
        have r0 := kr.cell (hrow k r hr) (fun e => e)
        have s0 := kr.cell (hrow2 k s hs) (fun e => e)
        have hki : (k : Int) < (l.length : Int) := by omega
        have hki2 : (k : Int) < (m.length : Int) := by omega
        have htl : l.take (k + 1) = l.take k ++ [r] := by rw [List.take_succ_eq_append_getElem hlt, hre]
        have htm : m.take (k + 1) = m.take k ++ [s] := by rw [List.take_succ_eq_append_getElem hltm, hse]
        by_cases hrs : r = s
        · subst hrs
          have HR := Lib.hid (And.intro (show l.take (k + 1) = m.take (k + 1) by rw [htl, htm, htk]) (And.intro kr hlt))
          clear htl htm htk kr hlt hltm hr hs hrow hrow2 hk hre hse
          go_wp2_with fail
          go_quiet (fail)
          go_wp2_with fail
          go_roundw
          case rel => exact ⟨k + 1, by congr 1, by have := HR.out.2.2; omega, HR.out.1, HR.out.2.1.drewN _⟩
          case measure => have := HR.out.2.2; simp [intOf]; omega
        · have hne : decide (l = m) = false := by
            simp
            intro e
            apply hrs
            rw [hre, hse]
            subst e
            rfl
          obtain rfl : bb = false := HD.out.trans hne
          have h2 : ((r : Int) == (s : Int)) = false := by simp; omega
          have HR := Lib.hid (And.intro kr hlt)
          clear htl htm htk kr hlt hltm hr hs hrow hrow2 hk hre hse hne hrs
          go_wp2_with fail
          go_quiet (fail)
          go_wp2_with fail
          go_ret
          exact ⟨rfl, HR.out.1.drewN _⟩
      · have hki : ¬ (k : Int) < (l.length : Int) := by omega
        have hke : k = l.length := by omega
        have hbt : bb = true := by
          rw [HD.out]
          simp
          rw [hke, List.take_of_length_le (Nat.le_refl _), HH.out.2.2, List.take_of_length_le (Nat.le_refl _)] at htk
          exact htk
        subst hbt
        clear hke htk hlt hk
        go_wp2_with fail
        go_ret
        exact ⟨rfl, kr⟩
  · have hne : decide (l = m) = false := by simp; exact fun e => hlm (by rw [e])
    obtain rfl : bb = false := hbb.trans hne
    have hcmp : ((l.length : Int) != (m.length : Int)) = true := by simp; omega
    clear hlm hne hbb ha hb hl
    go_enter Tryz.func14, Tryz.ntmps14
    go_wp2_with fail
    go_ret
    exact ⟨rfl, Keep.refl _ _⟩

/-! ### Open -/
theorem zOpen_none1 (w : World) (size : Int) (h : size < 1) : Calls Tryz.prog 58 #[.pointer none, .int .i64 size] w fun e w' => e = .returned (.tuple #[.pointer none, .int .i64 1]) ∧ w' = w := by
  go_enter Tryz.func58, Tryz.ntmps58
  go_wp2_with fail
  go_ret2
  exact ⟨rfl, rfl⟩
theorem zOpen_none4 (w : World) (size : Int) (h : ¬ size < 1) : Calls Tryz.prog 58 #[.pointer none, .int .i64 size] w fun e w' => e = .returned (.tuple #[.pointer none, .int .i64 4]) ∧ w' = w := by
  go_enter Tryz.func58, Tryz.ntmps58
  go_wp2_with fail
  go_ret2
  exact ⟨rfl, rfl⟩
theorem zOpen_bad (w : World) (p : Nat) (size : Int) (h : size < 1) : Calls Tryz.prog 58 #[.pointer (some ⟨p, 0, none⟩), .int .i64 size] w fun e w' => e = .returned (.tuple #[.pointer none, .int .i64 1]) ∧ w' = w := by
  go_enter Tryz.func58, Tryz.ntmps58
  go_wp2_with fail
  go_ret2
  exact ⟨rfl, rfl⟩
theorem open_box (w : World) (a b c : Array Value) (ta tb tc : TypeId) : ((((w.alloc (.cells a ta)).alloc (.cells b tb)).alloc (.cells c tc)).heap[w.heap.size + 1]? = some (.cells b tb (0, 0))) ∧ ((((w.alloc (.cells a ta)).alloc (.cells b tb)).alloc (.cells c tc)).heap[w.heap.size + 1 + 1]? = some (.cells c tc (0, 0))) ∧ Keep No w (((w.alloc (.cells a ta)).alloc (.cells b tb)).alloc (.cells c tc)) := by
  refine ⟨((Keep.refl No _).alloc _).heap (by have := heap_new (w.alloc (.cells a ta)) (.cells b tb); rw [World.size_alloc] at this; exact this) (fun e => e), ?_, (((Keep.refl _ _).alloc _).alloc _).alloc _⟩
  have := heap_new ((w.alloc (.cells a ta)).alloc (.cells b tb)) (.cells c tc)
  rw [World.size_alloc, World.size_alloc] at this
  exact this
set_option maxRecDepth 100000 in
theorem gOpen_wide (w : World) (zv : Value) (width : Nat) (size : Int) (h : width < 1 ∨ 1024 < width) : Calls Tryz.prog 31 #[zv, .agg #[.int .u64 width, .int .i64 size]] w fun e w' => e = .returned (.tuple #[.pointer none, .int .i64 1]) ∧ Keep No w w' := by
  refine (callsIn_wide (n := 6)).1 ?_
  refine callsIn_of_wp_marks Tryz.func31 rfl trivial ?_ rfl
  simp only [Tryz.ntmps31, List.size_toArray, List.length_cons, List.length_nil, Nat.reduceAdd, Nat.reduceSub, Array.replicate_succ, Array.replicate_zero, List.push_toArray, List.append_toArray, List.nil_append, List.cons_append]
  refine wpIn_wide.2 ?_
  refine wp_mono (Q := calmPost _) ?_ (fun e a w h => calm_le h)
  obtain ⟨z4, z5, kz⟩ := open_box w #[.int .u64 width, .int .i64 size] #[.pointer none] #[.int .i64 1] 40 37 46
  have c4 := cell_of z4 0
  have c5 := cell_of z5 0
  simp at c4 c5
  have HZ := Lib.hid (And.intro c4 (And.intro c5 kz))
  clear c4 c5 z4 z5 kz
  by_cases h1 : width < 1
  · have h1 : (width : Int) < 1 := by omega
    clear h
    go_wp2_with fail
    refine (show bodyPostM _ _ _ _ _ Exit.ret _ _ from ⟨_, (by simp [results, Tryz.results31, go_sem, HZ.out.1, HZ.out.2.1]), rfl, HZ.out.2.2⟩)
  · have h2 : (1024 : Int) < (width : Int) := by omega
    have h1 : ¬ (width : Int) < 1 := by omega
    clear h
    go_wp2_with fail
    refine (show bodyPostM _ _ _ _ _ Exit.ret _ _ from ⟨_, (by simp [results, Tryz.results31, go_sem, HZ.out.1, HZ.out.2.1]), rfl, HZ.out.2.2⟩)
set_option maxRecDepth 100000 in
theorem gOpen_seg (w : World) (zv : Value) (width : Nat) (size : Int) (h : 1 ≤ width ∧ width ≤ 1024) (c : Int) (hc : c ≠ 0) (hl : ∀ w, Calls Tryz.prog 58 #[zv, .int .i64 size] w fun e w' => e = .returned (.tuple #[.pointer none, .int .i64 c]) ∧ w' = w) : Calls Tryz.prog 31 #[zv, .agg #[.int .u64 width, .int .i64 size]] w fun e w' => e = .returned (.tuple #[.pointer none, .int .i64 c]) ∧ Keep No w w' := by
  refine (callsIn_wide (n := 6)).1 ?_
  refine callsIn_of_wp_marks Tryz.func31 rfl trivial ?_ rfl
  simp only [Tryz.ntmps31, List.size_toArray, List.length_cons, List.length_nil, Nat.reduceAdd, Nat.reduceSub, Array.replicate_succ, Array.replicate_zero, List.push_toArray, List.append_toArray, List.nil_append, List.cons_append]
  refine wpIn_wide.2 ?_
  refine wp_mono (Q := calmPost _) ?_ (fun e a w h => calm_le h)
  obtain ⟨z4, z5, kz⟩ := open_box w #[.int .u64 width, .int .i64 size] #[.pointer none] #[.int .i64 c] 40 37 46
  have c4 := cell_of z4 0
  have c5 := cell_of z5 0
  simp at c4 c5
  have HZ := Lib.hid (And.intro c4 (And.intro c5 kz))
  clear c4 c5 z4 z5 kz
  have h1 : ¬ (width : Int) < 1 := by omega
  have h2 : ¬ (1024 : Int) < (width : Int) := by omega
  have h3 : (width : Int) ≤ 1024 := by omega
  have hcn : (c != 0) = true := by simp [hc]
  clear h hc
  go_wp2_with (go_at_call 58; refine (hl _).mono ?_; rintro e w1 ⟨rfl, e1⟩; have e1 := e1.symm; subst e1)
  refine (show bodyPostM _ _ _ _ _ Exit.ret _ _ from ⟨_, (by simp [results, Tryz.results31, go_sem, HZ.out.1, HZ.out.2.1]), rfl, HZ.out.2.2⟩)

/-! ### Raise and Put -/
theorem gRaise_nil (w : World) (a : Int) (n : Nat) : Calls Tryz.prog 32 #[.pointer none, .int .i64 a, .int .u64 n] w fun e w' => e = .returned (.int .i64 4) ∧ w' = w := by
  have hg := gAgent_nil (w := w) a
  go_enter Tryz.func32, Tryz.ntmps32
  go_wp2_with (go_at_call 40; refine hg.mono ?_; rintro e w1 ⟨rfl, e1⟩; have e1 := e1.symm; subst e1)
  go_ret
  exact ⟨rfl, rfl⟩
theorem gRaise_out (w : World) (q : Nat) (a : Int) (n : Nat) (ha : a < 0 ∨ 16 ≤ a) : Calls Tryz.prog 32 #[.pointer (some ⟨q, 0, none⟩), .int .i64 a, .int .u64 n] w fun e w' => e = .returned (.int .i64 1) ∧ w' = w := by
  have hg := gAgent_out (w := w) q a ha
  clear ha
  go_enter Tryz.func32, Tryz.ntmps32
  go_wp2_with (go_at_call 40; refine hg.mono ?_; rintro e w1 ⟨rfl, e1⟩; have e1 := e1.symm; subst e1)
  go_ret
  exact ⟨rfl, rfl⟩
theorem gPut_nil (w : World) (a : Int) (n : Nat) (v : Value) : Calls Tryz.prog 13 #[.pointer none, .int .i64 a, .int .u64 n, v] w fun e w' => e = .returned (.tuple #[.slice none 0 0, .int .i64 4]) ∧ w' = w := by
  have hg := gAgent_nil (w := w) a
  go_enter Tryz.func13, Tryz.ntmps13
  go_wp2_with (go_at_call 40; refine hg.mono ?_; rintro e w1 ⟨rfl, e1⟩; have e1 := e1.symm; subst e1)
  go_ret2
  exact ⟨rfl, rfl⟩
theorem gPut_out (w : World) (q : Nat) (a : Int) (n : Nat) (v : Value) (ha : a < 0 ∨ 16 ≤ a) : Calls Tryz.prog 13 #[.pointer (some ⟨q, 0, none⟩), .int .i64 a, .int .u64 n, v] w fun e w' => e = .returned (.tuple #[.slice none 0 0, .int .i64 1]) ∧ w' = w := by
  have hg := gAgent_out (w := w) q a ha
  clear ha
  go_enter Tryz.func13, Tryz.ntmps13
  go_wp2_with (go_at_call 40; refine hg.mono ?_; rintro e w1 ⟨rfl, e1⟩; have e1 := e1.symm; subst e1)
  go_ret2
  exact ⟨rfl, rfl⟩
theorem gPut_wrong [bn : Inhabited Ban] {base B : Nat} {w : World} {v : Value} {l : List ItemS} (q a b : Nat) (ha : a < 16) (h : ItsAt base w B v l) (hl : l.length ≤ 1048576) (hbl : ∀ x ∈ l, x.s.body.length ≤ 1073741824) (hr : rightB b l = false) : Calls Tryz.prog 13 #[.pointer (some ⟨q, 0, none⟩), .int .i64 a, .int .u64 b, v] w fun e w' => e = .returned (.tuple #[.slice none 0 0, .int .i64 1]) ∧ Keep No w w' := by
  have hg := gAgent_in (w := w) q a ha
  have hrg := gRight_spec b h hl hbl
  rw [hr] at hrg
  obtain ⟨vo, vc, rfl, _, _⟩ := h.form
  clear ha h hbl hl
  go_enter Tryz.func13, Tryz.ntmps13
  go_wp2_with (first
    | (go_at_call 41; refine hrg.mono ?_; rintro e w2 ⟨rfl, k2⟩)
    | (go_at_call 40; refine hg.mono ?_; rintro e w1 ⟨rfl, e1⟩; have e1 := e1.symm; subst e1))
  go_ret2
  exact ⟨rfl, k2⟩
end Go.Proofs.YtgogfnafbeahoaaGreat
