/- The ledger: what it tells. -/
import Derived.Test.YtgogfnafbeahoaaGreatLedS
namespace Go.Proofs.YtgogfnafbeahoaaGreat
open Go Go.RowKit Go.Dr

theorem gInc_spec [bn : Inhabited Ban] {base : Nat} {w : World} {q g m : Nat} {lv : Value} {L : LedS} (h : LedAt base w q g m lv L) : Calls Tryz.prog 26 #[.pointer (some ⟨q, 0, none⟩)] w fun e w' => e = .returned (.int .u64 L.inc) ∧ w' = w := by
  obtain ⟨c1, _, _⟩ := h.incCell
  clear h
  go_enter Tryz.func26, Tryz.ntmps26
  go_wp2_with fail
  go_ret
  exact ⟨rfl, rfl⟩
theorem gInc_nil (w : World) : Calls Tryz.prog 26 #[.pointer none] w fun e w' => e = .returned (.int .u64 0) ∧ w' = w := by
  go_enter Tryz.func26, Tryz.ntmps26
  go_wp2_with fail
  go_ret
  exact ⟨rfl, rfl⟩
theorem gLog_spec [bn : Inhabited Ban] {base : Nat} {w : World} {q g m : Nat} {lv : Value} {L : LedS} (h : LedAt base w q g m lv L) : Calls Tryz.prog 27 #[.pointer (some ⟨q, 0, none⟩)] w fun e w' => e = .returned (.pointer (some ⟨g, 0, none⟩)) ∧ w' = w := by
  obtain ⟨_, c0, _⟩ := h.incCell
  clear h
  go_enter Tryz.func27, Tryz.ntmps27
  go_wp2_with fail
  go_ret
  exact ⟨rfl, rfl⟩
theorem gLog_nil (w : World) : Calls Tryz.prog 27 #[.pointer none] w fun e w' => e = .returned (.pointer none) ∧ w' = w := by
  go_enter Tryz.func27, Tryz.ntmps27
  go_wp2_with fail
  go_ret
  exact ⟨rfl, rfl⟩
theorem gFloor_in [bn : Inhabited Ban] {base : Nat} {w : World} {q g m a : Nat} {lv : Value} {L : LedS} {x : AgS} (h : LedAt base w q g m lv L) (ha : a < 16) (hx : L.ag[a]? = some x) : Calls Tryz.prog 12 #[.pointer (some ⟨q, 0, none⟩), .int .i64 a] w fun e w' => e = .returned (.int .u64 x.floor) ∧ w' = w := by
  obtain ⟨_, _, _, _, c0, _⟩ := h.agCell hx
  have hg := gAgent_in (w := w) q a ha
  clear h hx ha
  go_enter Tryz.func12, Tryz.ntmps12
  go_wp2_with (go_at_call 40; refine hg.mono ?_; rintro e w' ⟨rfl, rfl⟩)
  go_ret
  exact ⟨rfl, rfl⟩
theorem gFloor_none {w : World} {v : Value} {a : Int} (h : Calls Tryz.prog 40 #[v, .int .i64 a] w fun e w' => e = .returned (.pointer none) ∧ w' = w) : Calls Tryz.prog 12 #[v, .int .i64 a] w fun e w' => e = .returned (.int .u64 0) ∧ w' = w := by
  go_enter Tryz.func12, Tryz.ntmps12
  go_wp2_with (go_at_call 40; refine h.mono ?_; rintro e w' ⟨rfl, rfl⟩)
  go_ret
  exact ⟨rfl, rfl⟩
theorem gWindow_in [bn : Inhabited Ban] {base : Nat} {w : World} {q g m a : Nat} {lv : Value} {L : LedS} {x : AgS} (h : LedAt base w q g m lv L) (ha : a < 16) (hx : L.ag[a]? = some x) : Calls Tryz.prog 11 #[.pointer (some ⟨q, 0, none⟩), .int .i64 a] w fun e w' => ∃ u, e = .returned u ∧ WinV w' u x.now ∧ Keep No w w' := by
  obtain ⟨ns, _, hr, _, _, c1, c2, c3, _⟩ := h.agCell hx
  obtain ⟨ao, cap, rfl, _, _⟩ := hr.form
  have kA := fun o => (Keep.refl No w).alloc o
  have c1A := fun o => (kA o).cell c1 (fun e => e)
  have c2A := fun o => (kA o).cell c2 (fun e => e)
  have c3A := fun o => (kA o).cell c3 (fun e => e)
  have hg := fun (w1 : World) => gAgent_in (w := w1) q a ha
  have hZ := heap_new w (.cells #[.int .u64 x.now.low, .int .u64 x.now.width, .slice ao x.now.set.length cap] 36)
  have z0 := cell_of hZ 0
  have z1 := cell_of hZ 1
  have z2 := cell_of hZ 2
  simp at z0 z1 z2
  have HH := Lib.hid (And.intro (hr.no (kA (.cells #[.int .u64 x.now.low, .int .u64 x.now.width, .slice ao x.now.set.length cap] 36))) (kA (.cells #[.int .u64 x.now.low, .int .u64 x.now.width, .slice ao x.now.set.length cap] 36)))
  clear h hx ha hr hZ kA
  go_enter Tryz.func11, Tryz.ntmps11
  go_wp2_with (go_at_call 40; refine (hg _).mono ?_; rintro e w' ⟨rfl, rfl⟩)
  refine bodyPost_ret (v := .agg #[.int .u64 x.now.low, .int .u64 x.now.width, .slice ao x.now.set.length cap]) (by simp [results, Tryz.results11, go_sem]) rfl ?_
  exact ⟨_, rfl, ⟨_, rfl, HH.out.1⟩, HH.out.2⟩
theorem gSafe_in [bn : Inhabited Ban] {base : Nat} {w : World} {q g m a : Nat} {lv : Value} {L : LedS} {x : AgS} (h : LedAt base w q g m lv L) (ha : a < 16) (hx : L.ag[a]? = some x) : Calls Tryz.prog 35 #[.pointer (some ⟨q, 0, none⟩), .int .i64 a] w fun e w' => ∃ u, e = .returned u ∧ WinV w' u x.safe ∧ Keep No w w' := by
  obtain ⟨_, ss, _, hr, _, _, _, _, c1, c2, c3⟩ := h.agCell hx
  obtain ⟨ao, cap, rfl, _, _⟩ := hr.form
  have kA := fun o => (Keep.refl No w).alloc o
  have c1A := fun o => (kA o).cell c1 (fun e => e)
  have c2A := fun o => (kA o).cell c2 (fun e => e)
  have c3A := fun o => (kA o).cell c3 (fun e => e)
  have hg := fun (w1 : World) => gAgent_in (w := w1) q a ha
  have hZ := heap_new w (.cells #[.int .u64 x.safe.low, .int .u64 x.safe.width, .slice ao x.safe.set.length cap] 36)
  have z0 := cell_of hZ 0
  have z1 := cell_of hZ 1
  have z2 := cell_of hZ 2
  simp at z0 z1 z2
  have HH := Lib.hid (And.intro (hr.no (kA (.cells #[.int .u64 x.safe.low, .int .u64 x.safe.width, .slice ao x.safe.set.length cap] 36))) (kA (.cells #[.int .u64 x.safe.low, .int .u64 x.safe.width, .slice ao x.safe.set.length cap] 36)))
  clear h hx ha hr hZ kA
  go_enter Tryz.func35, Tryz.ntmps35
  go_wp2_with (go_at_call 40; refine (hg _).mono ?_; rintro e w' ⟨rfl, rfl⟩)
  refine bodyPost_ret (v := .agg #[.int .u64 x.safe.low, .int .u64 x.safe.width, .slice ao x.safe.set.length cap]) (by simp [results, Tryz.results35, go_sem]) rfl ?_
  exact ⟨_, rfl, ⟨_, rfl, HH.out.1⟩, HH.out.2⟩
theorem gWindow_none {w : World} {v : Value} {a : Int} (h : ∀ w, Calls Tryz.prog 40 #[v, .int .i64 a] w fun e w' => e = .returned (.pointer none) ∧ w' = w) : Calls Tryz.prog 11 #[v, .int .i64 a] w fun e w' => ∃ u, e = .returned u ∧ WinV w' u ⟨0, 0, []⟩ ∧ Keep No w w' := by
  have hZ := heap_new w (.cells #[.int .u64 0, .int .u64 0, .slice none 0 0] 36)
  have kZ : Keep No w (w.alloc (.cells #[.int .u64 0, .int .u64 0, .slice none 0 0] 36)) := (Keep.refl _ _).alloc _
  have z0 := cell_of hZ 0
  have z1 := cell_of hZ 1
  have z2 := cell_of hZ 2
  simp at z0 z1 z2
  have HH := Lib.hid kZ
  clear hZ kZ
  go_enter Tryz.func11, Tryz.ntmps11
  go_wp2_with (go_at_call 40; refine (h _).mono ?_; rintro e w' ⟨rfl, rfl⟩)
  refine bodyPost_ret (v := .agg #[.int .u64 0, .int .u64 0, .slice none 0 0]) (by simp [results, Tryz.results11, go_sem]) rfl ?_
  exact ⟨_, rfl, ⟨_, rfl, RunsAt.nil _⟩, HH.out⟩
theorem gSafe_none {w : World} {v : Value} {a : Int} (h : ∀ w, Calls Tryz.prog 40 #[v, .int .i64 a] w fun e w' => e = .returned (.pointer none) ∧ w' = w) : Calls Tryz.prog 35 #[v, .int .i64 a] w fun e w' => ∃ u, e = .returned u ∧ WinV w' u ⟨0, 0, []⟩ ∧ Keep No w w' := by
  have hZ := heap_new w (.cells #[.int .u64 0, .int .u64 0, .slice none 0 0] 36)
  have kZ : Keep No w (w.alloc (.cells #[.int .u64 0, .int .u64 0, .slice none 0 0] 36)) := (Keep.refl _ _).alloc _
  have z0 := cell_of hZ 0
  have z1 := cell_of hZ 1
  have z2 := cell_of hZ 2
  simp at z0 z1 z2
  have HH := Lib.hid kZ
  clear hZ kZ
  go_enter Tryz.func35, Tryz.ntmps35
  go_wp2_with (go_at_call 40; refine (h _).mono ?_; rintro e w' ⟨rfl, rfl⟩)
  refine bodyPost_ret (v := .agg #[.int .u64 0, .int .u64 0, .slice none 0 0]) (by simp [results, Tryz.results35, go_sem]) rfl ?_
  exact ⟨_, rfl, ⟨_, rfl, RunsAt.nil _⟩, HH.out⟩
end Go.Proofs.YtgogfnafbeahoaaGreat
