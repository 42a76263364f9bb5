/- The ledger: Get. -/
import Derived.Test.YtgogfnafbeahoaaGreatLedU
namespace Go.Proofs.YtgogfnafbeahoaaGreat
open Go Go.RowKit Go.Dr

theorem posR_some {l : List RecS} {a : Int} {n j : Nat} (h : posR l a n = some j) : ∃ r, l[j]? = some r ∧ (r.who : Int) = a ∧ r.n = n := by
  unfold posR at h
  rw [List.findIdx?_eq_some_iff_getElem] at h
  obtain ⟨hj, hp, _⟩ := h
  refine ⟨l[j], List.getElem?_eq_getElem hj, ?_⟩
  simp at hp
  exact ⟨hp.1, by omega⟩
theorem posR_mem {l : List RecS} {r : RecS} (h : r ∈ l) : ∃ j, posR l (r.who : Int) r.n = some j := by
  cases e : posR l (r.who : Int) r.n with
  | some j => exact ⟨j, rfl⟩
  | none =>
    unfold posR at e
    rw [List.findIdx?_eq_none_iff] at e
    have := e r h
    simp at this
set_option maxHeartbeats 1000000 in
theorem gGet_nil (w : World) (a : Int) (n : Nat) : Calls Tryz.prog 22 #[.pointer none, .agg #[.int .i64 a, .int .u64 n]] w fun e w' => e = .returned (.tuple #[.agg #[.int .i64 0, .slice none 0 0], .bool false]) ∧ Keep No w w' := by
  have kZ : Keep No w ((w.alloc (.cells #[.int .i64 a, .int .u64 n] 67)).alloc (.cells #[.int .i64 0, .slice none 0 0] 51)) := ((Keep.refl _ _).alloc _).alloc _
  have hZ := heap_new (w.alloc (.cells #[.int .i64 a, .int .u64 n] 67)) (.cells #[.int .i64 0, .slice none 0 0] 51)
  rw [World.size_alloc] at hZ
  have z0 := cell_of hZ 0
  have z1 := cell_of hZ 1
  simp at z0 z1
  have HH := Lib.hid kZ
  clear hZ kZ
  go_enter Tryz.func22, Tryz.ntmps22
  go_wp2_with fail
  refine bodyPost_ret (v := .tuple #[.agg #[.int .i64 0, .slice none 0 0], .bool false]) (by simp [results, Tryz.results22, go_sem]) rfl ?_
  exact ⟨rfl, HH.out⟩
set_option maxRecDepth 100000 in
set_option maxHeartbeats 2000000 in
theorem gGet_none [bn : Inhabited Ban] {base : Nat} {w : World} {q g m : Nat} {lv : Value} {L : LedS} (h : LedAt base w q g m lv L) (a : Int) (n : Nat) (hp : posR L.recs a n = none) :
    Calls Tryz.prog 22 #[.pointer (some ⟨q, 0, none⟩), .agg #[.int .i64 a, .int .u64 n]] w fun e w' => e = .returned (.tuple #[.agg #[.int .i64 0, .slice none 0 0], .bool false]) ∧ Keep No w w' := by
  obtain ⟨W, hW⟩ : ∃ W, W = (w.alloc (.cells #[.int .i64 a, .int .u64 n] 67)).alloc (.cells #[.int .i64 0, .slice none 0 0] 51) := ⟨_, rfl⟩
  have kW : Keep No w W := by rw [hW]; exact ((Keep.refl _ _).alloc _).alloc _
  have hA : W.heap[w.heap.size]? = some (.cells #[.int .i64 a, .int .u64 n] 67 (0, 0)) := by
    rw [hW]
    exact ((Keep.refl No _).alloc _).heap (heap_new _ _) (fun e => e)
  have hB : W.heap[w.heap.size + 1]? = some (.cells #[.int .i64 0, .slice none 0 0] 51 (0, 0)) := by
    rw [hW]
    have := heap_new (w.alloc (.cells #[.int .i64 a, .int .u64 n] 67)) (.cells #[.int .i64 0, .slice none 0 0] 51)
    rw [World.size_alloc] at this
    exact this
  have hl := h.no kW
  obtain ⟨_, _, c116⟩ := hl.endCells
  have i0 := cell_of hA 0
  have i1 := cell_of hA 1
  simp at i0 i1
  have hlook := fun (w' : World) (k : Keep No W w') => (hl.by'.keep k (fun e => e)).look a n
  simp only [hp, Option.getD_none, Option.isSome_none] at hlook
  have HH := Lib.hid (And.intro kW (And.intro hB hlook))
  clear h hl kW hA hB hp hlook
  go_enter Tryz.func22, Tryz.ntmps22
  go_wp2_with fail
  rw [← hW]
  clear hW
  have kd : Keep No W W.drew := (Keep.refl _ _).drew
  refine wp_drawN (fun w' => Keep No W w') [0, 1, 2, 3, 4, 5, 6, 7, 8] [9, 10] [] (by kernel_rfl) (by kernel_rfl) (fun _ _ _ _ _ h => h) kd ?_
  iterate 9 (refine earlyN_cons (v := ?_) rfl rfl rfl ?_ ?_; rotate_left; focus (
    intro w' hS
    have f116 := hS.cell c116 (fun e => e)
    have j0 := hS.cell i0 (fun e => e)
    have j1 := hS.cell i1 (fun e => e)
    have hlk := HH.out.2.2 w' hS
    go_simp
    try with_reducible rfl))
  refine earlyN_nil (midN_cons rfl rfl (fun K hK => ?_))
  go_simp
  refine hK _ _ kd ?_
  clear hK K
  refine midN_cons rfl rfl (fun K hK => ?_)
  go_simp
  refine hK _ _ kd ?_
  clear hK K
  refine midN_nil (tailN_nil ?_)
  have hB := kd.heap HH.out.2.1 (fun e => e)
  have kdW := HH.out.1.then kd
  clear i0 i1 c116
  generalize W.drew = X at *
  have b0 := cell_of hB 0
  have b1 := cell_of hB 1
  have fB := frozen_of hB
  simp at b0 b1
  have HX := Lib.hid (And.intro hB kdW)
  clear hB kdW kd
  go_wp2_with fail
  have hZ := heap_setCell_same (i := 1) (u := .slice none 0 0) (heap_setCell_same (i := 0) (u := .int .i64 0) HX.out.1)
  have kZ := (keep_cell (g := w.heap.size + 1) (i := 0) X (.int .i64 0)).setCell (p := ⟨w.heap.size + 1, 1, none⟩) (.inl rfl) (.slice none 0 0)
  have z0 := cell_of hZ 0
  have z1 := cell_of hZ 1
  simp at z0 z1
  refine bodyPost_ret (v := .tuple #[.agg #[.int .i64 0, .slice none 0 0], .bool false]) (by simp [results, Tryz.results22, go_sem, z0, z1]) rfl ?_
  exact ⟨rfl, HX.out.2.trans kZ (fun x hx e => by omega)⟩
set_option maxRecDepth 100000 in
set_option maxHeartbeats 2000000 in
theorem gGet_some [bn : Inhabited Ban] {base : Nat} {w : World} {q g m j : Nat} {lv : Value} {L : LedS} {r : RecS} (h : LedAt base w q g m lv L) (a : Int) (n : Nat) (hp : posR L.recs a n = some j) (hr : L.recs[j]? = some r) (hrec : L.recs.length ≤ 1073741824) (hbl : r.s.body.length ≤ 1073741824) :
    Calls Tryz.prog 22 #[.pointer (some ⟨q, 0, none⟩), .agg #[.int .i64 a, .int .u64 n]] w fun e w' => ∃ v, e = .returned (.tuple #[.agg #[.int .i64 r.s.c, v], .bool true]) ∧ OwnB w' w.heap.size v r.s.body ∧ Keep No w w' := by
  obtain ⟨W, hW⟩ : ∃ W, W = (w.alloc (.cells #[.int .i64 a, .int .u64 n] 67)).alloc (.cells #[.int .i64 0, .slice none 0 0] 51) := ⟨_, rfl⟩
  have kW : Keep No w W := by rw [hW]; exact ((Keep.refl _ _).alloc _).alloc _
  have hA : W.heap[w.heap.size]? = some (.cells #[.int .i64 a, .int .u64 n] 67 (0, 0)) := by
    rw [hW]
    exact ((Keep.refl No _).alloc _).heap (heap_new _ _) (fun e => e)
  have hB : W.heap[w.heap.size + 1]? = some (.cells #[.int .i64 0, .slice none 0 0] 51 (0, 0)) := by
    rw [hW]
    have := heap_new (w.alloc (.cells #[.int .i64 a, .int .u64 n] 67)) (.cells #[.int .i64 0, .slice none 0 0] 51)
    rw [World.size_alloc] at this
    exact this
  have hl := h.no kW
  obtain ⟨c114, _, c116⟩ := hl.endCells
  have hjl := (List.getElem?_eq_some_iff.1 hr).1
  obtain ⟨lo, lc, hlv, _, _⟩ := hl.recs.form
  subst hlv
  obtain ⟨gi, ui, hgi, hub, e0, e1, e2, e3⟩ := hl.recs.cell hr
  obtain ⟨uo, uc, rfl⟩ := hub.form
  subst hgi
  have hji : (j : Int) < (L.recs.length : Int) := by omega
  have hli : (L.recs.length : Int) ≤ 1073741824 := by omega
  have i0 := cell_of hA 0
  have i1 := cell_of hA 1
  simp at i0 i1
  have hlook := fun (w' : World) (k : Keep No W w') => (hl.by'.keep k (fun e => e)).look a n
  simp only [hp, Option.getD_some, Option.isSome_some] at hlook
  have HH := Lib.hid (And.intro kW (And.intro hB (And.intro hlook (And.intro hub hbl))))
  clear h hl kW hA hB hp hlook hr hjl hub hrec hbl e0 e1
  go_enter Tryz.func22, Tryz.ntmps22
  go_wp2_with fail
  rw [← hW]
  clear hW
  have kd : Keep No W W.drew := (Keep.refl _ _).drew
  refine wp_drawN (fun w' => Keep No W w') [0, 1, 2, 3, 4, 5, 6, 7, 8] [9, 10] [] (by kernel_rfl) (by kernel_rfl) (fun _ _ _ _ _ h => h) kd ?_
  iterate 9 (refine earlyN_cons (v := ?_) rfl rfl rfl ?_ ?_; rotate_left; focus (
    intro w' hS
    have f116 := hS.cell c116 (fun e => e)
    have j0 := hS.cell i0 (fun e => e)
    have j1 := hS.cell i1 (fun e => e)
    have hlk := HH.out.2.2.1 w' hS
    go_simp
    try with_reducible rfl))
  refine earlyN_nil (midN_cons rfl rfl (fun K hK => ?_))
  go_simp
  refine hK _ _ kd ?_
  clear hK K
  refine midN_cons rfl rfl (fun K hK => ?_)
  go_simp
  refine hK _ _ kd ?_
  clear hK K
  refine midN_nil (tailN_nil ?_)
  have hB := kd.heap HH.out.2.1 (fun e => e)
  have f114 := kd.cell c114 (fun e => e)
  have f2 := kd.cell e2 (fun e => e)
  have f3 := kd.cell e3 (fun e => e)
  have hub := HH.out.2.2.2.1.no kd
  have kdW := HH.out.1.then kd
  clear i0 i1 c114 c116 e2 e3
  generalize W.drew = X at *
  have kA := (Keep.refl No X).alloc (.cells #[.int .i64 r.s.c, .slice uo r.s.body.length uc] 51)
  have hS := heap_new X (.cells #[.int .i64 r.s.c, .slice uo r.s.body.length uc] 51)
  have hcl := clone_spec (hub.no kA) (by have := HH.out.2.2.2.2; omega)
  have hsw : w.heap.size + 1 < X.heap.size := heap_lt hB
  have HX := Lib.hid (And.intro hB (And.intro kdW (And.intro kA (And.intro hS hsw))))
  clear hB kdW kd hub kA hS hsw
  go_wp2_with fail
  refine hcl.mono ?_
  rintro e w2 ⟨v2, rfl, own2, k2⟩
  clear hcl
  obtain ⟨o2, c2, rfl⟩ := own2.form
  have hS2 := k2.heap HX.out.2.2.2.1 (fun e => e)
  have hB2 := k2.heap (HX.out.2.2.1.heap HX.out.1 (fun e => e)) (fun e => e)
  have p0 := cell_of hS2 0
  have p1 := cell_of hS2 1
  have fS := frozen_of hS2
  simp at p0 p1
  obtain ⟨W3, hW3⟩ : ∃ W3, w2.setCell ⟨X.heap.size, 1, none⟩ (.slice o2 r.s.body.length c2) = W3 := ⟨_, rfl⟩
  have k3 : Keep (· = X.heap.size) w2 (w2.setCell ⟨X.heap.size, 1, none⟩ (.slice o2 r.s.body.length c2)) := keep_cell _ _
  have hS3 := heap_setCell_same (i := 1) (u := .slice o2 r.s.body.length c2) hS2
  have hB3 := k3.heap hB2 (by have := HX.out.2.2.2.2; show ¬ w.heap.size + 1 = X.heap.size; omega)
  have hsX : X.heap.size < (X.alloc (.cells #[.int .i64 r.s.c, .slice uo r.s.body.length uc] 51)).heap.size := by simp
  have own3 := own2.keep k3 (fun b hb e => by have := (own2.lt b hb).1; have e : b = X.heap.size := e; omega)
  rw [hW3] at k3 hS3 hB3 own3
  have q0 := cell_of hS3 0
  have q1 := cell_of hS3 1
  have b0 := cell_of hB3 0
  have b1 := cell_of hB3 1
  have fB := frozen_of hB3
  simp at q0 q1 b0 b1
  have H3 := Lib.hid (And.intro hB3 (And.intro own3 (And.intro k2 (And.intro k3 hsX))))
  clear hB3 own3 k2 k3 hsX hS3 hS2 hB2 own2
  go_wp2_with fail
  have hZ := heap_setCell_same (i := 1) (u := .slice o2 r.s.body.length c2) (heap_setCell_same (i := 0) (u := .int .i64 r.s.c) H3.out.1)
  have kZ := (keep_cell (g := w.heap.size + 1) (i := 0) W3 (.int .i64 r.s.c)).setCell (p := ⟨w.heap.size + 1, 1, none⟩) (.inl rfl) (.slice o2 r.s.body.length c2)
  have z0 := cell_of hZ 0
  have z1 := cell_of hZ 1
  simp at z0 z1
  refine bodyPost_ret (v := .tuple #[.agg #[.int .i64 r.s.c, .slice o2 r.s.body.length c2], .bool true]) (by simp [results, Tryz.results22, go_sem, z0, z1]) rfl ?_
  have hXw := HX.out.2.1.size
  have hXs := HX.out.2.2.2.2
  have hsX := H3.out.2.2.2.2
  have hlt := H3.out.2.1.lt
  refine ⟨_, rfl, (H3.out.2.1.keep kZ (fun b hb e => by have := (hlt b hb).1; have e : b = w.heap.size + 1 := e; omega)).mono (by omega), ?_⟩
  exact ((((HX.out.2.1.then HX.out.2.2.1).then H3.out.2.2.1).trans H3.out.2.2.2.1 (fun x hx e => by have e : x = X.heap.size := e; omega)).trans kZ (fun x hx e => by omega))
end Go.Proofs.YtgogfnafbeahoaaGreat
