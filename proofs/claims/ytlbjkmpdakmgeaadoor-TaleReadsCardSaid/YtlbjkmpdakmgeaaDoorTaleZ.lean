/- Package tale: Plain. -/
import Derived.Test.YtlbjkmpdakmgeaaDoorTaleF
namespace Go.Proofs.YtlbjkmpdakmgeaaDoor
open Go Go.RowKit Go.Dr

theorem plainF_fold (e : EvS) : plainF e = (findF e.kind).1.parts.foldl (setF e) { kind := e.kind } := by
  unfold plainF findF
  cases linesF.find? (fun k => k.kind == e.kind) with
  | none => rfl
  | some k => rfl
theorem find_parts (n : Nat) : (∀ c ∈ (findF n).1.parts, c ∈ signsF ∧ c.toNat < 128) ∧ (findF n).1.parts.length ≤ 4 := by
  unfold findF
  cases h : linesF.find? (fun k => k.kind == n) with
  | none => simp
  | some k =>
    have hm := List.mem_of_find?_eq_some h
    exact ⟨fun c hc => ⟨(lines_signs k hm).1 c hc, lines_ascii k hm c hc⟩, lines_words k hm⟩
theorem setEvBox {base : Nat} {w w' : World} {X : Nat} {x x' : EvS} {bv pv : Value} (h : EvBox base w X x) (k : Keep (· = X) w w') (hh : w'.heap[X]? = some (.cells (evC x' bv pv) 27 (0, 0)))
    (hb : BytesAt (bn := noBan) base w bv x'.body) (hp : BytesAt (bn := noBan) base w pv x'.p) : EvBox base w' X x' :=
  ⟨h.1, bv, pv, hh, BytesAt.keep (bn := noBan) hb h.foot k, BytesAt.keep (bn := noBan) hp h.foot k⟩
theorem keep_row {F : Nat → Prop} {a w : World} {g : Nat} (row : Array Value) (h : Keep F a w) (hg : F g ∨ a.heap.size ≤ g) : Keep F a (w.setRow g row) := by
  refine ⟨h.os, h.tape, h.output, by have := h.size; simpa [World.setRow] using this, fun b hb hf => ?_⟩
  have hne : g ≠ b := fun e => by
    subst e
    rcases hg with hg | hg
    · exact hf hg
    · omega
  rw [← h.block b hb hf]
  simp [World.setRow, Array.getElem?_modify, hne]
def PlainR (base : Nat) (w : World) (e : EvS) (bo po : Option Addr) (bc pc I A X : Nat) (pt : List UInt8) (wr : World) : Prop :=
  ∃ (j : Nat) (x : EvS), j ≤ pt.length ∧ wr.heap[I]? = some (.stringIter (strB pt) j) ∧ EvBox base wr X x ∧ Hid (x = (pt.take j).foldl (setF e) { kind := e.kind }) ∧ Keep No w wr ∧
    wr.heap[A]? = some (.cells (evC e (.slice bo e.body.length bc) (.slice po e.p.length pc)) 27 (0, 0)) ∧ wr.heap[A + 1]? = some (.cells (evC {} (.slice none 0 0) (.slice none 0 0)) 27 (0, 0))

set_option maxRecDepth 100000 in
set_option maxHeartbeats 4000000 in
theorem plain_spec {base : Nat} {w : World} (hbase : base ≤ w.heap.size) {e : EvS} {bv pv : Value} (hb : BytesAt (bn := noBan) base w bv e.body) (hp : BytesAt (bn := noBan) base w pv e.p) (hok : EvOk e) :
    Calls Tryd.prog 16 #[evV e bv pv] w fun r w' => Keep No w w' ∧ ∃ bv' pv', r = .returned (evV (plainF e) bv' pv') ∧ BytesAt (bn := noBan) base w' bv' (plainF e).body ∧ BytesAt (bn := noBan) base w' pv' (plainF e).p := by
  obtain ⟨P, hP⟩ : ∃ P, P = plainF e := ⟨_, rfl⟩
  rw [← hP]
  rw [plainF_fold] at hP
  obtain ⟨hpts, hpl⟩ := find_parts e.kind
  obtain ⟨bo, bc, rfl⟩ := BytesAt.form (bn := noBan) hb
  obtain ⟨po, pc, rfl⟩ := BytesAt.form (bn := noBan) hp
  have hf := fun w => find_spec w e.kind hok.kind
  obtain ⟨F, hF⟩ : ∃ F, F = findF e.kind := ⟨_, rfl⟩
  rw [← hF] at hP hpts hpl hf
  clear hF
  obtain ⟨⟨kd, nm, pt⟩, fb⟩ := F
  simp only at hP hpts hpl
  simp only [lineV] at hf
  have hki : (e.kind : Int) ≤ 255 := by have := hok.kind; omega
  have hA0 := heap_new w (.cells (evC e (.slice bo e.body.length bc) (.slice po e.p.length pc)) 27)
  have HH := Lib.hid (And.intro hP (And.intro hpts (And.intro hb (And.intro hp hok))))
  clear hP hpts hb hp
  unfold evV
  go_enter Tryd.func16, Tryd.ntmps16
  go_wp2_with fail
  refine (hf _).mono ?_
  rintro r w1 ⟨rfl, k1⟩
  clear hf
  have kA := ((((Keep.refl No w).alloc (.cells (evC e (.slice bo e.body.length bc) (.slice po e.p.length pc)) 27)).alloc (.cells (evC {} (.slice none 0 0) (.slice none 0 0)) 27)).alloc (.cells (evC { kind := e.kind } (.slice none 0 0) (.slice none 0 0)) 27))
  have kw1 : Keep No w w1 := kA.then k1
  have ha : w1.heap[w.heap.size]? = some (.cells (evC e (.slice bo e.body.length bc) (.slice po e.p.length pc)) 27 (0, 0)) :=
    k1.heap (((Keep.refl No _).alloc _).heap (((Keep.refl No _).alloc _).heap hA0 (fun e => e)) (fun e => e)) (fun e => e)
  have hz : w1.heap[w.heap.size + 1]? = some (.cells (evC {} (.slice none 0 0) (.slice none 0 0)) 27 (0, 0)) := by
    have := heap_new (w.alloc (.cells (evC e (.slice bo e.body.length bc) (.slice po e.p.length pc)) 27)) (.cells (evC {} (.slice none 0 0) (.slice none 0 0)) 27)
    rw [World.size_alloc] at this
    exact k1.heap (((Keep.refl No _).alloc _).heap this (fun e => e)) (fun e => e)
  have hx : w1.heap[w.heap.size + 1 + 1]? = some (.cells (evC { kind := e.kind } (.slice none 0 0) (.slice none 0 0)) 27 (0, 0)) := by
    have := heap_new ((w.alloc (.cells (evC e (.slice bo e.body.length bc) (.slice po e.p.length pc)) 27)).alloc (.cells (evC {} (.slice none 0 0) (.slice none 0 0)) 27)) (.cells (evC { kind := e.kind } (.slice none 0 0) (.slice none 0 0)) 27)
    rw [World.size_alloc, World.size_alloc] at this
    exact k1.heap this (fun e => e)
  go_wp2_with fail
  obtain ⟨W, hW⟩ : ∃ W, W = ((w1.alloc (.cells #[.int .u8 kd, strV nm, strV pt] 68)).iter (strB pt) 0) := ⟨_, rfl⟩
  have kW : Keep No w1 W := by rw [hW]; exact ((Keep.refl _ _).alloc _).alloc _
  have hit : W.heap[w1.heap.size + 1]? = some (.stringIter (strB pt) 0) := by
    rw [hW]
    have := World.iter_heap (w1.alloc (.cells #[.int .u8 kd, strV nm, strV pt] 68)) (strB pt) 0
    rw [World.size_alloc] at this
    exact this
  show Code.wp _ _ _ _ ((w1.alloc (.cells #[.int .u8 kd, strV nm, strV pt] 68)).iter (strB pt) 0)
  rw [← hW]
  clear hW
  have ha := kW.heap ha (fun e => e)
  have hz := kW.heap hz (fun e => e)
  have hx := kW.heap hx (fun e => e)
  have hbx : EvBox base W (w.heap.size + 1 + 1) { kind := e.kind } := ⟨by omega, _, _, hx, BytesAt.nil (bn := noBan) _ _, BytesAt.nil (bn := noBan) _ _⟩
  have hIX : w1.heap.size + 1 ≠ w.heap.size + 1 + 1 := fun e => by rw [e, hx] at hit; cases hit
  have hIA : w1.heap.size + 1 ≠ w.heap.size := fun e => by rw [e, ha] at hit; cases hit
  have hIZ : w1.heap.size + 1 ≠ w.heap.size + 1 := fun e => by rw [e, hz] at hit; cases hit
  have hIz : w.heap.size ≤ w1.heap.size + 1 := by have := kw1.size; omega
  have hR : PlainR base w e bo po bc pc (w1.heap.size + 1) w.heap.size (w.heap.size + 1 + 1) pt W := ⟨0, _, Nat.zero_le _, hit, hbx, Lib.hid rfl, kw1.then kW, ha, hz⟩
  clear hx hbx ha hz hit kW kA k1 kw1 hA0
  generalize w1.heap.size + 1 = I at *
  go_loopw [7] (fun _ wr => PlainR base w e bo po bc pc I w.heap.size (w.heap.size + 1 + 1) pt wr) (fun _ wr => pt.length - wr.iterPos I)
  case atStart => exact hR
  case round =>
    clear hR
    obtain ⟨j, x, hj, hit, hbx, hxe, hkr, ha, hz⟩ := hrel
    have HI := Lib.hid hit
    by_cases hlt : j < pt.length
    · obtain ⟨c, hc⟩ : ∃ c, pt[j]? = some c := ⟨_, List.getElem?_eq_getElem hlt⟩
      obtain ⟨hcs, hca⟩ := HH.out.2.1 c (List.mem_of_getElem? hc)
      have hnx := fun ty => run_next_at (w := wr) ty hit hc hca
      have htk : pt.take (j + 1) = pt.take j ++ [c] := by
        obtain ⟨h1, h2⟩ := List.getElem?_eq_some_iff.1 hc
        rw [List.take_succ_eq_append_getElem h1, h2]
      have kI := iterAt_keep wr I (strB pt) (j + 1)
      have hit2 := iterAt_heap (s := strB pt) (p := j + 1) hit
      have hbx2 := hbx.keepI (q := j + 1) hit (by omega)
      have ha2 := kI.heap ha (fun e => hIA e.symm)
      have hz2 := kI.heap hz (fun e => hIZ e.symm)
      have kr2 : Keep No w (iterAt wr I (strB pt) (j + 1)) := hkr.trans kI (fun x hx e => by have := e; omega)
      have hx2 : (pt.take (j + 1)).foldl (setF e) { kind := e.kind } = setF e x c := by rw [htk, List.foldl_append, ← hxe.out]; rfl
      obtain ⟨W1, hW1⟩ : ∃ W1, W1 = iterAt wr I (strB pt) (j + 1) := ⟨_, rfl⟩
      rw [← hW1] at hit2 hbx2 ha2 hz2 kr2 hnx
      have HX := Lib.hid (And.intro hx2 (And.intro hit2 (And.intro hbx2 (And.intro kr2 (And.intro ha2 hz2)))))
      obtain ⟨e0, e1, e2, e3, e4, e5, e6, e7, e8, e9, e10⟩ := evCells ha2
      have ⟨hXB, xb, xp, hxh, hxb, hxp⟩ := hbx2
      obtain ⟨x0, x1, x2, x3, x4, x5, x6, x7, x8, x9, x10⟩ := evCells hxh
      have hfz := frozen_of hxh
      have HXX := Lib.hid (And.intro hxh (And.intro hxb hxp))
      clear htk hit2 hbx2 ha2 hz2 kr2 hx2 hit hbx hxe hkr ha hz kI hc hW1 hxh hxb hxp hXB
      have fin : ∀ w', Keep (· = w.heap.size + 1 + 1) W1 w' → EvBox base w' (w.heap.size + 1 + 1) (setF e x c) → PlainR base w e bo po bc pc I w.heap.size (w.heap.size + 1 + 1) pt w' ∧ w'.heap[I]? = some (.stringIter (strB pt) (j + 1)) := by
        intro w' k hb'
        have hit' := k.heap HX.out.2.1 (fun e => hIX e)
        exact ⟨⟨j + 1, _, by omega, hit', hb', Lib.hid HX.out.1.symm, HX.out.2.2.2.1.trans k (fun x hx e => by have := e; omega), k.heap HX.out.2.2.2.2.1 (fun e => by omega), k.heap HX.out.2.2.2.2.2 (fun e => by omega)⟩, hit'⟩
      have HF := Lib.hid fin
      clear fin
      simp only [signsF, List.mem_cons, List.not_mem_nil, or_false] at hcs
      rcases hcs with rfl | rfl | rfl | rfl | rfl | rfl | rfl | rfl | rfl
      · go_wp2_with fail
        have kE : Keep (· = w.heap.size + 1 + 1) W1 (W1.setCell ⟨w.heap.size + 1 + 1, 1, none⟩ (.int .i64 e.who)) := Keep.setCell (F := (· = w.heap.size + 1 + 1)) (Keep.refl _ _) (.inl rfl) _
        have hq := HF.out _ kE (setEvBox HX.out.2.2.1 kE (heap_setCell_same (i := 1) (u := .int .i64 e.who) HXX.out.1) HXX.out.2.1 HXX.out.2.2)
        go_roundw
        case rel => exact hq.1
        case measure =>
          rw [iterPos_of hq.2, iterPos_of HI.out]
          omega
      · go_wp2_with fail
        have hc3 : W1.cell? ⟨w.heap.size, 3, none⟩ = some (.slice bo e.body.length bc) := e3
        refine wp_drawN (fun w' => Keep No W1 w') [0, 1, 2, 3, 4, 5] [6] [7, 8, 9] (by kernel_rfl) (by kernel_rfl) (fun _ _ _ _ _ h => h) (Keep.refl _ _).drew ?_
        iterate 6 (refine earlyN_cons (v := ?_) rfl rfl rfl ?_ ?_; rotate_left; focus (
          intro w' hS
          have e2' := hS.cell e2 (fun e => e)
          have e3' := hS.cell e3 (fun e => e)
          go_simp
          try with_reducible rfl))
        refine earlyN_nil (midN_cons rfl rfl (fun K hK => ?_))
        go_simp
        have kd : Keep No W1 W1.drew := (Keep.refl _ _).drew
        refine (clone_spec (bn := noBan) (BytesAt.no (bn := noBan) HH.out.2.2.1 (HX.out.2.2.2.1.then kd)) (by have := HH.out.2.2.2.2.body; omega)).mono ?_
        rintro r w2 ⟨V, rfl, own2, k2⟩
        have k2 := kd.then k2
        refine hK _ _ k2 ?_
        clear hK K
        obtain ⟨vo, vc, rfl⟩ := own2.form
        have hb2 := own2.bytes (bn := noBan) (base := base) (fun _ => Nat.zero_le _)
        have hh2 := k2.heap HXX.out.1 (fun e => e)
        obtain ⟨y0, y1, y2, y3, y4, y5, y6, y7, y8, y9, y10⟩ := evCells hh2
        have hfz2 := frozen_of hh2
        have hbx2 := HX.out.2.2.1.no k2
        have hp2 := BytesAt.no (bn := noBan) HXX.out.2.2 k2
        have HY := Lib.hid (And.intro hb2 (And.intro hh2 (And.intro hbx2 hp2)))
        clear hb2 hh2 hbx2 hp2 own2
        refine midN_nil (tailN_cons rfl (tailN_cons rfl (tailN_cons rfl (tailN_nil ?_))))
        go_wp2
        have kE : Keep (· = w.heap.size + 1 + 1) w2 ((w2.setCell ⟨w.heap.size + 1 + 1, 2, none⟩ (.int .i64 e.cls)).setCell ⟨w.heap.size + 1 + 1, 3, none⟩ (.slice vo e.body.length vc)) := Keep.setCell (F := (· = w.heap.size + 1 + 1)) (Keep.setCell (F := (· = w.heap.size + 1 + 1)) (Keep.refl _ _) (.inl rfl) _) (.inl rfl) _
        have hq := HF.out _ (k2.no.trans kE (fun _ _ e => e)) (setEvBox HY.out.2.2.1 kE (heap_setCell_same (i := 3) (u := .slice vo e.body.length vc) (heap_setCell_same (i := 2) (u := .int .i64 e.cls) HY.out.2.1)) HY.out.1 HY.out.2.2.2)
        go_roundw
        case rel => exact hq.1
        case measure =>
          rw [iterPos_of hq.2, iterPos_of HI.out]
          omega
      · go_wp2_with fail
        refine (clone_spec (bn := noBan) (BytesAt.no (bn := noBan) HH.out.2.2.2.1 HX.out.2.2.2.1) (by have := HH.out.2.2.2.2.p; omega)).mono ?_
        rintro r w2 ⟨V, rfl, own2, k2⟩
        obtain ⟨vo, vc, rfl⟩ := own2.form
        have hb2 := own2.bytes (bn := noBan) (base := base) (fun _ => Nat.zero_le _)
        have hh2 := k2.heap HXX.out.1 (fun e => e)
        obtain ⟨y0, y1, y2, y3, y4, y5, y6, y7, y8, y9, y10⟩ := evCells hh2
        have hfz2 := frozen_of hh2
        have hbx2 := HX.out.2.2.1.no k2
        have hp2 := BytesAt.no (bn := noBan) HXX.out.2.1 k2
        have HY := Lib.hid (And.intro hb2 (And.intro hh2 (And.intro hbx2 hp2)))
        clear hb2 hh2 hbx2 hp2 own2
        go_wp2_with fail
        have kE : Keep (· = w.heap.size + 1 + 1) w2 (w2.setCell ⟨w.heap.size + 1 + 1, 10, none⟩ (.slice vo e.p.length vc)) := Keep.setCell (F := (· = w.heap.size + 1 + 1)) (Keep.refl _ _) (.inl rfl) _
        have hq := HF.out _ (k2.no.trans kE (fun _ _ e => e)) (setEvBox HY.out.2.2.1 kE (heap_setCell_same (i := 10) (u := .slice vo e.p.length vc) HY.out.2.1) HY.out.2.2.2 HY.out.1)
        go_roundw
        case rel => exact hq.1
        case measure =>
          rw [iterPos_of hq.2, iterPos_of HI.out]
          omega
      · go_wp2_with fail
        have kE : Keep (· = w.heap.size + 1 + 1) W1 (W1.setCell ⟨w.heap.size + 1 + 1, 9, none⟩ (.bool e.on)) := Keep.setCell (F := (· = w.heap.size + 1 + 1)) (Keep.refl _ _) (.inl rfl) _
        have hq := HF.out _ kE (setEvBox HX.out.2.2.1 kE (heap_setCell_same (i := 9) (u := .bool e.on) HXX.out.1) HXX.out.2.1 HXX.out.2.2)
        go_roundw
        case rel => exact hq.1
        case measure =>
          rw [iterPos_of hq.2, iterPos_of HI.out]
          omega
      · go_wp2_with fail
        have kE : Keep (· = w.heap.size + 1 + 1) W1 (W1.setCell ⟨w.heap.size + 1 + 1, 7, none⟩ (.int .i64 e.keep)) := Keep.setCell (F := (· = w.heap.size + 1 + 1)) (Keep.refl _ _) (.inl rfl) _
        have hq := HF.out _ kE (setEvBox HX.out.2.2.1 kE (heap_setCell_same (i := 7) (u := .int .i64 e.keep) HXX.out.1) HXX.out.2.1 HXX.out.2.2)
        go_roundw
        case rel => exact hq.1
        case measure =>
          rw [iterPos_of hq.2, iterPos_of HI.out]
          omega
      · go_wp2_with fail
        have kE : Keep (· = w.heap.size + 1 + 1) W1 (W1.setCell ⟨w.heap.size + 1 + 1, 8, none⟩ (.int .i64 e.torn)) := Keep.setCell (F := (· = w.heap.size + 1 + 1)) (Keep.refl _ _) (.inl rfl) _
        have hq := HF.out _ kE (setEvBox HX.out.2.2.1 kE (heap_setCell_same (i := 8) (u := .int .i64 e.torn) HXX.out.1) HXX.out.2.1 HXX.out.2.2)
        go_roundw
        case rel => exact hq.1
        case measure =>
          rw [iterPos_of hq.2, iterPos_of HI.out]
          omega
      · go_wp2_with fail
        have kE : Keep (· = w.heap.size + 1 + 1) W1 (W1.setCell ⟨w.heap.size + 1 + 1, 4, none⟩ (.int .i64 e.ix)) := Keep.setCell (F := (· = w.heap.size + 1 + 1)) (Keep.refl _ _) (.inl rfl) _
        have hq := HF.out _ kE (setEvBox HX.out.2.2.1 kE (heap_setCell_same (i := 4) (u := .int .i64 e.ix) HXX.out.1) HXX.out.2.1 HXX.out.2.2)
        go_roundw
        case rel => exact hq.1
        case measure =>
          rw [iterPos_of hq.2, iterPos_of HI.out]
          omega
      · go_wp2_with fail
        have kE : Keep (· = w.heap.size + 1 + 1) W1 (W1.setCell ⟨w.heap.size + 1 + 1, 5, none⟩ (.int .i64 e.pos)) := Keep.setCell (F := (· = w.heap.size + 1 + 1)) (Keep.refl _ _) (.inl rfl) _
        have hq := HF.out _ kE (setEvBox HX.out.2.2.1 kE (heap_setCell_same (i := 5) (u := .int .i64 e.pos) HXX.out.1) HXX.out.2.1 HXX.out.2.2)
        go_roundw
        case rel => exact hq.1
        case measure =>
          rw [iterPos_of hq.2, iterPos_of HI.out]
          omega
      · go_wp2_with fail
        have kE : Keep (· = w.heap.size + 1 + 1) W1 (W1.setCell ⟨w.heap.size + 1 + 1, 6, none⟩ (.int .u8 e.val.toNat)) := Keep.setCell (F := (· = w.heap.size + 1 + 1)) (Keep.refl _ _) (.inl rfl) _
        have hq := HF.out _ kE (setEvBox HX.out.2.2.1 kE (heap_setCell_same (i := 6) (u := .int .u8 e.val.toNat) HXX.out.1) HXX.out.2.1 HXX.out.2.2)
        go_roundw
        case rel => exact hq.1
        case measure =>
          rw [iterPos_of hq.2, iterPos_of HI.out]
          omega
    · obtain rfl : j = pt.length := by omega
      have hnx := fun ty => run_next_over (w := wr) ty hit (Nat.le_refl _)
      have hPx : P = x := by rw [HH.out.1, hxe.out, List.take_length]
      obtain ⟨hXB, xb, xp, hxh, hxb, hxp⟩ := hbx
      obtain ⟨xbo, xbc, rfl⟩ := BytesAt.form (bn := noBan) hxb
      obtain ⟨xpo, xpc, rfl⟩ := BytesAt.form (bn := noBan) hxp
      obtain ⟨x0, x1, x2, x3, x4, x5, x6, x7, x8, x9, x10⟩ := evCells hxh
      obtain ⟨Z, hZ⟩ : ∃ Z, Z = wr.setRow (w.heap.size + 1) (evC x (.slice xbo x.body.length xbc) (.slice xpo x.p.length xpc)) := ⟨_, rfl⟩
      have hX := setRow_heap wr (w.heap.size + 1) _ (evC x (.slice xbo x.body.length xbc) (.slice xpo x.p.length xpc)) _ _ hz
      have hF : Foot base wr (· = w.heap.size + 1) := by
        rintro b rfl
        exact ⟨by omega, heap_lt hz, fun cs fr e => by rw [hz] at e; simp at e⟩
      have kR := keep_row (evC x (.slice xbo x.body.length xbc) (.slice xpo x.p.length xpc)) hkr (g := w.heap.size + 1) (.inr (by omega))
      have kR' := keep_row (F := (· = w.heap.size + 1)) (evC x (.slice xbo x.body.length xbc) (.slice xpo x.p.length xpc)) (Keep.refl _ wr) (.inl rfl)
      rw [← hZ] at hX kR kR'
      obtain ⟨r0, r1, r2, r3, r4, r5, r6, r7, r8, r9, r10⟩ := evCells hX
      have HR := Lib.hid (And.intro hPx (And.intro kR (And.intro (BytesAt.keep (bn := noBan) hxb hF kR') (And.intro (BytesAt.keep (bn := noBan) hxp hF kR') (And.intro hz hZ)))))
      clear hX hPx hz kR kR' hZ hF hxb hxp hxh hit hxe hkr ha
      go_wp2_with (refine wpList_store_row rfl 27 (.tmp 2) _ rfl (w.heap.size + 1) (evC x (.slice xbo x.body.length xbc) (.slice xpo x.p.length xpc)) rfl rfl _ _ HR.out.2.2.2.2.1 (by kernel_rfl) rfl (by simp [evC, Value.oneCell']) ?_; rw [← HR.out.2.2.2.2.2])
      refine bodyPost_ret (v := evV x (.slice xbo x.body.length xbc) (.slice xpo x.p.length xpc)) ?_ rfl ?_
      · simp [results, Tryd.results16, go_sem, r0, r1, r2, r3, r4, r5, r6, r7, r8, r9, r10, evV]
      · rw [HR.out.1]
        exact ⟨HR.out.2.1, _, _, rfl, HR.out.2.2.1, HR.out.2.2.2.1⟩
end Go.Proofs.YtlbjkmpdakmgeaaDoor
