/- The document's Parse, walked. -/
import Derived.Test.YtlbjkmpdakmgeaaDoorTaleW
import Derived.Test.YtlbjkmpdakmgeaaDoorTaleX
namespace Go.Proofs.YtlbjkmpdakmgeaaDoor
open Go Go.RowKit Go.Dr

def dvK (kd : Int) (e : EvS) (bv pv : Value) : Array Value := #[.int .i64 kd, .int .i64 e.who, .int .i64 e.cls, bv, .int .i64 e.ix, .int .i64 e.pos, .int .u8 e.val.toNat, .int .i64 e.keep, .int .i64 e.torn, .bool e.on, pv]
theorem dvCells {w : World} {g : Nat} {kd : Int} {e : EvS} {bv pv : Value} {t : TypeId} {fr : Nat × Nat} (h : w.heap[g]? = some (.cells (dvK kd e bv pv) t fr)) :
    w.cell? ⟨g, 0, none⟩ = some (.int .i64 kd) ∧ w.cell? ⟨g, 1, none⟩ = some (.int .i64 e.who) ∧ w.cell? ⟨g, 2, none⟩ = some (.int .i64 e.cls) ∧ w.cell? ⟨g, 3, none⟩ = some bv ∧
    w.cell? ⟨g, 4, none⟩ = some (.int .i64 e.ix) ∧ w.cell? ⟨g, 5, none⟩ = some (.int .i64 e.pos) ∧ w.cell? ⟨g, 6, none⟩ = some (.int .u8 e.val.toNat) ∧ w.cell? ⟨g, 7, none⟩ = some (.int .i64 e.keep) ∧
    w.cell? ⟨g, 8, none⟩ = some (.int .i64 e.torn) ∧ w.cell? ⟨g, 9, none⟩ = some (.bool e.on) ∧ w.cell? ⟨g, 10, none⟩ = some pv := by
  simp only [cell_of h]
  exact ⟨rfl, rfl, rfl, rfl, rfl, rfl, rfl, rfl, rfl, rfl, rfl⟩
theorem pad_words {n : List UInt8} {r : List (List UInt8)} {j : Nat} (h : 6 ≤ (n :: r ++ List.replicate j []).length) : ∃ l1 l2 l3 l4 l5 rest, n :: r ++ List.replicate j [] = n :: l1 :: l2 :: l3 :: l4 :: l5 :: rest ∧
    ∀ (i : Nat) u, r[i]? = some u → i < 5 → [l1, l2, l3, l4, l5][i]? = some u := by
  obtain ⟨L, hL⟩ : ∃ L, L = r ++ List.replicate j [] := ⟨_, rfl⟩
  have hl : 5 ≤ L.length := by rw [hL]; simp at h ⊢; omega
  match L, hL, hl with
  | l1 :: l2 :: l3 :: l4 :: l5 :: rest, hL, _ =>
    refine ⟨l1, l2, l3, l4, l5, rest, by rw [List.cons_append, ← hL], fun i u hu hi => ?_⟩
    have hlt := (List.getElem?_eq_some_iff.1 hu).1
    have e : (r ++ List.replicate j [])[i]? = some u := by rw [List.getElem?_append_left hlt]; exact hu
    rw [← hL] at e
    match i, hi with
    | 0, _ | 1, _ | 2, _ | 3, _ | 4, _ => simpa using e

theorem Keep.no' {a b c : World} {E : Nat} (h : Keep No a b) (k : Keep (· = E) b c) (hE : a.heap.size ≤ E) : Keep No a c := h.trans k (fun x hx e => by have := e; omega)
def namesC : Array Value := #[strV nOffer, strV nTick, strV nDeliver, strV nDrop, strV nDouble, strV nTurn, strV nForge, strV nReplay, strV nFull, strV nCrash, strV nBoot, strV nHalt]
theorem namesC_at : ∀ k : Nat, k < 12 → namesC[k]? = some (strV (nameD k)) := by
  intro k hk
  match k, hk with
  | 0, _ | 1, _ | 2, _ | 3, _ | 4, _ | 5, _ | 6, _ | 7, _ | 8, _ | 9, _ | 10, _ | 11, _ => rfl
def SwPost (base : Nat) (W : World) (E : Nat) (kd : Int) (l1 l2 l3 l4 l5 : List UInt8) (v : Value) (wx : World) : Prop :=
  Keep (· = E) W wx ∧ ((kd = -1 ∧ wx.heap[E]? = some (.cells (dvK (-1) {} (.slice none 0 0) (.slice none 0 0)) 33 (0, 0)) ∧ ∃ b, v = .bool b) ∨
    ∃ k : Nat, k < 12 ∧ kd = k ∧ v = .bool (okF k l1 l2 l3 l4 l5) ∧ ∃ bv pv, wx.heap[E]? = some (.cells (dvK k (candF k l1 l2 l3 l4 l5) bv pv) 33 (0, 0)) ∧ BytesAt (bn := noBan) base wx bv (candF k l1 l2 l3 l4 l5).body ∧ BytesAt (bn := noBan) base wx pv (candF k l1 l2 l3 l4 l5).p)
def setDv (w : World) (b : Nat) (kd : Int) (x : EvS) (bv pv : Value) : World := (((((((((((w.setCell ⟨b, 0, none⟩ (.int .i64 kd)).setCell ⟨b, 1, none⟩ (.int .i64 x.who)).setCell ⟨b, 2, none⟩ (.int .i64 x.cls)).setCell ⟨b, 3, none⟩ (bv)).setCell ⟨b, 4, none⟩ (.int .i64 x.ix)).setCell ⟨b, 5, none⟩ (.int .i64 x.pos)).setCell ⟨b, 6, none⟩ (.int .u8 x.val.toNat)).setCell ⟨b, 7, none⟩ (.int .i64 x.keep)).setCell ⟨b, 8, none⟩ (.int .i64 x.torn)).setCell ⟨b, 9, none⟩ (.bool x.on)).setCell ⟨b, 10, none⟩ (pv))
theorem setDv_heap {w : World} {b : Nat} {kd kd' : Int} {y x : EvS} {bv pv bv' pv' : Value} (h : w.heap[b]? = some (.cells (dvK kd' y bv' pv') 33 (0, 0))) : (setDv w b kd x bv pv).heap[b]? = some (.cells (dvK kd x bv pv) 33 (0, 0)) := by
  unfold dvK at h ⊢
  have h0 := heap_setCell_same (i := 0) (u := .int .i64 kd) h
  simp only [List.setIfInBounds_toArray, List.set_cons_zero] at h0
  have h1 := heap_setCell_same (i := 1) (u := .int .i64 x.who) h0
  simp only [List.setIfInBounds_toArray, List.set_cons_zero, List.set_cons_succ] at h1
  have h2 := heap_setCell_same (i := 2) (u := .int .i64 x.cls) h1
  simp only [List.setIfInBounds_toArray, List.set_cons_zero, List.set_cons_succ] at h2
  have h3 := heap_setCell_same (i := 3) (u := bv) h2
  simp only [List.setIfInBounds_toArray, List.set_cons_zero, List.set_cons_succ] at h3
  have h4 := heap_setCell_same (i := 4) (u := .int .i64 x.ix) h3
  simp only [List.setIfInBounds_toArray, List.set_cons_zero, List.set_cons_succ] at h4
  have h5 := heap_setCell_same (i := 5) (u := .int .i64 x.pos) h4
  simp only [List.setIfInBounds_toArray, List.set_cons_zero, List.set_cons_succ] at h5
  have h6 := heap_setCell_same (i := 6) (u := .int .u8 x.val.toNat) h5
  simp only [List.setIfInBounds_toArray, List.set_cons_zero, List.set_cons_succ] at h6
  have h7 := heap_setCell_same (i := 7) (u := .int .i64 x.keep) h6
  simp only [List.setIfInBounds_toArray, List.set_cons_zero, List.set_cons_succ] at h7
  have h8 := heap_setCell_same (i := 8) (u := .int .i64 x.torn) h7
  simp only [List.setIfInBounds_toArray, List.set_cons_zero, List.set_cons_succ] at h8
  have h9 := heap_setCell_same (i := 9) (u := .bool x.on) h8
  simp only [List.setIfInBounds_toArray, List.set_cons_zero, List.set_cons_succ] at h9
  have h10 := heap_setCell_same (i := 10) (u := pv) h9
  simp only [List.setIfInBounds_toArray, List.set_cons_zero, List.set_cons_succ] at h10
  exact h10
theorem setDv_keep {F : Nat → Prop} {a w : World} {b : Nat} (kd : Int) (x : EvS) (bv pv : Value) (h : Keep F a w) (hb : F b ∨ a.heap.size ≤ b) : Keep F a (setDv w b kd x bv pv) :=
  (Keep.setCell (Keep.setCell (Keep.setCell (Keep.setCell (Keep.setCell (Keep.setCell (Keep.setCell (Keep.setCell (Keep.setCell (Keep.setCell (Keep.setCell h hb _) hb _) hb _) hb _) hb _) hb _) hb _) hb _) hb _) hb _) hb _)
def EndPost (base E : Nat) (P : Option EvS) (v : Value) (wx : World) : Prop :=
  (v = .bool true ∧ P = none) ∨ (v = .bool false ∧ ∃ (x : EvS) (k : Nat) (bv pv : Value), P = some x ∧ x.kind = k ∧ wx.heap[E]? = some (.cells (dvK k x bv pv) 33 (0, 0)) ∧ BytesAt (bn := noBan) base wx bv x.body ∧ BytesAt (bn := noBan) base wx pv x.p)
theorem store_row {w : World} {g : Nat} {cs : Array Value} {t : TypeId} (h : w.heap[g]? = some (.cells cs t (0, 0))) (vs : List Value) (hl : vs.length = cs.size) (h1 : ∀ v ∈ vs, v.oneCell' = true) :
    (storeCells ⟨g, 0, none⟩ vs).run Tryd.prog w = .ok () (w.setRow g vs.toArray) := by
  have := run_storeCells_from (P := Tryd.prog) g t vs 0 cs w h (by omega) h1
  simpa using this
theorem row_heap {w : World} {g : Nat} {cs : Array Value} {t : TypeId} {fr : Nat × Nat} (h : w.heap[g]? = some (.cells cs t fr)) (row : Array Value) : (w.setRow g row).heap[g]? = some (.cells row t fr) := by
  simp [World.setRow, Array.getElem?_modify, h]
theorem row_keep {F : Nat → Prop} {a w : World} {g : Nat} (row : Array Value) (h : Keep F a w) (hg : F g ∨ a.heap.size ≤ g) : Keep F a (w.setRow g row) := by
  refine ⟨h.os, h.tape, h.output, by have := h.size; simpa [World.setRow] using this, fun b hb hf => ?_⟩
  have hne : g ≠ b := fun e => by
    subst e
    rcases hg with hg | hg
    · exact hf hg
    · omega
  rw [← h.block b hb hf]
  simp [World.setRow, Array.getElem?_modify, hne]
def RParsePost (base : Nat) (w : World) : Option EvS → Ending → World → Prop
  | some x, e, w' => Keep No w w' ∧ ∃ bv pv, e = .returned (.tuple #[dvV x bv pv, .bool true]) ∧ BytesAt (bn := noBan) base w' bv x.body ∧ BytesAt (bn := noBan) base w' pv x.p
  | none, e, w' => Keep No w w' ∧ e = .returned (.tuple #[dvV {} (.slice none 0 0) (.slice none 0 0), .bool false])

set_option maxRecDepth 100000 in
set_option maxHeartbeats 40000000 in
theorem rparse_spec {base : Nat} {w : World} (hbase : base ≤ w.heap.size) (s : List UInt8) (hs : s.length ≤ 1000) :
    Calls Tryd.prog 10 #[strV s] w (RParsePost base w (parseF s)) := by
  obtain ⟨P, hP⟩ : ∃ P, P = parseF s := ⟨_, rfl⟩
  rw [← hP]
  obtain ⟨n, r, hnr⟩ : ∃ n r, splitC 32 s = n :: r := by
    cases h : splitC 32 s with
    | nil => exact (splitC_ne 32 s h).elim
    | cons n r => exact ⟨n, r, rfl⟩
  have hlen := splitC_len 32 s
  have hmem : ∀ u ∈ n :: r, u.length ≤ 1000 := by
    intro u hu
    rw [← hnr] at hu
    have := splitC_word_len 32 s u hu
    omega
  have kA : Keep No w (w.alloc (.cells (dvK 0 {} (.slice none 0 0) (.slice none 0 0)) 33)) := (Keep.refl _ _).alloc _
  have hsp := rwords_spec (w := w.alloc (.cells (dvK 0 {} (.slice none 0 0) (.slice none 0 0)) 33)) s (by omega)
  rw [hnr] at hsp hlen
  have HP := Lib.hid (And.intro hP (And.intro hmem (And.intro hlen (And.intro hs hnr))))
  have hA := heap_new w (.cells (dvK 0 {} (.slice none 0 0) (.slice none 0 0)) 33)
  clear hP hmem hnr hs hlen
  go_enter Tryd.func10, Tryd.ntmps10
  go_wp2_with fail
  refine hsp.mono ?_
  rintro e w1 ⟨v, rfl, hst, k1⟩
  rw [World.size_alloc] at hst
  have hA1 := k1.heap hA (fun e => e)
  have k1s := k1.size
  have k1 := kA.then k1
  have hw1s : w.heap.size + 1 ≤ w1.heap.size := by have := k1s; simp at this; omega
  clear hA hsp kA
  go_wp2_with fail
  go_loopw [4] (fun v wr => ∃ j : Nat, (j = 0 ∨ (n :: r).length + j ≤ 6) ∧ StrsAt wr (w.heap.size + 1) v (n :: r ++ List.replicate j []) ∧ Keep No w wr ∧ wr.heap[w.heap.size]? = some (.cells (dvK 0 {} (.slice none 0 0) (.slice none 0 0)) 33 (0, 0)) ∧ w.heap.size + 1 ≤ wr.heap.size) (fun v _ => 6 - (match v with | .slice _ n _ => n | _ => 0))
  case atStart => exact ⟨0, .inl rfl, by simpa using hst, k1, hA1, hw1s⟩
  case round =>
    clear hst hA1 hw1s k1s
    obtain ⟨j, hj, hst, hkp, hAr, hwz⟩ := hrel
    have hll : (n :: r ++ List.replicate j []).length = (n :: r).length + j := by simp; omega
    have hrep : n :: r ++ List.replicate (j + 1) [] = (n :: r ++ List.replicate j []) ++ [[]] := by rw [List.append_assoc, ← List.replicate_succ']
    have hpad := fun h => pad_words (n := n) (r := r) (j := j) h
    have hcm : ∀ u ∈ n :: r ++ List.replicate j [], u.length ≤ 1000 := by
      intro u hu
      rcases List.mem_append.1 hu with hu | hu
      · exact HP.out.2.1 u hu
      · rw [List.eq_of_mem_replicate hu]; simp
    have hlm : (n :: r ++ List.replicate j []).length ≤ 2000 := by have := HP.out.2.2.1; have := HP.out.2.2.2.1; omega
    obtain ⟨L, hL⟩ : ∃ L, L = n :: r ++ List.replicate j [] := ⟨_, rfl⟩
    rw [← hL] at hst hll hrep hpad hcm hlm
    obtain ⟨ao, cap, rfl⟩ := hst.form
    by_cases hlt : L.length < 6
    · have hq : (L.length : Int) < 6 := by omega
      have hlit2 : ∀ (j : Nat) y, ([[]] : List (List UInt8))[j]? = some y → (wr.alloc (.cells #[strV []] 9)).cell? ⟨wr.heap.size, 0 + j, none⟩ = some (strV y) := fun j y hj => by
        match j, hj with
        | 0, hj => simp at hj; subst hj; rw [cell_of (heap_new _ _)]; rfl
      have hz := hkp.size
      have HR := Lib.hid (And.intro hrep (And.intro hll hj))
      have hst0 := (hst.lt)
      clear hrep hpad hcm hL hll hj
      go_wp2_with (at_builtin; refine wpList_append_strs rfl _ _ rfl (w.heap.size + 1) (hst.no ((Keep.refl _ _).alloc _)) hlit2 rfl rfl (by simp; omega) (by simp; omega) ?_; intro v' w3 hst' k4)
      obtain ⟨ao', cap', rfl⟩ := hst'.form
      go_roundw
      case rel => exact ⟨j + 1, .inr (by have := HR.out.2.1; omega), by rw [HR.out.1]; exact hst', (hkp.alloc _).trans k4 (fun b hb e => by have := (hst0 b e).1; omega), k4.heap (((Keep.refl No _).alloc _).heap hAr (fun e => e)) (fun e => by have := (hst0 _ e).1; omega), by have := k4.size; simp at this; omega⟩
      case measure => simp; omega
    · have hq : ¬ (L.length : Int) < 6 := by omega
      obtain ⟨l1, l2, l3, l4, l5, rest, hLe, hw⟩ := hpad (by omega)
      obtain ⟨g, cap', hv, hcl, hcmx, hgl, hgc⟩ := hst.cells (by rw [hLe]; simp)
      simp only [Value.slice.injEq] at hv
      obtain ⟨rfl, _, rfl⟩ := hv
      have c0 := hgc 0 n (by rw [hLe]; rfl)
      have c1 := hgc 1 l1 (by rw [hLe]; rfl)
      have c2 := hgc 2 l2 (by rw [hLe]; rfl)
      have c3 := hgc 3 l3 (by rw [hLe]; rfl)
      have c4 := hgc 4 l4 (by rw [hLe]; rfl)
      have c5 := hgc 5 l5 (by rw [hLe]; rfl)
      have hm1 := hcm l1 (by rw [hLe]; simp)
      have hm2 := hcm l2 (by rw [hLe]; simp)
      have hm3 := hcm l3 (by rw [hLe]; simp)
      have hm4 := hcm l4 (by rw [hLe]; simp)
      have hm5 := hcm l5 (by rw [hLe]; simp)
      have hgw := (hst.lt g rfl).1
      obtain ⟨cur, hgh⟩ := hst.kind (b := g) rfl
      have hLi : 6 ≤ (L.length : Int) := by omega
      have HW := Lib.hid (And.intro hw (And.intro hm1 (And.intro hm2 (And.intro hm3 (And.intro hm4 hm5)))))
      clear hpad hrep hcm hL hll hj hlt hst hcl hcmx hgc hLe hw hm1 hm2 hm3 hm4 hm5
      generalize L.length = N at *
      go_wp2_with fail
      obtain ⟨wo, rfl⟩ : ∃ wo, wo = wr := ⟨_, rfl⟩
      obtain ⟨W, hW⟩ : ∃ W, W = (wo.alloc (.cells (dvK (-1) {} (.slice none 0 0) (.slice none 0 0)) 33)).alloc (.cells namesC 9) := ⟨_, rfl⟩
      have kW : Keep No wo W := by rw [hW]; exact ((Keep.refl _ _).alloc _).alloc _
      have hE : W.heap[wo.heap.size]? = some (.cells (dvK (-1) {} (.slice none 0 0) (.slice none 0 0)) 33 (0, 0)) := by
        rw [hW]; exact ((Keep.refl No _).alloc _).heap (heap_new _ _) (fun e => e)
      have hN : W.heap[wo.heap.size + 1]? = some (.cells namesC 9 (0, 0)) := by
        rw [hW]
        have := heap_new (wo.alloc (.cells (dvK (-1) {} (.slice none 0 0) (.slice none 0 0)) 33)) (.cells namesC 9)
        rw [World.size_alloc] at this
        exact this
      show Code.wp _ _ _ _ ((wo.alloc (.cells (dvK (-1) {} (.slice none 0 0) (.slice none 0 0)) 33)).alloc (.cells namesC 9))
      rw [← hW]
      clear hW
      have hgE : g ≠ wo.heap.size := by omega
      have hEz : w.heap.size < wo.heap.size := by omega
      have hNE : wo.heap.size + 1 ≠ wo.heap.size := by omega
      have d0 := kW.cell c0 (fun e => e)
      have HC := Lib.hid (And.intro (kW.cell c1 (fun e => e)) (And.intro (kW.cell c2 (fun e => e)) (And.intro (kW.cell c3 (fun e => e)) (And.intro (kW.cell c4 (fun e => e)) (And.intro (kW.cell c5 (fun e => e)) (And.intro (kW.heap hAr (fun e => e)) (hkp.then kW)))))))
      have hWz : wo.heap.size < W.heap.size := heap_lt hE
      clear c0 c1 c2 c3 c4 c5 hAr hkp kW hwz hgw hgl hgh
      generalize wo.heap.size + 1 = NB at *
      generalize wo.heap.size = E at *
      go_loopw [38] (fun i wx => ∃ k : Nat, k ≤ 12 ∧ i = .int .i64 k ∧ wx.heap[E]? = some (.cells (dvK (kindUpto n k) {} (.slice none 0 0) (.slice none 0 0)) 33 (0, 0)) ∧ Keep (· = E) W wx) (fun i _ => 12 - (intOf i).toNat)
      case atStart => exact ⟨0, by omega, rfl, hE, Keep.refl _ _⟩
      case round =>
        clear hE
        obtain ⟨k, hk, rfl, hEk, kE⟩ := hrel
        by_cases hlt : k < 12
        · have hki : (k : Int) < 12 := by omega
          have hnm : wr.cell? ⟨NB, k, none⟩ = some (strV (nameD k)) := by rw [cell_of (kE.heap hN (fun e => hNE e))]; exact namesC_at k hlt
          have d0' := kE.cell d0 (fun e => hgE e)
          have hu1 : nameD k = n → kindUpto n (k + 1) = k := fun h => by unfold kindUpto; rw [if_pos h]
          have hu2 : nameD k ≠ n → kindUpto n (k + 1) = kindUpto n k := fun h => by rw [kindUpto, if_neg h]
          obtain ⟨nm, hnme⟩ : ∃ nm, nm = nameD k := ⟨_, rfl⟩
          rw [← hnme] at hnm hu1 hu2
          obtain ⟨NM, hNM⟩ : ∃ NM, NM = strB nm := ⟨_, rfl⟩
          obtain ⟨SN, hSN⟩ : ∃ SN, SN = strB n := ⟨_, rfl⟩
          replace hnm : wr.cell? ⟨NB, k, none⟩ = some (.string NM) := by rw [hNM]; exact hnm
          replace d0' : wr.cell? ⟨g, 0, none⟩ = some (.string SN) := by rw [hSN]; exact d0'
          obtain ⟨e0, _⟩ := dvCells hEk
          have hfz := frozen_of hEk
          by_cases hnn : nm = n
          · have hq : (NM.toList == SN.toList) = true := by rw [hNM, hSN, hnn]; simp
            have hh := heap_setCell_same (i := 0) (u := .int .i64 k) hEk
            have HU := Lib.hid (And.intro (hu1 hnn) (And.intro hh kE))
            clear hu1 hu2 hnn hNM hSN hnme hh hEk kE d0
            generalize kindUpto n k = kd at *
            go_wp2_with fail
            go_roundw
            case rel => exact ⟨k + 1, by omega, by go_num, by rw [HU.out.1]; exact HU.out.2.1, HU.out.2.2.trans (Keep.setCell (F := (· = E)) (Keep.refl _ _) (.inl rfl) _) (fun _ _ e => e)⟩
            case measure => simp [intOf]; omega
          · have hq : (NM.toList == SN.toList) = false := by rw [hNM, hSN, strB_toList, strB_toList]; simpa using hnn
            have HU := Lib.hid (And.intro (hu2 hnn) (And.intro hEk kE))
            clear hu1 hu2 hnn hNM hSN hnme hEk kE d0
            generalize kindUpto n k = kd at *
            go_wp2_with fail
            go_roundw
            case rel => exact ⟨k + 1, by omega, by go_num, by rw [HU.out.1]; exact HU.out.2.1, HU.out.2.2⟩
            case measure => simp [intOf]; omega
        · obtain rfl : k = 12 := by omega
          have a1 := kE.cell HC.out.1 (fun e => hgE e)
          have a2 := kE.cell HC.out.2.1 (fun e => hgE e)
          have a3 := kE.cell HC.out.2.2.1 (fun e => hgE e)
          have a4 := kE.cell HC.out.2.2.2.1 (fun e => hgE e)
          have a5 := kE.cell HC.out.2.2.2.2.1 (fun e => hgE e)
          -- THE NUMBERS
          go_wp2_with fail
          refine (rwhom_spec l1 (by have := HW.out.2.1; omega) _).mono ?_
          rintro e _ ⟨rfl, mA, rfl⟩
          go_wp2_with fail
          refine (rnumber_spec _ l1 (by have := HW.out.2.1; omega)).mono ?_
          rintro e _ ⟨rfl, mI, rfl⟩
          go_wp2_with fail
          refine (rnumber_spec _ l2 (by have := HW.out.2.2.1; omega)).mono ?_
          rintro e _ ⟨rfl, mN2, rfl⟩
          go_wp2_with fail
          refine (rnumber_spec _ l3 (by have := HW.out.2.2.2.1; omega)).mono ?_
          rintro e _ ⟨rfl, mN3, rfl⟩
          go_wp2_with fail
          refine (rnumber_spec _ l4 (by have := HW.out.2.2.2.2.1; omega)).mono ?_
          rintro e _ ⟨rfl, mN4, rfl⟩
          go_wp2_with fail
          refine (rnumber_spec _ l5 (by have := HW.out.2.2.2.2.2; omega)).mono ?_
          rintro e _ ⟨rfl, mN5, rfl⟩
          have hkall := kindUpto_all n
          generalize kindUpto n 12 = kd at *
          have HKA := Lib.hid hkall
          clear hkall
          go_upto_region 19 with fail
          obtain ⟨bA, qbA⟩ : ∃ b, b = whomB l1 := ⟨_, rfl⟩
          rw [← qbA]
          obtain ⟨bI, qbI⟩ : ∃ b, b = numB l1 := ⟨_, rfl⟩
          rw [← qbI]
          obtain ⟨b2, qb2⟩ : ∃ b, b = numB l2 := ⟨_, rfl⟩
          rw [← qb2]
          obtain ⟨b3, qb3⟩ : ∃ b, b = numB l3 := ⟨_, rfl⟩
          rw [← qb3]
          obtain ⟨b4, qb4⟩ : ∃ b, b = numB l4 := ⟨_, rfl⟩
          rw [← qb4]
          obtain ⟨b5, qb5⟩ : ∃ b, b = numB l5 := ⟨_, rfl⟩
          rw [← qb5]
          have HB := Lib.hid (And.intro qbA (And.intro qbI (And.intro qb2 (And.intro qb3 (And.intro qb4 qb5)))))
          clear qbA qbI qb2 qb3 qb4 qb5
          obtain ⟨z0, _⟩ := dvCells hEk
          go_upto_block 4 with fail
          obtain ⟨W2, hW2⟩ : ∃ W2, W2 = wr.drewN (mA + mI + mN2 + mN3 + mN4 + mN5) := ⟨_, rfl⟩
          have kE2 : Keep (· = E) W W2 := by rw [hW2]; exact kE.drewN _
          have hE2 : W2.heap[E]? = some (.cells (dvK (kd) {} (.slice none 0 0) (.slice none 0 0)) 33 (0, 0)) := by rw [hW2]; exact hEk
          have y2 : W2.cell? ⟨g, 2, none⟩ = some (strV l2) := kE2.cell HC.out.2.1 (fun e => hgE e)
          have y3 : W2.cell? ⟨g, 3, none⟩ = some (strV l3) := kE2.cell HC.out.2.2.1 (fun e => hgE e)
          rw [← hW2]
          clear hW2 a1 a2 a3 a4 a5 hEk kE z0
          clear d0 hN
          go_cut [21] (fun v wx => SwPost base W E (kd) l1 l2 l3 l4 l5 v wx)
          case first =>
            obtain ⟨e0, e1, e2, e3, e4, e5, e6, e7, e8, e9, e10⟩ := dvCells hE2
            have hfz := frozen_of hE2
            have HE2 := Lib.hid (And.intro hE2 kE2)
            clear hE2 kE2
            rcases HKA.out with ⟨k, hk, hn, hku⟩ | ⟨hku, hn⟩
            · have hk12 : k = 0 ∨ k = 1 ∨ k = 2 ∨ k = 3 ∨ k = 4 ∨ k = 5 ∨ k = 6 ∨ k = 7 ∨ k = 8 ∨ k = 9 ∨ k = 10 ∨ k = 11 := by omega
              clear hn
              rcases hk12 with rfl | rfl | rfl | rfl | rfl | rfl | rfl | rfl | rfl | rfl | rfl | rfl
              · as_aux_lemma =>
                obtain rfl : kd = 0 := by omega
                clear hk hku
                have HX0 := runhex_spec (w := W2) l3 (by have := HW.out.2.2.2.1; omega)
                have hok : okF 0 l1 l2 l3 l4 l5 = (whomB l1 && numB l2 && unhexB l3) := rfl
                rw [← HB.out.1] at hok
                rw [← HB.out.2.2.1] at hok
                obtain ⟨h3, qh3⟩ : ∃ b, b = unhexB l3 := ⟨_, rfl⟩
                rw [← qh3] at hok
                rw [← qh3] at HX0
                have HOK := Lib.hid hok
                clear hok HB qh3
                have HX := Lib.hid HX0
                clear HX0
                cases bA with
                | false =>
                  go_wp2_with fail
                  refine HX.out.mono ?_
                  rintro e w3 ⟨V, rfl, own3, k3⟩
                  obtain ⟨vo, vc, rfl⟩ := own3.form
                  obtain ⟨f0, f1, f2, f3, f4, f5, f6, f7, f8, f9, f10⟩ := dvCells (k3.heap HE2.out.1 (fun e => e))
                  have hfz3 := frozen_of (k3.heap HE2.out.1 (fun e => e))
                  have HO := Lib.hid (And.intro own3 k3)
                  clear own3
                  go_wp2_with fail
                  go_meet
                  have hE3 := HO.out.2.heap HE2.out.1 (fun e => e)
                  have hF3 : Foot base w3 (· = E) := by rintro b rfl; exact ⟨by omega, heap_lt hE3, fun cs fr e => by rw [hE3] at e; simp at e⟩
                  have kS : Keep (· = E) w3 (((w3.setCell ⟨E, 1, none⟩ (.int .i64 (whomN l1))).setCell ⟨E, 2, none⟩ (.int .i64 (numN l2))).setCell ⟨E, 3, none⟩ (.slice vo (unhexN l3).length vc)) := (Keep.setCell (F := (· = E)) (Keep.setCell (F := (· = E)) (Keep.setCell (F := (· = E)) (Keep.refl _ _) (.inl rfl) _) (.inl rfl) _) (.inl rfl) _)
                  exact ⟨(Keep.setCell (F := (· = E)) (Keep.setCell (F := (· = E)) (Keep.setCell (F := (· = E)) (HE2.out.2.then HO.out.2) (.inl rfl) _) (.inl rfl) _) (.inl rfl) _), .inr ⟨0, by omega, rfl, by rw [HOK.out]; rfl, .slice vo (unhexN l3).length vc, .slice none 0 0, (heap_setCell_same (i := 3) (u := .slice vo (unhexN l3).length vc) (heap_setCell_same (i := 2) (u := .int .i64 (numN l2)) (heap_setCell_same (i := 1) (u := .int .i64 (whomN l1)) hE3))), (BytesAt.keep (bn := noBan) (HO.out.1.bytes (bn := noBan) (fun _ => Nat.zero_le _)) hF3 kS), BytesAt.nil (bn := noBan) _ _⟩⟩
                | true =>
                  cases b2 with
                  | false =>
                    go_wp2_with fail
                    refine HX.out.mono ?_
                    rintro e w3 ⟨V, rfl, own3, k3⟩
                    obtain ⟨vo, vc, rfl⟩ := own3.form
                    obtain ⟨f0, f1, f2, f3, f4, f5, f6, f7, f8, f9, f10⟩ := dvCells (k3.heap HE2.out.1 (fun e => e))
                    have hfz3 := frozen_of (k3.heap HE2.out.1 (fun e => e))
                    have HO := Lib.hid (And.intro own3 k3)
                    clear own3
                    go_wp2_with fail
                    go_meet
                    have hE3 := HO.out.2.heap HE2.out.1 (fun e => e)
                    have hF3 : Foot base w3 (· = E) := by rintro b rfl; exact ⟨by omega, heap_lt hE3, fun cs fr e => by rw [hE3] at e; simp at e⟩
                    have kS : Keep (· = E) w3 (((w3.setCell ⟨E, 1, none⟩ (.int .i64 (whomN l1))).setCell ⟨E, 2, none⟩ (.int .i64 (numN l2))).setCell ⟨E, 3, none⟩ (.slice vo (unhexN l3).length vc)) := (Keep.setCell (F := (· = E)) (Keep.setCell (F := (· = E)) (Keep.setCell (F := (· = E)) (Keep.refl _ _) (.inl rfl) _) (.inl rfl) _) (.inl rfl) _)
                    exact ⟨(Keep.setCell (F := (· = E)) (Keep.setCell (F := (· = E)) (Keep.setCell (F := (· = E)) (HE2.out.2.then HO.out.2) (.inl rfl) _) (.inl rfl) _) (.inl rfl) _), .inr ⟨0, by omega, rfl, by rw [HOK.out]; rfl, .slice vo (unhexN l3).length vc, .slice none 0 0, (heap_setCell_same (i := 3) (u := .slice vo (unhexN l3).length vc) (heap_setCell_same (i := 2) (u := .int .i64 (numN l2)) (heap_setCell_same (i := 1) (u := .int .i64 (whomN l1)) hE3))), (BytesAt.keep (bn := noBan) (HO.out.1.bytes (bn := noBan) (fun _ => Nat.zero_le _)) hF3 kS), BytesAt.nil (bn := noBan) _ _⟩⟩
                  | true =>
                    cases h3 with
                    | false =>
                      go_wp2_with fail
                      refine HX.out.mono ?_
                      rintro e w3 ⟨V, rfl, own3, k3⟩
                      obtain ⟨vo, vc, rfl⟩ := own3.form
                      obtain ⟨f0, f1, f2, f3, f4, f5, f6, f7, f8, f9, f10⟩ := dvCells (k3.heap HE2.out.1 (fun e => e))
                      have hfz3 := frozen_of (k3.heap HE2.out.1 (fun e => e))
                      have HO := Lib.hid (And.intro own3 k3)
                      clear own3
                      go_wp2_with fail
                      go_meet
                      have hE3 := HO.out.2.heap HE2.out.1 (fun e => e)
                      have hF3 : Foot base w3 (· = E) := by rintro b rfl; exact ⟨by omega, heap_lt hE3, fun cs fr e => by rw [hE3] at e; simp at e⟩
                      have kS : Keep (· = E) w3 (((w3.setCell ⟨E, 1, none⟩ (.int .i64 (whomN l1))).setCell ⟨E, 2, none⟩ (.int .i64 (numN l2))).setCell ⟨E, 3, none⟩ (.slice vo (unhexN l3).length vc)) := (Keep.setCell (F := (· = E)) (Keep.setCell (F := (· = E)) (Keep.setCell (F := (· = E)) (Keep.refl _ _) (.inl rfl) _) (.inl rfl) _) (.inl rfl) _)
                      exact ⟨(Keep.setCell (F := (· = E)) (Keep.setCell (F := (· = E)) (Keep.setCell (F := (· = E)) (HE2.out.2.then HO.out.2) (.inl rfl) _) (.inl rfl) _) (.inl rfl) _), .inr ⟨0, by omega, rfl, by rw [HOK.out]; rfl, .slice vo (unhexN l3).length vc, .slice none 0 0, (heap_setCell_same (i := 3) (u := .slice vo (unhexN l3).length vc) (heap_setCell_same (i := 2) (u := .int .i64 (numN l2)) (heap_setCell_same (i := 1) (u := .int .i64 (whomN l1)) hE3))), (BytesAt.keep (bn := noBan) (HO.out.1.bytes (bn := noBan) (fun _ => Nat.zero_le _)) hF3 kS), BytesAt.nil (bn := noBan) _ _⟩⟩
                    | true =>
                      go_wp2_with fail
                      refine HX.out.mono ?_
                      rintro e w3 ⟨V, rfl, own3, k3⟩
                      obtain ⟨vo, vc, rfl⟩ := own3.form
                      obtain ⟨f0, f1, f2, f3, f4, f5, f6, f7, f8, f9, f10⟩ := dvCells (k3.heap HE2.out.1 (fun e => e))
                      have hfz3 := frozen_of (k3.heap HE2.out.1 (fun e => e))
                      have HO := Lib.hid (And.intro own3 k3)
                      clear own3
                      go_wp2_with fail
                      go_meet
                      have hE3 := HO.out.2.heap HE2.out.1 (fun e => e)
                      have hF3 : Foot base w3 (· = E) := by rintro b rfl; exact ⟨by omega, heap_lt hE3, fun cs fr e => by rw [hE3] at e; simp at e⟩
                      have kS : Keep (· = E) w3 (((w3.setCell ⟨E, 1, none⟩ (.int .i64 (whomN l1))).setCell ⟨E, 2, none⟩ (.int .i64 (numN l2))).setCell ⟨E, 3, none⟩ (.slice vo (unhexN l3).length vc)) := (Keep.setCell (F := (· = E)) (Keep.setCell (F := (· = E)) (Keep.setCell (F := (· = E)) (Keep.refl _ _) (.inl rfl) _) (.inl rfl) _) (.inl rfl) _)
                      exact ⟨(Keep.setCell (F := (· = E)) (Keep.setCell (F := (· = E)) (Keep.setCell (F := (· = E)) (HE2.out.2.then HO.out.2) (.inl rfl) _) (.inl rfl) _) (.inl rfl) _), .inr ⟨0, by omega, rfl, by rw [HOK.out]; rfl, .slice vo (unhexN l3).length vc, .slice none 0 0, (heap_setCell_same (i := 3) (u := .slice vo (unhexN l3).length vc) (heap_setCell_same (i := 2) (u := .int .i64 (numN l2)) (heap_setCell_same (i := 1) (u := .int .i64 (whomN l1)) hE3))), (BytesAt.keep (bn := noBan) (HO.out.1.bytes (bn := noBan) (fun _ => Nat.zero_le _)) hF3 kS), BytesAt.nil (bn := noBan) _ _⟩⟩
              · as_aux_lemma =>
                obtain rfl : kd = 1 := by omega
                clear hk hku
                go_wp2_with fail
                go_meet
                exact ⟨HE2.out.2, .inr ⟨1, by omega, rfl, rfl, .slice none 0 0, .slice none 0 0, HE2.out.1, BytesAt.nil (bn := noBan) _ _, BytesAt.nil (bn := noBan) _ _⟩⟩
              · as_aux_lemma =>
                obtain rfl : kd = 2 := by omega
                clear hk hku
                have hok : okF 2 l1 l2 l3 l4 l5 = (numB l1) := rfl
                rw [← HB.out.2.1] at hok
                have HOK := Lib.hid hok
                clear hok HB 
                go_wp2_with fail
                go_meet
                exact ⟨(Keep.setCell (F := (· = E)) HE2.out.2 (.inl rfl) _), .inr ⟨2, by omega, rfl, by rw [HOK.out], .slice none 0 0, .slice none 0 0, (heap_setCell_same (i := 4) (u := .int .i64 (numN l1)) HE2.out.1), BytesAt.nil (bn := noBan) _ _, BytesAt.nil (bn := noBan) _ _⟩⟩
              · as_aux_lemma =>
                obtain rfl : kd = 3 := by omega
                clear hk hku
                have hok : okF 3 l1 l2 l3 l4 l5 = (numB l1) := rfl
                rw [← HB.out.2.1] at hok
                have HOK := Lib.hid hok
                clear hok HB 
                go_wp2_with fail
                go_meet
                exact ⟨(Keep.setCell (F := (· = E)) HE2.out.2 (.inl rfl) _), .inr ⟨3, by omega, rfl, by rw [HOK.out], .slice none 0 0, .slice none 0 0, (heap_setCell_same (i := 4) (u := .int .i64 (numN l1)) HE2.out.1), BytesAt.nil (bn := noBan) _ _, BytesAt.nil (bn := noBan) _ _⟩⟩
              · as_aux_lemma =>
                obtain rfl : kd = 4 := by omega
                clear hk hku
                have hok : okF 4 l1 l2 l3 l4 l5 = (numB l1) := rfl
                rw [← HB.out.2.1] at hok
                have HOK := Lib.hid hok
                clear hok HB 
                go_wp2_with fail
                go_meet
                exact ⟨(Keep.setCell (F := (· = E)) HE2.out.2 (.inl rfl) _), .inr ⟨4, by omega, rfl, by rw [HOK.out], .slice none 0 0, .slice none 0 0, (heap_setCell_same (i := 4) (u := .int .i64 (numN l1)) HE2.out.1), BytesAt.nil (bn := noBan) _ _, BytesAt.nil (bn := noBan) _ _⟩⟩
              · as_aux_lemma =>
                obtain rfl : kd = 5 := by omega
                clear hk hku
                have hok : okF 5 l1 l2 l3 l4 l5 = (numB l1 && numB l2 && numB l3 && decide (0 ≤ numN l3) && decide (numN l3 < 256)) := rfl
                rw [← HB.out.2.1] at hok
                rw [← HB.out.2.2.1] at hok
                rw [← HB.out.2.2.2.1] at hok
                have HOK := Lib.hid hok
                clear hok HB 
                have hv8 : (((UInt8.ofNat ((numN l3) % 256).toNat).toNat : Nat) : Int) = numN l3 % 256 := by simp; omega
                have HV := Lib.hid hv8
                clear hv8
                cases bI with
                | false =>
                  go_wp2_with fail
                  go_meet
                  refine ⟨Keep.setCell (F := (· = E)) (Keep.setCell (F := (· = E)) (Keep.setCell (F := (· = E)) HE2.out.2 (.inl rfl) _) (.inl rfl) _) (.inl rfl) _, .inr ⟨5, by omega, rfl, by rw [HOK.out]; rfl, .slice none 0 0, .slice none 0 0, ?_, BytesAt.nil (bn := noBan) _ _, BytesAt.nil (bn := noBan) _ _⟩⟩
                  have hh := heap_setCell_same (i := 6) (u := .int .u8 (numN l3 % 256)) (heap_setCell_same (i := 5) (u := .int .i64 (numN l2)) (heap_setCell_same (i := 4) (u := .int .i64 (numN l1)) HE2.out.1))
                  refine hh.trans ?_
                  show some (Obj.cells (dvK 5 { kind := 5, ix := numN l1, pos := numN l2, val := 0 } (.slice none 0 0) (.slice none 0 0) |>.setIfInBounds 6 (.int .u8 (numN l3 % 256))) _ _) = _
                  rw [← HV.out]
                  rfl
                | true =>
                  cases b2 with
                  | false =>
                    go_wp2_with fail
                    go_meet
                    refine ⟨Keep.setCell (F := (· = E)) (Keep.setCell (F := (· = E)) (Keep.setCell (F := (· = E)) HE2.out.2 (.inl rfl) _) (.inl rfl) _) (.inl rfl) _, .inr ⟨5, by omega, rfl, by rw [HOK.out]; rfl, .slice none 0 0, .slice none 0 0, ?_, BytesAt.nil (bn := noBan) _ _, BytesAt.nil (bn := noBan) _ _⟩⟩
                    have hh := heap_setCell_same (i := 6) (u := .int .u8 (numN l3 % 256)) (heap_setCell_same (i := 5) (u := .int .i64 (numN l2)) (heap_setCell_same (i := 4) (u := .int .i64 (numN l1)) HE2.out.1))
                    refine hh.trans ?_
                    show some (Obj.cells (dvK 5 { kind := 5, ix := numN l1, pos := numN l2, val := 0 } (.slice none 0 0) (.slice none 0 0) |>.setIfInBounds 6 (.int .u8 (numN l3 % 256))) _ _) = _
                    rw [← HV.out]
                    rfl
                  | true =>
                    cases b3 with
                    | false =>
                      go_wp2_with fail
                      go_meet
                      refine ⟨Keep.setCell (F := (· = E)) (Keep.setCell (F := (· = E)) (Keep.setCell (F := (· = E)) HE2.out.2 (.inl rfl) _) (.inl rfl) _) (.inl rfl) _, .inr ⟨5, by omega, rfl, by rw [HOK.out]; rfl, .slice none 0 0, .slice none 0 0, ?_, BytesAt.nil (bn := noBan) _ _, BytesAt.nil (bn := noBan) _ _⟩⟩
                      have hh := heap_setCell_same (i := 6) (u := .int .u8 (numN l3 % 256)) (heap_setCell_same (i := 5) (u := .int .i64 (numN l2)) (heap_setCell_same (i := 4) (u := .int .i64 (numN l1)) HE2.out.1))
                      refine hh.trans ?_
                      show some (Obj.cells (dvK 5 { kind := 5, ix := numN l1, pos := numN l2, val := 0 } (.slice none 0 0) (.slice none 0 0) |>.setIfInBounds 6 (.int .u8 (numN l3 % 256))) _ _) = _
                      rw [← HV.out]
                      rfl
                    | true =>
                      by_cases c1 : 0 ≤ numN l3
                      · by_cases c2 : numN l3 < 256
                        · go_wp2_with fail
                          go_meet
                          refine ⟨Keep.setCell (F := (· = E)) (Keep.setCell (F := (· = E)) (Keep.setCell (F := (· = E)) HE2.out.2 (.inl rfl) _) (.inl rfl) _) (.inl rfl) _, .inr ⟨5, by omega, rfl, by rw [HOK.out, decide_eq_true (show 0 ≤ numN l3 by omega), decide_eq_true (show numN l3 < 256 by omega)]; rfl, .slice none 0 0, .slice none 0 0, ?_, BytesAt.nil (bn := noBan) _ _, BytesAt.nil (bn := noBan) _ _⟩⟩
                          have hh := heap_setCell_same (i := 6) (u := .int .u8 (numN l3)) (heap_setCell_same (i := 5) (u := .int .i64 (numN l2)) (heap_setCell_same (i := 4) (u := .int .i64 (numN l1)) HE2.out.1))
                          have e9 : Value.int .u8 (numN l3) = Value.int .u8 (((UInt8.ofNat ((numN l3) % 256).toNat).toNat : Nat) : Int) := by rw [HV.out, show numN l3 % 256 = numN l3 from by omega]
                          refine hh.trans ?_
                          show some (Obj.cells (dvK 5 { kind := 5, ix := numN l1, pos := numN l2, val := 0 } (.slice none 0 0) (.slice none 0 0) |>.setIfInBounds 6 (.int .u8 (numN l3))) _ _) = _
                          rw [e9]
                          rfl
                        · go_wp2_with fail
                          go_meet
                          refine ⟨Keep.setCell (F := (· = E)) (Keep.setCell (F := (· = E)) (Keep.setCell (F := (· = E)) HE2.out.2 (.inl rfl) _) (.inl rfl) _) (.inl rfl) _, .inr ⟨5, by omega, rfl, by rw [HOK.out, decide_eq_true (show 0 ≤ numN l3 by omega), decide_eq_false (show ¬ numN l3 < 256 by omega)]; rfl, .slice none 0 0, .slice none 0 0, ?_, BytesAt.nil (bn := noBan) _ _, BytesAt.nil (bn := noBan) _ _⟩⟩
                          have hh := heap_setCell_same (i := 6) (u := .int .u8 (numN l3 % 256)) (heap_setCell_same (i := 5) (u := .int .i64 (numN l2)) (heap_setCell_same (i := 4) (u := .int .i64 (numN l1)) HE2.out.1))
                          refine hh.trans ?_
                          show some (Obj.cells (dvK 5 { kind := 5, ix := numN l1, pos := numN l2, val := 0 } (.slice none 0 0) (.slice none 0 0) |>.setIfInBounds 6 (.int .u8 (numN l3 % 256))) _ _) = _
                          rw [← HV.out]
                          rfl
                      · go_wp2_with fail
                        go_meet
                        refine ⟨Keep.setCell (F := (· = E)) (Keep.setCell (F := (· = E)) (Keep.setCell (F := (· = E)) HE2.out.2 (.inl rfl) _) (.inl rfl) _) (.inl rfl) _, .inr ⟨5, by omega, rfl, by rw [HOK.out, decide_eq_false (show ¬ 0 ≤ numN l3 by omega)]; rfl, .slice none 0 0, .slice none 0 0, ?_, BytesAt.nil (bn := noBan) _ _, BytesAt.nil (bn := noBan) _ _⟩⟩
                        have hh := heap_setCell_same (i := 6) (u := .int .u8 (numN l3 % 256)) (heap_setCell_same (i := 5) (u := .int .i64 (numN l2)) (heap_setCell_same (i := 4) (u := .int .i64 (numN l1)) HE2.out.1))
                        refine hh.trans ?_
                        show some (Obj.cells (dvK 5 { kind := 5, ix := numN l1, pos := numN l2, val := 0 } (.slice none 0 0) (.slice none 0 0) |>.setIfInBounds 6 (.int .u8 (numN l3 % 256))) _ _) = _
                        rw [← HV.out]
                        rfl
              · as_aux_lemma =>
                obtain rfl : kd = 6 := by omega
                clear hk hku
                have HX0 := runhex_spec (w := W2) l2 (by have := HW.out.2.2.1; omega)
                have hok : okF 6 l1 l2 l3 l4 l5 = (whomB l1 && unhexB l2) := rfl
                rw [← HB.out.1] at hok
                obtain ⟨h2, qh2⟩ : ∃ b, b = unhexB l2 := ⟨_, rfl⟩
                rw [← qh2] at hok
                rw [← qh2] at HX0
                have HOK := Lib.hid hok
                clear hok HB qh2
                have HX := Lib.hid HX0
                clear HX0
                cases bA with
                | false =>
                  go_wp2_with fail
                  refine HX.out.mono ?_
                  rintro e w3 ⟨V, rfl, own3, k3⟩
                  obtain ⟨vo, vc, rfl⟩ := own3.form
                  obtain ⟨f0, f1, f2, f3, f4, f5, f6, f7, f8, f9, f10⟩ := dvCells (k3.heap HE2.out.1 (fun e => e))
                  have hfz3 := frozen_of (k3.heap HE2.out.1 (fun e => e))
                  have HO := Lib.hid (And.intro own3 k3)
                  clear own3
                  go_wp2_with fail
                  go_meet
                  have hE3 := HO.out.2.heap HE2.out.1 (fun e => e)
                  have hF3 : Foot base w3 (· = E) := by rintro b rfl; exact ⟨by omega, heap_lt hE3, fun cs fr e => by rw [hE3] at e; simp at e⟩
                  have kS : Keep (· = E) w3 ((w3.setCell ⟨E, 1, none⟩ (.int .i64 (whomN l1))).setCell ⟨E, 10, none⟩ (.slice vo (unhexN l2).length vc)) := (Keep.setCell (F := (· = E)) (Keep.setCell (F := (· = E)) (Keep.refl _ _) (.inl rfl) _) (.inl rfl) _)
                  exact ⟨(Keep.setCell (F := (· = E)) (Keep.setCell (F := (· = E)) (HE2.out.2.then HO.out.2) (.inl rfl) _) (.inl rfl) _), .inr ⟨6, by omega, rfl, by rw [HOK.out]; rfl, .slice none 0 0, .slice vo (unhexN l2).length vc, (heap_setCell_same (i := 10) (u := .slice vo (unhexN l2).length vc) (heap_setCell_same (i := 1) (u := .int .i64 (whomN l1)) hE3)), BytesAt.nil (bn := noBan) _ _, (BytesAt.keep (bn := noBan) (HO.out.1.bytes (bn := noBan) (fun _ => Nat.zero_le _)) hF3 kS)⟩⟩
                | true =>
                  cases h2 with
                  | false =>
                    go_wp2_with fail
                    refine HX.out.mono ?_
                    rintro e w3 ⟨V, rfl, own3, k3⟩
                    obtain ⟨vo, vc, rfl⟩ := own3.form
                    obtain ⟨f0, f1, f2, f3, f4, f5, f6, f7, f8, f9, f10⟩ := dvCells (k3.heap HE2.out.1 (fun e => e))
                    have hfz3 := frozen_of (k3.heap HE2.out.1 (fun e => e))
                    have HO := Lib.hid (And.intro own3 k3)
                    clear own3
                    go_wp2_with fail
                    go_meet
                    have hE3 := HO.out.2.heap HE2.out.1 (fun e => e)
                    have hF3 : Foot base w3 (· = E) := by rintro b rfl; exact ⟨by omega, heap_lt hE3, fun cs fr e => by rw [hE3] at e; simp at e⟩
                    have kS : Keep (· = E) w3 ((w3.setCell ⟨E, 1, none⟩ (.int .i64 (whomN l1))).setCell ⟨E, 10, none⟩ (.slice vo (unhexN l2).length vc)) := (Keep.setCell (F := (· = E)) (Keep.setCell (F := (· = E)) (Keep.refl _ _) (.inl rfl) _) (.inl rfl) _)
                    exact ⟨(Keep.setCell (F := (· = E)) (Keep.setCell (F := (· = E)) (HE2.out.2.then HO.out.2) (.inl rfl) _) (.inl rfl) _), .inr ⟨6, by omega, rfl, by rw [HOK.out]; rfl, .slice none 0 0, .slice vo (unhexN l2).length vc, (heap_setCell_same (i := 10) (u := .slice vo (unhexN l2).length vc) (heap_setCell_same (i := 1) (u := .int .i64 (whomN l1)) hE3)), BytesAt.nil (bn := noBan) _ _, (BytesAt.keep (bn := noBan) (HO.out.1.bytes (bn := noBan) (fun _ => Nat.zero_le _)) hF3 kS)⟩⟩
                  | true =>
                    go_wp2_with fail
                    refine HX.out.mono ?_
                    rintro e w3 ⟨V, rfl, own3, k3⟩
                    obtain ⟨vo, vc, rfl⟩ := own3.form
                    obtain ⟨f0, f1, f2, f3, f4, f5, f6, f7, f8, f9, f10⟩ := dvCells (k3.heap HE2.out.1 (fun e => e))
                    have hfz3 := frozen_of (k3.heap HE2.out.1 (fun e => e))
                    have HO := Lib.hid (And.intro own3 k3)
                    clear own3
                    go_wp2_with fail
                    go_meet
                    have hE3 := HO.out.2.heap HE2.out.1 (fun e => e)
                    have hF3 : Foot base w3 (· = E) := by rintro b rfl; exact ⟨by omega, heap_lt hE3, fun cs fr e => by rw [hE3] at e; simp at e⟩
                    have kS : Keep (· = E) w3 ((w3.setCell ⟨E, 1, none⟩ (.int .i64 (whomN l1))).setCell ⟨E, 10, none⟩ (.slice vo (unhexN l2).length vc)) := (Keep.setCell (F := (· = E)) (Keep.setCell (F := (· = E)) (Keep.refl _ _) (.inl rfl) _) (.inl rfl) _)
                    exact ⟨(Keep.setCell (F := (· = E)) (Keep.setCell (F := (· = E)) (HE2.out.2.then HO.out.2) (.inl rfl) _) (.inl rfl) _), .inr ⟨6, by omega, rfl, by rw [HOK.out]; rfl, .slice none 0 0, .slice vo (unhexN l2).length vc, (heap_setCell_same (i := 10) (u := .slice vo (unhexN l2).length vc) (heap_setCell_same (i := 1) (u := .int .i64 (whomN l1)) hE3)), BytesAt.nil (bn := noBan) _ _, (BytesAt.keep (bn := noBan) (HO.out.1.bytes (bn := noBan) (fun _ => Nat.zero_le _)) hF3 kS)⟩⟩
              · as_aux_lemma =>
                obtain rfl : kd = 7 := by omega
                clear hk hku
                have hok : okF 7 l1 l2 l3 l4 l5 = (numB l1) := rfl
                rw [← HB.out.2.1] at hok
                have HOK := Lib.hid hok
                clear hok HB 
                go_wp2_with fail
                go_meet
                exact ⟨(Keep.setCell (F := (· = E)) HE2.out.2 (.inl rfl) _), .inr ⟨7, by omega, rfl, by rw [HOK.out], .slice none 0 0, .slice none 0 0, (heap_setCell_same (i := 4) (u := .int .i64 (numN l1)) HE2.out.1), BytesAt.nil (bn := noBan) _ _, BytesAt.nil (bn := noBan) _ _⟩⟩
              · as_aux_lemma =>
                obtain rfl : kd = 8 := by omega
                clear hk hku
                have hok : okF 8 l1 l2 l3 l4 l5 = (whomB l1) := rfl
                rw [← HB.out.1] at hok
                have HOK := Lib.hid hok
                clear hok HB 
                have y2' : W2.cell? ⟨g, 2, none⟩ = some (.string (strB l2)) := y2
                obtain ⟨L2, hL2⟩ : ∃ L2, L2 = strB l2 := ⟨_, rfl⟩
                rw [← hL2] at y2'
                obtain ⟨ON, hON⟩ : ∃ b, b = decide (l2 = wOn) := ⟨_, rfl⟩
                have hq8 : (L2.toList == [111, 110]) = ON := by rw [hL2, strB_toList, hON]; apply Bool.eq_iff_iff.2; simp [wOn]; exact ⟨fun h => decide_eq_true h, fun h => of_decide_eq_true h⟩
                have HON := Lib.hid hON
                clear hL2 hON y2
                have k0 : Keep (· = E) W2 W2.drew := (Keep.refl _ _).drew
                have k1 : Keep (· = E) W2 (W2.setCell ⟨E, 1, none⟩ (.int .i64 (whomN l1))).drew := (Keep.setCell (F := (· = E)) (Keep.refl _ _) (.inl rfl) _).drew
                have k2 : Keep (· = E) W2 ((W2.setCell ⟨E, 1, none⟩ (.int .i64 (whomN l1))).setCell ⟨E, 9, none⟩ (.bool ON)).drew := (Keep.setCell (F := (· = E)) (Keep.setCell (F := (· = E)) (Keep.refl _ _) (.inl rfl) _) (.inl rfl) _).drew
                go_upto_region 38 with fail
                have hN2 : (2 : Int) < (N : Int) := by omega
                refine wp_drawN (fun w' => Keep (· = E) W2 w') [0, 1, 2, 3, 4, 5] [6, 7, 8, 9, 10] [] (by kernel_rfl) (by kernel_rfl) (fun _ _ _ _ _ h => h) (Keep.refl _ _).drew ?_
                iterate 6 (refine earlyN_cons (v := ?_) rfl rfl rfl ?_ ?_; rotate_left; focus (
                  intro w' hS
                  have y2w := hS.cell y2' (fun e => hgE e)
                  go_simp
                  try with_reducible rfl))
                refine earlyN_nil ?_
                refine midN_cons rfl rfl (fun K hK => ?_)
                go_simp
                refine hK _ _ k0 ?_
                clear hK K
                iterate 2 (refine midN_cons rfl rfl (fun K hK => ?_); go_simp; refine hK _ _ k1 ?_; clear hK K)
                iterate 2 (refine midN_cons rfl rfl (fun K hK => ?_); go_simp; refine hK _ _ k2 ?_; clear hK K)
                refine midN_nil (tailN_nil ?_)
                go_wp2
                go_meet
                refine ⟨HE2.out.2.trans k2 (fun _ _ e => e), .inr ⟨8, by omega, rfl, by rw [HOK.out], .slice none 0 0, .slice none 0 0, ?_, BytesAt.nil (bn := noBan) _ _, BytesAt.nil (bn := noBan) _ _⟩⟩
                have hh := heap_setCell_same (i := 9) (u := .bool ON) (heap_setCell_same (i := 1) (u := .int .i64 (whomN l1)) HE2.out.1)
                rw [HON.out] at hh ⊢
                exact hh
              · as_aux_lemma =>
                obtain rfl : kd = 9 := by omega
                clear hk hku
                have hok : okF 9 l1 l2 l3 l4 l5 = (whomB l1 && numB l2 && numB l3) := rfl
                rw [← HB.out.1] at hok
                rw [← HB.out.2.2.1] at hok
                rw [← HB.out.2.2.2.1] at hok
                have HOK := Lib.hid hok
                clear hok HB 
                cases bA with
                | false =>
                  go_wp2_with fail
                  go_meet
                  exact ⟨(Keep.setCell (F := (· = E)) (Keep.setCell (F := (· = E)) (Keep.setCell (F := (· = E)) HE2.out.2 (.inl rfl) _) (.inl rfl) _) (.inl rfl) _), .inr ⟨9, by omega, rfl, by rw [HOK.out]; rfl, .slice none 0 0, .slice none 0 0, (heap_setCell_same (i := 8) (u := .int .i64 (numN l3)) (heap_setCell_same (i := 7) (u := .int .i64 (numN l2)) (heap_setCell_same (i := 1) (u := .int .i64 (whomN l1)) HE2.out.1))), BytesAt.nil (bn := noBan) _ _, BytesAt.nil (bn := noBan) _ _⟩⟩
                | true =>
                  cases b2 with
                  | false =>
                    go_wp2_with fail
                    go_meet
                    exact ⟨(Keep.setCell (F := (· = E)) (Keep.setCell (F := (· = E)) (Keep.setCell (F := (· = E)) HE2.out.2 (.inl rfl) _) (.inl rfl) _) (.inl rfl) _), .inr ⟨9, by omega, rfl, by rw [HOK.out]; rfl, .slice none 0 0, .slice none 0 0, (heap_setCell_same (i := 8) (u := .int .i64 (numN l3)) (heap_setCell_same (i := 7) (u := .int .i64 (numN l2)) (heap_setCell_same (i := 1) (u := .int .i64 (whomN l1)) HE2.out.1))), BytesAt.nil (bn := noBan) _ _, BytesAt.nil (bn := noBan) _ _⟩⟩
                  | true =>
                    cases b3 with
                    | false =>
                      go_wp2_with fail
                      go_meet
                      exact ⟨(Keep.setCell (F := (· = E)) (Keep.setCell (F := (· = E)) (Keep.setCell (F := (· = E)) HE2.out.2 (.inl rfl) _) (.inl rfl) _) (.inl rfl) _), .inr ⟨9, by omega, rfl, by rw [HOK.out]; rfl, .slice none 0 0, .slice none 0 0, (heap_setCell_same (i := 8) (u := .int .i64 (numN l3)) (heap_setCell_same (i := 7) (u := .int .i64 (numN l2)) (heap_setCell_same (i := 1) (u := .int .i64 (whomN l1)) HE2.out.1))), BytesAt.nil (bn := noBan) _ _, BytesAt.nil (bn := noBan) _ _⟩⟩
                    | true =>
                      go_wp2_with fail
                      go_meet
                      exact ⟨(Keep.setCell (F := (· = E)) (Keep.setCell (F := (· = E)) (Keep.setCell (F := (· = E)) HE2.out.2 (.inl rfl) _) (.inl rfl) _) (.inl rfl) _), .inr ⟨9, by omega, rfl, by rw [HOK.out]; rfl, .slice none 0 0, .slice none 0 0, (heap_setCell_same (i := 8) (u := .int .i64 (numN l3)) (heap_setCell_same (i := 7) (u := .int .i64 (numN l2)) (heap_setCell_same (i := 1) (u := .int .i64 (whomN l1)) HE2.out.1))), BytesAt.nil (bn := noBan) _ _, BytesAt.nil (bn := noBan) _ _⟩⟩
              · as_aux_lemma =>
                obtain rfl : kd = 10 := by omega
                clear hk hku
                have hok : okF 10 l1 l2 l3 l4 l5 = (whomB l1) := rfl
                rw [← HB.out.1] at hok
                have HOK := Lib.hid hok
                clear hok HB 
                go_wp2_with fail
                go_meet
                exact ⟨(Keep.setCell (F := (· = E)) HE2.out.2 (.inl rfl) _), .inr ⟨10, by omega, rfl, by rw [HOK.out], .slice none 0 0, .slice none 0 0, (heap_setCell_same (i := 1) (u := .int .i64 (whomN l1)) HE2.out.1), BytesAt.nil (bn := noBan) _ _, BytesAt.nil (bn := noBan) _ _⟩⟩
              · as_aux_lemma =>
                obtain rfl : kd = 11 := by omega
                clear hk hku
                have HX0 := runhex_spec (w := W2) l3 (by have := HW.out.2.2.2.1; omega)
                have hok : okF 11 l1 l2 l3 l4 l5 = (whomB l1 && numB l2 && unhexB l3 && numB l4 && numB l5) := rfl
                rw [← HB.out.1] at hok
                rw [← HB.out.2.2.1] at hok
                obtain ⟨h3, qh3⟩ : ∃ b, b = unhexB l3 := ⟨_, rfl⟩
                rw [← qh3] at hok
                rw [← qh3] at HX0
                rw [← HB.out.2.2.2.2.1] at hok
                rw [← HB.out.2.2.2.2.2] at hok
                have HOK := Lib.hid hok
                clear hok HB qh3
                have HX := Lib.hid HX0
                clear HX0
                cases bA with
                | false =>
                  go_wp2_with fail
                  refine HX.out.mono ?_
                  rintro e w3 ⟨V, rfl, own3, k3⟩
                  obtain ⟨vo, vc, rfl⟩ := own3.form
                  obtain ⟨f0, f1, f2, f3, f4, f5, f6, f7, f8, f9, f10⟩ := dvCells (k3.heap HE2.out.1 (fun e => e))
                  have hfz3 := frozen_of (k3.heap HE2.out.1 (fun e => e))
                  have HO := Lib.hid (And.intro own3 k3)
                  clear own3
                  go_wp2_with fail
                  go_meet
                  have hE3 := HO.out.2.heap HE2.out.1 (fun e => e)
                  have hF3 : Foot base w3 (· = E) := by rintro b rfl; exact ⟨by omega, heap_lt hE3, fun cs fr e => by rw [hE3] at e; simp at e⟩
                  have kS : Keep (· = E) w3 (((((w3.setCell ⟨E, 1, none⟩ (.int .i64 (whomN l1))).setCell ⟨E, 2, none⟩ (.int .i64 (numN l2))).setCell ⟨E, 3, none⟩ (.slice vo (unhexN l3).length vc)).setCell ⟨E, 7, none⟩ (.int .i64 (numN l4))).setCell ⟨E, 8, none⟩ (.int .i64 (numN l5))) := (Keep.setCell (F := (· = E)) (Keep.setCell (F := (· = E)) (Keep.setCell (F := (· = E)) (Keep.setCell (F := (· = E)) (Keep.setCell (F := (· = E)) (Keep.refl _ _) (.inl rfl) _) (.inl rfl) _) (.inl rfl) _) (.inl rfl) _) (.inl rfl) _)
                  exact ⟨(Keep.setCell (F := (· = E)) (Keep.setCell (F := (· = E)) (Keep.setCell (F := (· = E)) (Keep.setCell (F := (· = E)) (Keep.setCell (F := (· = E)) (HE2.out.2.then HO.out.2) (.inl rfl) _) (.inl rfl) _) (.inl rfl) _) (.inl rfl) _) (.inl rfl) _), .inr ⟨11, by omega, rfl, by rw [HOK.out]; rfl, .slice vo (unhexN l3).length vc, .slice none 0 0, (heap_setCell_same (i := 8) (u := .int .i64 (numN l5)) (heap_setCell_same (i := 7) (u := .int .i64 (numN l4)) (heap_setCell_same (i := 3) (u := .slice vo (unhexN l3).length vc) (heap_setCell_same (i := 2) (u := .int .i64 (numN l2)) (heap_setCell_same (i := 1) (u := .int .i64 (whomN l1)) hE3))))), (BytesAt.keep (bn := noBan) (HO.out.1.bytes (bn := noBan) (fun _ => Nat.zero_le _)) hF3 kS), BytesAt.nil (bn := noBan) _ _⟩⟩
                | true =>
                  cases b2 with
                  | false =>
                    go_wp2_with fail
                    refine HX.out.mono ?_
                    rintro e w3 ⟨V, rfl, own3, k3⟩
                    obtain ⟨vo, vc, rfl⟩ := own3.form
                    obtain ⟨f0, f1, f2, f3, f4, f5, f6, f7, f8, f9, f10⟩ := dvCells (k3.heap HE2.out.1 (fun e => e))
                    have hfz3 := frozen_of (k3.heap HE2.out.1 (fun e => e))
                    have HO := Lib.hid (And.intro own3 k3)
                    clear own3
                    go_wp2_with fail
                    go_meet
                    have hE3 := HO.out.2.heap HE2.out.1 (fun e => e)
                    have hF3 : Foot base w3 (· = E) := by rintro b rfl; exact ⟨by omega, heap_lt hE3, fun cs fr e => by rw [hE3] at e; simp at e⟩
                    have kS : Keep (· = E) w3 (((((w3.setCell ⟨E, 1, none⟩ (.int .i64 (whomN l1))).setCell ⟨E, 2, none⟩ (.int .i64 (numN l2))).setCell ⟨E, 3, none⟩ (.slice vo (unhexN l3).length vc)).setCell ⟨E, 7, none⟩ (.int .i64 (numN l4))).setCell ⟨E, 8, none⟩ (.int .i64 (numN l5))) := (Keep.setCell (F := (· = E)) (Keep.setCell (F := (· = E)) (Keep.setCell (F := (· = E)) (Keep.setCell (F := (· = E)) (Keep.setCell (F := (· = E)) (Keep.refl _ _) (.inl rfl) _) (.inl rfl) _) (.inl rfl) _) (.inl rfl) _) (.inl rfl) _)
                    exact ⟨(Keep.setCell (F := (· = E)) (Keep.setCell (F := (· = E)) (Keep.setCell (F := (· = E)) (Keep.setCell (F := (· = E)) (Keep.setCell (F := (· = E)) (HE2.out.2.then HO.out.2) (.inl rfl) _) (.inl rfl) _) (.inl rfl) _) (.inl rfl) _) (.inl rfl) _), .inr ⟨11, by omega, rfl, by rw [HOK.out]; rfl, .slice vo (unhexN l3).length vc, .slice none 0 0, (heap_setCell_same (i := 8) (u := .int .i64 (numN l5)) (heap_setCell_same (i := 7) (u := .int .i64 (numN l4)) (heap_setCell_same (i := 3) (u := .slice vo (unhexN l3).length vc) (heap_setCell_same (i := 2) (u := .int .i64 (numN l2)) (heap_setCell_same (i := 1) (u := .int .i64 (whomN l1)) hE3))))), (BytesAt.keep (bn := noBan) (HO.out.1.bytes (bn := noBan) (fun _ => Nat.zero_le _)) hF3 kS), BytesAt.nil (bn := noBan) _ _⟩⟩
                  | true =>
                    cases h3 with
                    | false =>
                      go_wp2_with fail
                      refine HX.out.mono ?_
                      rintro e w3 ⟨V, rfl, own3, k3⟩
                      obtain ⟨vo, vc, rfl⟩ := own3.form
                      obtain ⟨f0, f1, f2, f3, f4, f5, f6, f7, f8, f9, f10⟩ := dvCells (k3.heap HE2.out.1 (fun e => e))
                      have hfz3 := frozen_of (k3.heap HE2.out.1 (fun e => e))
                      have HO := Lib.hid (And.intro own3 k3)
                      clear own3
                      go_wp2_with fail
                      go_meet
                      have hE3 := HO.out.2.heap HE2.out.1 (fun e => e)
                      have hF3 : Foot base w3 (· = E) := by rintro b rfl; exact ⟨by omega, heap_lt hE3, fun cs fr e => by rw [hE3] at e; simp at e⟩
                      have kS : Keep (· = E) w3 (((((w3.setCell ⟨E, 1, none⟩ (.int .i64 (whomN l1))).setCell ⟨E, 2, none⟩ (.int .i64 (numN l2))).setCell ⟨E, 3, none⟩ (.slice vo (unhexN l3).length vc)).setCell ⟨E, 7, none⟩ (.int .i64 (numN l4))).setCell ⟨E, 8, none⟩ (.int .i64 (numN l5))) := (Keep.setCell (F := (· = E)) (Keep.setCell (F := (· = E)) (Keep.setCell (F := (· = E)) (Keep.setCell (F := (· = E)) (Keep.setCell (F := (· = E)) (Keep.refl _ _) (.inl rfl) _) (.inl rfl) _) (.inl rfl) _) (.inl rfl) _) (.inl rfl) _)
                      exact ⟨(Keep.setCell (F := (· = E)) (Keep.setCell (F := (· = E)) (Keep.setCell (F := (· = E)) (Keep.setCell (F := (· = E)) (Keep.setCell (F := (· = E)) (HE2.out.2.then HO.out.2) (.inl rfl) _) (.inl rfl) _) (.inl rfl) _) (.inl rfl) _) (.inl rfl) _), .inr ⟨11, by omega, rfl, by rw [HOK.out]; rfl, .slice vo (unhexN l3).length vc, .slice none 0 0, (heap_setCell_same (i := 8) (u := .int .i64 (numN l5)) (heap_setCell_same (i := 7) (u := .int .i64 (numN l4)) (heap_setCell_same (i := 3) (u := .slice vo (unhexN l3).length vc) (heap_setCell_same (i := 2) (u := .int .i64 (numN l2)) (heap_setCell_same (i := 1) (u := .int .i64 (whomN l1)) hE3))))), (BytesAt.keep (bn := noBan) (HO.out.1.bytes (bn := noBan) (fun _ => Nat.zero_le _)) hF3 kS), BytesAt.nil (bn := noBan) _ _⟩⟩
                    | true =>
                      cases b4 with
                      | false =>
                        go_wp2_with fail
                        refine HX.out.mono ?_
                        rintro e w3 ⟨V, rfl, own3, k3⟩
                        obtain ⟨vo, vc, rfl⟩ := own3.form
                        obtain ⟨f0, f1, f2, f3, f4, f5, f6, f7, f8, f9, f10⟩ := dvCells (k3.heap HE2.out.1 (fun e => e))
                        have hfz3 := frozen_of (k3.heap HE2.out.1 (fun e => e))
                        have HO := Lib.hid (And.intro own3 k3)
                        clear own3
                        go_wp2_with fail
                        go_meet
                        have hE3 := HO.out.2.heap HE2.out.1 (fun e => e)
                        have hF3 : Foot base w3 (· = E) := by rintro b rfl; exact ⟨by omega, heap_lt hE3, fun cs fr e => by rw [hE3] at e; simp at e⟩
                        have kS : Keep (· = E) w3 (((((w3.setCell ⟨E, 1, none⟩ (.int .i64 (whomN l1))).setCell ⟨E, 2, none⟩ (.int .i64 (numN l2))).setCell ⟨E, 3, none⟩ (.slice vo (unhexN l3).length vc)).setCell ⟨E, 7, none⟩ (.int .i64 (numN l4))).setCell ⟨E, 8, none⟩ (.int .i64 (numN l5))) := (Keep.setCell (F := (· = E)) (Keep.setCell (F := (· = E)) (Keep.setCell (F := (· = E)) (Keep.setCell (F := (· = E)) (Keep.setCell (F := (· = E)) (Keep.refl _ _) (.inl rfl) _) (.inl rfl) _) (.inl rfl) _) (.inl rfl) _) (.inl rfl) _)
                        exact ⟨(Keep.setCell (F := (· = E)) (Keep.setCell (F := (· = E)) (Keep.setCell (F := (· = E)) (Keep.setCell (F := (· = E)) (Keep.setCell (F := (· = E)) (HE2.out.2.then HO.out.2) (.inl rfl) _) (.inl rfl) _) (.inl rfl) _) (.inl rfl) _) (.inl rfl) _), .inr ⟨11, by omega, rfl, by rw [HOK.out]; rfl, .slice vo (unhexN l3).length vc, .slice none 0 0, (heap_setCell_same (i := 8) (u := .int .i64 (numN l5)) (heap_setCell_same (i := 7) (u := .int .i64 (numN l4)) (heap_setCell_same (i := 3) (u := .slice vo (unhexN l3).length vc) (heap_setCell_same (i := 2) (u := .int .i64 (numN l2)) (heap_setCell_same (i := 1) (u := .int .i64 (whomN l1)) hE3))))), (BytesAt.keep (bn := noBan) (HO.out.1.bytes (bn := noBan) (fun _ => Nat.zero_le _)) hF3 kS), BytesAt.nil (bn := noBan) _ _⟩⟩
                      | true =>
                        cases b5 with
                        | false =>
                          go_wp2_with fail
                          refine HX.out.mono ?_
                          rintro e w3 ⟨V, rfl, own3, k3⟩
                          obtain ⟨vo, vc, rfl⟩ := own3.form
                          obtain ⟨f0, f1, f2, f3, f4, f5, f6, f7, f8, f9, f10⟩ := dvCells (k3.heap HE2.out.1 (fun e => e))
                          have hfz3 := frozen_of (k3.heap HE2.out.1 (fun e => e))
                          have HO := Lib.hid (And.intro own3 k3)
                          clear own3
                          go_wp2_with fail
                          go_meet
                          have hE3 := HO.out.2.heap HE2.out.1 (fun e => e)
                          have hF3 : Foot base w3 (· = E) := by rintro b rfl; exact ⟨by omega, heap_lt hE3, fun cs fr e => by rw [hE3] at e; simp at e⟩
                          have kS : Keep (· = E) w3 (((((w3.setCell ⟨E, 1, none⟩ (.int .i64 (whomN l1))).setCell ⟨E, 2, none⟩ (.int .i64 (numN l2))).setCell ⟨E, 3, none⟩ (.slice vo (unhexN l3).length vc)).setCell ⟨E, 7, none⟩ (.int .i64 (numN l4))).setCell ⟨E, 8, none⟩ (.int .i64 (numN l5))) := (Keep.setCell (F := (· = E)) (Keep.setCell (F := (· = E)) (Keep.setCell (F := (· = E)) (Keep.setCell (F := (· = E)) (Keep.setCell (F := (· = E)) (Keep.refl _ _) (.inl rfl) _) (.inl rfl) _) (.inl rfl) _) (.inl rfl) _) (.inl rfl) _)
                          exact ⟨(Keep.setCell (F := (· = E)) (Keep.setCell (F := (· = E)) (Keep.setCell (F := (· = E)) (Keep.setCell (F := (· = E)) (Keep.setCell (F := (· = E)) (HE2.out.2.then HO.out.2) (.inl rfl) _) (.inl rfl) _) (.inl rfl) _) (.inl rfl) _) (.inl rfl) _), .inr ⟨11, by omega, rfl, by rw [HOK.out]; rfl, .slice vo (unhexN l3).length vc, .slice none 0 0, (heap_setCell_same (i := 8) (u := .int .i64 (numN l5)) (heap_setCell_same (i := 7) (u := .int .i64 (numN l4)) (heap_setCell_same (i := 3) (u := .slice vo (unhexN l3).length vc) (heap_setCell_same (i := 2) (u := .int .i64 (numN l2)) (heap_setCell_same (i := 1) (u := .int .i64 (whomN l1)) hE3))))), (BytesAt.keep (bn := noBan) (HO.out.1.bytes (bn := noBan) (fun _ => Nat.zero_le _)) hF3 kS), BytesAt.nil (bn := noBan) _ _⟩⟩
                        | true =>
                          go_wp2_with fail
                          refine HX.out.mono ?_
                          rintro e w3 ⟨V, rfl, own3, k3⟩
                          obtain ⟨vo, vc, rfl⟩ := own3.form
                          obtain ⟨f0, f1, f2, f3, f4, f5, f6, f7, f8, f9, f10⟩ := dvCells (k3.heap HE2.out.1 (fun e => e))
                          have hfz3 := frozen_of (k3.heap HE2.out.1 (fun e => e))
                          have HO := Lib.hid (And.intro own3 k3)
                          clear own3
                          go_wp2_with fail
                          go_meet
                          have hE3 := HO.out.2.heap HE2.out.1 (fun e => e)
                          have hF3 : Foot base w3 (· = E) := by rintro b rfl; exact ⟨by omega, heap_lt hE3, fun cs fr e => by rw [hE3] at e; simp at e⟩
                          have kS : Keep (· = E) w3 (((((w3.setCell ⟨E, 1, none⟩ (.int .i64 (whomN l1))).setCell ⟨E, 2, none⟩ (.int .i64 (numN l2))).setCell ⟨E, 3, none⟩ (.slice vo (unhexN l3).length vc)).setCell ⟨E, 7, none⟩ (.int .i64 (numN l4))).setCell ⟨E, 8, none⟩ (.int .i64 (numN l5))) := (Keep.setCell (F := (· = E)) (Keep.setCell (F := (· = E)) (Keep.setCell (F := (· = E)) (Keep.setCell (F := (· = E)) (Keep.setCell (F := (· = E)) (Keep.refl _ _) (.inl rfl) _) (.inl rfl) _) (.inl rfl) _) (.inl rfl) _) (.inl rfl) _)
                          exact ⟨(Keep.setCell (F := (· = E)) (Keep.setCell (F := (· = E)) (Keep.setCell (F := (· = E)) (Keep.setCell (F := (· = E)) (Keep.setCell (F := (· = E)) (HE2.out.2.then HO.out.2) (.inl rfl) _) (.inl rfl) _) (.inl rfl) _) (.inl rfl) _) (.inl rfl) _), .inr ⟨11, by omega, rfl, by rw [HOK.out]; rfl, .slice vo (unhexN l3).length vc, .slice none 0 0, (heap_setCell_same (i := 8) (u := .int .i64 (numN l5)) (heap_setCell_same (i := 7) (u := .int .i64 (numN l4)) (heap_setCell_same (i := 3) (u := .slice vo (unhexN l3).length vc) (heap_setCell_same (i := 2) (u := .int .i64 (numN l2)) (heap_setCell_same (i := 1) (u := .int .i64 (whomN l1)) hE3))))), (BytesAt.keep (bn := noBan) (HO.out.1.bytes (bn := noBan) (fun _ => Nat.zero_le _)) hF3 kS), BytesAt.nil (bn := noBan) _ _⟩⟩
            · obtain rfl : kd = -1 := hku
              clear hn
              go_wp2_with fail
              go_meet
              exact ⟨HE2.out.2, .inl ⟨rfl, HE2.out.1, _, rfl⟩⟩
          case rest =>
            obtain ⟨kE3, hsw⟩ := hcut
            have hA3 : wc.heap[w.heap.size]? = some (.cells (dvK 0 {} (.slice none 0 0) (.slice none 0 0)) 33 (0, 0)) := kE3.heap HC.out.2.2.2.2.2.1 (fun e => by omega)
            have kw3 : Keep No w wc := (HC.out.2.2.2.2.2.2.no' kE3 (by omega))
            obtain ⟨SX, hSX⟩ : ∃ SX, SX = strB s := ⟨_, rfl⟩
            rw [show strV s = .string SX from by rw [hSX]]
            have HSX := Lib.hid hSX
            clear hSX
            go_upto_region 43 with fail
            go_cut [223] (fun v wx => Keep No w wx ∧ wx.heap[w.heap.size]? = some (.cells (dvK 0 {} (.slice none 0 0) (.slice none 0 0)) 33 (0, 0)) ∧ EndPost base E P v wx)
            case first =>
              rcases hsw with ⟨hkd, hE3, b, rfl⟩ | ⟨k, hk, hkd, rfl, bv, pv, hE3, hbv, hpv⟩
              · have hPn : P = none := by
                  rcases HKA.out with ⟨k, _, _, hk⟩ | ⟨_, hn⟩
                  · omega
                  · rw [HP.out.1]; exact rparse_none HP.out.2.2.2.2 hn
                have HPn := Lib.hid (And.intro hPn (And.intro kw3 hA3))
                obtain rfl : kd = -1 := hkd
                obtain ⟨e0, _⟩ := dvCells hE3
                clear hPn hE3 hA3
                go_wp2_with fail
                go_meet
                exact ⟨HPn.out.2.1, HPn.out.2.2, .inl ⟨rfl, HPn.out.1⟩⟩
              · have hlaw := rparse_law HP.out.2.2.2.2 hk (by
                  rcases HKA.out with ⟨k', hk', hn', e⟩ | ⟨e, _⟩
                  · obtain rfl : k' = k := by omega
                    exact hn'
                  · omega) HW.out.1
                rw [← HP.out.1] at hlaw
                have hok := cand_ok k l1 l2 l3 l4 l5
                have hkx := cand_kind k l1 l2 l3 l4 l5
                have hln := cand_len k l1 l2 l3 l4 l5
                obtain ⟨bo, bc, rfl⟩ := BytesAt.form (bn := noBan) hbv
                obtain ⟨po, pc, rfl⟩ := BytesAt.form (bn := noBan) hpv
                generalize candF k l1 l2 l3 l4 l5 = x at *
                generalize okF k l1 l2 l3 l4 l5 = ok at *
                have hev : EvOk x := ⟨hok, by omega, by have := hln.1; have := HW.out.2.2.2.1; omega, by have := hln.2; have := HW.out.2.2.1; omega⟩
                obtain ⟨e0, e1, e2, e3, e4, e5, e6, e7, e8, e9, e10⟩ := dvCells hE3
                obtain rfl : kd = (k : Int) := hkd
                have hk0 : ¬ ((k : Int) < 0) := by omega
                have HLW := Lib.hid (And.intro hlaw (And.intro hkx (And.intro hE3 (And.intro hbv (And.intro hpv (And.intro hA3 (And.intro hev kw3)))))))
                clear hlaw hok hkx hln hE3 hbv hpv hev hk hA3 kw3
                cases ok with
                | false =>
                  have hPn : P = none := by rw [HLW.out.1, if_neg (by simp)]
                  have HPn := Lib.hid hPn
                  clear hPn
                  go_wp2_with fail
                  go_meet
                  exact ⟨HLW.out.2.2.2.2.2.2.2, HLW.out.2.2.2.2.2.1, .inl ⟨rfl, HPn.out⟩⟩
                | true =>
                  have hrt := rtext_spec (bn := noBan) HLW.out.2.2.2.1 HLW.out.2.2.2.2.1 HLW.out.2.2.2.2.2.2.1
                  unfold dvV at hrt
                  rw [HLW.out.2.1] at hrt
                  obtain ⟨TX, hTX⟩ : ∃ TX, TX = strB (textF x) := ⟨_, rfl⟩
                  rw [show strV (textF x) = .string TX from by rw [hTX]] at hrt
                  have HTX := Lib.hid hTX
                  clear hTX
                  go_wp2_with fail
                  refine hrt.mono ?_
                  rintro e w6 ⟨rfl, k6⟩
                  have hA6 := k6.heap HLW.out.2.2.2.2.2.1 (fun e => e)
                  have hE6 := k6.heap HLW.out.2.2.1 (fun e => e)
                  have kw6 := HLW.out.2.2.2.2.2.2.2.then k6
                  have hb6 := BytesAt.no (bn := noBan) HLW.out.2.2.2.1 k6
                  have hp6 := BytesAt.no (bn := noBan) HLW.out.2.2.2.2.1 k6
                  have HZ := Lib.hid (And.intro hA6 (And.intro hE6 (And.intro kw6 (And.intro hb6 hp6))))
                  by_cases heq : textF x = s
                  · have hq : (!(TX.toList == SX.toList)) = false := by rw [HTX.out, HSX.out, heq]; simp
                    have hPs : P = some x := by rw [HLW.out.1]; simp [heq]
                    have HPs := Lib.hid hPs
                    clear hPs heq hrt hA6 hE6 kw6 hb6 hp6
                    go_wp2_with fail
                    go_meet
                    exact ⟨HZ.out.2.2.1, HZ.out.1, .inr ⟨rfl, x, k, _, _, HPs.out, HLW.out.2.1, HZ.out.2.1, HZ.out.2.2.2.1, HZ.out.2.2.2.2⟩⟩
                  · have hq : (!(TX.toList == SX.toList)) = true := by rw [HTX.out, HSX.out, strB_toList, strB_toList]; simpa using heq
                    have hPn : P = none := by rw [HLW.out.1, if_neg (fun h => heq h.2)]
                    have HPn := Lib.hid hPn
                    clear hPn heq hrt hA6 hE6 kw6 hb6 hp6
                    go_wp2_with fail
                    go_meet
                    exact ⟨HZ.out.2.2.1, HZ.out.1, .inl ⟨rfl, HPn.out⟩⟩
            case rest =>
              obtain ⟨kw, hA, hend⟩ := hcut
              clear hsw kE3 hA3 kw3
              rcases hend with ⟨rfl, hPn⟩ | ⟨rfl, x, k, bv, pv, hPs, hkx, hE, hbv, hpv⟩
              · obtain ⟨Z, hZ⟩ : ∃ Z, Z = wc.setRow w.heap.size (dvK 0 {} (.slice none 0 0) (.slice none 0 0)) := ⟨_, rfl⟩
                have hX := row_heap hA (dvK 0 {} (.slice none 0 0) (.slice none 0 0))
                rw [← hZ] at hX
                obtain ⟨r0, r1, r2, r3, r4, r5, r6, r7, r8, r9, r10⟩ := dvCells hX
                have kR := row_keep (dvK 0 {} (.slice none 0 0) (.slice none 0 0)) kw (.inr (Nat.le_refl _))
                rw [← hZ] at kR
                have HR := Lib.hid (And.intro hPn (And.intro kR (And.intro hA hZ)))
                clear hX hPn hA kR hZ
                go_wp2_with (refine wpList_store_row rfl 33 (.tmp 2) _ rfl w.heap.size (dvK 0 {} (.slice none 0 0) (.slice none 0 0)) rfl rfl _ _ HR.out.2.2.1 (by kernel_rfl) rfl (by simp [dvK, Value.oneCell']) ?_; rw [← HR.out.2.2.2])
                refine bodyPost_ret (v := .tuple #[dvV {} (.slice none 0 0) (.slice none 0 0), .bool false]) ?_ rfl ?_
                · simp [results, Tryd.results10, go_sem, r0, r1, r2, r3, r4, r5, r6, r7, r8, r9, r10, dvV]
                · rw [HR.out.1]
                  exact ⟨HR.out.2.1, rfl⟩
              · obtain ⟨bo, bc, rfl⟩ := BytesAt.form (bn := noBan) hbv
                obtain ⟨po, pc, rfl⟩ := BytesAt.form (bn := noBan) hpv
                obtain ⟨e0, e1, e2, e3, e4, e5, e6, e7, e8, e9, e10⟩ := dvCells hE
                obtain ⟨Z, hZ⟩ : ∃ Z, Z = wc.setRow w.heap.size (dvK k x (.slice bo x.body.length bc) (.slice po x.p.length pc)) := ⟨_, rfl⟩
                have hX := row_heap hA (dvK k x (.slice bo x.body.length bc) (.slice po x.p.length pc))
                have hF : Foot base wc (· = w.heap.size) := by
                  rintro b rfl
                  exact ⟨hbase, heap_lt hA, fun cs fr e => by rw [hA] at e; simp at e⟩
                have kR := row_keep (dvK k x (.slice bo x.body.length bc) (.slice po x.p.length pc)) kw (.inr (Nat.le_refl _))
                have kR' := row_keep (F := (· = w.heap.size)) (dvK k x (.slice bo x.body.length bc) (.slice po x.p.length pc)) (Keep.refl _ wc) (.inl rfl)
                rw [← hZ] at hX kR kR'
                obtain ⟨r0, r1, r2, r3, r4, r5, r6, r7, r8, r9, r10⟩ := dvCells hX
                have HR := Lib.hid (And.intro hPs (And.intro kR (And.intro (BytesAt.keep (bn := noBan) hbv hF kR') (And.intro (BytesAt.keep (bn := noBan) hpv hF kR') (And.intro hkx (And.intro hA hZ))))))
                clear hX hPs hA kR kR' hZ hF hbv hpv hE hkx
                go_wp2_with (refine wpList_store_row rfl 33 (.tmp 2) _ rfl w.heap.size (dvK k x (.slice bo x.body.length bc) (.slice po x.p.length pc)) rfl rfl _ _ HR.out.2.2.2.2.2.1 (by kernel_rfl) rfl (by simp [dvK, Value.oneCell']) ?_; rw [← HR.out.2.2.2.2.2.2])
                refine bodyPost_ret (v := .tuple #[dvV x (.slice bo x.body.length bc) (.slice po x.p.length pc), .bool true]) ?_ rfl ?_
                · simp [results, Tryd.results10, go_sem, r0, r1, r2, r3, r4, r5, r6, r7, r8, r9, r10, dvV, HR.out.2.2.2.2.1]
                · rw [HR.out.1]
                  exact ⟨HR.out.2.1, _, _, rfl, HR.out.2.2.1, HR.out.2.2.2.1⟩
end Go.Proofs.YtlbjkmpdakmgeaaDoor
