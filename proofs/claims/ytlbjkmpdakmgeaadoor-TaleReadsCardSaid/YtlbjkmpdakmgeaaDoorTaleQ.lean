/- Package tale: Parse. -/
import Derived.Test.YtlbjkmpdakmgeaaDoorTaleK
namespace Go.Proofs.YtlbjkmpdakmgeaaDoor
open Go Go.RowKit Go.Dr

def parseFrom (k : Nat) (n : List UInt8) (r : List (List UInt8)) : Option EvS := match (linesF.drop k).find? (fun x => x.name == n) with
  | none => none
  | some k => match foldF { kind := k.kind } k.parts r with
    | some (e, []) => some e
    | _ => none
theorem parseFrom_zero (n : List UInt8) (r : List (List UInt8)) : parseL (n :: r) = parseFrom 0 n r := rfl
theorem parseFrom_ne {n : List UInt8} {k : Nat} (r : List (List UInt8)) (hk : k < 12) (h : (lineAt k).name ≠ n) : parseFrom k n r = parseFrom (k + 1) n r := by
  unfold parseFrom
  rw [lineAt_drop k hk, List.find?_cons, beq_eq_false_iff_ne.2 h]
theorem parseFrom_eq {n : List UInt8} {k : Nat} (r : List (List UInt8)) (hk : k < 12) (h : (lineAt k).name = n) : parseFrom k n r = match foldF { kind := (lineAt k).kind } (lineAt k).parts r with
    | some (e, []) => some e
    | _ => none := by
  unfold parseFrom
  rw [lineAt_drop k hk, List.find?_cons, h]
  simp
theorem names_once {k : Nat} (hk : k < 12) (r : List (List UInt8)) : parseFrom (k + 1) (lineAt k).name r = none := by
  have : ∀ k : Nat, k < 12 → (linesF.drop (k + 1)).find? (fun x => x.name == (lineAt k).name) = none := by
    intro k hk
    match k, hk with
    | 0, _ | 1, _ | 2, _ | 3, _ | 4, _ | 5, _ | 6, _ | 7, _ | 8, _ | 9, _ | 10, _ | 11, _ => rfl
  unfold parseFrom
  rw [this k hk]
theorem parseFrom_end (n : List UInt8) (r : List (List UInt8)) : parseFrom 12 n r = none := rfl

def ParsePost (base : Nat) (w : World) : Option EvS → Ending → World → Prop
  | some x, e, w' => Keep No w w' ∧ ∃ bv pv, e = .returned (.tuple #[evV x bv pv, .int .i64 0]) ∧ BytesAt (bn := noBan) base w' bv x.body ∧ BytesAt (bn := noBan) base w' pv x.p
  | none, e, w' => Keep No w w' ∧ e = .returned (.tuple #[evV {} (.slice none 0 0) (.slice none 0 0), .int .i64 10])
def setEv (w : World) (b : Nat) (x : EvS) (bv pv : Value) : World :=
  ((((((((((w.setCell ⟨b, 0, none⟩ (.int .u8 x.kind)).setCell ⟨b, 1, none⟩ (.int .i64 x.who)).setCell ⟨b, 2, none⟩ (.int .i64 x.cls)).setCell ⟨b, 3, none⟩ bv).setCell ⟨b, 4, none⟩ (.int .i64 x.ix)).setCell ⟨b, 5, none⟩ (.int .i64 x.pos)).setCell ⟨b, 6, none⟩ (.int .u8 x.val.toNat)).setCell ⟨b, 7, none⟩ (.int .i64 x.keep)).setCell ⟨b, 8, none⟩ (.int .i64 x.torn)).setCell ⟨b, 9, none⟩ (.bool x.on)).setCell ⟨b, 10, none⟩ pv
theorem setEv_heap {w : World} {b : Nat} {y x : EvS} {bv pv bv' pv' : Value} (h : w.heap[b]? = some (.cells (evC y bv' pv') 27 (0, 0))) : (setEv w b x bv pv).heap[b]? = some (.cells (evC x bv pv) 27 (0, 0)) := by
  unfold evC at h ⊢
  have h0 := heap_setCell_same (i := 0) (u := .int .u8 x.kind) h
  simp only [List.setIfInBounds_toArray, List.set_cons_zero] at h0
  have h1 := heap_setCell_same (i := 1) (u := .int .i64 x.who) h0
  simp only [List.setIfInBounds_toArray, List.set_cons_zero, List.set_cons_succ] at h1
  have h2 := heap_setCell_same (i := 2) (u := .int .i64 x.cls) h1
  simp only [List.setIfInBounds_toArray, List.set_cons_zero, List.set_cons_succ] at h2
  have h3 := heap_setCell_same (i := 3) (u := bv) h2
  simp only [List.setIfInBounds_toArray, List.set_cons_zero, List.set_cons_succ] at h3
  have h4 := heap_setCell_same (i := 4) (u := .int .i64 x.ix) h3
  simp only [List.setIfInBounds_toArray, List.set_cons_zero, List.set_cons_succ] at h4
  have h5 := heap_setCell_same (i := 5) (u := .int .i64 x.pos) h4
  simp only [List.setIfInBounds_toArray, List.set_cons_zero, List.set_cons_succ] at h5
  have h6 := heap_setCell_same (i := 6) (u := .int .u8 x.val.toNat) h5
  simp only [List.setIfInBounds_toArray, List.set_cons_zero, List.set_cons_succ] at h6
  have h7 := heap_setCell_same (i := 7) (u := .int .i64 x.keep) h6
  simp only [List.setIfInBounds_toArray, List.set_cons_zero, List.set_cons_succ] at h7
  have h8 := heap_setCell_same (i := 8) (u := .int .i64 x.torn) h7
  simp only [List.setIfInBounds_toArray, List.set_cons_zero, List.set_cons_succ] at h8
  have h9 := heap_setCell_same (i := 9) (u := .bool x.on) h8
  simp only [List.setIfInBounds_toArray, List.set_cons_zero, List.set_cons_succ] at h9
  have h10 := heap_setCell_same (i := 10) (u := pv) h9
  simp only [List.setIfInBounds_toArray, List.set_cons_zero, List.set_cons_succ] at h10
  exact h10
theorem setEv_keep {F : Nat → Prop} {a w : World} {b : Nat} (x : EvS) (bv pv : Value) (h : Keep F a w) (hb : F b ∨ a.heap.size ≤ b) : Keep F a (setEv w b x bv pv) :=
  Keep.setCell (Keep.setCell (Keep.setCell (Keep.setCell (Keep.setCell (Keep.setCell (Keep.setCell (Keep.setCell (Keep.setCell (Keep.setCell (Keep.setCell h hb _) hb _) hb _) hb _) hb _) hb _) hb _) hb _) hb _) hb _) hb _
theorem splitC_word_len (c : UInt8) : ∀ (s : List UInt8), ∀ u ∈ splitC c s, u.length ≤ s.length
  | [], u, h => by simp [splitC] at h; simp [h]
  | x :: s, u, h => by
    unfold splitC at h
    have ih := splitC_word_len c s
    have hne := splitC_ne c s
    by_cases e : x = c
    · rw [if_pos e] at h
      rcases List.mem_cons.1 h with rfl | h
      · simp
      · have := ih u h; simp; omega
    · rw [if_neg e] at h
      cases hsp : splitC c s with
      | nil => exact (hne hsp).elim
      | cons y r =>
        rw [hsp] at h ih
        rcases List.mem_cons.1 h with rfl | h
        · have := ih y (List.mem_cons_self ..); simp; omega
        · have := ih u (List.mem_cons_of_mem _ h); simp; omega

theorem EvBox.keepI {base : Nat} {w : World} {E I : Nat} {x : EvS} {st : ByteArray} {p q : Nat} (h : EvBox base w E x) (hi : w.heap[I]? = some (.stringIter st p)) (hb : base ≤ I) : EvBox base (iterAt w I st q) E x := by
  have hF : Foot base w (· = I) := by
    rintro b rfl
    exact ⟨hb, heap_lt hi, fun cs fr e => by rw [hi] at e; cases e⟩
  have hne : E ≠ I := fun e => by
    obtain ⟨_, _, _, hh, _⟩ := h
    rw [e, hi] at hh
    cases hh
  obtain ⟨hB, bv, pv, hh, h1, h2⟩ := h
  have k := iterAt_keep w I st q
  exact ⟨hB, bv, pv, k.heap hh hne, BytesAt.keep (bn := noBan) h1 hF k, BytesAt.keep (bn := noBan) h2 hF k⟩
theorem SIn.keepI {w : World} {I : Nat} {st : ByteArray} {p q : Nat} {v : Value} {ws : List (List UInt8)} (h : SIn w v ws) (hi : w.heap[I]? = some (.stringIter st p)) : SIn (iterAt w I st q) v ws :=
  h.keep (iterAt_keep w I st q) (fun b cs hb e => by subst hb; rw [hi] at e; cases e)
theorem Keep.fresh {F : Nat → Prop} {a w : World} (h : Keep F a w) (hF : ∀ b, F b → a.heap.size ≤ b) : Keep No a w :=
  ⟨h.os, h.tape, h.output, h.size, fun b hb _ => h.block b hb (fun hf => by have := hF b hf; omega)⟩
theorem evRet {w : World} {b : Nat} {x : EvS} {bv pv : Value} {_n : Int} (_h : w.heap[b]? = some (.cells (evC x bv pv) 27 (0, 0))) : True := trivial
theorem takeF_mem {x : EvS} {c : UInt8} {ws r : List (List UInt8)} {x' : EvS} (h : takeF x c ws = some (x', r)) : ∀ u ∈ r, u ∈ ws := by
  intro u hu
  match ws, h with
  | [w], h =>
    simp only [takeF] at h
    by_cases h1 : c = 115
    · rw [if_pos h1] at h; cases h
    · rw [if_neg h1] at h
      by_cases h2 : takeB c w [] = true
      · rw [if_pos h2] at h
        simp only [Option.some.injEq, Prod.mk.injEq] at h
        rw [← h.2] at hu
        cases hu
      · rw [if_neg h2] at h; cases h
  | w :: v :: r', h =>
    simp only [takeF] at h
    by_cases h2 : takeB c w v = true
    · rw [if_pos h2] at h
      simp only [Option.some.injEq, Prod.mk.injEq] at h
      by_cases h1 : c = 115
      · rw [if_pos h1] at h
        rw [← h.2] at hu
        simp [hu]
      · rw [if_neg h1] at h
        rw [← h.2] at hu
        exact List.mem_cons_of_mem _ hu
    · rw [if_neg h2] at h; cases h

set_option maxRecDepth 100000 in
set_option maxHeartbeats 1000000 in
theorem parse_spec {base : Nat} {w : World} (hV : VarsAt w) (hbase : base ≤ w.heap.size) (s : List UInt8) (hs : s.length ≤ 100000) :
    Calls Tryd.prog 9 #[strV s] w (ParsePost base w (parseF s)) := by
  obtain ⟨P, hP⟩ : ∃ P, P = parseF s := ⟨_, rfl⟩
  rw [← hP]
  obtain ⟨n, r, hnr⟩ : ∃ n r, splitC 32 s = n :: r := by
    cases h : splitC 32 s with
    | nil => exact (splitC_ne 32 s h).elim
    | cons n r => exact ⟨n, r, rfl⟩
  have hP0 : P = parseFrom 0 n r := by rw [hP]; unfold parseF; rw [hnr]; rfl
  have hlen := splitC_len 32 s
  have hmem : ∀ u ∈ n :: r, u.length ≤ 1000000 := by
    intro u hu
    rw [← hnr] at hu
    have := splitC_word_len 32 s u hu
    omega
  have kA : Keep No w (w.alloc (.cells (evC {} (.slice none 0 0) (.slice none 0 0)) 27)) := (Keep.refl _ _).alloc _
  have hsp := split_spec (hV.no kA) 32 s (by omega)
  rw [hnr] at hsp hlen
  have HP := Lib.hid (And.intro hP0 (And.intro hmem (And.intro hlen hs)))
  have hA := heap_new w (.cells (evC {} (.slice none 0 0) (.slice none 0 0)) 27)
  clear hP hP0 hmem hnr hs hlen
  go_enter Tryd.func9, Tryd.ntmps9
  go_wp2_with fail
  refine hsp.mono ?_
  rintro e w1 ⟨rfl, hw1⟩
  have hS1 := heap_new (w.alloc (.cells (evC {} (.slice none 0 0) (.slice none 0 0)) 27)) (.cells ((n :: r).map strV).toArray 9)
  rw [← hw1, World.size_alloc] at hS1
  have k1 : Keep No (w.alloc (.cells (evC {} (.slice none 0 0) (.slice none 0 0)) 27)) w1 := by rw [hw1]; exact (Keep.refl _ _).alloc _
  have hA1 := k1.heap hA (fun e => e)
  rw [World.size_alloc]
  clear hw1 hA hsp
  have k1 := kA.then k1
  clear kA
  go_wp2_with fail
  refine (lines_spec _).mono ?_
  rintro e w2 ⟨rfl, hw2⟩
  have hL2 := heap_new w1 (.cells linesC 68)
  rw [← hw2] at hL2
  have k2 : Keep No w1 w2 := by rw [hw2]; exact (Keep.refl _ _).alloc _
  have hS2 := k2.heap hS1 (fun e => e)
  have hA2 := k2.heap hA1 (fun e => e)
  have k2' := k1.then k2
  clear hw2 hS1 hA1 k2 k1
  generalize w1.heap.size = G at *
  go_wp2_with fail
  have hA' : w.heap.size < w2.heap.size := heap_lt hA2
  have HH := Lib.hid (And.intro hS2 (And.intro hA2 (And.intro hL2 k2')))
  clear hS2 hA2 hL2 k2'
  go_loopw [16] (fun i wr => ∃ k : Nat, k ≤ 12 ∧ i = .int .i64 k ∧ Keep No w2 wr ∧ Hid (P = parseFrom k n r)) (fun i _ => 12 - (intOf i).toNat)
  case atStart => exact ⟨0, by omega, rfl, Keep.refl _ _, Lib.hid HP.out.1⟩
  case round =>
    obtain ⟨k, hk, rfl, hkp, hf⟩ := hrel
    by_cases hlt : k < 12
    · have hki : (k : Int) < 12 := by omega
      obtain ⟨c0, c1, c2⟩ := lines_cells (hkp.heap HH.out.2.2.1 (fun e => e)) hlt
      have hmem := lineAt_mem hlt
      have hkk := lines_lt _ hmem
      have hS := hkp.heap HH.out.1 (fun e => e)
      have s0 : wr.cell? ⟨w.heap.size + 1, 0, none⟩ = some (strV n) := by rw [cell_of hS]; rfl
      have hne := parseFrom_ne (n := n) r hlt
      have heq := parseFrom_eq (n := n) r hlt
      have hon := names_once hlt r
      obtain ⟨L, hL⟩ : ∃ L, L = lineAt k := ⟨_, rfl⟩
      rw [← hL] at c0 c1 c2 hmem hkk hne heq hon
      obtain ⟨kd, nm, pt⟩ := L
      simp only at c0 c1 c2 hmem hkk hne heq hon
      clear hL
      obtain ⟨NM, hNM⟩ : ∃ NM, NM = strB nm := ⟨_, rfl⟩
      obtain ⟨SN, hSN⟩ : ∃ SN, SN = strB n := ⟨_, rfl⟩
      replace c1 : wr.cell? ⟨G, k * 3 + 1, none⟩ = some (.string NM) := by rw [hNM]; exact c1
      replace s0 : wr.cell? ⟨w.heap.size + 1, 0, none⟩ = some (.string SN) := by rw [hSN]; exact s0
      have s0' : ∀ u, (wr.alloc u).cell? ⟨w.heap.size + 1, 0, none⟩ = some (.string SN) := fun u => ((Keep.refl No _).alloc _).cell s0 (fun e => e)
      have hq0 : (0 : Int) < ((r.length + 1 : Nat) : Int) := by omega
      have hq0' : (0 : Int) < (r.length : Int) + 1 := by omega
      by_cases hnn : nm = n
      · have hq : (!(NM.toList == SN.toList)) = false := by rw [hNM, hSN, hnn]; simp
        obtain ⟨o, c, hsl, hsr⟩ := slice_strs (some ⟨w.heap.size + 1, 0, none⟩) r.length (r.length + 1)
        have HE := Lib.hid (And.intro (heq hnn) (And.intro (hnn ▸ hon) (And.intro hsr (And.intro hmem hf.out))))
        clear heq hne hon hsr hmem hNM hSN hf hS hnn
        go_wp2_with fail
        go_quiet (fail)
        go_wp2_with fail
        obtain ⟨wo, rfl⟩ : ∃ wo, wo = wr := ⟨_, rfl⟩
        obtain ⟨W, hW⟩ : ∃ W, W = ((((wo.alloc (.cells #[.int .u8 kd, .string NM, strV pt] 68)).drewN nq).alloc (.cells (evC { kind := kd } (.slice none 0 0) (.slice none 0 0)) 27)).iter (strB pt) 0) := ⟨_, rfl⟩
        have kW : Keep No wo W := by rw [hW]; exact ((((Keep.refl _ _).alloc _).drewN _).alloc _).alloc _
        have hE : W.heap[wo.heap.size + 1]? = some (.cells (evC { kind := kd } (.slice none 0 0) (.slice none 0 0)) 27 (0, 0)) := by
          rw [hW]
          have := heap_new ((wo.alloc (.cells #[.int .u8 kd, .string NM, strV pt] 68)).drewN nq) (.cells (evC { kind := kd } (.slice none 0 0) (.slice none 0 0)) 27)
          rw [show ((wo.alloc (.cells #[.int .u8 kd, .string NM, strV pt] 68)).drewN nq).heap.size = wo.heap.size + 1 from World.size_alloc _ _] at this
          exact ((Keep.refl No _).alloc _).heap this (fun e => e)
        have hI : W.heap[wo.heap.size + 1 + 1]? = some (.stringIter (strB pt) 0) := by
          rw [hW]
          have := World.iter_heap ((((wo.alloc (.cells #[.int .u8 kd, .string NM, strV pt] 68)).drewN nq).alloc (.cells (evC { kind := kd } (.slice none 0 0) (.slice none 0 0)) 27))) (strB pt) 0
          rw [World.size_alloc, show ((wo.alloc (.cells #[.int .u8 kd, .string NM, strV pt] 68)).drewN nq).heap.size = wo.heap.size + 1 from World.size_alloc _ _] at this
          exact this
        show Code.wp _ _ _ _ ((((wo.alloc (.cells #[.int .u8 kd, .string NM, strV pt] 68)).drewN nq).alloc (.cells (evC { kind := kd } (.slice none 0 0) (.slice none 0 0)) 27)).iter (strB pt) 0)
        rw [← hW]
        clear hW
        have hwz : w.heap.size ≤ wo.heap.size := by have := hkp.size; omega
        have hSW : SIn W (.slice o r.length c) r := by
          refine HE.out.2.2.1 W n r rfl ⟨_, _, rfl, Nat.le_refl _, by have := HP.out.2.2.1; have := HP.out.2.2.2; simp at *; omega, .inr ⟨_, 0, _, rfl, (hkp.then kW).heap HH.out.1 (fun e => e), fun j x hx => ?_⟩⟩
          rw [Nat.zero_add, List.getElem?_toArray, List.getElem?_map, hx]
          rfl
        have hBW : EvBox base W (wo.heap.size + 1) { kind := kd } := ⟨by omega, _, _, hE, BytesAt.nil (bn := noBan) _ _, BytesAt.nil (bn := noBan) _ _⟩
        have hbI : base ≤ wo.heap.size + 1 + 1 := by omega
        clear hE hsl
        have hIz : w.heap.size ≤ wo.heap.size + 1 + 1 := by omega
        have hEz : w.heap.size < wo.heap.size + 1 := by omega
        have hEI : wo.heap.size + 1 ≠ wo.heap.size + 1 + 1 := by omega
        have hoI : wo.heap.size ≤ wo.heap.size + 1 + 1 := by omega
        have hoE : wo.heap.size ≤ wo.heap.size + 1 := by omega
        generalize wo.heap.size + 1 + 1 = I at *
        generalize wo.heap.size + 1 = E at *
        go_loopw [8] (fun v wr => ∃ (j : Nat) (x : EvS) (ws : List (List UInt8)), j ≤ pt.length ∧ wr.heap[I]? = some (.stringIter (strB pt) j) ∧ SIn wr v ws ∧ EvBox base wr E x ∧ Hid (foldF { kind := kd } pt r = foldF x (pt.drop j) ws) ∧ Keep No wo wr ∧ ∀ u ∈ ws, u.length ≤ 1000000) (fun _ wr => pt.length - wr.iterPos I)
        case atStart => exact ⟨0, _, r, Nat.zero_le _, hI, hSW, hBW, Lib.hid rfl, kW, fun u hu => HP.out.2.1 u (List.mem_cons_of_mem _ hu)⟩
        case round =>
          clear hI hSW hBW kW
          obtain ⟨j, x, ws, hj, hit, hsi, hbx, hfo, kwi, hwl⟩ := hrel
          by_cases hjl : j < pt.length
          · obtain ⟨ch, hc⟩ : ∃ ch, pt[j]? = some ch := ⟨_, List.getElem?_eq_getElem hjl⟩
            have hca := lines_ascii _ HE.out.2.2.2.1 ch (List.mem_of_getElem? hc)
            have hcs := (lines_signs _ HE.out.2.2.2.1).1 ch (List.mem_of_getElem? hc)
            have hnx := fun ty => run_next_at (w := wr) ty hit hc hca
            have kI := iterAt_keep wr I (strB pt) (j + 1)
            have hAr := (hkp.then kwi).heap HH.out.2.1 (fun e => e)
            have hAI : w.heap.size ≠ I := fun e => by rw [e, hit] at hAr; cases hAr
            have hAE : w.heap.size ≠ E := fun e => by have := hEz; omega
            have kwr := HH.out.2.2.2.then (hkp.then kwi)
            have kwI : Keep No w (iterAt wr I (strB pt) (j + 1)) := kwr.trans kI (fun x hx e => by have := hIz; have := e; omega)
            have hbI2 := hbx.keepI (q := j + 1) hit hbI
            have hsI2 := hsi.keepI (q := j + 1) hit
            have hit2 := iterAt_heap (s := strB pt) (p := j + 1) hit
            have hAr2 := kI.heap hAr hAI
            have htk := take_spec (hV.no kwI) hbI2 (by have := kwI.size; omega) hsI2 hwl hcs
            have hfd : foldF x (pt.drop j) ws = match takeF x ch ws with
                | some (y, r) => foldF y (pt.drop (j + 1)) r
                | none => none := by
              obtain ⟨h1, h2⟩ := List.getElem?_eq_some_iff.1 hc
              rw [List.drop_eq_getElem_cons h1, h2]
              rfl
            have htm := fun x' r => takeF_mem (x := x) (c := ch) (ws := ws) (r := r) (x' := x')
            obtain ⟨vo, vc, rfl⟩ := hsi.form
            have HI := Lib.hid (And.intro hit (And.intro kwI (And.intro hbI2 (And.intro hit2 hAr2))))
            have kwoI : Keep (· = I) wo (iterAt wr I (strB pt) (j + 1)) := kwi.no.trans kI (fun _ _ e => e)
            have HW := Lib.hid (And.intro kwoI (And.intro hwl hAE))
            clear hbI2 hsI2 hit2 hit hAr hAr2 hAI hAE kwr kwI kI kwoI hbx hsi hc hwl
            cases hty : takeF x ch ws with
            | none =>
              rw [hty] at htk hfd
              simp only at hfd
              have hPn : P = none := by
                rw [HE.out.2.2.2.2, HE.out.1, hfo.out, hfd]
              have HPn := Lib.hid hPn
              clear hfd hfo hPn htm hty
              go_wp2_with fail
              refine htk.mono ?_
              rintro e w4 ⟨v4, rfl, k4⟩
              have hAr := k4.heap HI.out.2.2.2.2 HW.out.2.2
              obtain ⟨b0, b1, b2, b3, b4, b5, b6, b7, b8, b9, b10⟩ := evCells hAr
              have hfz := frozen_of hAr
              have hX := setEv_heap (x := {}) (bv := .slice none 0 0) (pv := .slice none 0 0) hAr
              obtain ⟨r0, r1, r2, r3, r4, r5, r6, r7, r8, r9, r10⟩ := evCells hX
              have HX := Lib.hid hX
              clear hX
              go_wp2_with fail
              have kf : Keep No w w4 := HI.out.2.1.trans k4 (fun x hx e => by have := hEz; have := e; omega)
              refine bodyPost_ret (v := .tuple #[evV {} (.slice none 0 0) (.slice none 0 0), .int .i64 10]) ?_ rfl ?_
              · change (results _ _ ).run _ (setEv w4 w.heap.size {} (.slice none 0 0) (.slice none 0 0)) = _
                simp [results, Tryd.results9, go_sem, r0, r1, r2, r3, r4, r5, r6, r7, r8, r9, r10, evV]
                rfl
              · rw [HPn.out]
                exact ⟨setEv_keep {} _ _ kf (.inr (Nat.le_refl _)), rfl⟩
            | some y =>
              obtain ⟨x', r'⟩ := y
              have htm := htm x' r' hty
              rw [hty] at htk hfd
              simp only at hfd
              have HF := Lib.hid (And.intro (hfo.out.trans hfd) htm)
              clear hfd hfo htm hty
              go_wp2_with fail
              refine htk.mono ?_
              rintro e w4 ⟨v4, rfl, hs4, hb4, k4⟩
              go_wp2_with fail
              have hIE : I ≠ E := fun e => hEI e.symm
              go_roundw
              case rel => exact ⟨j + 1, x', r', by omega, k4.heap HI.out.2.2.2.1 hIE, hs4, hb4, Lib.hid HF.out.1, (((HW.out.1.mono (fun _ _ h => .inl h)).trans k4 (fun _ _ h => .inr h) : Keep (fun b => b = I ∨ b = E) wo w4).fresh (fun b h => by rcases h with rfl | rfl <;> assumption)), fun u hu => HW.out.2.1 u (HF.out.2 u hu)⟩
              case measure =>
                rw [iterPos_of (k4.heap HI.out.2.2.2.1 hIE), iterPos_of HI.out.1]
                omega
          · obtain rfl : j = pt.length := by omega
            have hnx := fun ty => run_next_over (w := wr) ty hit (Nat.le_refl _)
            have hAr := (hkp.then kwi).heap HH.out.2.1 (fun e => e)
            have hff : foldF { kind := kd } pt r = some (x, ws) := by rw [hfo.out, List.drop_length]; rfl
            have kwr := HH.out.2.2.2.then (hkp.then kwi)
            cases ws with
            | nil =>
              have hPs : P = some x := by rw [HE.out.2.2.2.2, HE.out.1, hff]
              obtain ⟨hEB, bv', pv', hEh, hbv, hpv⟩ := hbx
              obtain ⟨bo, bc, rfl⟩ := BytesAt.form (bn := noBan) hbv
              obtain ⟨po, pc, rfl⟩ := BytesAt.form (bn := noBan) hpv
              obtain ⟨vo, vc, rfl⟩ := hsi.form
              rw [show ([] : List (List UInt8)).length = 0 from rfl]
              obtain ⟨b0, b1, b2, b3, b4, b5, b6, b7, b8, b9, b10⟩ := evCells hAr
              obtain ⟨e0, e1, e2, e3, e4, e5, e6, e7, e8, e9, e10⟩ := evCells hEh
              have hfz := frozen_of hAr
              have hX := setEv_heap (x := x) (bv := .slice bo x.body.length bc) (pv := .slice po x.p.length pc) hAr
              obtain ⟨r0, r1, r2, r3, r4, r5, r6, r7, r8, r9, r10⟩ := evCells hX
              have HPs := Lib.hid hPs
              have HX := Lib.hid (And.intro kwr (And.intro hbv (And.intro hpv hAr)))
              clear hX hff hfo hPs kwr hbv hpv hAr hEh hsi hit kwi hwl hj
              go_wp2_with fail
              have kS : Keep No w (setEv wr w.heap.size x (.slice bo x.body.length bc) (.slice po x.p.length pc)) := setEv_keep x _ _ HX.out.1 (.inr (Nat.le_refl _))
              have kS' : Keep (· = w.heap.size) wr (setEv wr w.heap.size x (.slice bo x.body.length bc) (.slice po x.p.length pc)) := setEv_keep x _ _ (Keep.refl _ _) (.inl rfl)
              have hF : Foot base wr (· = w.heap.size) := by
                rintro b rfl
                exact ⟨hbase, heap_lt HX.out.2.2.2, fun cs fr e => by rw [HX.out.2.2.2] at e; simp at e⟩
              refine bodyPost_ret (v := .tuple #[evV x (.slice bo x.body.length bc) (.slice po x.p.length pc), .int .i64 0]) ?_ rfl ?_
              · change (results _ _ ).run _ (setEv wr w.heap.size x (.slice bo x.body.length bc) (.slice po x.p.length pc)) = _
                simp [results, Tryd.results9, go_sem, r0, r1, r2, r3, r4, r5, r6, r7, r8, r9, r10, evV]
                rfl
              · rw [HPs.out]
                exact ⟨kS, _, _, rfl, BytesAt.keep (bn := noBan) HX.out.2.1 hF kS', BytesAt.keep (bn := noBan) HX.out.2.2.1 hF kS'⟩
            | cons u ws =>
              have hPn : P = parseFrom (k + 1) n r := by rw [HE.out.2.2.2.2, HE.out.1, hff, HE.out.2.1]
              obtain ⟨vo, vc, rfl⟩ := hsi.form
              have hq1 : (((u :: ws).length : Int) == 0) = false := by rw [beq_eq_false_iff_ne]; simp; omega
              have HPn := Lib.hid hPn
              generalize (u :: ws).length = N at *
              have kw2 := hkp.then kwi
              clear hff hfo hPn hit hsi hbx hAr kwi hwl
              go_wp2_with fail
              go_roundw
              case rel => exact ⟨k + 1, by omega, by go_num, kw2, HPn⟩
              case measure => simp [intOf]; omega
      · have hq : (!(NM.toList == SN.toList)) = true := by rw [hNM, hSN, strB_toList, strB_toList]; simpa using hnn
        have hf2 := Lib.hid (hf.out.trans (hne hnn))
        clear heq hne hon hmem hNM hSN hf hS hnn
        go_wp2_with fail
        go_quiet (fail)
        go_wp2_with fail
        go_roundw
        case rel => exact ⟨k + 1, by omega, by go_num, (hkp.alloc _).drewN _, hf2⟩
        case measure => simp [intOf]; omega
    · obtain rfl : k = 12 := by omega
      have hPn : P = none := hf.out.trans (parseFrom_end n r)
      have HPn := Lib.hid hPn
      have hAr := hkp.heap HH.out.2.1 (fun e => e)
      obtain ⟨b0, b1, b2, b3, b4, b5, b6, b7, b8, b9, b10⟩ := evCells hAr
      have hfz := frozen_of hAr
      have hX := setEv_heap (x := {}) (bv := .slice none 0 0) (pv := .slice none 0 0) hAr
      obtain ⟨r0, r1, r2, r3, r4, r5, r6, r7, r8, r9, r10⟩ := evCells hX
      have HX := Lib.hid hX
      have kwr := HH.out.2.2.2.then hkp
      clear hf hPn hX
      go_wp2_with fail
      refine bodyPost_ret (v := .tuple #[evV {} (.slice none 0 0) (.slice none 0 0), .int .i64 10]) ?_ rfl ?_
      · change (results _ _ ).run _ (setEv wr w.heap.size {} (.slice none 0 0) (.slice none 0 0)) = _
        simp [results, Tryd.results9, go_sem, r0, r1, r2, r3, r4, r5, r6, r7, r8, r9, r10, evV]
        rfl
      · rw [HPn.out]
        exact ⟨setEv_keep {} _ _ kwr (.inr (Nat.le_refl _)), rfl⟩
end Go.Proofs.YtlbjkmpdakmgeaaDoor
