/- Package tale: a part's words, taken. -/
import Derived.Test.YtlbjkmpdakmgeaaDoorTaleU
namespace Go.Proofs.YtlbjkmpdakmgeaaDoor
open Go Go.RowKit Go.Dr

/-! ### Strings that are read -/
def SIn (w : World) (v : Value) (ws : List (List UInt8)) : Prop :=
  ∃ ao cap, v = .slice ao ws.length cap ∧ ws.length ≤ cap ∧ cap ≤ 1000001 ∧ (ws = [] ∨ ∃ g off cs, ao = some ⟨g, off, none⟩ ∧ w.heap[g]? = some (.cells cs 9 (0, 0)) ∧ ∀ (j : Nat) x, ws[j]? = some x → cs[off + j]? = some (strV x))
theorem SIn.keep {w w' : World} {F : Nat → Prop} {v : Value} {ws : List (List UInt8)} (h : SIn w v ws) (k : Keep F w w') (hF : ∀ b cs, F b → w.heap[b]? ≠ some (.cells cs 9 (0, 0))) : SIn w' v ws := by
  obtain ⟨ao, cap, rfl, h1, h2, h3⟩ := h
  refine ⟨ao, cap, rfl, h1, h2, ?_⟩
  rcases h3 with h3 | ⟨g, off, cs, rfl, hg, hc⟩
  · exact .inl h3
  · exact .inr ⟨g, off, cs, rfl, k.heap hg (fun e => hF g cs e hg), hc⟩
theorem SIn.no {w w' : World} {v : Value} {ws : List (List UInt8)} (h : SIn w v ws) (k : Keep No w w') : SIn w' v ws := h.keep k (fun _ _ e => e.elim)
theorem elem_strs : Tryd.prog.underlying 57 = some (.slice (Tryd.prog.elem 57)) := by kernel_rfl
theorem size_strs (w : World) : (sizeOf (Tryd.prog.elem 57)).run Tryd.prog w = .ok 1 w := by kernel_rfl
theorem slice_strs (ao : Option Addr) (n cap : Nat) :
    ∃ o c, (∀ w, (Instr.slice 57 (.slice ao (n + 1) cap) (some (.int .i64 1)) none none).run Tryd.prog w = .ok (.slice o n c) w) ∧
      ∀ w u r, r.length = n → SIn w (.slice ao (n + 1) cap) (u :: r) → SIn w (.slice o n c) r := by
  refine ⟨if cap = 1 then ao else ao.map (·.add (1 * 1)), cap - 1, fun w => ?_, fun w u r hr h => ?_⟩
  · rw [run_slice_l w 57 ao _ cap elem_strs .i64 1 (by omega) (by omega), size_strs]
    rfl
  · obtain ⟨ao', cap', e, h1, h2, h3⟩ := h
    simp only [Value.slice.injEq] at e
    obtain ⟨rfl, _, rfl⟩ := e
    rw [List.length_cons] at h1
    refine ⟨_, _, by rw [hr], by omega, by omega, ?_⟩
    rcases h3 with h3 | ⟨g, off, cs, rfl, hg, hc⟩
    · cases h3
    · cases r with
      | nil => exact .inl rfl
      | cons x r =>
        refine .inr ⟨g, off + 1, cs, ?_, hg, fun j y hy => ?_⟩
        · rw [List.length_cons] at h1
          rw [if_neg (by omega)]
          simp [Addr.add]
        · rw [Nat.add_assoc, Nat.add_comm 1 j]
          exact hc (j + 1) y (by simpa using hy)
theorem SIn.head {w : World} {ao : Option Addr} {n cap : Nat} {u : List UInt8} {r : List (List UInt8)} (h : SIn w (.slice ao n cap) (u :: r)) : ∃ g off, ao = some ⟨g, off, none⟩ ∧ n = r.length + 1 ∧ w.cell? ⟨g, off, none⟩ = some (strV u) := by
  obtain ⟨ao', cap', e, h1, h2, h3⟩ := h
  simp only [Value.slice.injEq] at e
  obtain ⟨rfl, hn, rfl⟩ := e
  rcases h3 with h3 | ⟨g, off, cs, rfl, hg, hc⟩
  · cases h3
  · refine ⟨g, off, rfl, by simpa using hn, ?_⟩
    rw [cell_of hg]
    exact hc 0 u rfl
theorem SIn.form {w : World} {v : Value} {ws : List (List UInt8)} (h : SIn w v ws) : ∃ ao cap, v = .slice ao ws.length cap := by
  obtain ⟨ao, cap, e, _⟩ := h; exact ⟨ao, cap, e⟩

/-! ### An event that is built -/
def EvBox (base : Nat) (w : World) (E : Nat) (x : EvS) : Prop :=
  base ≤ E ∧ ∃ bv pv, w.heap[E]? = some (.cells (evC x bv pv) 27 (0, 0)) ∧ BytesAt (bn := noBan) base w bv x.body ∧ BytesAt (bn := noBan) base w pv x.p
theorem EvBox.foot {base : Nat} {w : World} {E : Nat} {x : EvS} (h : EvBox base w E x) : Foot base w (· = E) := by
  obtain ⟨hB, bv, pv, hh, _⟩ := h
  rintro b rfl
  exact ⟨hB, heap_lt hh, fun cs fr e => by rw [hh] at e; simp at e⟩
theorem EvBox.no {base : Nat} {w w' : World} {E : Nat} {x : EvS} (h : EvBox base w E x) (k : Keep No w w') : EvBox base w' E x := by
  obtain ⟨hB, bv, pv, hh, h1, h2⟩ := h
  exact ⟨hB, bv, pv, k.heap hh (fun e => e), BytesAt.no (bn := noBan) h1 k, BytesAt.no (bn := noBan) h2 k⟩
theorem EvBox.strs {base : Nat} {w w' : World} {E : Nat} {x : EvS} (h : EvBox base w E x) {v : Value} {ws : List (List UInt8)} (hs : SIn w v ws) (k : Keep (· = E) w w') : SIn w' v ws := by
  obtain ⟨hB, bv, pv, hh, h1, h2⟩ := h
  refine hs.keep k (fun b cs hb e => ?_)
  subst hb
  rw [hh] at e
  simp at e
theorem on_t (w : World) : Calls Tryd.prog 52 #[.bool true] w fun e w' => e = .returned (strV [111, 110]) ∧ w' = w := on_spec w true
theorem on_f (w : World) : Calls Tryd.prog 52 #[.bool false] w fun e w' => e = .returned (strV [111, 102, 102]) ∧ w' = w := on_spec w false
def TakePost (base : Nat) (w : World) (E : Nat) (x' : EvS) (r : List (List UInt8)) (b : Bool) (e : Ending) (w' : World) : Prop :=
  ∃ v, e = .returned (.tuple #[v, .bool b]) ∧ SIn w' v r ∧ EvBox base w' E x' ∧ Keep (· = E) w w'
set_option maxRecDepth 100000 in
theorem take_107 {base : Nat} {w : World} (hV : VarsAt w) {E : Nat} {x : EvS} (hx : EvBox base w E x) (_hEb : base ≤ w.heap.size) {v : Value} {u : List UInt8} {r : List (List UInt8)} (hs : SIn w v (u :: r)) (hu : u.length ≤ 1000000) :
    Calls Tryd.prog 32 #[.pointer (some ⟨E, 0, none⟩), .int .i32 107, v] w (TakePost base w E (takeE x 107 u []) r (takeB 107 u [])) := by
  obtain ⟨ao, cap, rfl⟩ := hs.form
  obtain ⟨sg, so, rfl, _, hc⟩ := hs.head
  obtain ⟨o, c, hsl, hsr⟩ := slice_strs (some ⟨sg, so, none⟩) r.length cap
  have hsr := hsr w u r rfl hs
  have hlen : ((u :: r).length : Int) = (r.length : Int) + 1 := by simp
  rw [show (u :: r).length = r.length + 1 from rfl]
  have hq1 : (((r.length + 1 : Nat) : Int) == 0) = false := by rw [beq_eq_false_iff_ne]; omega
  have hq2 : ((r.length : Int) + 1 == 0) = false := by rw [beq_eq_false_iff_ne]; omega
  have hq3 : (0 : Int) < ((r.length + 1 : Nat) : Int) := by omega
  have HU := Lib.hid hu
  obtain ⟨hB, bv, pv, hh, hbv, hpv⟩ := hx
  have hx : EvBox base w E x := ⟨hB, bv, pv, hh, hbv, hpv⟩
  have HX := Lib.hid hx
  obtain ⟨b0, b1, b2, b3, b4, b5, b6, b7, b8, b9, b10⟩ := evCells hh
  have hfz := frozen_of hh
  have HS := Lib.hid (And.intro hsr (And.intro hh (And.intro hbv hpv)))
  clear hs hx hh hsr hlen hu
  go_enter Tryd.func32, Tryd.ntmps32
  go_wp2_with fail
  refine (number_spec (hV) u HU.out).mono ?_
  rintro e w1 ⟨rfl, k1⟩
  have a7 := k1.cell b7 (fun e => e)
  have hf1 : ∀ i, w1.frozen? ⟨E, i, none⟩ = false := frozen_of (k1.heap HS.out.2.1 (fun e => e))
  have hh1 := k1.heap HS.out.2.1 (fun e => e)
  go_wp2_with fail
  go_ret2
  have kE : Keep (· = E) w1 (w1.setCell ⟨E, 7, none⟩ (.int .i64 (numN u))) := Keep.setCell (F := (· = E)) (Keep.refl _ _) (.inl rfl) _
  have hx1 := HX.out.no k1
  refine ⟨_, rfl, hx1.strs (HS.out.1.no k1) kE, ⟨hB, bv, pv, ?_, BytesAt.keep (bn := noBan) (BytesAt.no (bn := noBan) HS.out.2.2.1 k1) hx1.foot kE, BytesAt.keep (bn := noBan) (BytesAt.no (bn := noBan) HS.out.2.2.2 k1) hx1.foot kE⟩, k1.no.trans kE (fun _ _ e => e)⟩
  exact heap_setCell_same (i := 7) (u := .int .i64 (numN u)) hh1
set_option maxRecDepth 100000 in
theorem take_116 {base : Nat} {w : World} (hV : VarsAt w) {E : Nat} {x : EvS} (hx : EvBox base w E x) (_hEb : base ≤ w.heap.size) {v : Value} {u : List UInt8} {r : List (List UInt8)} (hs : SIn w v (u :: r)) (hu : u.length ≤ 1000000) :
    Calls Tryd.prog 32 #[.pointer (some ⟨E, 0, none⟩), .int .i32 116, v] w (TakePost base w E (takeE x 116 u []) r (takeB 116 u [])) := by
  obtain ⟨ao, cap, rfl⟩ := hs.form
  obtain ⟨sg, so, rfl, _, hc⟩ := hs.head
  obtain ⟨o, c, hsl, hsr⟩ := slice_strs (some ⟨sg, so, none⟩) r.length cap
  have hsr := hsr w u r rfl hs
  have hlen : ((u :: r).length : Int) = (r.length : Int) + 1 := by simp
  rw [show (u :: r).length = r.length + 1 from rfl]
  have hq1 : (((r.length + 1 : Nat) : Int) == 0) = false := by rw [beq_eq_false_iff_ne]; omega
  have hq2 : ((r.length : Int) + 1 == 0) = false := by rw [beq_eq_false_iff_ne]; omega
  have hq3 : (0 : Int) < ((r.length + 1 : Nat) : Int) := by omega
  have HU := Lib.hid hu
  obtain ⟨hB, bv, pv, hh, hbv, hpv⟩ := hx
  have hx : EvBox base w E x := ⟨hB, bv, pv, hh, hbv, hpv⟩
  have HX := Lib.hid hx
  obtain ⟨b0, b1, b2, b3, b4, b5, b6, b7, b8, b9, b10⟩ := evCells hh
  have hfz := frozen_of hh
  have HS := Lib.hid (And.intro hsr (And.intro hh (And.intro hbv hpv)))
  clear hs hx hh hsr hlen hu
  go_enter Tryd.func32, Tryd.ntmps32
  go_wp2_with fail
  refine (number_spec (hV) u HU.out).mono ?_
  rintro e w1 ⟨rfl, k1⟩
  have a8 := k1.cell b8 (fun e => e)
  have hf1 : ∀ i, w1.frozen? ⟨E, i, none⟩ = false := frozen_of (k1.heap HS.out.2.1 (fun e => e))
  have hh1 := k1.heap HS.out.2.1 (fun e => e)
  go_wp2_with fail
  go_ret2
  have kE : Keep (· = E) w1 (w1.setCell ⟨E, 8, none⟩ (.int .i64 (numN u))) := Keep.setCell (F := (· = E)) (Keep.refl _ _) (.inl rfl) _
  have hx1 := HX.out.no k1
  refine ⟨_, rfl, hx1.strs (HS.out.1.no k1) kE, ⟨hB, bv, pv, ?_, BytesAt.keep (bn := noBan) (BytesAt.no (bn := noBan) HS.out.2.2.1 k1) hx1.foot kE, BytesAt.keep (bn := noBan) (BytesAt.no (bn := noBan) HS.out.2.2.2 k1) hx1.foot kE⟩, k1.no.trans kE (fun _ _ e => e)⟩
  exact heap_setCell_same (i := 8) (u := .int .i64 (numN u)) hh1
set_option maxRecDepth 100000 in
theorem take_105 {base : Nat} {w : World} (hV : VarsAt w) {E : Nat} {x : EvS} (hx : EvBox base w E x) (_hEb : base ≤ w.heap.size) {v : Value} {u : List UInt8} {r : List (List UInt8)} (hs : SIn w v (u :: r)) (hu : u.length ≤ 1000000) :
    Calls Tryd.prog 32 #[.pointer (some ⟨E, 0, none⟩), .int .i32 105, v] w (TakePost base w E (takeE x 105 u []) r (takeB 105 u [])) := by
  obtain ⟨ao, cap, rfl⟩ := hs.form
  obtain ⟨sg, so, rfl, _, hc⟩ := hs.head
  obtain ⟨o, c, hsl, hsr⟩ := slice_strs (some ⟨sg, so, none⟩) r.length cap
  have hsr := hsr w u r rfl hs
  have hlen : ((u :: r).length : Int) = (r.length : Int) + 1 := by simp
  rw [show (u :: r).length = r.length + 1 from rfl]
  have hq1 : (((r.length + 1 : Nat) : Int) == 0) = false := by rw [beq_eq_false_iff_ne]; omega
  have hq2 : ((r.length : Int) + 1 == 0) = false := by rw [beq_eq_false_iff_ne]; omega
  have hq3 : (0 : Int) < ((r.length + 1 : Nat) : Int) := by omega
  have HU := Lib.hid hu
  obtain ⟨hB, bv, pv, hh, hbv, hpv⟩ := hx
  have hx : EvBox base w E x := ⟨hB, bv, pv, hh, hbv, hpv⟩
  have HX := Lib.hid hx
  obtain ⟨b0, b1, b2, b3, b4, b5, b6, b7, b8, b9, b10⟩ := evCells hh
  have hfz := frozen_of hh
  have HS := Lib.hid (And.intro hsr (And.intro hh (And.intro hbv hpv)))
  clear hs hx hh hsr hlen hu
  go_enter Tryd.func32, Tryd.ntmps32
  go_wp2_with fail
  refine (number_spec (hV) u HU.out).mono ?_
  rintro e w1 ⟨rfl, k1⟩
  have a4 := k1.cell b4 (fun e => e)
  have hf1 : ∀ i, w1.frozen? ⟨E, i, none⟩ = false := frozen_of (k1.heap HS.out.2.1 (fun e => e))
  have hh1 := k1.heap HS.out.2.1 (fun e => e)
  go_wp2_with fail
  go_ret2
  have kE : Keep (· = E) w1 (w1.setCell ⟨E, 4, none⟩ (.int .i64 (numN u))) := Keep.setCell (F := (· = E)) (Keep.refl _ _) (.inl rfl) _
  have hx1 := HX.out.no k1
  refine ⟨_, rfl, hx1.strs (HS.out.1.no k1) kE, ⟨hB, bv, pv, ?_, BytesAt.keep (bn := noBan) (BytesAt.no (bn := noBan) HS.out.2.2.1 k1) hx1.foot kE, BytesAt.keep (bn := noBan) (BytesAt.no (bn := noBan) HS.out.2.2.2 k1) hx1.foot kE⟩, k1.no.trans kE (fun _ _ e => e)⟩
  exact heap_setCell_same (i := 4) (u := .int .i64 (numN u)) hh1
set_option maxRecDepth 100000 in
theorem take_97 {base : Nat} {w : World} (hV : VarsAt w) {E : Nat} {x : EvS} (hx : EvBox base w E x) (_hEb : base ≤ w.heap.size) {v : Value} {u : List UInt8} {r : List (List UInt8)} (hs : SIn w v (u :: r)) (hu : u.length ≤ 1000000) :
    Calls Tryd.prog 32 #[.pointer (some ⟨E, 0, none⟩), .int .i32 97, v] w (TakePost base w E (takeE x 97 u []) r (takeB 97 u [])) := by
  obtain ⟨ao, cap, rfl⟩ := hs.form
  obtain ⟨sg, so, rfl, _, hc⟩ := hs.head
  obtain ⟨o, c, hsl, hsr⟩ := slice_strs (some ⟨sg, so, none⟩) r.length cap
  have hsr := hsr w u r rfl hs
  have hlen : ((u :: r).length : Int) = (r.length : Int) + 1 := by simp
  rw [show (u :: r).length = r.length + 1 from rfl]
  have hq1 : (((r.length + 1 : Nat) : Int) == 0) = false := by rw [beq_eq_false_iff_ne]; omega
  have hq2 : ((r.length : Int) + 1 == 0) = false := by rw [beq_eq_false_iff_ne]; omega
  have hq3 : (0 : Int) < ((r.length + 1 : Nat) : Int) := by omega
  have HU := Lib.hid hu
  obtain ⟨hB, bv, pv, hh, hbv, hpv⟩ := hx
  have hx : EvBox base w E x := ⟨hB, bv, pv, hh, hbv, hpv⟩
  have HX := Lib.hid hx
  obtain ⟨b0, b1, b2, b3, b4, b5, b6, b7, b8, b9, b10⟩ := evCells hh
  have hfz := frozen_of hh
  have HS := Lib.hid (And.intro hsr (And.intro hh (And.intro hbv hpv)))
  clear hs hx hh hsr hlen hu
  go_enter Tryd.func32, Tryd.ntmps32
  go_wp2_with fail
  refine (number_spec (hV) u HU.out).mono ?_
  rintro e w1 ⟨rfl, k1⟩
  have a5 := k1.cell b5 (fun e => e)
  have hf1 : ∀ i, w1.frozen? ⟨E, i, none⟩ = false := frozen_of (k1.heap HS.out.2.1 (fun e => e))
  have hh1 := k1.heap HS.out.2.1 (fun e => e)
  go_wp2_with fail
  go_ret2
  have kE : Keep (· = E) w1 (w1.setCell ⟨E, 5, none⟩ (.int .i64 (numN u))) := Keep.setCell (F := (· = E)) (Keep.refl _ _) (.inl rfl) _
  have hx1 := HX.out.no k1
  refine ⟨_, rfl, hx1.strs (HS.out.1.no k1) kE, ⟨hB, bv, pv, ?_, BytesAt.keep (bn := noBan) (BytesAt.no (bn := noBan) HS.out.2.2.1 k1) hx1.foot kE, BytesAt.keep (bn := noBan) (BytesAt.no (bn := noBan) HS.out.2.2.2 k1) hx1.foot kE⟩, k1.no.trans kE (fun _ _ e => e)⟩
  exact heap_setCell_same (i := 5) (u := .int .i64 (numN u)) hh1
set_option maxRecDepth 100000 in
theorem take_119 {base : Nat} {w : World} (hV : VarsAt w) {E : Nat} {x : EvS} (hx : EvBox base w E x) (_hEb : base ≤ w.heap.size) {v : Value} {u : List UInt8} {r : List (List UInt8)} (hs : SIn w v (u :: r)) (hu : u.length ≤ 1000000) :
    Calls Tryd.prog 32 #[.pointer (some ⟨E, 0, none⟩), .int .i32 119, v] w (TakePost base w E (takeE x 119 u []) r (takeB 119 u [])) := by
  obtain ⟨ao, cap, rfl⟩ := hs.form
  obtain ⟨sg, so, rfl, _, hc⟩ := hs.head
  obtain ⟨o, c, hsl, hsr⟩ := slice_strs (some ⟨sg, so, none⟩) r.length cap
  have hsr := hsr w u r rfl hs
  have hlen : ((u :: r).length : Int) = (r.length : Int) + 1 := by simp
  rw [show (u :: r).length = r.length + 1 from rfl]
  have hq1 : (((r.length + 1 : Nat) : Int) == 0) = false := by rw [beq_eq_false_iff_ne]; omega
  have hq2 : ((r.length : Int) + 1 == 0) = false := by rw [beq_eq_false_iff_ne]; omega
  have hq3 : (0 : Int) < ((r.length + 1 : Nat) : Int) := by omega
  have HU := Lib.hid hu
  obtain ⟨hB, bv, pv, hh, hbv, hpv⟩ := hx
  have hx : EvBox base w E x := ⟨hB, bv, pv, hh, hbv, hpv⟩
  have HX := Lib.hid hx
  obtain ⟨b0, b1, b2, b3, b4, b5, b6, b7, b8, b9, b10⟩ := evCells hh
  have hfz := frozen_of hh
  have HS := Lib.hid (And.intro hsr (And.intro hh (And.intro hbv hpv)))
  clear hs hx hh hsr hlen hu
  go_enter Tryd.func32, Tryd.ntmps32
  go_wp2_with fail
  refine (whom_spec (hV) u HU.out).mono ?_
  rintro e w1 ⟨rfl, k1⟩
  have a1 := k1.cell b1 (fun e => e)
  have hf1 : ∀ i, w1.frozen? ⟨E, i, none⟩ = false := frozen_of (k1.heap HS.out.2.1 (fun e => e))
  have hh1 := k1.heap HS.out.2.1 (fun e => e)
  go_wp2_with fail
  go_ret2
  have kE : Keep (· = E) w1 (w1.setCell ⟨E, 1, none⟩ (.int .i64 (whomN u))) := Keep.setCell (F := (· = E)) (Keep.refl _ _) (.inl rfl) _
  have hx1 := HX.out.no k1
  refine ⟨_, rfl, hx1.strs (HS.out.1.no k1) kE, ⟨hB, bv, pv, ?_, BytesAt.keep (bn := noBan) (BytesAt.no (bn := noBan) HS.out.2.2.1 k1) hx1.foot kE, BytesAt.keep (bn := noBan) (BytesAt.no (bn := noBan) HS.out.2.2.2 k1) hx1.foot kE⟩, k1.no.trans kE (fun _ _ e => e)⟩
  exact heap_setCell_same (i := 1) (u := .int .i64 (whomN u)) hh1
set_option maxRecDepth 100000 in
theorem take_104 {base : Nat} {w : World} (_hV : VarsAt w) {E : Nat} {x : EvS} (hx : EvBox base w E x) (_hEb : base ≤ w.heap.size) {v : Value} {u : List UInt8} {r : List (List UInt8)} (hs : SIn w v (u :: r)) (hu : u.length ≤ 1000000) :
    Calls Tryd.prog 32 #[.pointer (some ⟨E, 0, none⟩), .int .i32 104, v] w (TakePost base w E (takeE x 104 u []) r (takeB 104 u [])) := by
  obtain ⟨ao, cap, rfl⟩ := hs.form
  obtain ⟨sg, so, rfl, _, hc⟩ := hs.head
  obtain ⟨o, c, hsl, hsr⟩ := slice_strs (some ⟨sg, so, none⟩) r.length cap
  have hsr := hsr w u r rfl hs
  have hlen : ((u :: r).length : Int) = (r.length : Int) + 1 := by simp
  rw [show (u :: r).length = r.length + 1 from rfl]
  have hq1 : (((r.length + 1 : Nat) : Int) == 0) = false := by rw [beq_eq_false_iff_ne]; omega
  have hq2 : ((r.length : Int) + 1 == 0) = false := by rw [beq_eq_false_iff_ne]; omega
  have hq3 : (0 : Int) < ((r.length + 1 : Nat) : Int) := by omega
  have HU := Lib.hid hu
  obtain ⟨hB, bv, pv, hh, hbv, hpv⟩ := hx
  have hx : EvBox base w E x := ⟨hB, bv, pv, hh, hbv, hpv⟩
  have HX := Lib.hid hx
  obtain ⟨b0, b1, b2, b3, b4, b5, b6, b7, b8, b9, b10⟩ := evCells hh
  have hfz := frozen_of hh
  have HS := Lib.hid (And.intro hsr (And.intro hh (And.intro hbv hpv)))
  clear hs hx hh hsr hlen hu
  go_enter Tryd.func32, Tryd.ntmps32
  go_wp2_with fail
  refine (unhex_spec u HU.out).mono ?_
  rintro e w1 ⟨V, rfl, own1, k1⟩
  obtain ⟨vo, vc, rfl⟩ := own1.form
  have a10 := k1.cell b10 (fun e => e)
  have hf1 : ∀ i, w1.frozen? ⟨E, i, none⟩ = false := frozen_of (k1.heap HS.out.2.1 (fun e => e))
  have hh1 := k1.heap HS.out.2.1 (fun e => e)
  go_wp2_with fail
  go_ret2
  have kE : Keep (· = E) w1 (w1.setCell ⟨E, 10, none⟩ (.slice vo (unhexN u).length vc)) := Keep.setCell (F := (· = E)) (Keep.refl _ _) (.inl rfl) _
  have hx1 := HX.out.no k1
  refine ⟨_, rfl, hx1.strs (HS.out.1.no k1) kE, ⟨hB, bv, .slice vo (unhexN u).length vc, ?_, BytesAt.keep (bn := noBan) (BytesAt.no (bn := noBan) HS.out.2.2.1 k1) hx1.foot kE, BytesAt.keep (bn := noBan) (own1.bytes (bn := noBan) (fun _ => Nat.zero_le _)) hx1.foot kE⟩, k1.no.trans kE (fun _ _ e => e)⟩
  exact heap_setCell_same (i := 10) (u := .slice vo (unhexN u).length vc) hh1
set_option maxRecDepth 100000 in
theorem take_121 {base : Nat} {w : World} (hV : VarsAt w) {E : Nat} {x : EvS} (hx : EvBox base w E x) (_hEb : base ≤ w.heap.size) {v : Value} {u : List UInt8} {r : List (List UInt8)} (hs : SIn w v (u :: r)) (hu : u.length ≤ 1000000) :
    Calls Tryd.prog 32 #[.pointer (some ⟨E, 0, none⟩), .int .i32 121, v] w (TakePost base w E (takeE x 121 u []) r (takeB 121 u [])) := by
  obtain ⟨ao, cap, rfl⟩ := hs.form
  obtain ⟨sg, so, rfl, _, hc⟩ := hs.head
  obtain ⟨o, c, hsl, hsr⟩ := slice_strs (some ⟨sg, so, none⟩) r.length cap
  have hsr := hsr w u r rfl hs
  have hlen : ((u :: r).length : Int) = (r.length : Int) + 1 := by simp
  rw [show (u :: r).length = r.length + 1 from rfl]
  have hq1 : (((r.length + 1 : Nat) : Int) == 0) = false := by rw [beq_eq_false_iff_ne]; omega
  have hq2 : ((r.length : Int) + 1 == 0) = false := by rw [beq_eq_false_iff_ne]; omega
  have hq3 : (0 : Int) < ((r.length + 1 : Nat) : Int) := by omega
  have HU := Lib.hid hu
  obtain ⟨hB, bv, pv, hh, hbv, hpv⟩ := hx
  have hx : EvBox base w E x := ⟨hB, bv, pv, hh, hbv, hpv⟩
  have HX := Lib.hid hx
  obtain ⟨b0, b1, b2, b3, b4, b5, b6, b7, b8, b9, b10⟩ := evCells hh
  have hfz := frozen_of hh
  have HS := Lib.hid (And.intro hsr (And.intro hh (And.intro hbv hpv)))
  clear hs hx hh hsr hlen hu
  go_enter Tryd.func32, Tryd.ntmps32
  go_wp2_with fail
  refine (number_spec hV u HU.out).mono ?_
  rintro e w1 ⟨rfl, k1⟩
  have a6 := k1.cell b6 (fun e => e)
  have hf1 : ∀ i, w1.frozen? ⟨E, i, none⟩ = false := frozen_of (k1.heap HS.out.2.1 (fun e => e))
  have hh1 := k1.heap HS.out.2.1 (fun e => e)
  obtain ⟨N, hN⟩ : ∃ N, N = numN u := ⟨_, rfl⟩
  obtain ⟨B, hBB⟩ : ∃ B, B = numB u := ⟨_, rfl⟩
  have hT : takeB 121 u [] = (B && (decide (0 ≤ N) && decide (N ≤ 255))) := by rw [hN, hBB]; rfl
  have hE : (((takeE x 121 u []).val.toNat : Nat) : Int) = N % 256 := by
    rw [hN]
    show (((UInt8.ofNat ((numN u) % 256).toNat).toNat : Nat) : Int) = _
    simp
    omega
  have hpost : ∀ {Wf : World} {V : Value}, (∃ W, Wf = W) → V = .int .u8 (N % 256) → True := fun _ _ => trivial
  rw [← hN, ← hBB]
  have HT := Lib.hid hE
  have HB := Lib.hid hT
  clear hN hBB hT hE hpost
  have fin : ∀ b, TakePost base w E (takeE x 121 u []) r b (.returned (.tuple #[.slice o r.length c, .bool b])) (w1.setCell ⟨E, 6, none⟩ (.int .u8 (N % 256))) := by
    intro b
    have kE : Keep (· = E) w1 (w1.setCell ⟨E, 6, none⟩ (.int .u8 (N % 256))) := Keep.setCell (F := (· = E)) (Keep.refl _ _) (.inl rfl) _
    have hx1 := HX.out.no k1
    refine ⟨_, rfl, hx1.strs (HS.out.1.no k1) kE, ⟨hB, bv, pv, ?_, BytesAt.keep (bn := noBan) (BytesAt.no (bn := noBan) HS.out.2.2.1 k1) hx1.foot kE, BytesAt.keep (bn := noBan) (BytesAt.no (bn := noBan) HS.out.2.2.2 k1) hx1.foot kE⟩, k1.no.trans kE (fun _ _ e => e)⟩
    have := heap_setCell_same (i := 6) (u := .int .u8 (N % 256)) hh1
    rw [← HT.out] at this ⊢
    exact this
  have HF := Lib.hid fin
  clear fin
  cases B with
  | false =>
    go_wp2_with fail
    go_ret2
    rw [HB.out]
    exact HF.out _
  | true =>
    by_cases h0 : 0 ≤ N
    · by_cases h1 : N ≤ 255
      · go_wp2_with fail
        go_ret2
        rw [HB.out, show decide (0 ≤ N) = true from decide_eq_true (by omega), show decide (N ≤ 255) = true from decide_eq_true (by omega)]
        have hfin := HF.out true
        rw [show N % 256 = N from by omega] at hfin
        exact hfin
      · go_wp2_with fail
        go_ret2
        rw [HB.out, show decide (0 ≤ N) = true from decide_eq_true (by omega), show decide (N ≤ 255) = false from decide_eq_false (by omega)]
        exact HF.out _
    · go_wp2_with fail
      go_ret2
      rw [HB.out, show decide (0 ≤ N) = false from decide_eq_false (by omega)]
      exact HF.out _
set_option maxRecDepth 100000 in
theorem take_111 {base : Nat} {w : World} (_hV : VarsAt w) {E : Nat} {x : EvS} (hx : EvBox base w E x) (_hEb : base ≤ w.heap.size) {v : Value} {u : List UInt8} {r : List (List UInt8)} (hs : SIn w v (u :: r)) (hu : u.length ≤ 1000000) :
    Calls Tryd.prog 32 #[.pointer (some ⟨E, 0, none⟩), .int .i32 111, v] w (TakePost base w E (takeE x 111 u []) r (takeB 111 u [])) := by
  obtain ⟨ao, cap, rfl⟩ := hs.form
  obtain ⟨sg, so, rfl, _, hc⟩ := hs.head
  obtain ⟨o, c, hsl, hsr⟩ := slice_strs (some ⟨sg, so, none⟩) r.length cap
  have hsr := hsr w u r rfl hs
  have hlen : ((u :: r).length : Int) = (r.length : Int) + 1 := by simp
  rw [show (u :: r).length = r.length + 1 from rfl]
  have hq1 : (((r.length + 1 : Nat) : Int) == 0) = false := by rw [beq_eq_false_iff_ne]; omega
  have hq2 : ((r.length : Int) + 1 == 0) = false := by rw [beq_eq_false_iff_ne]; omega
  have hq3 : (0 : Int) < ((r.length + 1 : Nat) : Int) := by omega
  have HU := Lib.hid hu
  obtain ⟨hB, bv, pv, hh, hbv, hpv⟩ := hx
  have hx : EvBox base w E x := ⟨hB, bv, pv, hh, hbv, hpv⟩
  have HX := Lib.hid hx
  obtain ⟨b0, b1, b2, b3, b4, b5, b6, b7, b8, b9, b10⟩ := evCells hh
  have hfz := frozen_of hh
  have HS := Lib.hid (And.intro hsr (And.intro hh (And.intro hbv hpv)))
  clear hs hx hh hsr hlen hu
  go_enter Tryd.func32, Tryd.ntmps32
  go_wp2_with fail
  refine (on_t _).mono ?_
  rintro e w1 ⟨rfl, hw1⟩
  obtain rfl : w = w1 := hw1.symm
  have fin : TakePost base w E (takeE x 111 u []) r (takeB 111 u []) (.returned (.tuple #[.slice o r.length c, .bool (takeB 111 u [])])) (w.setCell ⟨E, 9, none⟩ (.bool (takeE x 111 u []).on)) := by
    have kE : Keep (· = E) w (w.setCell ⟨E, 9, none⟩ (.bool (takeE x 111 u []).on)) := Keep.setCell (F := (· = E)) (Keep.refl _ _) (.inl rfl) _
    refine ⟨_, rfl, HX.out.strs HS.out.1 kE, ⟨hB, bv, pv, ?_, BytesAt.keep (bn := noBan) HS.out.2.2.1 HX.out.foot kE, BytesAt.keep (bn := noBan) HS.out.2.2.2 HX.out.foot kE⟩, kE⟩
    exact heap_setCell_same (i := 9) (u := .bool (takeE x 111 u []).on) HS.out.2.1
  have hs1 : ∀ b, (w.setCell ⟨E, 9, none⟩ (.bool b)).cell? ⟨E, 9, none⟩ = some (.bool b) := fun b => by rw [cell_of (heap_setCell_same HS.out.2.1)]; rfl
  by_cases h1 : u = wOn
  · have e1 : (takeE x 111 u []).on = true := by subst h1; rfl
    have e2 : takeB 111 u [] = true := by subst h1; rfl
    rw [e1, e2] at fin
    have HF := Lib.hid fin
    have HE := Lib.hid e2
    clear fin e1 e2
    subst h1
    go_wp2_with fail
    refine (on_t _).mono ?_
    rintro e w1 ⟨rfl, rfl⟩
    go_wp2_with fail
    go_ret2
    rw [HE.out]
    exact HF.out
  · have e1 : (takeE x 111 u []).on = false := by show decide (u = wOn) = false; exact decide_eq_false h1
    have e2 : takeB 111 u [] = decide (u = wOff) := by
      show decide (u = onF (decide (u = wOn))) = _
      rw [decide_eq_false h1]
      rfl
    rw [e1, e2] at fin
    have HF := Lib.hid fin
    have HE := Lib.hid e2
    obtain ⟨S, hS⟩ : ∃ S, S = strB u := ⟨_, rfl⟩
    have hq : (S.toList == [111, 110]) = false := by rw [hS, strB_toList]; simpa [wOn] using h1
    have hq2 : (S.toList == [111, 102, 102]) = decide (u = wOff) := by rw [hS, strB_toList]; apply Bool.eq_iff_iff.2; simp [wOff]; exact ⟨fun h => decide_eq_true h, fun h => of_decide_eq_true h⟩
    rw [show strV u = .string S from by rw [hS]]
    obtain ⟨B, hBB⟩ : ∃ B, decide (u = wOff) = B := ⟨_, rfl⟩
    rw [hBB] at hq2
    have HBB := Lib.hid hBB
    clear hBB fin e1 e2 hS h1
    go_wp2_with fail
    refine (on_f _).mono ?_
    rintro e w1 ⟨rfl, rfl⟩
    go_wp2_with fail
    go_ret2
    rw [HE.out, HBB.out]
    have := HF.out
    rw [HBB.out] at this
    exact this
def TakeNo (w : World) (E : Nat) (e : Ending) (w' : World) : Prop := ∃ v, e = .returned (.tuple #[v, .bool false]) ∧ Keep (· = E) w w'
theorem take_none (w : World) (E : Nat) (c : UInt8) {v : Value} (hs : SIn w v []) :
    Calls Tryd.prog 32 #[.pointer (some ⟨E, 0, none⟩), .int .i32 c.toNat, v] w (TakeNo w E) := by
  obtain ⟨ao, cap, rfl⟩ := hs.form
  clear hs
  rw [show ([] : List (List UInt8)).length = 0 from rfl]
  go_enter Tryd.func32, Tryd.ntmps32
  go_wp2_with fail
  go_ret2
  exact ⟨_, rfl, Keep.refl _ _⟩
theorem take_one (w : World) (E : Nat) {v : Value} {u : List UInt8} (hs : SIn w v [u]) :
    Calls Tryd.prog 32 #[.pointer (some ⟨E, 0, none⟩), .int .i32 115, v] w (TakeNo w E) := by
  obtain ⟨ao, cap, rfl⟩ := hs.form
  obtain ⟨sg, so, rfl, _, hc⟩ := hs.head
  obtain ⟨o, c, hsl, hsr⟩ := slice_strs (some ⟨sg, so, none⟩) 0 cap
  clear hs hsr
  simp only [Nat.zero_add] at hsl
  rw [show ([u] : List (List UInt8)).length = 1 from rfl]
  go_enter Tryd.func32, Tryd.ntmps32
  go_wp2_with fail
  go_ret2
  exact ⟨_, rfl, Keep.refl _ _⟩
set_option maxRecDepth 100000 in
set_option maxHeartbeats 400000 in
theorem take_115 {base : Nat} {w : World} (hV : VarsAt w) {E : Nat} {x : EvS} (hx : EvBox base w E x) (_hEb : base ≤ w.heap.size) {v : Value} {u s : List UInt8} {r : List (List UInt8)} (hs : SIn w v (u :: s :: r)) (hu : u.length ≤ 1000000) (hs1 : s.length ≤ 1000000) :
    Calls Tryd.prog 32 #[.pointer (some ⟨E, 0, none⟩), .int .i32 115, v] w (TakePost base w E (takeE x 115 u s) r (takeB 115 u s)) := by
  obtain ⟨ao, cap, rfl⟩ := hs.form
  obtain ⟨sg, so, rfl, _, hc⟩ := hs.head
  obtain ⟨o, c, hsl, hsr⟩ := slice_strs (some ⟨sg, so, none⟩) (r.length + 1) cap
  have hsr := hsr w u (s :: r) rfl hs
  obtain ⟨tg, tz, ho, _, hc2⟩ := hsr.head
  subst ho
  obtain ⟨o2, c2, hsl2, hsr2⟩ := slice_strs (some ⟨tg, tz, none⟩) r.length c
  have hsr2 := hsr2 w s r rfl hsr
  rw [show (u :: s :: r).length = r.length + 1 + 1 from rfl]
  have hq1 : (((r.length + 1 + 1 : Nat) : Int) == 0) = false := by rw [beq_eq_false_iff_ne]; omega
  have hq2 : ((r.length : Int) + 1 + 1 == 0) = false := by rw [beq_eq_false_iff_ne]; omega
  have hq3 : (0 : Int) < ((r.length + 1 + 1 : Nat) : Int) := by omega
  have hq4 : (((r.length + 1 : Nat) : Int) == 0) = false := by rw [beq_eq_false_iff_ne]; omega
  have hq5 : ((r.length : Int) + 1 == 0) = false := by rw [beq_eq_false_iff_ne]; omega
  have hq6 : (0 : Int) < ((r.length + 1 : Nat) : Int) := by omega
  have HU := Lib.hid (And.intro hu hs1)
  obtain ⟨hB, bv, pv, hh, hbv, hpv⟩ := hx
  have hx : EvBox base w E x := ⟨hB, bv, pv, hh, hbv, hpv⟩
  have HX := Lib.hid hx
  obtain ⟨b0, b1, b2, b3, b4, b5, b6, b7, b8, b9, b10⟩ := evCells hh
  have hfz := frozen_of hh
  have hsE : sg ≠ E ∧ tg ≠ E := by
    obtain ⟨_, _, e, _, _, h⟩ := hs
    obtain ⟨_, _, e', _, _, h'⟩ := hsr
    rcases h with h | ⟨g, off, cs, rfl, hg, _⟩
    · cases h
    · rcases h' with h' | ⟨g', off', cs', rfl, hg', _⟩
      · cases h'
      · simp only [Value.slice.injEq, Option.some.injEq, Addr.mk.injEq] at e e'
        refine ⟨fun e1 => ?_, fun e1 => ?_⟩
        · rw [← e.1.1, e1, hh] at hg; simp at hg
        · rw [← e'.1.1, e1, hh] at hg'; simp at hg'
  have HS := Lib.hid (And.intro hsr2 (And.intro hh (And.intro hbv (And.intro hpv hsE))))
  clear hs hx hh hsr hsr2 hu hs1 hsE
  go_enter Tryd.func32, Tryd.ntmps32
  go_wp2_with fail
  refine (number_spec hV u HU.out.1).mono ?_
  rintro e w1 ⟨rfl, k1⟩
  have a2 := k1.cell b2 (fun e => e)
  have a3 := k1.cell b3 (fun e => e)
  have hf1 : ∀ i, w1.frozen? ⟨E, i, none⟩ = false := frozen_of (k1.heap HS.out.2.1 (fun e => e))
  have hh1 := k1.heap HS.out.2.1 (fun e => e)
  have hx1 := HX.out.no k1
  have kE : Keep (· = E) w1 (w1.setCell ⟨E, 2, none⟩ (.int .i64 (numN u))) := Keep.setCell (F := (· = E)) (Keep.refl _ _) (.inl rfl) _
  have hc3 := kE.cell (k1.cell hc2 (fun e => e)) HS.out.2.2.2.2.2
  have hh2 := heap_setCell_same (i := 2) (u := .int .i64 (numN u)) hh1
  have hx2 : EvBox base (w1.setCell ⟨E, 2, none⟩ (.int .i64 (numN u))) E { x with cls := numN u } :=
    ⟨hB, bv, pv, hh2, BytesAt.keep (bn := noBan) (BytesAt.no (bn := noBan) HS.out.2.2.1 k1) hx1.foot kE, BytesAt.keep (bn := noBan) (BytesAt.no (bn := noBan) HS.out.2.2.2.1 k1) hx1.foot kE⟩
  have kw2 := k1.no.trans kE (fun _ _ e => e)
  have hst2 := hx1.strs (HS.out.1.no k1) kE
  have hpv2 := BytesAt.keep (bn := noBan) (BytesAt.no (bn := noBan) HS.out.2.2.2.1 k1) hx1.foot kE
  have HZ := Lib.hid (And.intro hx2 (And.intro kw2 (And.intro hst2 (And.intro hh2 hpv2))))
  clear hx2 kw2 hst2 hh2 kE hx1 hh1 hpv2
  go_wp2_with fail
  obtain ⟨W2, hW2⟩ : ∃ W2, W2 = w1.setCell ⟨E, 2, none⟩ (.int .i64 (numN u)) := ⟨_, rfl⟩
  rw [← hW2] at HZ hc3 ⊢
  clear hW2
  refine (unhex_spec s HU.out.2).mono ?_
  rintro e w3 ⟨V, rfl, own3, k3⟩
  obtain ⟨vo, vc, rfl⟩ := own3.form
  have hx3 := HZ.out.1.no k3
  have hh3 := k3.heap HZ.out.2.2.2.1 (fun e => e)
  have hst3 := HZ.out.2.2.1.no k3
  have hpv3 := BytesAt.no (bn := noBan) HZ.out.2.2.2.2 k3
  have d3 : w3.cell? ⟨E, 3, none⟩ = some bv := by rw [cell_of hh3]; rfl
  have hf3 : ∀ i, w3.frozen? ⟨E, i, none⟩ = false := frozen_of hh3
  have hbv3 := BytesAt.no (bn := noBan) (own3.bytes (bn := noBan) (base := base) (fun _ => Nat.zero_le _)) (Keep.refl No w3)
  go_wp2_with fail
  have kE3 : Keep (· = E) w3 (w3.setCell ⟨E, 3, none⟩ (.slice vo (unhexN s).length vc)).drew := (Keep.setCell (F := (· = E)) (Keep.refl _ _) (.inl rfl) _).drew
  have fin : TakePost base w E (takeE x 115 u s) r (takeB 115 u s) (.returned (.tuple #[.slice o2 r.length c2, .bool (numB u && unhexB s)])) (w3.setCell ⟨E, 3, none⟩ (.slice vo (unhexN s).length vc)).drew := by
    refine ⟨_, rfl, hx3.strs hst3 kE3, ⟨hB, .slice vo (unhexN s).length vc, pv, ?_, BytesAt.keep (bn := noBan) hbv3 hx3.foot kE3, ?_⟩, ?_⟩
    · exact heap_setCell_same (i := 3) (u := .slice vo (unhexN s).length vc) hh3
    · exact BytesAt.keep (bn := noBan) hpv3 hx3.foot kE3
    · exact (HZ.out.2.1.trans k3.no (fun _ _ e => e)).trans kE3 (fun _ _ e => e)
  obtain ⟨b, hb⟩ : ∃ b, b = numB u := ⟨_, rfl⟩
  obtain ⟨b', hb'⟩ : ∃ b, b = unhexB s := ⟨_, rfl⟩
  rw [← hb, ← hb'] at fin ⊢
  have HF := Lib.hid fin
  clear fin hb hb'
  have hdr : Keep No w3 w3.drew := (Keep.refl _ _).drew
  cases b with
  | true =>
    refine wp_drawN (fun w' => Keep (· = E) w3 w') [0, 1, 2, 3, 4, 5, 6, 7] [8, 9, 10, 11, 12, 13] [] (by kernel_rfl) (by kernel_rfl) (fun _ _ _ _ _ h => h) (Keep.refl _ _).drew ?_
    iterate 4 (refine earlyN_cons (v := ?_) rfl rfl rfl ?_ ?_; rotate_left; focus (
      intro w' hS
      go_simp
      try with_reducible rfl))
    refine earlyN_guarded (v := ?_) rfl rfl (by first | kernel_rfl | simp [Region.wanted, yielded, Act.put, undef]) ?_ ?_
    rotate_left
    focus (
      intro w' hS
      go_simp
      try with_reducible rfl)
    iterate 3 (refine earlyN_cons (v := ?_) rfl rfl rfl ?_ ?_; rotate_left; focus (
      intro w' hS
      go_simp
      try with_reducible rfl))
    refine earlyN_nil ?_
    iterate 3 (refine midN_cons rfl rfl (fun K hK => ?_); go_simp; refine hK _ _ hdr.no ?_; clear hK K)
    refine midN_cons rfl rfl (fun K hK => ?_)
    go_simp
    refine hK _ _ kE3 ?_
    clear hK K
    iterate 2 (refine midN_cons rfl rfl (fun K hK => ?_); go_simp; refine hK _ _ kE3 ?_; clear hK K)
    refine midN_nil (tailN_nil ?_)
    go_wp2
    go_ret2
    exact HF.out
  | false =>
    refine wp_drawN (fun w' => Keep (· = E) w3 w') [0, 1, 2, 3, 4, 5, 6, 7] [8, 9, 10, 11, 12, 13] [] (by kernel_rfl) (by kernel_rfl) (fun _ _ _ _ _ h => h) (Keep.refl _ _).drew ?_
    iterate 4 (refine earlyN_cons (v := ?_) rfl rfl rfl ?_ ?_; rotate_left; focus (
      intro w' hS
      go_simp
      try with_reducible rfl))
    refine earlyN_skip rfl rfl (by first | kernel_rfl | simp [Region.wanted, yielded, Act.put, undef]) ?_
    iterate 3 (refine earlyN_cons (v := ?_) rfl rfl rfl ?_ ?_; rotate_left; focus (
      intro w' hS
      go_simp
      try with_reducible rfl))
    refine earlyN_nil ?_
    iterate 3 (refine midN_cons rfl rfl (fun K hK => ?_); go_simp; refine hK _ _ hdr.no ?_; clear hK K)
    refine midN_cons rfl rfl (fun K hK => ?_)
    go_simp
    refine hK _ _ kE3 ?_
    clear hK K
    iterate 2 (refine midN_cons rfl rfl (fun K hK => ?_); go_simp; refine hK _ _ kE3 ?_; clear hK K)
    refine midN_nil (tailN_nil ?_)
    go_wp2
    go_ret2
    exact HF.out
def TakeAll (base : Nat) (w : World) (E : Nat) : Option (EvS × List (List UInt8)) → Ending → World → Prop
  | some (x', r) => TakePost base w E x' r true
  | none => TakeNo w E
theorem takeAll_mk {base : Nat} {w : World} {E : Nat} {x' : EvS} {r : List (List UInt8)} {b : Bool} {e : Ending} {w' : World} (h : TakePost base w E x' r b e w') : TakeAll base w E (if b = true then some (x', r) else none) e w' := by
  cases b with
  | true => exact h
  | false =>
    obtain ⟨v, h1, _, _, h2⟩ := h
    exact ⟨v, h1, h2⟩
theorem take_spec {base : Nat} {w : World} (hV : VarsAt w) {E : Nat} {x : EvS} (hx : EvBox base w E x) (hEb : base ≤ w.heap.size) {v : Value} {ws : List (List UInt8)} (hs : SIn w v ws) (hl : ∀ u ∈ ws, u.length ≤ 1000000) {c : UInt8} (hc : c ∈ signsF) :
    Calls Tryd.prog 32 #[.pointer (some ⟨E, 0, none⟩), .int .i32 c.toNat, v] w (TakeAll base w E (takeF x c ws)) := by
  cases ws with
  | nil => exact take_none w E c hs
  | cons u r =>
    have hu := hl u (List.mem_cons_self ..)
    have gen : c ≠ 115 → (∀ s, takeE x c u s = takeE x c u []) → (∀ s, takeB c u s = takeB c u []) → Calls Tryd.prog 32 #[.pointer (some ⟨E, 0, none⟩), .int .i32 c.toNat, v] w (TakePost base w E (takeE x c u []) r (takeB c u [])) →
        Calls Tryd.prog 32 #[.pointer (some ⟨E, 0, none⟩), .int .i32 c.toNat, v] w (TakeAll base w E (takeF x c (u :: r))) := by
      intro hne h1 h2 h
      have e : takeF x c (u :: r) = if takeB c u [] = true then some (takeE x c u [], r) else none := by
        cases r with
        | nil => unfold takeF; simp only; rw [if_neg hne]
        | cons s r => unfold takeF; simp only; rw [h1, h2, if_neg hne]
      rw [e]
      exact h.mono fun _ _ h => takeAll_mk h
    simp only [signsF, List.mem_cons, List.not_mem_nil, or_false] at hc
    rcases hc with rfl | rfl | rfl | rfl | rfl | rfl | rfl | rfl | rfl
    · exact gen (by decide) (fun _ => rfl) (fun _ => rfl) (take_119 hV hx hEb hs hu)
    · cases r with
      | nil => exact take_one w E hs
      | cons s r =>
        have e : takeF x 115 (u :: s :: r) = if takeB 115 u s = true then some (takeE x 115 u s, r) else none := by unfold takeF; simp
        rw [e]
        exact (take_115 hV hx hEb hs hu (hl s (by simp))).mono fun _ _ h => takeAll_mk h
    · exact gen (by decide) (fun _ => rfl) (fun _ => rfl) (take_104 hV hx hEb hs hu)
    · exact gen (by decide) (fun _ => rfl) (fun _ => rfl) (take_111 hV hx hEb hs hu)
    · exact gen (by decide) (fun _ => rfl) (fun _ => rfl) (take_107 hV hx hEb hs hu)
    · exact gen (by decide) (fun _ => rfl) (fun _ => rfl) (take_116 hV hx hEb hs hu)
    · exact gen (by decide) (fun _ => rfl) (fun _ => rfl) (take_105 hV hx hEb hs hu)
    · exact gen (by decide) (fun _ => rfl) (fun _ => rfl) (take_97 hV hx hEb hs hu)
    · exact gen (by decide) (fun _ => rfl) (fun _ => rfl) (take_121 hV hx hEb hs hu)
end Go.Proofs.YtlbjkmpdakmgeaaDoor
