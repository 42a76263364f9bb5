/- Package pack: In. -/
import Derived.Test.YtgogfnafbeahoaaGreatPackA
import Derived.Test.YtgogfnafbeahoaaGreatLogX
namespace Go.Proofs.YtgogfnafbeahoaaGreat
open Go Go.RowKit

/-- What is left, the first error. -/
structure InS where
  l : List UInt8
  e : Int
structure InAt [bn : Inhabited Ban] (base : Nat) (w : World) (g : Nat) (s : InS) : Prop where
  at' : base ≤ g
  blk : ∃ v, w.heap[g]? = some (.cells #[v, .int .i64 s.e] 222 (0, 0)) ∧ BytesAt base w v s.l
def InS.fail (s : InS) (c : Int) : InS := { s with e := if s.e = 0 then c else s.e }
def InS.end' (s : InS) : InS := if s.l = [] then s else s.fail 2
def InS.byte (s : InS) : Nat × InS := if s.e = 0 then (match s.l with
  | [] => (0, s.fail 2)
  | b :: r => (b.toNat, { s with l := r })) else (0, s)
theorem InAt.no [bn : Inhabited Ban] {base g : Nat} {w w' : World} {s : InS} (h : InAt base w g s) (k : Keep No w w') : InAt base w' g s := by
  obtain ⟨h1, v, h2, h3⟩ := h
  exact ⟨h1, v, k.heap h2 (fun e => e), h3.no k⟩
theorem InAt.foot [bn : Inhabited Ban] {base g : Nat} {w : World} {s : InS} (h : InAt base w g s) : Foot base w (· = g) := by
  obtain ⟨h1, v, h2, h3⟩ := h
  rintro b rfl
  exact ⟨h1, heap_lt h2, fun cs fr e => by rw [h2] at e; simp at e⟩
theorem InAt.setErr [bn : Inhabited Ban] {base g : Nat} {w : World} {s : InS} (h : InAt base w g s) (c : Int) : InAt base (w.setCell ⟨g, 1, none⟩ (.int .i64 c)) g { s with e := c } := by
  have hF := h.foot
  obtain ⟨h1, v, h2, h3⟩ := h
  have k : Keep (· = g) w (w.setCell ⟨g, 1, none⟩ (.int .i64 c)) := Keep.setCell (F := (· = g)) (Keep.refl _ _) (.inl rfl) _
  exact ⟨h1, v, heap_setCell_same (i := 1) (u := .int .i64 c) h2, h3.keep hF k⟩
theorem InAt.setRest [bn : Inhabited Ban] {base g : Nat} {w : World} {s : InS} (h : InAt base w g s) {v : Value} {r : List UInt8} (hv : BytesAt base w v r) : InAt base (w.setCell ⟨g, 0, none⟩ v) g { s with l := r } := by
  have hF := h.foot
  obtain ⟨h1, u, h2, h3⟩ := h
  have k : Keep (· = g) w (w.setCell ⟨g, 0, none⟩ v) := Keep.setCell (F := (· = g)) (Keep.refl _ _) (.inl rfl) _
  exact ⟨h1, v, heap_setCell_same (i := 0) (u := v) h2, hv.keep hF k⟩
theorem keep_cell {g i : Nat} (w : World) (v : Value) : Keep (· = g) w (w.setCell ⟨g, i, none⟩ v) := Keep.setCell (F := (· = g)) (Keep.refl _ _) (.inl rfl) _

theorem iErr_spec [bn : Inhabited Ban] {base g : Nat} {w : World} {s : InS} (h : InAt base w g s) : Calls Tryz.prog 132 #[.pointer (some ⟨g, 0, none⟩)] w fun e w' => e = .returned (.int .i64 s.e) ∧ w' = w := by
  obtain ⟨_, v, h2, _⟩ := h
  have c1 := cell_of h2 1
  simp at c1
  clear h2
  go_enter Tryz.func132, Tryz.ntmps132
  go_wp2
  go_ret
  exact ⟨rfl, rfl⟩
theorem iLeft_spec [bn : Inhabited Ban] {base g : Nat} {w : World} {s : InS} (h : InAt base w g s) : Calls Tryz.prog 164 #[.pointer (some ⟨g, 0, none⟩)] w fun e w' => e = .returned (.int .i64 s.l.length) ∧ w' = w := by
  obtain ⟨_, v, h2, h3⟩ := h
  obtain ⟨ao, cap, rfl⟩ := h3.form
  have c0 := cell_of h2 0
  simp at c0
  clear h2
  go_enter Tryz.func164, Tryz.ntmps164
  go_wp2
  go_ret
  exact ⟨rfl, rfl⟩
theorem iFail_spec [bn : Inhabited Ban] {base g : Nat} {w : World} {s : InS} (h : InAt base w g s) (c : Int) : Calls Tryz.prog 133 #[.pointer (some ⟨g, 0, none⟩), .int .i64 c] w fun e w' => e = .returned (.tuple #[]) ∧ InAt base w' g (s.fail c) ∧ Keep (· = g) w w' := by
  obtain ⟨h1, v, h2, h3⟩ := id h
  have c1 := cell_of h2 1
  have f1 := frozen_of h2
  simp at c1
  have HH := Lib.hid h
  clear h2 h h3 h1
  by_cases he : s.e = 0
  · have hs : s.fail c = { s with e := c } := by unfold InS.fail; rw [if_pos he]
    rw [hs]
    rw [he] at c1
    have HE := Lib.hid he
    clear hs he
    go_enter Tryz.func133, Tryz.ntmps133
    go_wp2
    go_end0
    exact ⟨rfl, HH.out.setErr c, keep_cell _ _⟩
  · have hs : s.fail c = s := by unfold InS.fail; rw [if_neg he]
    have hq : (s.e == 0) = false := by simpa using he
    rw [hs]
    clear hs
    go_enter Tryz.func133, Tryz.ntmps133
    go_wp2
    go_end0
    exact ⟨rfl, HH.out, Keep.refl _ _⟩
theorem iEnd_spec [bn : Inhabited Ban] {base g : Nat} {w : World} {s : InS} (h : InAt base w g s) : Calls Tryz.prog 135 #[.pointer (some ⟨g, 0, none⟩)] w fun e w' => e = .returned (.int .i64 s.end'.e) ∧ InAt base w' g s.end' ∧ Keep (· = g) w w' := by
  have hl := iLeft_spec h
  by_cases h0 : s.l = []
  · have hs : s.end' = s := by unfold InS.end'; rw [if_pos h0]
    have he := iErr_spec h
    rw [hs]
    rw [h0] at hl
    have HH := Lib.hid h
    clear hs h0 h
    go_enter Tryz.func135, Tryz.ntmps135
    go_wp2_with (first
      | (go_at_call 132; refine he.mono ?_; rintro e w2 ⟨rfl, rfl⟩)
      | (go_at_call 164; refine hl.mono ?_; rintro e w1 ⟨rfl, rfl⟩))
    go_ret
    exact ⟨rfl, HH.out, Keep.refl _ _⟩
  · have hs : s.end' = s.fail 2 := by unfold InS.end'; rw [if_neg h0]
    have hf := iFail_spec h 2
    have hpos : (0 : Int) < (s.l.length : Int) := by have := List.length_pos_iff.2 h0; omega
    rw [hs]
    clear hs h0 h
    go_enter Tryz.func135, Tryz.ntmps135
    go_wp2_with (first
      | (go_at_call 132; refine (iErr_spec hi).mono ?_; rintro e w2 ⟨rfl, rfl⟩)
      | (go_at_call 133; refine hf.mono ?_; rintro e w2 ⟨rfl, hi, k2⟩)
      | (go_at_call 164; refine hl.mono ?_; rintro e w1 ⟨rfl, rfl⟩))
    go_ret
    exact ⟨rfl, hi, k2⟩
theorem iByte_spec [bn : Inhabited Ban] {base g : Nat} {w : World} {s : InS} (h : InAt base w g s) : Calls Tryz.prog 96 #[.pointer (some ⟨g, 0, none⟩)] w fun e w' => e = .returned (.int .u8 s.byte.1) ∧ InAt base w' g s.byte.2 ∧ Keep (· = g) w w' := by
  have he := iErr_spec h
  by_cases h0 : s.e = 0
  · cases hl : s.l with
    | nil =>
      have hs : s.byte = (0, s.fail 2) := by unfold InS.byte; rw [if_pos h0, hl]
      have hf := iFail_spec h 2
      obtain ⟨h1, v, h2, h3⟩ := id h
      obtain ⟨ao, cap, rfl⟩ := h3.form
      have c0 := cell_of h2 0
      simp at c0
      rw [hl] at c0
      rw [hs]
      rw [h0] at he
      clear hs h h2 h3
      go_enter Tryz.func96, Tryz.ntmps96
      go_wp2_with (first
        | (go_at_call 133; refine hf.mono ?_; rintro e w2 ⟨rfl, hi, k2⟩)
        | (go_at_call 132; refine he.mono ?_; rintro e w1 ⟨rfl, rfl⟩))
      go_ret
      exact ⟨rfl, hi, k2⟩
    | cons b r =>
      have hs : s.byte = (b.toNat, { s with l := r }) := by unfold InS.byte; rw [if_pos h0, hl]
      obtain ⟨h1, v, h2, h3⟩ := id h
      obtain ⟨ao, cap, rfl⟩ := h3.form
      rw [hl] at h2 h3
      obtain ⟨hcl, hcm⟩ : (b :: r).length ≤ cap ∧ cap ≤ maxLen := by obtain ⟨_, _, hq, q1, q2, _⟩ := h3; simp at hq; omega
      obtain ⟨o, c, hsl, hsub⟩ := slice_l ao (b :: r).length cap 1 1 rfl (by simp) hcl
      have hrest := hsub base w (b :: r) h3
      have e1 : ((b :: r).take (b :: r).length).drop 1 = r := by simp
      rw [e1] at hrest
      have hlr : (b :: r).length - 1 = r.length := by simp
      rw [hlr] at hrest
      simp only [hlr] at hsl
      simp only [List.length_cons] at hsl
      obtain ⟨ad, hao, _, hcell⟩ : ∃ ad, ao = some ad ∧ True ∧ w.cell? ad = some (u8v b) := by
        obtain ⟨_, _, hq, _, _, _, hc⟩ := h3
        simp only [Value.slice.injEq] at hq
        obtain ⟨rfl, _, rfl⟩ := hq
        obtain ⟨ad, e, _, hc⟩ := hc 0 b rfl
        have e0 : ad.add 0 = ad := by simp [Addr.add]
        rw [e0] at hc
        exact ⟨ad, e, trivial, hc⟩
      subst hao
      have c0 := cell_of h2 0
      have f0 := frozen_of h2
      simp at c0
      have hset := h.setRest hrest
      rw [hs]
      rw [h0] at he
      have HH := Lib.hid hset
      clear hs h h2 h3 hset hrest hsub hl h0 e1 hlr
      unfold u8v at hcell
      go_enter Tryz.func96, Tryz.ntmps96
      go_wp2_with (go_at_call 132; refine he.mono ?_; rintro e w1 ⟨rfl, rfl⟩)
      go_ret
      exact ⟨rfl, HH.out, keep_cell _ _⟩
  · have hs : s.byte = (0, s) := by unfold InS.byte; rw [if_neg h0]
    have hq : (s.e == 0) = false := by simpa using h0
    have HH := Lib.hid h
    rw [hs]
    clear hs h
    go_enter Tryz.func96, Tryz.ntmps96
    go_wp2_with (go_at_call 132; refine he.mono ?_; rintro e w1 ⟨rfl, rfl⟩)
    go_ret
    exact ⟨rfl, HH.out, Keep.refl _ _⟩
end Go.Proofs.YtgogfnafbeahoaaGreat
