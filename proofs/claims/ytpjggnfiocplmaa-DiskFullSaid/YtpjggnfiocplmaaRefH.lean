/- The document's Drop. -/
import Derived.Test.YtpjggnfiocplmaaRefG
namespace Go.Proofs.Ytpjggnfiocplmaa
open Go Go.RowKit Go.Dr

def RDiskS.push (x : RDiskS) (c : CallS) : RDiskS := { x with l := x.l ++ [c] }
def RDiskS.drop (x : RDiskS) (seg : Int) : RDiskS × Int := if (mget (segs6 x.l) seg).isSome then (x.push ⟨seg, [], true⟩, 0) else (x, 4)
/-- The document's disk behind q is x' now; what was not its own cell block is as it was. -/
def RPost [bn : Inhabited Ban] (base : Nat) (w : World) (q : Nat) (lv : Value) (x' : RDiskS) (v : Value) (e : Ending) (w' : World) : Prop :=
  e = .returned v ∧ ∃ lv', RDiskAt base w' q lv' x' ∧ Keep (· = q) w w' ∧ ∀ b, lv'.ownBlock = some b → lv.ownBlock = some b ∨ w.heap.size ≤ b
theorem RDiskAt.no [bn : Inhabited Ban] {base : Nat} {w w' : World} {q : Nat} {lv : Value} {x : RDiskS} (h : RDiskAt base w q lv x) (k : Keep No w w') : RDiskAt base w' q lv x :=
  ⟨k.heap h.blk (fun e => e), h.calls.no k, h.qb⟩
/-- d.L = v. -/
theorem RDiskAt.setL [bn : Inhabited Ban] {base : Nat} {w : World} {q : Nat} {lv v : Value} {x : RDiskS} {l : List CallS} (h : RDiskAt base w q lv x) (hv : LAt base w v l) : RDiskAt base (w.setCell ⟨q, 2, none⟩ v) q v { x with l := l } := by
  have hblk := h.blk
  have hF : Foot base w (· = q) := by
    rintro b rfl
    exact ⟨h.qb, heap_lt hblk, fun cs fr e => by rw [hblk] at e; simp at e⟩
  have hK : Keep (· = q) w (w.setCell ⟨q, 2, none⟩ v) := Keep.setCell (F := (· = q)) (Keep.refl _ _) (p := ⟨q, 2, none⟩) (.inl rfl) _
  have hb2 := heap_setCell_same (i := 2) (u := v) hblk
  refine ⟨by simpa using hb2, hv.keep hF hK (fun b hb e => ?_), h.qb⟩
  obtain ⟨_, cur, hz⟩ := hv.kind b hb
  rw [e, hblk] at hz
  simp at hz

set_option maxRecDepth 100000 in
set_option maxHeartbeats 1000000 in
theorem rdrop_spec [bn : Inhabited Ban] {base : Nat} {w : World} {q : Nat} {lv : Value} {x : RDiskS} (h : RDiskAt base w q lv x) (hb : base ≤ w.heap.size) (hl : x.l.length ≤ 1000) (hs : wsum x.l ≤ 1099511627776) (seg : Int) :
    Calls Try.prog 62 #[.pointer (some ⟨q, 0, none⟩), .int .u64 seg] w (RPost base w q lv (x.drop seg).1 (.int .i64 (x.drop seg).2)) := by
  have c2 := cell_of h.blk 2
  simp at c2
  obtain ⟨lo, lc, rfl, _, _⟩ := h.calls.form
  go_enter Try.func62, Try.ntmps62
  go_wp2_with fail
  refine (segs_spec h.calls hb hl (by omega)).mono ?_
  rintro e w1 ⟨v, rfl, hS, hk1, hn1⟩
  generalize hm : segs6 x.l = m at *
  have HM := Lib.hid hm
  clear hm
  obtain ⟨so, sc, rfl, _, _⟩ := hS.form
  go_wp2_with fail
  refine (find_spec hS seg).mono ?_
  rintro e w2 ⟨rfl, hk2⟩
  have hk := hk1.then hk2
  have hX := h.no hk
  rcases find6_get m seg with ⟨i, l, h1, h2, h3⟩ | ⟨h1, h2⟩
  · have hr : x.drop seg = (x.push ⟨seg, [], true⟩, 0) := by simp [RDiskS.drop, HM.out, h3]
    have HR := Lib.hid hr
    rw [h1]
    have hn : ¬ (i : Int) < 0 := by omega
    have c2 := hk.cell c2 (fun e => e)
    have kz : Keep No w2 (w2.alloc (.cells #[] 113)) := (Keep.refl _ _).alloc _
    have hBw : base ≤ w2.heap.size := Nat.le_trans hb hk.size
    have hmade := LAt.made base w2 hBw
    have hsrc := (hX.no kz).calls.allIn
    have hl1 : ([] : List CallS).length + x.l.length ≤ 1000000 := by simp; omega
    have hl2 : (([] : List CallS) ++ x.l).length + ([⟨seg, [], true⟩] : List CallS).length ≤ 1000000 := by simp; omega
    have hfr : (w2.heap[q]?).isSome := by rw [hX.blk]; rfl
    have HX := Lib.hid (And.intro hX hk)
    have c2' := kz.cell c2 (fun e => e)
    clear hr h1 h2 h3 hS hn1 h hk hk1 hk2 hX hl hs hfr
    go_wp2_with (at_builtin; first
      | (refine wpList_append_rcalls (v := .slice (some ⟨w2.heap.size, 0, none⟩) 0 0) rfl _ _ rfl rfl rfl hmade hsrc hl1 (Nat.le_trans hBw kz.size) ?_; intro v3 w3 hL3 hk3 hv3; have k23 : Keep No w2 w3 := kz.absorb hk3 (fun x hx => by have hx : some w2.heap.size = some x := hx; injection hx with hx; omega); have hB3 := Nat.le_trans hBw k23.size; have kB : Keep No w3 (w3.alloc (.cells #[.int .u64 seg, .slice none 0 0, .bool true] 113)) := (Keep.refl _ _).alloc _; have hone := (LAt.one ⟨seg, [], true⟩ (BytesAt.nil base w3) hB3).allIn)
      | (refine wpList_append_rcalls (v := v3) rfl _ _ rfl rfl rfl (hL3.no kB) hone hl2 (Nat.le_trans hB3 kB.size) ?_; intro v4 w4 hL4 hk4 hv4; have o3 : ∀ b, v3.ownBlock = some b → w2.heap.size ≤ b := (fun b hb => by (rcases hv3 b hb with hx | hx); (have hx : some w2.heap.size = some b := hx; injection hx with hx; omega); (have := kz.size; omega)); have k24 : Keep No w2 w4 := (k23.then kB).absorb hk4 o3; have hX4 := HX.out.1.no k24; have z2 := cell_of hX4.blk 2; have f2 := frozen_of hX4.blk 2; simp at z2; obtain ⟨o4, c4, rfl, _, _⟩ := hL4.form))
    go_ret
    rw [HR.out]
    refine ⟨rfl, _, by simpa [RDiskS.push] using hX4.setL hL4, (HX.out.2.then k24).no.trans (Keep.setCell (F := (· = q)) (Keep.refl _ _) (p := ⟨q, 2, none⟩) (.inl rfl) _) (fun _ _ e => e), fun b hb => .inr ?_⟩
    have hw := HX.out.2.size
    rcases hv4 b (by simpa [Value.ownBlock] using hb) with hx | hx
    · have := o3 b hx; omega
    · have h1 := kB.size; have h2 := k23.size; omega
  · have hr : x.drop seg = (x, 4) := by simp [RDiskS.drop, HM.out, h2]
    have HR := Lib.hid hr
    rw [h1]
    have HP := Lib.hid (And.intro hX hk)
    clear hr h1 h2 hS h hk hX
    go_wp2
    go_ret
    rw [HR.out]
    exact ⟨rfl, _, HP.out.1, HP.out.2.no, fun b hb => .inl hb⟩
end Go.Proofs.Ytpjggnfiocplmaa
