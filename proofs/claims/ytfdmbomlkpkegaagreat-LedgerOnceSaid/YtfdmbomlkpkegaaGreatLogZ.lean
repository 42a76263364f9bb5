/- Package seglog: Append, and logs on disks. -/
import Derived.Test.YtfdmbomlkpkegaaGreatLogY
import Derived.Test.YtfdmbomlkpkegaaGreatSortX
import Derived.Test.YtfdmbomlkpkegaaGreatDisk
import Derived.Test.YtfdmbomlkpkegaaGreatFound
import Derived.OwnWalk
/-! ## LogK -/
namespace Go.Proofs.YtfdmbomlkpkegaaGreat
open Go Go.RowKit Go.Dr

def newSeg (L : LogS) : SegV := { n := match L.segs.getLast? with | none => 1 | some s => s.n + 1, first := L.next, count := 0, size := 0, whole := true, headed := true }
def appS (L : LogS) : SegV := if freshB L (lastN L) then newSeg L else (L.segs.getLast?).getD (newSeg L)
def appB (L : LogS) (r : Bytes) : Bytes := if freshB L (lastN L) then headB L.next ++ recB r else recB r
def LogS.append (L : LogS) (r : Bytes) : LogS :=
  { size := L.size, segs := (if freshB L (lastN L) then L.segs else L.segs.dropLast) ++ [{ appS L with count := (appS L).count + 1, size := (appS L).size + (appB L r).length }], recs := L.recs ++ [r], next := L.next + 1 }
def BoxAt (w : World) (B : Nat) (s : SegV) : Prop := w.heap[B]? = some (.cells (lsegCell s).toArray 265 (0, 0))

theorem lsegCells_set (l : List SegV) (s s1 : SegV) : (((((((lsegCells (l ++ [s])).set (l.length * 6) (.int .u64 s1.n)).set (l.length * 6 + 1) (.int .u64 s1.first)).set (l.length * 6 + 2) (.int .u64 s1.count)).set (l.length * 6 + 3) (.int .i64 s1.size)).set (l.length * 6 + 4) (.bool s1.whole)).set (l.length * 6 + 5) (.bool s1.headed)) = lsegCells (l ++ [s1]) := by
  rw [lsegCells_append, lsegCells_append]
  have hl := lsegCells_length l
  have e : ∀ (f : Nat) (b : List Value) (u : Value), (lsegCells l ++ b).set (l.length * 6 + f) u = lsegCells l ++ b.set f u := fun f b u => by
    rw [List.set_append_right _ _ (by omega), hl]
    congr 2
    omega
  have e0 := e 0
  rw [Nat.add_zero] at e0
  rw [e0, e 1, e 2, e 3, e 4, e 5]
  rfl
theorem lseg_set {w : World} {base rg cap m : Nat} {l : List SegV} {s s1 : SegV} (h : LSegsAt base w (.slice (some ⟨rg, 0, none⟩) m cap) (l ++ [s])) (hm : m = l.length + 1) (k : Nat) (hk : k = l.length) :
    LSegsAt base ((((((w.setCell ⟨rg, k * 6, none⟩ (.int .u64 s1.n)).setCell ⟨rg, k * 6 + 1, none⟩ (.int .u64 s1.first)).setCell ⟨rg, k * 6 + 2, none⟩ (.int .u64 s1.count)).setCell ⟨rg, k * 6 + 3, none⟩ (.int .i64 s1.size)).setCell ⟨rg, k * 6 + 4, none⟩ (.bool s1.whole)).setCell ⟨rg, k * 6 + 5, none⟩ (.bool s1.headed)) (.slice (some ⟨rg, 0, none⟩) m cap) (l ++ [s1]) := by
  subst hk
  have e1 : (l ++ [s]).length = m := by rw [hm]; simp
  have e2 : (l ++ [s1]).length = m := by rw [hm]; simp
  unfold LSegsAt at h ⊢
  rw [e2, ← lsegCells_set l s s1]
  rw [e1] at h
  exact (((((((h.stored _ _).1).stored _ _).1.stored _ _).1.stored _ _).1.stored _ _).1.stored _ _).1
theorem keep_set6 {w : World} {rg : Nat} (a b c d e f : Nat) (u0 u1 u2 u3 u4 u5 : Value) :
    Keep (· = rg) w ((((((w.setCell ⟨rg, a, none⟩ u0).setCell ⟨rg, b, none⟩ u1).setCell ⟨rg, c, none⟩ u2).setCell ⟨rg, d, none⟩ u3).setCell ⟨rg, e, none⟩ u4).setCell ⟨rg, f, none⟩ u5) := by
  have hk := fun (x : World) (hx : Keep (· = rg) w x) (i : Nat) (u : Value) => Keep.setCell (F := (· = rg)) hx (p := ⟨rg, i, none⟩) (.inl rfl) u
  exact hk _ (hk _ (hk _ (hk _ (hk _ (hk _ (Keep.refl _ _) a u0) b u1) c u2) d u3) e u4) f u5

set_option maxRecDepth 100000 in
set_option maxHeartbeats 4000000 in
theorem lAppend_ok [bn : Inhabited Ban] {base : Nat} {w : World} {g p n s : Nat} {sv lv wv pv : Value} {L : LogS} {d : DiskS} {r : Bytes} (h : LogAt base w g p sv lv L) (hd : DiskAt base w p n s wv d) (hb : base ≤ w.heap.size) (hT : ban.top ≤ w.heap.size)
    (hp : BytesAt base w pv r) (hr : r.length ≤ 1048576) (hsm : Small d) (hok : (d.append (appS L).n (appB L r)).2 = 0) (hnx : L.next + 1 ≤ 9223372036854775807) (hln : ∀ s ∈ L.segs, 0 ≤ s.n ∧ s.n + 1 ≤ 9223372036854775807 ∧ s.count + 1 ≤ 9223372036854775807 ∧ s.size ≤ 1099511627776) (hfew : L.segs.length ≤ 1000000) (hrecs : L.recs.length ≤ 1000000) :
    Calls Tryz.prog 112 #[.pointer (some ⟨g, 0, none⟩), pv] w fun e w' => e = .returned (.tuple #[.int .u64 L.next, .int .i64 0]) ∧ ∃ n' s' wv' sv' lv', LogAt base w' g p sv' lv' (L.append r) ∧ DiskAt base w' p n' s' wv' (d.append (appS L).n (appB L r)).1 ∧
      Keep (fun b => foot p n s wv b ∨ lfoot g sv lv b) w w' ∧ ∀ b, foot p n' s' wv' b ∨ lfoot g sv' lv' b → (foot p n s wv b ∨ lfoot g sv lv b) ∨ w.heap.size ≤ b := by
  have hp0 := hp
  obtain ⟨po, pc, rfl⟩ := hp.form
  have hrec := lRecord_spec hp0 hT (by omega)
  have hri : ¬ ((1048576 : Int) < (r.length : Int)) := by omega
  obtain ⟨so, sc, rfl, hsc1, hsc2⟩ := h.segs.form
  unfold maxLen at hsc2
  obtain ⟨fb, hfb⟩ : ∃ fb, freshB L (lastN L) = fb := ⟨_, rfl⟩
  have hl := fun (w' : World) (k : Keep No w w') => llast_spec (h.no k)
  have hf := fun (w' : World) (k : Keep No w w') => lfresh_spec (h.no k) (lastN L)
  rw [hfb] at hf
  have HF := Lib.hid (And.intro hl (And.intro hf hfb))
  have HA := Lib.hid (And.intro h (And.intro hd (And.intro hb (And.intro hT (And.intro hp0 (And.intro hsm hok))))))
  have HB := Lib.hid (And.intro hnx (And.intro hln (And.intro hfew (And.intro hrecs hr))))
  have c4 := cell_of h.blk 4
  have c2 := cell_of h.blk 2
  simp at c2 c4
  generalize hrl0 : r.length = rl at *
  have HR0 := Lib.hid hrl0
  clear hrl0
  clear hl hf hfb hp hp0 hr hd hb hT hsm hok hnx hln hfew hrecs hsc1 hsc2
  go_enter Tryz.func112, Tryz.ntmps112
  go_upto_block 1 with (first
    | (go_at_call 164; refine (HF.out.2.1 _ ((k1.alloc _).then k3)).mono ?_; rintro e w4 ⟨rfl, rfl⟩; have c2' := ((k1.alloc (.cells #[.int .u64 1, .int .u64 L.next, .int .u64 0, .int .i64 0, .bool true, .bool true] 265)).then k3).cell c2 (fun e => e))
    | (go_at_call 165; refine (HF.out.1 _ (k1.alloc _)).mono ?_; rintro e w3 ⟨rfl, k3⟩)
    | (go_at_call 163; refine hrec.mono ?_; rintro e w1 ⟨v1, rfl, own1, k1⟩; obtain ⟨o1, c1, rfl⟩ := own1.form; have c4' := k1.cell c4 (fun e => e)))
  have hk4 : Keep No w w4 := (k1.alloc (.cells #[.int .u64 1, .int .u64 L.next, .int .u64 0, .int .i64 0, .bool true, .bool true] 265)).then k3
  have hbox := k3.heap (heap_new w1 (.cells #[.int .u64 1, .int .u64 L.next, .int .u64 0, .int .i64 0, .bool true, .bool true] 265)) (fun e => e)
  have hBge : w.heap.size ≤ w1.heap.size := k1.size
  have own4 := own1.keep ((Keep.refl No w1).alloc (.cells #[.int .u64 1, .int .u64 L.next, .int .u64 0, .int .i64 0, .bool true, .bool true] 265) |>.then k3) (fun _ _ e => e)
  obtain ⟨B, hBB⟩ : ∃ B, B = w1.heap.size := ⟨_, rfl⟩
  rw [← hBB] at hbox hBge ⊢
  have H4 := Lib.hid (And.intro hk4 (And.intro hBge own4))
  clear hrec own1 c4 c4' c2 k1 k3 hBB hk4 own4
  go_cut [] (fun wx => BoxAt wx B (appS L) ∧ Keep (· = B) w4 wx)
  case first =>
    have b0 := cell_of hbox 0
    have f0 := frozen_of hbox 0
    simp at b0
    have e1 : appS L = if fb then newSeg L else (L.segs.getLast?).getD (newSeg L) := by unfold appS; rw [HF.out.2.2]
    cases fb with
    | true =>
      have e1 : appS L = newSeg L := e1
      by_cases hne : L.segs = []
      · have hm0 : L.segs.length = 0 := by rw [hne]; rfl
        have e2 : newSeg L = { n := 1, first := L.next, count := 0, size := 0, whole := true, headed := true } := by unfold newSeg; rw [hne]; rfl
        have hfin : BoxAt w4 B (appS L) := by unfold BoxAt; rw [e1, e2]; exact hbox
        have HFI := Lib.hid hfin
        clear hfin hne e1 e2 hbox
        generalize L.segs.length = m at *
        subst hm0
        go_wp2
        go_meet
        exact ⟨HFI.out, Keep.refl _ _⟩
      · obtain ⟨k, sl, hk, hks, hl⟩ := segs_last hne
        have e2 : newSeg L = { n := sl.n + 1, first := L.next, count := 0, size := 0, whole := true, headed := true } := by unfold newSeg; rw [hl]
        have hn := (HB.out.2.1 sl (List.mem_of_getElem? hks))
        obtain ⟨rg, rfl, s0, _⟩ := (HA.out.1.no H4.out.1).segs.cell hks
        have hnw : IntKind.u64.wrap (sl.n + 1) = sl.n + 1 := wraps_u64 _ (by omega) (by omega)
        have hbx := heap_setCell_same (i := 0) (u := .int .u64 (sl.n + 1)) hbox
        have hfin : BoxAt (w4.setCell ⟨B, 0, none⟩ (.int .u64 (sl.n + 1))) B (appS L) := by unfold BoxAt; rw [e1, e2, hbx]; rfl
        have hkf : Keep (· = B) w4 (w4.setCell ⟨B, 0, none⟩ (.int .u64 (sl.n + 1))) := Keep.setCell (F := (· = B)) (Keep.refl _ _) (p := ⟨B, 0, none⟩) (.inl rfl) _
        have HFI := Lib.hid (And.intro hfin hkf)
        have hfl := HB.out.2.2.1
        clear hfin hkf hbx hn hne e1 e2 hbox hl hks
        generalize L.segs.length = m at *
        have hw1 : IntKind.i64.wrap ((m : Int) - 1) = (k : Int) := by rw [show (m : Int) - 1 = (k : Int) by omega]; exact IntWalk.i64_in _ (by omega)
        have hm1 : (m : Int) - 1 = (k : Int) := by omega
        have hm0 : (0 : Int) < (m : Int) := by omega
        have hkm : (k : Int) < (m : Int) := by omega
        have hkb : (k : Int) ≤ 1099511627776 := by omega
        clear hk hfl
        go_wp2
        go_meet
        exact HFI.out
    | false =>
      have hne : L.segs ≠ [] := fun e => by
        have h1 := HF.out.2.2
        unfold freshB at h1
        rw [e] at h1
        cases h1
      obtain ⟨k, sl, hkk, hks, hl⟩ := segs_last hne
      have e2 : appS L = sl := by rw [e1, hl]; rfl
      obtain ⟨rg, rfl, s0, s1, s2, s3, s4, s5⟩ := (HA.out.1.no H4.out.1).segs.cell hks
      have hfl := HB.out.2.2.1
      have hx := heap_setCell_same (i := 5) (u := .bool sl.headed) (heap_setCell_same (i := 4) (u := .bool sl.whole) (heap_setCell_same (i := 3) (u := .int .i64 sl.size) (heap_setCell_same (i := 2) (u := .int .u64 sl.count) (heap_setCell_same (i := 1) (u := .int .u64 sl.first) (heap_setCell_same (i := 0) (u := .int .u64 sl.n) hbox)))))
      have hk := fun (x : World) (hx : Keep (· = B) w4 x) (i : Nat) (u : Value) => Keep.setCell (F := (· = B)) hx (p := ⟨B, i, none⟩) (.inl rfl) u
      have hkx := hk _ (hk _ (hk _ (hk _ (hk _ (hk _ (Keep.refl _ _) 0 (.int .u64 sl.n)) 1 (.int .u64 sl.first)) 2 (.int .u64 sl.count)) 3 (.int .i64 sl.size)) 4 (.bool sl.whole)) 5 (.bool sl.headed)
      have b1 := cell_of hbox 1
      have f1 := frozen_of hbox 1
      have b2 := cell_of hbox 2
      have f2 := frozen_of hbox 2
      have b3 := cell_of hbox 3
      have f3 := frozen_of hbox 3
      have b4 := cell_of hbox 4
      have f4 := frozen_of hbox 4
      have b5 := cell_of hbox 5
      have f5 := frozen_of hbox 5
      simp at b1 b2 b3 b4 b5
      have HFI := Lib.hid (And.intro hx (And.intro hkx e2))
      clear hne e1 hl hks hx hk hkx e2 hbox
      generalize L.segs.length = m at *
      have hw1 : IntKind.i64.wrap ((m : Int) - 1) = (k : Int) := by rw [show (m : Int) - 1 = (k : Int) by omega]; exact IntWalk.i64_in _ (by omega)
      have hm1 : (m : Int) - 1 = (k : Int) := by omega
      have hm0 : (0 : Int) < (m : Int) := by omega
      have hkm : (k : Int) < (m : Int) := by omega
      have hkb : (k : Int) ≤ 1099511627776 := by omega
      clear hkk hfl
      go_wp2
      go_meet
      refine ⟨?_, HFI.out.2.1⟩
      unfold BoxAt
      rw [HFI.out.2.2, HFI.out.1]
      rfl
  case rest =>
    obtain ⟨hbox5, k5⟩ := hcut
    generalize wc = w5 at *
    have hk5 : Keep No w w5 := H4.out.1.absorb k5 (fun b e => by rw [e]; exact H4.out.2.1)
    have own5 := H4.out.2.2.keep k5 (fun b e1 e2 => by
      subst e2
      rcases H4.out.2.2.2 with ⟨hq, _⟩ | ⟨g', cap', cur', hq, _, hz, _⟩
      · rw [hq] at e1; simp [Value.ownBlock] at e1
      · rw [hq] at e1; simp [Value.ownBlock] at e1; subst e1; rw [hbox] at hz; simp at hz)
    have hB5 : B < w5.heap.size := heap_lt hbox5
    have H5 := Lib.hid (And.intro hk5 (And.intro own5 (And.intro hbox5 hB5)))
    have c4 := cell_of (HA.out.1.no hk5).blk 4
    simp at c4
    have hrl : (recB r).length ≤ 1099511627776 := by rw [recB_length]; have := HB.out.2.2.2.2; have := HR0.out; omega
    have HRL := Lib.hid hrl
    clear hk5 own5 hbox5 hB5 hbox k5 hrl
    generalize (recB r).length = xr at *
    go_upto_if 59 with fail
    go_cut [6] (fun v6 wx => BytesAt base wx v6 (appB L r) ∧ Keep No w5 wx)
    case first =>
      have e1 : appB L r = if fb then headB L.next ++ recB r else recB r := by unfold appB; rw [HF.out.2.2]
      have hlh := lHead_spec (w := w5) (Nat.le_trans HA.out.2.2.2.1 H5.out.1.size) L.next
      have hb5 := H5.out.2.1.bytes (base := base) (fun _ => HA.out.2.2.2.1)
      have HE := Lib.hid (And.intro e1 hb5)
      clear e1 hb5
      cases fb with
      | true =>
        go_wp2_with (first
          | (at_builtin; refine wpList_append_bytes rfl _ _ rfl w5.heap.size own6 (HE.out.2.no k6) rfl rfl (by rw [headB_length, recB_length]; have := HB.out.2.2.2.2; have := HR0.out; omega) k6.size ?_; intro v7 w7 own7 k7)
          | (go_at_call 166; refine hlh.mono ?_; rintro e w6 ⟨v6, rfl, own6, k6⟩))
        go_meet
        have e : appB L r = headB L.next ++ recB r := HE.out.1
        rw [e]
        exact ⟨own7.bytes (base := base) (fun _ => Nat.le_trans HA.out.2.2.2.1 H5.out.1.size), k6.trans k7 (fun b hb h => by have := (own6.lt b h).1; omega)⟩
      | false =>
        go_wp2
        go_meet
        have e : appB L r = recB r := HE.out.1
        rw [e]
        exact ⟨HE.out.2, Keep.refl _ _⟩
    case rest =>
      obtain ⟨hb6, k6⟩ := hcut
      generalize wc = w6 at *
      obtain ⟨a6, c6, rfl⟩ := hb6.form
      have hlb : (appB L r).length ≤ 1099511627776 := by
        have h1 := HB.out.2.2.2.2
        have h2 := HR0.out
        unfold appB
        split
        · rw [List.length_append, headB_length, recB_length]; omega
        · rw [recB_length]; omega
      have hk6 := H5.out.1.then k6
      have hbox6 : BoxAt w6 B (appS L) := k6.heap H5.out.2.2.1 (fun e => e)
      have hD6 := HA.out.2.1.no hk6
      have c0 := cell_of (HA.out.1.no hk6).blk 0
      simp at c0
      have b0 := cell_of hbox6 0
      simp [lsegCell] at b0
      have happ := fun (w' : World) (k : Keep No w6 w') => append_spec (hD6.no k) (Nat.le_trans HA.out.2.2.1 (hk6.then k).size) HA.out.2.2.2.2.2.1 (appS L).n (hb6.no k) hlb
      rw [HA.out.2.2.2.2.2.2] at happ
      have H6 := Lib.hid (And.intro hk6 (And.intro hbox6 hb6))
      have HLB := Lib.hid hlb
      clear hk6 hbox6 hb6 hD6 hlb k6 c4
      generalize hxb : (appB L r).length = xb at *
      have HXB := Lib.hid hxb
      clear hxb
      go_upto_region 15 with fail
      have hfg : ¬ foot p n s wv g := HA.out.1.apart HA.out.2.1 (.inl rfl)
      have hfB : ¬ foot p n s wv B := fun e => by have := HA.out.2.1.foot_lt B e; have := H4.out.2.1; omega
      refine wp_drawN (fun w' => Keep (foot p n s wv) w6 w') [0, 1, 2, 3, 4, 5, 6] [7] [8] (by kernel_rfl) (by kernel_rfl) (fun _ _ _ _ _ h => h) (Keep.refl _ _).drew ?_
      have kd : Keep No w6 w6.drew := (Keep.refl _ _).drew
      iterate 7 (refine earlyN_cons (v := ?_) rfl rfl rfl ?_ ?_; rotate_left; focus (
        intro w' hq
        have c0' := hq.cell c0 hfg
        have b0' := hq.cell b0 hfB
        go_simp
        try with_reducible rfl))
      refine earlyN_nil ?_
      refine midN_cons rfl rfl (fun K hK => ?_)
      go_simp
      refine (happ _ kd).mono ?_
      rintro e w8 ⟨rfl, n8, s8, wv8, hD8, k8, f8⟩
      have k68 : Keep (foot p n s wv) w6 w8 := kd.no.trans k8 (fun _ _ e => e)
      refine hK _ _ k68 ?_
      clear hK K
      refine midN_nil (tailN_cons rfl (tailN_nil ?_))
      have hD6 := HA.out.2.1.no H6.out.1
      have hL8 := (HA.out.1.no H6.out.1).byD hD6 k68
      have hp8 := (HA.out.2.2.2.2.1.no H6.out.1).keep hD6.foot_ok k68
      have hbox8 := k68.heap H6.out.2.1 hfB
      have hk8 : Keep (foot p n s wv) w w8 := H6.out.1.no.trans k68 (fun _ _ e => e)
      have h6sz := (H6.out.1.then kd).size
      have b2 := cell_of hbox8 2
      have f2 := frozen_of hbox8 2
      have b3 := cell_of hbox8 3
      have f3 := frozen_of hbox8 3
      simp [lsegCell] at b2 b3
      -- the box, turned
      obtain ⟨x1, hx1⟩ : ∃ x1, x1 = (appS L).count + 1 := ⟨_, rfl⟩
      obtain ⟨z1, hz1⟩ : ∃ z1, z1 = (appS L).size + xb := ⟨_, rfl⟩
      obtain ⟨s1, hs1⟩ : ∃ s1 : SegV, s1 = { appS L with count := x1, size := z1 } := ⟨_, rfl⟩
      have hxs := heap_setCell_same (i := 3) (u := .int .i64 z1) (heap_setCell_same (i := 2) (u := .int .u64 x1) hbox8)
      have hbox9 : BoxAt ((w8.setCell ⟨B, 2, none⟩ (.int .u64 x1)).setCell ⟨B, 3, none⟩ (.int .i64 z1)) B s1 := by
        unfold BoxAt
        rw [hxs, hs1]
        rfl
      have hk9 : Keep (· = B) w8 ((w8.setCell ⟨B, 2, none⟩ (.int .u64 x1)).setCell ⟨B, 3, none⟩ (.int .i64 z1)) :=
        Keep.setCell (F := (· = B)) (Keep.setCell (F := (· = B)) (Keep.refl _ _) (p := ⟨B, 2, none⟩) (.inl rfl) _) (p := ⟨B, 3, none⟩) (.inl rfl) _
      have hcs : (appS L).count + 1 ≤ 9223372036854775807 ∧ (appS L).size ≤ 1099511627776 := by
        unfold appS
        split
        · exact ⟨by show 0 + 1 ≤ 9223372036854775807; decide, by show 0 ≤ 1099511627776; decide⟩
        · cases hgl : L.segs.getLast? with
          | none => exact ⟨by show 0 + 1 ≤ 9223372036854775807; decide, by show 0 ≤ 1099511627776; decide⟩
          | some sl => have := HB.out.2.1 sl (List.mem_of_getLast? hgl); exact ⟨this.2.2.1, this.2.2.2⟩
      have hw2 : IntKind.u64.wrap (((appS L).count : Int) + 1) = (x1 : Int) := by rw [wraps_u64 _ (by omega) (by omega)]; omega
      have hzz : ((appS L).size : Int) + (xb : Int) = (z1 : Int) := by omega
      have hw3 : IntKind.i64.wrap (z1 : Int) = (z1 : Int) := by have := HLB.out; exact IntWalk.i64_in _ (by omega)
      have hzb : (z1 : Int) ≤ 9223372036854775807 := by have := HLB.out; omega
      have H8 := Lib.hid (And.intro hbox9 (And.intro hk9 (And.intro hL8 (And.intro hp8 (And.intro hk8 (And.intro h6sz (And.intro hD8 (And.intro f8 (And.intro hs1 (And.intro hcs (And.intro hbox8 (And.intro hx1 hz1))))))))))))
      clear hbox9 hk9 hL8 hp8 hk8 h6sz hD8 f8 hs1 hcs hx1 hz1 hxs hD6 k68 k8 kd c0 b0 happ hbox8
      generalize hcn : (appS L).count = cn at *
      generalize hzn : (appS L).size = zn at *
      have HCN := Lib.hid (And.intro hcn hzn)
      clear hcn hzn
      go_upto_if 88 with fail
      generalize ((w8.setCell ⟨B, 2, none⟩ (.int .u64 x1)).setCell ⟨B, 3, none⟩ (.int .i64 z1)) = w9 at *
      clear b2 f2 b3 f3 hw2 hzz hw3 hzb
      obtain ⟨hbox9, hk9, hL8, hp8, hk8, h6sz, hD8, f8, hs1, _, hbox8, hx1, hz1⟩ := H8.out
      have hBb : base ≤ B := Nat.le_trans HA.out.2.2.1 H4.out.2.1
      have hFB := box_foot hbox8 hBb
      have hLB : ∀ b, lfoot g (.slice so L.segs.length sc) lv b → b ≠ B := fun b hb e => by have h1 := HA.out.1.lt b hb; have h2 := H4.out.2.1; omega
      have hL9 := hL8.keep hFB hk9 hLB
      have hD9 := hD8.keep hFB hk9 (fun b hb e => by
        rcases f8 b hb with h | h
        · exact hfB (e ▸ h)
        · have := heap_lt H6.out.2.1
          have := (Keep.refl No w6).drew.size
          omega)
      have hp9 := hp8.keep hFB hk9
      have hk69 : Keep (foot p n s wv) w w9 := hk8.trans hk9 (fun b hb e => by have := H4.out.2.1; omega)
      have HW := Lib.hid (And.intro hL9 (And.intro hD9 (And.intro hp9 (And.intro hk69 (And.intro f8 (And.intro hs1 (And.intro hx1 (And.intro hz1 h6sz))))))))
      clear hD9 hp9 hk69 hk9 hL8 hp8 hk8 h6sz hD8 f8 hs1 hx1 hz1 hbox8 hFB hLB hBb H8
      go_cut [] (fun wx => ∃ sv', LogAt base wx g p sv' lv { L with segs := (if fb then L.segs else L.segs.dropLast) ++ [s1] } ∧ Keep (lfoot g (.slice so L.segs.length sc) lv) w9 wx ∧ ∀ b, sv'.ownBlock = some b → (Value.slice so L.segs.length sc).ownBlock = some b ∨ w9.heap.size ≤ b)
      case first =>
        have d2 := cell_of hL9.blk 2
        simp at d2
        have b0 := cell_of hbox9 0
        have b1 := cell_of hbox9 1
        have b2 := cell_of hbox9 2
        have b3 := cell_of hbox9 3
        have b4 := cell_of hbox9 4
        have b5 := cell_of hbox9 5
        simp [lsegCell] at b0 b1 b2 b3 b4 b5
        have hng := hL9.not_seg
        have hnb : ¬ (Value.slice so L.segs.length sc).ownBlock = some B := fun e => by have := HA.out.1.lt B (.inr (.inl e)); have := H4.out.2.1; omega
        cases fb with
        | true =>
          have gb := hL9.gb
          have hsegs9 := hL9
          have hfew := HB.out.2.2.1
          have hwb : base ≤ w9.heap.size := Nat.le_trans HA.out.2.2.1 HW.out.2.2.2.1.size
          have HZ := Lib.hid (And.intro hsegs9 (And.intro hfew (And.intro hwb hbox9)))
          clear hsegs9 hfew hwb hL9 hbox9
          go_upto_region 21 with fail
          refine wp_drawN (fun w' => Keep (fun b => (Value.slice so L.segs.length sc).ownBlock = some b) w9 w') [0, 1, 2, 3, 4, 5] [6, 7] [8, 9, 10] (by kernel_rfl) (by kernel_rfl) (fun _ _ _ _ _ h => h) (Keep.refl _ _).drew ?_
          iterate 6 (refine earlyN_cons (v := ?_) rfl rfl rfl ?_ ?_; rotate_left; focus (
            intro w' hq
            have d2' := hq.cell d2 hng
            have b0' := hq.cell b0 hnb
            have b1' := hq.cell b1 hnb
            have b2' := hq.cell b2 hnb
            have b3' := hq.cell b3 hnb
            have b4' := hq.cell b4 hnb
            have b5' := hq.cell b5 hnb
            go_simp
            try with_reducible rfl))
          refine earlyN_nil ?_
          have kd : Keep No w9 (w9.alloc (.cells #[.int .u64 s1.n, .int .u64 s1.first, .int .u64 s1.count, .int .i64 s1.size, .bool s1.whole, .bool s1.headed] 265)).drew := ((Keep.refl _ _).alloc _).drew
          have hb2 := heap_new w9 (.cells #[.int .u64 s1.n, .int .u64 s1.first, .int .u64 s1.count, .int .i64 s1.size, .bool s1.whole, .bool s1.headed] 265)
          refine midN_cons rfl rfl (fun K hK => ?_)
          go_simp
          refine hK _ _ kd.no ?_
          clear hK K
          have hL2 := HZ.out.1.no kd
          refine midN_cons rfl rfl (fun K hK => ?_)
          refine wp_append_lseg (c := s1) _ _ rfl hL2.segs rfl (B := w9.heap.size) hb2 rfl (by have := HZ.out.2.1; omega) (Nat.le_trans HZ.out.2.2.1 kd.size) ?_
          intro v6 w11 hs6 k6 own6
          have kS : Keep (fun b => (Value.slice so L.segs.length sc).ownBlock = some b) w9 w11 := kd.no.trans k6 (fun _ _ e => e)
          refine hK _ _ kS ?_
          clear hK K
          refine midN_nil (tailN_cons rfl (tailN_cons rfl (tailN_cons rfl (tailN_nil ?_))))
          obtain ⟨hb6, hr6⟩ := hL2.pushedSeg k6 hs6
          obtain ⟨a7, c7, rfl, _, _⟩ := hs6.form
          have hsz := kd.size
          generalize (L.segs ++ [s1]).length = x6 at *
          have f2 := frozen_of hb6 2
          have e2 := cell_of hb6 2
          simp at e2
          obtain ⟨hb7, hs7, hr7, k7⟩ := log_set hb6 gb hs6 hr6 2 (.slice a7 x6 c7) rfl
          have hfin : LogAt base (w11.setCell ⟨g, 2, none⟩ (.slice a7 x6 c7)) g p (.slice a7 x6 c7) lv { L with segs := L.segs ++ [s1] } := ⟨hb7, hs7, hr7, gb⟩
          have hk := (kS.mono (G := lfoot g (.slice so L.segs.length sc) lv) (fun _ _ e => .inr (.inl e))).trans k7 (fun _ _ e => .inl e)
          have HF2 := Lib.hid (And.intro hfin (And.intro hk (And.intro own6 hsz)))
          clear hfin hk own6 hsz hb7 hs7 hr7 k7 hb6 hs6 hr6 kS k6 hL2 hb2 kd d2 b0 b1 b2 b3 b4 b5
          go_wp2
          go_meet
          exact ⟨.slice a7 x6 c7, HF2.out.1, HF2.out.2.1, fun b hb => by
            rcases HF2.out.2.2.1 b hb with h | h
            · exact .inl h
            · exact .inr (Nat.le_trans HF2.out.2.2.2 h)⟩
        | false =>
          rcases List.eq_nil_or_concat L.segs with e | ⟨ini, sl, e⟩
          · exfalso
            have h1 := HF.out.2.2
            unfold freshB at h1
            rw [e] at h1
            cases h1
          · rw [List.concat_eq_append] at e
            have hm : L.segs.length = ini.length + 1 := by rw [e]; simp
            have hdl : L.segs.dropLast = ini := by rw [e]; simp
            have hsl : L.segs[ini.length]? = some sl := by rw [e]; simp
            obtain ⟨rg, rfl, s0, s1', s2, s3, s4, s5⟩ := hL9.segs.cell hsl
            have kd : Keep No w9 w9.drew := (Keep.refl _ _).drew
            obtain ⟨_, cur, hzr⟩ := row_kind (hL9.no kd).segs rg rfl
            have hrow : LSegsAt base w9.drew (.slice (some ⟨rg, 0, none⟩) L.segs.length sc) (ini ++ [sl]) := by rw [← e]; exact (hL9.no kd).segs
            have hset := lseg_set (s1 := s1) hrow hm ini.length rfl
            have hk6 := keep_set6 (w := w9.drew) (rg := rg) (ini.length * 6) (ini.length * 6 + 1) (ini.length * 6 + 2) (ini.length * 6 + 3) (ini.length * 6 + 4) (ini.length * 6 + 5) (.int .u64 s1.n) (.int .u64 s1.first) (.int .u64 s1.count) (.int .i64 s1.size) (.bool s1.whole) (.bool s1.headed)
            have hfl := HB.out.2.2.1
            have hgr : g ≠ rg := fun e => hng (by simp [Value.ownBlock, e])
            have HZ := Lib.hid (And.intro hset (And.intro hk6 (And.intro hL9 (And.intro hdl (And.intro hgr kd)))))
            have t0 := kd.cell s0 (fun e => e)
            have t1 := kd.cell s1' (fun e => e)
            have t2 := kd.cell s2 (fun e => e)
            have t3 := kd.cell s3 (fun e => e)
            have t4 := kd.cell s4 (fun e => e)
            have t5 := kd.cell s5 (fun e => e)
            have f0 := frozen_of hzr (ini.length * 6)
            have f1 := frozen_of hzr (ini.length * 6 + 1)
            have f2 := frozen_of hzr (ini.length * 6 + 2)
            have f3 := frozen_of hzr (ini.length * 6 + 3)
            have f4 := frozen_of hzr (ini.length * 6 + 4)
            have f5 := frozen_of hzr (ini.length * 6 + 5)
            clear hset hk6 hL9 hdl hgr s0 s1' s2 s3 s4 s5 hzr hrow e hsl hbox9
            generalize L.segs.length = m at *
            generalize ini.length = k at *
            have hw1 : IntKind.i64.wrap ((m : Int) - 1) = (k : Int) := by rw [show (m : Int) - 1 = (k : Int) by omega]; exact IntWalk.i64_in _ (by omega)
            have hkm : (k : Int) < (m : Int) := by omega
            have hkb : (k : Int) ≤ 1099511627776 := by omega
            clear hm hfl
            go_upto_region 22 with fail
            refine wp_drawN (fun w' => Keep No w9 w') [0, 1, 2, 3, 4, 5, 6, 7, 8, 10] [9] [11, 12] (by kernel_rfl) (by kernel_rfl) (fun _ _ _ _ _ h => h) kd ?_
            iterate 10 (refine earlyN_cons (v := ?_) rfl rfl rfl ?_ ?_; rotate_left; focus (
              intro w' hq
              have d2' := hq.cell d2 (fun e => e)
              have b0' := hq.cell b0 (fun e => e)
              have b1' := hq.cell b1 (fun e => e)
              have b2' := hq.cell b2 (fun e => e)
              have b3' := hq.cell b3 (fun e => e)
              have b4' := hq.cell b4 (fun e => e)
              have b5' := hq.cell b5 (fun e => e)
              go_simp
              try with_reducible rfl))
            refine earlyN_nil ?_
            clear d2 b0 b1 b2 b3 b4 b5
            generalize w9.drew = wd at *
            refine midN_cons rfl rfl (fun K hK => ?_)
            go_simp
            refine hK _ _ kd ?_
            clear hK K
            refine midN_nil (tailN_cons rfl (tailN_cons rfl (tailN_nil ?_)))
            go_wp2
            go_meet
            obtain ⟨hset, hk6, hL9, hdl, hgr, kd9⟩ := HZ.out
            have hLd := hL9.no kd9
            have hnr : ∀ b, lv.ownBlock = some b → b ≠ rg := fun b e1 e2 => by
              obtain ⟨us, _, _, hrr⟩ := hLd.recs
              obtain ⟨_, cu, hz⟩ := tail_kind hrr b e1
              obtain ⟨_, cu2, hz2⟩ := row_kind hLd.segs rg rfl
              rw [e2, hz2] at hz; simp at hz
            have hFr : Foot base wd (· = rg) := fun b hb => hLd.foot b (.inr (.inl (by rw [hb]; rfl)))
            refine ⟨.slice (some ⟨rg, 0, none⟩) m sc, ⟨hk6.heap hLd.blk hgr, ?_, hLd.recs.keep hFr hk6 hnr, hLd.gb⟩, ?_, fun b hb => .inl hb⟩
            · show LSegsAt base _ _ (L.segs.dropLast ++ [s1])
              rw [hdl]
              exact hset
            · exact kd9.no.trans hk6 (fun b _ e => .inr (.inl (by rw [e]; rfl)))
      case rest =>
        obtain ⟨sv', hL10, k10, own10⟩ := hcut
        generalize wc = w10 at *
        obtain ⟨hL9', hD9, hp9, hk69, f8, hs1, hx1, hz1, h6sz⟩ := HW.out
        have hp10 := hp9.keep hL9'.foot k10
        have hD10 := hD9.byL hL9' k10
        have hclone := fun (w' : World) (k : Keep No w10 w') => clone_spec (hp10.no k) (by have := HR0.out; have := HB.out.2.2.2.2; omega)
        obtain ⟨lo, lc, rfl, _, _⟩ := hL10.recs.form
        have d3 := cell_of hL10.blk 3
        simp at d3
        have hng : ¬ (Value.slice lo L.recs.length lc).ownBlock = some g := fun e => by
          obtain ⟨us, _, _, hrr⟩ := hL10.recs
          obtain ⟨_, cur, hz⟩ := tail_kind hrr g e
          rw [hL10.blk] at hz; simp at hz
        have hsz10 := Nat.le_trans hk69.size k10.size
        obtain ⟨x2, hx2⟩ : ∃ x2, x2 = L.next + 1 := ⟨_, rfl⟩
        have hxb := HB.out.1
        have hw1 : IntKind.u64.wrap ((L.next : Int) + 1) = (x2 : Int) := by rw [wraps_u64 _ (by omega) (by omega)]; omega
        have hw2 : IntKind.u64.wrap ((x2 : Int) - 1) = (L.next : Int) := by rw [wraps_u64 _ (by omega) (by omega)]; omega
        have HV := Lib.hid (And.intro hL10 (And.intro hD10 (And.intro k10 (And.intro own10 (And.intro hk69 (And.intro f8 (And.intro hs1 (And.intro hx1 (And.intro hz1 (And.intro h6sz (And.intro hsz10 hx2)))))))))))
        have HC := Lib.hid hclone
        have hrl := HB.out.2.2.2.1
        clear hL10 hD10 k10 own10 hk69 f8 hs1 hx1 hz1 h6sz hsz10 hx2 hclone hL9' hD9 hp9 hp10 hL9 hbox9 h hxb
        generalize hdm : L.recs.length = dm at *
        have HDM := Lib.hid (And.intro hdm hrl)
        clear hdm hrl
        go_upto_region 23 with fail
        refine wp_drawN (fun w' => Keep (fun b => (Value.slice lo dm lc).ownBlock = some b) w10 w') [0, 1, 2, 3, 4, 5] [6, 7, 8] [9, 10, 11] (by kernel_rfl) (by kernel_rfl) (fun _ _ _ _ _ h => h) (Keep.refl _ _).drew ?_
        have kd3 : Keep No w10 w10.drew := (Keep.refl _ _).drew
        iterate 6 (refine earlyN_cons (v := ?_) rfl rfl rfl ?_ ?_; rotate_left; focus (
          intro w' hq
          have d3' := hq.cell d3 hng
          go_simp
          try with_reducible rfl))
        refine earlyN_nil ?_
        refine midN_cons rfl rfl (fun K hK => ?_)
        go_simp
        refine (HC.out _ kd3).mono ?_
        rintro e w11 ⟨v11, rfl, own11, k11⟩
        have hu11 := own11.bytes (base := base) (fun _ => Nat.le_trans HA.out.2.2.2.1 (Nat.le_trans HV.out.2.2.2.2.2.2.2.2.2.2.1 kd3.size))
        obtain ⟨o11, c11, rfl⟩ := own11.form
        have kd4 := kd3.then k11
        refine hK _ _ kd4.no ?_
        clear hK K
        refine midN_cons rfl rfl (fun K hK => ?_)
        go_simp
        have kA : Keep No w11 (w11.alloc (.cells #[.slice o11 r.length c11] 59)) := (Keep.refl _ _).alloc _
        have kd5 := kd4.then kA
        have hb5 := heap_new w11 (.cells #[.slice o11 r.length c11] 59)
        have hu5 := hu11.no kA
        refine hK _ _ kd5.no ?_
        clear hK K
        have hL5 := HV.out.1.no kd5
        refine midN_cons rfl rfl (fun K hK => ?_)
        refine wp_append_tail _ _ rfl hL5.recs rfl hb5 rfl hu5 (by show L.recs.length ≤ _; have := HDM.out; omega) (Nat.le_trans HA.out.2.2.1 (Nat.le_trans HV.out.2.2.2.2.2.2.2.2.2.2.1 kd5.size)) ?_
        intro v6 w12 hr6 k6' own6
        have kS : Keep (fun b => (Value.slice lo dm lc).ownBlock = some b) w10 w12 := kd5.no.trans k6' (fun _ _ e => e)
        refine hK _ _ kS ?_
        clear hK K
        refine midN_nil (tailN_cons rfl (tailN_cons rfl (tailN_cons rfl (tailN_nil ?_))))
        obtain ⟨hb6, hs6⟩ := hL5.pushed k6' hr6
        obtain ⟨a12, c12, rfl, _, _⟩ := hr6.form
        have hsz5 := kd5.size
        have gb := hL5.gb
        have hrl : L.recs.length = dm := HDM.out.1
        generalize hx6 : (L.recs ++ [r]).length = x6 at *
        have f3 := frozen_of hb6 3
        have e3 := cell_of hb6 3
        simp at e3
        obtain ⟨hb7, hs7, hr7, k7⟩ := log_set hb6 gb hs6 hr6 3 (.slice a12 x6 c12) rfl
        have hk36 : Keep (lfoot g sv' (.slice lo dm lc)) w10 w12 := kS.mono (fun _ _ e => .inr (.inr e))
        have hk37 : Keep (lfoot g sv' (.slice lo dm lc)) w10 (w12.setCell ⟨g, 3, none⟩ (.slice a12 x6 c12)) := hk36.trans k7 (fun _ _ e => .inl e)
        have HX := Lib.hid (And.intro own6 (And.intro hsz5 (And.intro hs7 (And.intro hr7 (And.intro hk37 hb7)))))
        clear kS k6' k7 hk36 hk37 hs6 hr6 hL5 hb5 hu5 hu11 own11 kd5 kd4 k11 kA own6 hsz5 hs7 hr7 kd3 d3 hb7 hrl hx6
        go_upto_region 24 with fail
        have hb7 := HX.out.2.2.2.2.2
        generalize w12.setCell ⟨g, 3, none⟩ (.slice a12 x6 c12) = w13 at *
        clear hb6 f3 e3
        have d4 := cell_of hb7 4
        have f4 := frozen_of hb7 4
        simp at d4
        obtain ⟨hb8, hs8, hr8, k8⟩ := log_set hb7 gb HX.out.2.2.1 HX.out.2.2.2.1 4 (.int .u64 x2) rfl
        have H9 := Lib.hid (And.intro hb8 (And.intro hs8 (And.intro hr8 k8)))
        clear hb8 hs8 hr8 k8 hb7
        go_wp2
        go_ret2
        obtain ⟨hL10, hD10, k10, own10, hk69, f8, hs1, hx1, hz1, h6sz, hsz10, hx2⟩ := HV.out
        obtain ⟨own6, hsz5, _, _, hk37, _⟩ := HX.out
        obtain ⟨hb8, hs8, hr8, k8⟩ := H9.out
        have hk := hk37.trans k8 (fun _ _ e => .inl e)
        have e : L.append r = { L with segs := (if fb then L.segs else L.segs.dropLast) ++ [s1], recs := L.recs ++ [r], next := x2 } := by
          unfold LogS.append
          rw [HF.out.2.2, hs1, hx1, hz1, HXB.out, hx2, HCN.out.1, HCN.out.2]
        have hdm := HDM.out.1
        subst hdm
        refine ⟨rfl, n8, s8, wv8, sv', .slice a12 x6 c12, ?_, hD10.byL hL10 hk, ?_, ?_⟩
        · rw [e]
          exact ⟨hb8, hs8, hr8, gb⟩
        · refine ((hk69.mono (G := fun b => foot p n s wv b ∨ lfoot g (.slice so L.segs.length sc) (.slice lo L.recs.length lc) b) (fun _ _ e => .inl e)).trans k10 (fun _ _ e => .inr e)).trans hk (fun b hb h => ?_)
          rcases h with h | h | h
          · exact .inr (.inl h)
          · rcases own10 b h with h | h
            · exact .inr (.inr (.inl h))
            · have := hk69.size; omega
          · exact .inr (.inr (.inr h))
        · intro b hb
          rcases hb with hb | hb | hb | hb
          · rcases f8 b hb with h | h
            · exact .inl (.inl h)
            · exact .inr (Nat.le_trans h6sz h)
          · exact .inl (.inr (.inl hb))
          · rcases own10 b hb with h | h
            · exact .inl (.inr (.inr (.inl h)))
            · exact .inr (Nat.le_trans hk69.size h)
          · rcases own6 b hb with h | h
            · exact .inl (.inr (.inr (.inr h)))
            · exact .inr (Nat.le_trans hsz10 (Nat.le_trans hsz5 h))
end Go.Proofs.YtfdmbomlkpkegaaGreat

/-! ## LogP -/
namespace Go.Proofs.YtfdmbomlkpkegaaGreat
open Go Go.RowKit

theorem step6_new {k : Int} (p : Bytes) : ∀ {a : AMap}, (∀ e ∈ a, e.1 < k) → step6 a ⟨k, p, false⟩ = a ++ [(k, p)] := by
  intro a
  induction a with
  | nil => intro _; simp [step6]
  | cons e m ih =>
    intro h
    have h1 := h e (by simp)
    have h2 := ih (fun e he => h e (by simp [he]))
    simp [step6, h1, h2]
theorem step6_last {k : Int} (old p : Bytes) : ∀ {a : AMap}, (∀ e ∈ a, e.1 < k) → step6 (a ++ [(k, old)]) ⟨k, p, false⟩ = a ++ [(k, old ++ p)] := by
  intro a
  induction a with
  | nil => intro _; simp [step6]
  | cons e m ih =>
    intro h
    have h1 := h e (by simp)
    have h2 := ih (fun e he => h e (by simp [he]))
    simp [step6, h1, h2]

def segMap (ss : List SegL) : AMap := ss.map (fun s => (s.n, s.bytes))
/-- A disk that logs made, of these records. -/
structure OnDisk (ss : List SegL) (rs : List Bytes) (m : AMap) : Prop where
  ok : ∀ s ∈ ss, s.Ok
  nums : ∀ (i : Nat) s, ss[i]? = some s → s.n = (i : Int) + 1
  first : ∀ (i : Nat) s, ss[i]? = some s → s.headed = true → s.first = (recsOf (ss.take i)).length + 1
  recs : recsOf ss = rs
  map : SameMap (segMap ss) m
  keys : Keys m
theorem OnDisk.nil : OnDisk [] [] [] := ⟨by simp, by simp, by simp, rfl, fun _ => rfl, Keys.nil⟩
theorem nums_lt {ss : List SegL} (h : ∀ (i : Nat) s, ss[i]? = some s → s.n = (i : Int) + 1) {k : Int} (hk : (ss.length : Int) < k) : ∀ e ∈ segMap ss, e.1 < k := by
  intro e he
  obtain ⟨s, hs, rfl⟩ := List.mem_map.1 he
  obtain ⟨i, hi, e⟩ := List.getElem_of_mem hs
  have := h i s (by rw [List.getElem?_eq_getElem hi, e])
  show s.n < k
  omega
theorem segMap_sorted {ss : List SegL} (h : ∀ (i : Nat) s, ss[i]? = some s → s.n = (i : Int) + 1) : Sorted (segMap ss) := by
  unfold Sorted segMap
  rw [List.pairwise_map, List.pairwise_iff_getElem]
  intro i j hi hj hij
  have h1 := h i _ (List.getElem?_eq_getElem hi)
  have h2 := h j _ (List.getElem?_eq_getElem hj)
  show (ss[i]).n < (ss[j]).n
  omega
theorem nextOf_cases {ss : List SegL} {rs : List Bytes} (ho : ∀ s ∈ ss, s.Ok) (hf : ∀ (i : Nat) s, ss[i]? = some s → s.headed = true → s.first = (recsOf (ss.take i)).length + 1) (hr : recsOf ss = rs) :
    (nextOf 0 ss = 0 ∧ rs = []) ∨ nextOf 0 ss = rs.length + 1 := by
  subst hr
  have key : ∀ n, n ≤ ss.length → (nextOf 0 (ss.take n) = 0 ∧ recsOf (ss.take n) = []) ∨ nextOf 0 (ss.take n) = (recsOf (ss.take n)).length + 1 := by
    intro n
    induction n with
    | zero => intro _; left; exact ⟨rfl, rfl⟩
    | succ n ih =>
      intro hn
      have hs : ss[n]? = some ss[n] := List.getElem?_eq_getElem (by omega)
      have ih := ih (by omega)
      have ht : ss.take (n + 1) = ss.take n ++ [ss[n]] := by rw [List.take_add_one, hs]; rfl
      have hok := ho _ (List.getElem_mem (by omega : n < ss.length))
      have hff := hf n _ hs
      generalize ss[n] = s at *
      rw [ht, nextOf_append, recsOf_append]
      have e1 : nextOf (nextOf 0 (ss.take n)) [s] = if s.headed then s.first + s.recs.length else nextOf 0 (ss.take n) := rfl
      have e2 : recsOf [s] = s.recs := by simp [recsOf]
      rw [e1, e2]
      cases hh : s.headed with
      | true =>
        right
        rw [hff hh]
        simp
        omega
      | false =>
        rw [(hok.bare hh).1]
        simp only [Bool.false_eq_true, if_false, List.append_nil]
        exact ih
  have := key ss.length (Nat.le_refl _)
  rwa [List.take_length] at this
theorem OnDisk.next {ss : List SegL} {rs : List Bytes} {m : AMap} (h : OnDisk ss rs m) : max (nextOf 0 ss) 1 = rs.length + 1 := by
  rcases nextOf_cases h.ok h.first h.recs with ⟨h1, h2⟩ | h1
  · rw [h1, h2]; rfl
  · omega
theorem OnDisk.diskL {ss : List SegL} {rs : List Bytes} {d : DiskS} (h : OnDisk ss rs d.now) (hf : ss.length ≤ 10000) (hr : rs.length ≤ 1000000) (hs : msum d.now ≤ 1099511627776) : DiskL d ss := by
  have hS := segMap_sorted h.nums
  refine ⟨?_, fun s hs => ?_, h.ok, fun i s hi hh => ?_, hf, by rw [h.recs]; exact hr, hs⟩
  · rw [sortedKeys_eq hS h.keys h.map]
    simp [segMap]
  · rw [← h.map s.n]
    have : (s.n, s.bytes) ∈ segMap ss := List.mem_map.2 ⟨s, hs, rfl⟩
    exact mget_mem hS.keys this
  · have hfi : ∀ (j : Nat) t, (ss.take i)[j]? = some t → t.headed = true → t.first = (recsOf ((ss.take i).take j)).length + 1 := fun j t hj hh => by
      have hlt := (List.getElem?_eq_some_iff.1 hj).1
      rw [List.length_take] at hlt
      rw [List.getElem?_take, if_pos (by omega)] at hj
      rw [List.take_take, Nat.min_eq_left (by omega)]
      exact h.first j t hj hh
    rcases nextOf_cases (fun s hs => h.ok s (List.mem_of_mem_take hs)) hfi rfl with ⟨h1, _⟩ | h1
    · exact .inl h1
    · exact .inr (by rw [h1]; exact h.first i s hi hh)
theorem getElem?_snoc {α : Type} {l : List α} {x y : α} {i : Nat} (h : (l ++ [x])[i]? = some y) : l[i]? = some y ∨ (i = l.length ∧ y = x) := by
  by_cases hi : i < l.length
  · rw [List.getElem?_append_left hi] at h; exact .inl h
  · rw [List.getElem?_append_right (by omega)] at h
    have h0 : i - l.length = 0 := by have := (List.getElem?_eq_some_iff.1 h).1; simp at this; omega
    rw [h0] at h
    simp at h
    exact .inr ⟨by omega, h.symm⟩
theorem take_snoc {α : Type} {l : List α} {x : α} {i : Nat} (h : i ≤ l.length) : (l ++ [x]).take i = l.take i := List.take_append_of_le_length h
theorem OnDisk.putNew {ss : List SegL} {rs : List Bytes} {m : AMap} (h : OnDisk ss rs m) (s : SegL) (hs : s.Ok) (hn : s.n = (ss.length : Int) + 1) (hf : s.headed = true → s.first = rs.length + 1) :
    OnDisk (ss ++ [s]) (rs ++ s.recs) (CallS.done ⟨s.n, s.bytes, false⟩ m) := by
  have hlt := nums_lt h.nums (k := s.n) (by omega)
  refine ⟨fun t ht => ?_, fun i t ht => ?_, fun i t ht hh => ?_, ?_, ?_, h.keys.done _⟩
  · rcases List.mem_append.1 ht with ht | ht
    · exact h.ok t ht
    · rw [List.mem_singleton.1 ht]; exact hs
  · rcases getElem?_snoc ht with ht | ⟨rfl, rfl⟩
    · exact h.nums i t ht
    · exact hn
  · rcases getElem?_snoc ht with ht | ⟨rfl, rfl⟩
    · have := (List.getElem?_eq_some_iff.1 ht).1
      rw [take_snoc (by omega)]
      exact h.first i t ht hh
    · rw [take_snoc (Nat.le_refl _), List.take_length, h.recs]
      exact hf hh
  · rw [recsOf_append, h.recs]; simp [recsOf]
  · have := h.map.step (segMap_sorted h.nums) h.keys ⟨s.n, s.bytes, false⟩
    rw [step6_new s.bytes hlt] at this
    simpa [segMap] using this
theorem OnDisk.putLast {ini : List SegL} {sl sl' : SegL} {rs ex : List Bytes} {m : AMap} (p : Bytes) (h : OnDisk (ini ++ [sl]) rs m) (hs : sl'.Ok) (hn : sl'.n = sl.n) (hh : sl'.headed = sl.headed) (hf : sl'.first = sl.first) (hb : sl'.bytes = sl.bytes ++ p) (hr : sl'.recs = sl.recs ++ ex) :
    OnDisk (ini ++ [sl']) (rs ++ ex) (CallS.done ⟨sl.n, p, false⟩ m) := by
  have hsl : (ini ++ [sl])[ini.length]? = some sl := by simp
  have hnum := h.nums _ _ hsl
  have hnum' : ∀ (i : Nat) s, ini[i]? = some s → s.n = (i : Int) + 1 := fun i s hi => h.nums i s (by rw [List.getElem?_append_left (List.getElem?_eq_some_iff.1 hi).1]; exact hi)
  have hlt := nums_lt hnum' (k := sl.n) (by omega)
  refine ⟨fun t ht => ?_, fun i t ht => ?_, fun i t ht hh' => ?_, ?_, ?_, h.keys.done _⟩
  · rcases List.mem_append.1 ht with ht | ht
    · exact h.ok t (by simp [ht])
    · rw [List.mem_singleton.1 ht]; exact hs
  · rcases getElem?_snoc ht with ht | ⟨rfl, rfl⟩
    · exact hnum' i t ht
    · rw [hn]; exact hnum
  · rcases getElem?_snoc ht with ht | ⟨rfl, rfl⟩
    · have hi := (List.getElem?_eq_some_iff.1 ht).1
      have := h.first i t (by rw [List.getElem?_append_left hi]; exact ht) hh'
      rw [take_snoc (by omega)] at this ⊢
      exact this
    · have := h.first ini.length sl hsl (by rw [← hh]; exact hh')
      rw [take_snoc (Nat.le_refl _)] at this ⊢
      rw [hf]; exact this
  · have h1 := h.recs
    rw [recsOf_append] at h1 ⊢
    rw [← h1]
    simp [recsOf, hr]
  · have h1 := h.map.step (segMap_sorted h.nums) h.keys ⟨sl.n, p, false⟩
    have h2 : segMap (ini ++ [sl]) = segMap ini ++ [(sl.n, sl.bytes)] := by simp [segMap]
    have h3 : segMap (ini ++ [sl']) = segMap ini ++ [(sl.n, sl.bytes ++ p)] := by simp [segMap, hn, hb]
    rw [h2, step6_last _ _ hlt, ← h3] at h1
    exact h1

theorem torn_rec (p : Bytes) (hp : p.length ≤ 1048576) {t : Nat} (ht : t < (recB p).length) : TornB ((recB p).take t) := by
  have hl := recB_length p
  by_cases h8 : t < 8
  · left; rw [List.length_take]; omega
  · right
    have e : ((recB p).take t).take 4 = layB p.length 4 := by
      rw [List.take_take, Nat.min_eq_left (by omega)]
      have := (rec_parts p [] hp).2.2.1
      simpa using this
    rw [e, takeN_lay, Nat.mod_eq_of_lt (by omega), List.length_take]
    omega
theorem torn_nil : TornB [] := .inl (by decide)
/-- The log of what is on the disk. -/
def logD (size : Int) (ss : List SegL) : LogS := { logOf size ss with next := max (nextOf 0 ss) 1 }
theorem logD_last (size : Int) (ini : List SegL) (sl : SegL) : (logD size (ini ++ [sl])).segs.getLast? = some sl.view := by simp [logD, logOf]
theorem OnDisk.append {ss : List SegL} {rs : List Bytes} {m : AMap} (h : OnDisk ss rs m) (size : Int) (p : Bytes) (hp : p.length ≤ 1048576) (hrs : rs.length < 1000000000) :
    ∃ ss', OnDisk ss' (rs ++ [p]) (CallS.done ⟨(appS (logD size ss)).n, appB (logD size ss) p, false⟩ m) ∧ (logD size ss).append p = logD size ss' ∧ ss'.length ≤ ss.length + 1 ∧
      ∀ t, 0 < t → t < (appB (logD size ss) p).length → ∃ s2, OnDisk s2 rs (CallS.done ⟨(appS (logD size ss)).n, (appB (logD size ss) p).take t, false⟩ m) ∧ s2.length ≤ ss.length + 1 := by
  have hnx := h.next
  have hL : (logD size ss).next = rs.length + 1 := hnx
  cases hfr : freshB (logD size ss) (lastN (logD size ss)) with
  | true =>
    have eB : appB (logD size ss) p = headB (rs.length + 1) ++ recB p := by unfold appB; rw [hfr, hL]; rfl
    have eS : appS (logD size ss) = newSeg (logD size ss) := by unfold appS; rw [hfr]; rfl
    have eN : (appS (logD size ss)).n = (ss.length : Int) + 1 := by
      rw [eS]
      rcases List.eq_nil_or_concat ss with rfl | ⟨ini, sl, rfl⟩
      · rfl
      · rw [List.concat_eq_append] at h ⊢
        unfold newSeg
        rw [logD_last]
        have := h.nums ini.length sl (by simp)
        show sl.n + 1 = _
        simp; omega
    let s : SegL := { n := (ss.length : Int) + 1, first := rs.length + 1, headed := true, recs := [p], tail := [] }
    have hsb : s.bytes = appB (logD size ss) p := by
      rw [eB]
      show headB (rs.length + 1) ++ (recsB [p] ++ []) = _
      simp [recsB]
    have hso : s.Ok := ⟨fun _ => ⟨by show 1 ≤ rs.length + 1; omega, by show rs.length + 1 < _; omega, fun r hr => by rw [List.mem_singleton.1 hr]; exact hp, torn_nil⟩, fun hc => (by cases hc)⟩
    have hput := h.putNew s hso rfl (fun _ => rfl)
    refine ⟨ss ++ [s], ?_, ?_, by simp, fun t h0 ht => ?_⟩
    · rw [eN, ← hsb]; exact hput
    · have hn2 := hput.next
      unfold LogS.append
      rw [hfr, eS]
      have hv : { newSeg (logD size ss) with count := (newSeg (logD size ss)).count + 1, size := (newSeg (logD size ss)).size + (appB (logD size ss) p).length } = s.view := by
        have e1 : (newSeg (logD size ss)).n = s.n := by rw [← eS, eN]
        have e2 : (newSeg (logD size ss)).first = s.first := hL
        unfold SegL.view
        rw [hsb]
        show SegV.mk (newSeg (logD size ss)).n (newSeg (logD size ss)).first (0 + 1) (0 + (appB (logD size ss) p).length) true true = SegV.mk s.n s.first 1 _ true true
        rw [e1, e2, Nat.zero_add, Nat.zero_add]
      rw [hv]
      show (LogS.mk _ _ _ _) = LogS.mk _ _ _ _
      congr 1
      · simp [logD, logOf]
      · show recsOf ss ++ [p] = recsOf (ss ++ [s])
        rw [recsOf_append]; simp [recsOf, s]
      · show (logD size ss).next + 1 = max (nextOf 0 (ss ++ [s])) 1
        rw [hn2, hL]
        simp [s]
    · rw [eB] at ht ⊢
      rw [eN]
      by_cases h12 : t < 12
      · let s2 : SegL := { n := (ss.length : Int) + 1, first := 0, headed := false, recs := [], tail := (headB (rs.length + 1) ++ recB p).take t }
        have ho2 : s2.Ok := ⟨fun hc => (by cases hc), fun _ => ⟨rfl, by show ((headB (rs.length + 1) ++ recB p).take t).length < 12; rw [List.length_take]; omega⟩⟩
        have := h.putNew s2 ho2 rfl (fun hc => by cases hc)
        exact ⟨ss ++ [s2], by simpa [s2, SegL.bytes] using this, by simp⟩
      · have hh := headB_length (rs.length + 1)
        let s2 : SegL := { n := (ss.length : Int) + 1, first := rs.length + 1, headed := true, recs := [], tail := (recB p).take (t - 12) }
        have hb2 : s2.bytes = (headB (rs.length + 1) ++ recB p).take t := by
          show headB (rs.length + 1) ++ (recsB [] ++ (recB p).take (t - 12)) = _
          rw [List.take_append, hh, List.take_of_length_le (l := headB (rs.length + 1)) (by omega)]
          simp [recsB]
        have ho2 : s2.Ok := ⟨fun _ => ⟨by show 1 ≤ rs.length + 1; omega, by show rs.length + 1 < _; omega, fun r hr => (by cases hr), torn_rec p hp (by rw [List.length_append, hh] at ht; omega)⟩, fun hc => (by cases hc)⟩
        have := h.putNew s2 ho2 rfl (fun _ => rfl)
        rw [hb2] at this
        exact ⟨ss ++ [s2], by simpa [s2] using this, by simp⟩
  | false =>
    rcases List.eq_nil_or_concat ss with rfl | ⟨ini, sl, rfl⟩
    · exact absurd hfr (by simp [freshB, logD, logOf])
    · rw [List.concat_eq_append] at *
      have hlast := logD_last size ini sl
      have hfr2 := hfr
      unfold freshB at hfr2
      rw [hlast] at hfr2
      simp only [Bool.or_eq_false_iff, Bool.not_eq_false'] at hfr2
      obtain ⟨hh, hw, _⟩ := hfr2
      have hh : sl.headed = true := hh
      have ht : sl.tail = [] := by
        have hw : (sl.headed && sl.tail.isEmpty) = true := hw
        rw [hh] at hw
        simpa using hw
      have eB : appB (logD size (ini ++ [sl])) p = recB p := by unfold appB; rw [hfr]; rfl
      have eS : appS (logD size (ini ++ [sl])) = sl.view := by unfold appS; rw [hfr, hlast]; rfl
      have hok := h.ok sl (by simp)
      obtain ⟨o1, o2, o3, o4⟩ := hok.head hh
      have hbs : sl.bytes = headB sl.first ++ recsB sl.recs := by unfold SegL.bytes; rw [hh, ht]; simp
      rw [eB, eS]
      show ∃ ss', OnDisk ss' (rs ++ [p]) (CallS.done ⟨sl.n, recB p, false⟩ m) ∧ (logD size (ini ++ [sl])).append p = logD size ss' ∧ ss'.length ≤ (ini ++ [sl]).length + 1 ∧ ∀ t, 0 < t → t < (recB p).length → ∃ s2, OnDisk s2 rs (CallS.done ⟨sl.n, (recB p).take t, false⟩ m) ∧ s2.length ≤ (ini ++ [sl]).length + 1
      let s : SegL := { sl with recs := sl.recs ++ [p] }
      have hsb : s.bytes = sl.bytes ++ recB p := by
        have : s.bytes = headB sl.first ++ (recsB (sl.recs ++ [p]) ++ sl.tail) := by unfold SegL.bytes; simp only [s, hh, if_true]
        rw [this, ht, hbs, recsB_append]
        simp [recsB]
      have hso : s.Ok := ⟨fun _ => ⟨o1, o2, fun r hr => by
        rcases List.mem_append.1 hr with hr | hr
        · exact o3 r hr
        · rw [List.mem_singleton.1 hr]; exact hp, o4⟩, fun hc => by rw [show s.headed = sl.headed from rfl, hh] at hc; cases hc⟩
      have hput := h.putLast (sl' := s) (ex := [p]) (recB p) hso rfl rfl rfl hsb rfl
      refine ⟨ini ++ [s], hput, ?_, by simp, fun t h0 ht' => ?_⟩
      · have hn2 := hput.next
        unfold LogS.append
        rw [hfr, eS, eB]
        have hv : { sl.view with count := sl.view.count + 1, size := sl.view.size + (recB p).length } = s.view := by
          show SegV.mk sl.n (if sl.headed = true then sl.first else 0) (sl.recs.length + 1) (sl.bytes.length + (recB p).length) (sl.headed && sl.tail.isEmpty) sl.headed = SegV.mk sl.n (if sl.headed = true then sl.first else 0) (sl.recs ++ [p]).length s.bytes.length (sl.headed && sl.tail.isEmpty) sl.headed
          rw [hsb]
          simp
        rw [hv]
        show (LogS.mk _ _ _ _) = LogS.mk _ _ _ _
        congr 1
        · simp [logD, logOf]
        · show recsOf (ini ++ [sl]) ++ [p] = recsOf (ini ++ [s])
          rw [recsOf_append, recsOf_append]; simp [recsOf, s]
        · show (logD size (ini ++ [sl])).next + 1 = max (nextOf 0 (ini ++ [s])) 1
          rw [hn2, hL]
          simp
      · let s2 : SegL := { sl with tail := (recB p).take t }
        have hb2 : s2.bytes = sl.bytes ++ (recB p).take t := by
          have : s2.bytes = headB sl.first ++ (recsB sl.recs ++ (recB p).take t) := by unfold SegL.bytes; simp only [s2, hh, if_true]
          rw [this, hbs]
          simp
        have ho2 : s2.Ok := ⟨fun _ => ⟨o1, o2, o3, torn_rec p hp ht'⟩, fun hc => by rw [show s2.headed = sl.headed from rfl, hh] at hc; cases hc⟩
        have hput2 := h.putLast (sl' := s2) (ex := []) ((recB p).take t) ho2 rfl rfl rfl hb2 (by simp [s2])
        exact ⟨ini ++ [s2], by simpa using hput2, by simp⟩
end Go.Proofs.YtfdmbomlkpkegaaGreat

/-! ## Full -/
namespace Go.Proofs.YtfdmbomlkpkegaaGreat
open Go Go.RowKit Go.Dr

theorem msum_put (m : AMap) (k : Int) (l : Bytes) : msum (mset m k ((mget m k).getD [] ++ l)) = msum m + l.length := by
  induction m with
  | nil => simp [mset, mget, msum]
  | cons e m ih =>
    rw [mget_cons]
    simp only [mset]
    by_cases h : e.1 = k
    · simp [h, msum]; omega
    · have : (e.1 == k) = false := by simpa using h
      simp only [this, msum, if_neg h, Bool.false_eq_true, if_false]
      rw [ih]; omega
theorem mset_length (m : AMap) (k : Int) (l : Bytes) : (mset m k l).length ≤ m.length + 1 := by
  induction m with
  | nil => simp [mset]
  | cons e m ih =>
    simp only [mset]
    split
    · simp
    · simp; omega

structure Full1 (room : Int) (j : Nat) (d : DiskS) : Prop where
  hroom : d.room = room
  full : d.full = false
  used : (msum d.now : Int) ≤ room
  wl : d.wait.length ≤ j
  nl : d.now.length ≤ j
  keys : Keys d.now
theorem Full1.new {room : Int} (h : 0 ≤ room) : Full1 room 0 { room := room, full := false, now := [], safe := [], wait := [] } := ⟨rfl, rfl, by simpa [msum] using h, Nat.le_refl _, Nat.le_refl _, Keys.nil⟩
theorem Full1.mono {room : Int} {j k : Nat} {d : DiskS} (h : Full1 room j d) (hk : j ≤ k) : Full1 room k d := ⟨h.hroom, h.full, h.used, by have := h.wl; omega, by have := h.nl; omega, h.keys⟩
theorem Full1.small {room : Int} {j : Nat} {d : DiskS} (h : Full1 room j d) (h0 : 0 ≤ room) (h1 : room ≤ 255) (hj : j ≤ 30) : Small d :=
  ⟨by rw [h.hroom]; exact h0, by rw [h.hroom]; omega, by have := h.used; omega, by have := h.wl; omega⟩
theorem Full1.append {room : Int} {j : Nat} {d : DiskS} (h : Full1 room j d) (seg : Int) (l : Bytes) :
    (d.append seg l = (d.put ⟨seg, l, false⟩, 0) ∧ Full1 room (j + 1) (d.put ⟨seg, l, false⟩) ∧ msum (d.put ⟨seg, l, false⟩).now = msum d.now + l.length) ∨ d.append seg l = (d, 5) := by
  have hs := msum_put d.now seg l
  have hl := mset_length d.now seg ((mget d.now seg).getD [] ++ l)
  by_cases hlt : d.room - (msum d.now : Int) < (l.length : Int)
  · right; simp [DiskS.append, h.full, hlt]
  · left
    have hr := h.hroom
    have hw := h.wl
    have hn := h.nl
    refine ⟨by simp [DiskS.append, h.full, hlt], ⟨h.hroom, h.full, ?_, ?_, ?_, ?_⟩, ?_⟩
    · simp only [DiskS.put, CallS.done, Bool.false_eq_true, if_false]; rw [hs]; omega
    · simp only [DiskS.put, List.length_append, List.length_singleton]; omega
    · simp only [DiskS.put, CallS.done, Bool.false_eq_true, if_false]; omega
    · simp only [DiskS.put]; exact h.keys.done _
    · simp only [DiskS.put, CallS.done, Bool.false_eq_true, if_false]; exact hs

structure Full2 (room : Int) (m : AMap) (j : Nat) (d : DiskS) : Prop where
  hroom : d.room = room
  full : d.full = false
  used : (msum d.now : Int) ≤ room
  wl : d.wait.length ≤ 30 + j
  keys : Keys d.now
  now : ∀ k, mget d.now k = if k ∈ (sortedKeys m).take j then none else mget m k
theorem Full2.start {room : Int} {d : DiskS} (h : Full1 room 30 d) : Full2 room d.now 0 d := ⟨h.hroom, h.full, h.used, h.wl, h.keys, fun k => by simp⟩
theorem Full2.small {room : Int} {j : Nat} {m : AMap} {d : DiskS} (h : Full2 room m j d) (h0 : 0 ≤ room) (h1 : room ≤ 255) (hj : j ≤ 60) : Small d :=
  ⟨by rw [h.hroom]; exact h0, by rw [h.hroom]; omega, by have := h.used; omega, by have := h.wl; omega⟩
theorem not_mem_take {l : List Int} (h : l.Nodup) {j : Nat} {k : Int} (hk : l[j]? = some k) : k ∉ l.take j := by
  intro hm
  obtain ⟨i, hi, e⟩ := List.getElem_of_mem hm
  have hi' : i < j ∧ i < l.length := by rw [List.length_take] at hi; omega
  obtain ⟨hj, ej⟩ := List.getElem?_eq_some_iff.1 hk
  rw [List.getElem_take] at e
  exact (List.pairwise_iff_getElem.1 h) i j hi'.2 hj hi'.1 (by rw [e, ej])
theorem Full2.drop {room : Int} {j : Nat} {m : AMap} {d : DiskS} (h : Full2 room m j d) (hm : Keys m) {k : Int} (hk : (sortedKeys m)[j]? = some k) :
    d.drop k = (d.put ⟨k, [], true⟩, 0) ∧ (d.put ⟨k, [], true⟩).drop k = (d.put ⟨k, [], true⟩, 4) ∧ Full2 room m (j + 1) (d.put ⟨k, [], true⟩) := by
  have hnd : (sortedKeys m).Nodup := (List.mergeSort_perm _ _).nodup_iff.2 hm.nodup
  have hnot := not_mem_take hnd hk
  have hin : (mget m k).isSome = true := sortedKeys_mem.1 (List.mem_of_getElem? hk)
  have h1 : (mget d.now k).isSome = true := by rw [h.now k, if_neg hnot]; exact hin
  have h2 : (mget (mdel d.now k) k).isSome = false := by rw [mget_del h.keys]; simp
  have hms := msum_done ⟨k, [], true⟩ d.now
  have hu := h.used
  have hw := h.wl
  refine ⟨by simp [DiskS.drop, h1], by simp [DiskS.drop, DiskS.put, CallS.done, h2], h.hroom, h.full, ?_, ?_, by simp only [DiskS.put]; exact h.keys.done _, fun k' => ?_⟩
  · simp only [DiskS.put] ; simp only [List.length_nil] at hms; omega
  · simp only [DiskS.put, List.length_append, List.length_singleton]; omega
  · simp only [DiskS.put, CallS.done, if_true]
    rw [mget_del h.keys, List.take_add_one, hk, h.now k']
    simp only [Option.toList_some, List.mem_append, List.mem_singleton]
    by_cases e : k' = k
    · simp [e]
    · simp [e]
theorem Full2.done {room : Int} {m : AMap} {d : DiskS} (h : Full2 room m (sortedKeys m).length d) : d.now = [] := by
  cases hn : d.now with
  | nil => rfl
  | cons e r =>
    exfalso
    have h1 := h.now e.1
    rw [List.take_length, hn, mget_cons, if_pos rfl] at h1
    by_cases hin : e.1 ∈ sortedKeys m
    · rw [if_pos hin] at h1; cases h1
    · rw [if_neg hin] at h1
      exact hin (sortedKeys_mem.2 (by rw [← h1]; rfl))
/-- A guarded operation in the middle part of a drawn region: done, or passed over. -/
theorem midN_want {P : Program} {ops : Array Oper} {Q : Exit → Act → World → Prop} {S : World → Prop} {K : Act → World → Prop} {i : Nat} {r : List Nat} {a : Act} {w : World} {o : Oper} (hi : ops.toList[i]? = some o) (hg : Region.wanted o (yielded ops a.tmps) = true)
    (h : ∀ K' : Act → World → Prop, (∀ a w, S w → midN P ops Q S K r a w → K' a w) → o.wp P a w K' Q) : midN P ops Q S K (i :: r) a w := by
  unfold midN
  refine ⟨o, hi, ?_⟩
  rw [if_pos hg]
  exact h _ (fun a w h1 h2 => ⟨h1, h2⟩)
end Go.Proofs.YtfdmbomlkpkegaaGreat

/-! ## LogR -/
namespace Go.Proofs.YtfdmbomlkpkegaaGreat
open Go Go.RowKit

/-- A log over its disk. -/
structure Ready [bn : Inhabited Ban] (base : Nat) (w : World) (g p n s : Nat) (wv sv lv : Value) (size : Int) (ss : List SegL) (rs : List Bytes) (d : DiskS) : Prop where
  lg : LogAt base w g p sv lv (logD size ss)
  dk : DiskAt base w p n s wv d
  on : OnDisk ss rs d.now
  few : ss.length ≤ rs.length + 1000
  full : d.full = false
  room0 : 0 ≤ d.room
  room1 : d.room ≤ 1000000
  used : (msum d.now : Int) ≤ d.room
  wait : d.wait.length ≤ rs.length + 2
def rfoot (g p n s : Nat) (wv sv lv : Value) : Nat → Prop := fun b => foot p n s wv b ∨ lfoot g sv lv b
theorem Ready.no [bn : Inhabited Ban] {base : Nat} {w w' : World} {g p n s : Nat} {wv sv lv : Value} {size : Int} {ss : List SegL} {rs : List Bytes} {d : DiskS} (h : Ready base w g p n s wv sv lv size ss rs d) (k : Keep No w w') : Ready base w' g p n s wv sv lv size ss rs d :=
  ⟨h.lg.no k, h.dk.no k, h.on, h.few, h.full, h.room0, h.room1, h.used, h.wait⟩
theorem Ready.foot [bn : Inhabited Ban] {base : Nat} {w : World} {g p n s : Nat} {wv sv lv : Value} {size : Int} {ss : List SegL} {rs : List Bytes} {d : DiskS} (h : Ready base w g p n s wv sv lv size ss rs d) : Foot base w (rfoot g p n s wv sv lv) := fun b hb => by
  rcases hb with hb | hb
  · exact h.dk.foot_ok b hb
  · exact h.lg.foot b hb
theorem Ready.small [bn : Inhabited Ban] {base : Nat} {w : World} {g p n s : Nat} {wv sv lv : Value} {size : Int} {ss : List SegL} {rs : List Bytes} {d : DiskS} (h : Ready base w g p n s wv sv lv size ss rs d) (hr : rs.length ≤ 1000) : Small d :=
  ⟨h.room0, by have := h.room1; omega, by have := h.used; have := h.room1; omega, by have := h.wait; omega⟩
/-- What an append that there is room for leaves. -/
def AppPost [bn : Inhabited Ban] (base : Nat) (w : World) (g p n s : Nat) (wv sv lv : Value) (size : Int) (ss : List SegL) (rs : List Bytes) (d : DiskS) (q : Bytes) (e : Ending) (w' : World) : Prop :=
  e = .returned (.tuple #[.int .u64 (rs.length + 1 : Nat), .int .i64 0]) ∧ ∃ n' s' wv' sv' lv' ss', Ready base w' g p n' s' wv' sv' lv' size ss' (rs ++ [q]) (d.put ⟨(appS (logD size ss)).n, appB (logD size ss) q, false⟩) ∧ ss'.length ≤ ss.length + 1 ∧
    Keep (rfoot g p n s wv sv lv) w w' ∧ ∀ b, rfoot g p n' s' wv' sv' lv' b → rfoot g p n s wv sv lv b ∨ w.heap.size ≤ b
theorem appB_length (L : LogS) (q : Bytes) : (appB L q).length ≤ q.length + 20 ∧ q.length + 8 ≤ (appB L q).length := by
  unfold appB
  split
  · rw [List.length_append, headB_length, recB_length]; omega
  · rw [recB_length]; omega
theorem ready_append [bn : Inhabited Ban] {base : Nat} {w : World} {g p n s : Nat} {wv sv lv pv : Value} {size : Int} {ss : List SegL} {rs : List Bytes} {d : DiskS} {q : Bytes} (h : Ready base w g p n s wv sv lv size ss rs d) (hb : base ≤ w.heap.size) (hT : ban.top ≤ w.heap.size)
    (hp : BytesAt base w pv q) (hq : q.length ≤ 1000) (hr : rs.length ≤ 1000) (hroom : (msum d.now : Int) + (appB (logD size ss) q).length ≤ d.room) :
    Calls Tryz.prog 112 #[.pointer (some ⟨g, 0, none⟩), pv] w (AppPost base w g p n s wv sv lv size ss rs d q) := by
  obtain ⟨ss', ho, he, hl, _⟩ := h.on.append size q (by omega) (by omega)
  have hnx : (logD size ss).next = rs.length + 1 := h.on.next
  have happ : d.append (appS (logD size ss)).n (appB (logD size ss) q) = (d.put ⟨(appS (logD size ss)).n, appB (logD size ss) q, false⟩, 0) := by
    have hlt : ¬ d.room - (msum d.now : Int) < ((appB (logD size ss) q).length : Int) := by omega
    simp [DiskS.append, h.full, hlt]
  have hdl := h.on.diskL (d := d) (by have := h.few; omega) (by omega) (by have := h.used; have := h.room1; omega)
  have hseg : ∀ t ∈ (logD size ss).segs, 0 ≤ t.n ∧ t.n + 1 ≤ 9223372036854775807 ∧ t.count + 1 ≤ 9223372036854775807 ∧ t.size ≤ 1099511627776 := fun t ht => by
    obtain ⟨sl, hsl, rfl⟩ := List.mem_map.1 (show t ∈ ss.map SegL.view from ht)
    obtain ⟨i, hi, e⟩ := List.getElem_of_mem hsl
    have h1 := h.on.nums i sl (by rw [List.getElem?_eq_getElem hi, e])
    have h2 := h.few
    have h3 : sl.recs.length ≤ rs.length := by
      rw [← h.on.recs]
      unfold recsOf
      have : sl.recs ∈ ss.map (·.recs) := List.mem_map.2 ⟨sl, hsl, rfl⟩
      obtain ⟨a, b, e⟩ := List.append_of_mem this
      rw [e]; simp; omega
    have h4 := mget_le d.now sl.n
    rw [hdl.bytes sl hsl] at h4
    have h5 := h.used
    have h6 := h.room1
    have h7 : sl.bytes.length ≤ msum d.now := by simpa using h4
    refine ⟨by show 0 ≤ sl.n; omega, by show sl.n + 1 ≤ _; omega, by show sl.recs.length + 1 ≤ _; omega, by show sl.bytes.length ≤ _; omega⟩
  refine (lAppend_ok h.lg h.dk hb hT hp (by omega) (h.small hr) (by rw [happ]) (by rw [hnx]; omega) hseg (by show (ss.map SegL.view).length ≤ _; rw [List.length_map]; have := h.few; omega) (by show (recsOf ss).length ≤ _; rw [h.on.recs]; omega)).mono ?_
  rintro e w' ⟨rfl, n', s', wv', sv', lv', hL, hD, hk, ho'⟩
  rw [happ] at hD
  rw [he] at hL
  refine ⟨by rw [hnx], n', s', wv', sv', lv', ss', ⟨hL, hD, ho, by have := h.few; simp; omega, h.full, h.room0, h.room1, ?_, by have := h.wait; simp [DiskS.put]; omega⟩, hl, hk, ho'⟩
  show ((msum (CallS.done ⟨(appS (logD size ss)).n, appB (logD size ss) q, false⟩ d.now) : Nat) : Int) ≤ d.room
  have : CallS.done ⟨(appS (logD size ss)).n, appB (logD size ss) q, false⟩ d.now = mset d.now (appS (logD size ss)).n ((mget d.now (appS (logD size ss)).n).getD [] ++ appB (logD size ss) q) := rfl
  rw [this, msum_put]
  omega
/-- A log, opened. -/
def OpenPost [bn : Inhabited Ban] (base : Nat) (w : World) (p n s : Nat) (wv : Value) (size : Int) (ss : List SegL) (rs : List Bytes) (d : DiskS) (e : Ending) (w' : World) : Prop :=
  ∃ g sv lv, e = .returned (.tuple #[.pointer (some ⟨g, 0, none⟩), .int .i64 0]) ∧ Ready base w' g p n s wv sv lv size ss rs d ∧ Keep No w w' ∧ ∀ b, lfoot g sv lv b → w.heap.size ≤ b
theorem ready_open [bn : Inhabited Ban] {base : Nat} {w : World} {p n s : Nat} {wv : Value} {size : Int} {ss : List SegL} {rs : List Bytes} {d : DiskS} (hd : DiskAt base w p n s wv d) (ho : OnDisk ss rs d.now) (hb : base ≤ w.heap.size) (hT : ban.top ≤ w.heap.size) (hz : 1 ≤ size)
    (few : ss.length ≤ rs.length + 1000) (hr : rs.length ≤ 1000) (full : d.full = false) (room0 : 0 ≤ d.room) (room1 : d.room ≤ 1000000) (used : (msum d.now : Int) ≤ d.room) (wait : d.wait.length ≤ rs.length + 2) :
    Calls Tryz.prog 54 #[.pointer (some ⟨p, 0, none⟩), .int .i64 size] w (OpenPost base w p n s wv size ss rs d) := by
  refine (lOpen_spec hd hb hT (ho.diskL (by omega) (by omega) (by omega)) hz).mono ?_
  rintro e w' ⟨g, sv, lv, rfl, hL, hD, hk, hf⟩
  exact ⟨g, sv, lv, rfl, ⟨hL, hD, ho, few, full, room0, room1, used, wait⟩, hk, hf⟩
end Go.Proofs.YtfdmbomlkpkegaaGreat

/-! ## LogS -/
namespace Go.Proofs.YtfdmbomlkpkegaaGreat
open Go Go.RowKit

end Go.Proofs.YtfdmbomlkpkegaaGreat
