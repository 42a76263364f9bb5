/- Append on a full disk. -/
import Derived.Test.YtpjggnfiocplmaaLogZ
namespace Go.Proofs.Ytpjggnfiocplmaa
open Go Go.RowKit Go.Dr

set_option maxRecDepth 100000 in
set_option maxHeartbeats 4000000 in
theorem lAppend_full [bn : Inhabited Ban] {base : Nat} {w : World} {g p n s : Nat} {sv lv wv pv : Value} {L : LogS} {d : DiskS} {r : Bytes} (h : LogAt base w g p sv lv L) (hd : DiskAt base w p n s wv d) (hb : base ≤ w.heap.size) (hT : ban.top ≤ w.heap.size)
    (hp : BytesAt base w pv r) (hr : r.length ≤ 1048576) (hsm : Small d) (hok : (d.append (appS L).n (appB L r)).2 = 5) (hnx : L.next + 1 ≤ 9223372036854775807) (hln : ∀ s ∈ L.segs, 0 ≤ s.n ∧ s.n + 1 ≤ 9223372036854775807 ∧ s.count + 1 ≤ 9223372036854775807 ∧ s.size ≤ 1099511627776) (hfew : L.segs.length ≤ 1000000) (hrecs : L.recs.length ≤ 1000000) :
    Calls Try.prog 36 #[.pointer (some ⟨g, 0, none⟩), pv] w fun e w' => e = .returned (.tuple #[.int .u64 0, .int .i64 5]) ∧ ∃ n' s' wv', LogAt base w' g p sv lv L ∧ DiskAt base w' p n' s' wv' (d.append (appS L).n (appB L r)).1 ∧
      Keep (foot p n s wv) w w' ∧ ∀ b, foot p n' s' wv' b → foot p n s wv b ∨ w.heap.size ≤ b := by
  have hp0 := hp
  obtain ⟨po, pc, rfl⟩ := hp.form
  have hrec := lRecord_spec hp0 hT (by omega)
  have hri : ¬ ((1048576 : Int) < (r.length : Int)) := by omega
  obtain ⟨so, sc, rfl, hsc1, hsc2⟩ := h.segs.form
  unfold maxLen at hsc2
  obtain ⟨fb, hfb⟩ : ∃ fb, freshB L (lastN L) = fb := ⟨_, rfl⟩
  have hl := fun (w' : World) (k : Keep No w w') => llast_spec (h.no k)
  have hf := fun (w' : World) (k : Keep No w w') => lfresh_spec (h.no k) (lastN L)
  rw [hfb] at hf
  have HF := Lib.hid (And.intro hl (And.intro hf hfb))
  have HA := Lib.hid (And.intro h (And.intro hd (And.intro hb (And.intro hT (And.intro hp0 (And.intro hsm hok))))))
  have HB := Lib.hid (And.intro hnx (And.intro hln (And.intro hfew (And.intro hrecs hr))))
  have c4 := cell_of h.blk 4
  have c2 := cell_of h.blk 2
  simp at c2 c4
  generalize hrl0 : r.length = rl at *
  have HR0 := Lib.hid hrl0
  clear hrl0
  clear hl hf hfb hp hp0 hr hd hb hT hsm hok hnx hln hfew hrecs hsc1 hsc2
  go_enter Try.func36, Try.ntmps36
  go_upto_block 1 with (first
    | (go_at_call 71; refine (HF.out.2.1 _ ((k1.alloc _).then k3)).mono ?_; rintro e w4 ⟨rfl, rfl⟩; have c2' := ((k1.alloc (.cells #[.int .u64 1, .int .u64 L.next, .int .u64 0, .int .i64 0, .bool true, .bool true] 124)).then k3).cell c2 (fun e => e))
    | (go_at_call 72; refine (HF.out.1 _ (k1.alloc _)).mono ?_; rintro e w3 ⟨rfl, k3⟩)
    | (go_at_call 52; refine hrec.mono ?_; rintro e w1 ⟨v1, rfl, own1, k1⟩; obtain ⟨o1, c1, rfl⟩ := own1.form; have c4' := k1.cell c4 (fun e => e)))
  have hk4 : Keep No w w4 := (k1.alloc (.cells #[.int .u64 1, .int .u64 L.next, .int .u64 0, .int .i64 0, .bool true, .bool true] 124)).then k3
  have hbox := k3.heap (heap_new w1 (.cells #[.int .u64 1, .int .u64 L.next, .int .u64 0, .int .i64 0, .bool true, .bool true] 124)) (fun e => e)
  have hBge : w.heap.size ≤ w1.heap.size := k1.size
  have own4 := own1.keep ((Keep.refl No w1).alloc (.cells #[.int .u64 1, .int .u64 L.next, .int .u64 0, .int .i64 0, .bool true, .bool true] 124) |>.then k3) (fun _ _ e => e)
  obtain ⟨B, hBB⟩ : ∃ B, B = w1.heap.size := ⟨_, rfl⟩
  rw [← hBB] at hbox hBge ⊢
  have H4 := Lib.hid (And.intro hk4 (And.intro hBge own4))
  clear hrec own1 c4 c4' c2 k1 k3 hBB hk4 own4
  go_cut [] (fun wx => BoxAt wx B (appS L) ∧ Keep (· = B) w4 wx)
  case first =>
    have b0 := cell_of hbox 0
    have f0 := frozen_of hbox 0
    simp at b0
    have e1 : appS L = if fb then newSeg L else (L.segs.getLast?).getD (newSeg L) := by unfold appS; rw [HF.out.2.2]
    cases fb with
    | true =>
      have e1 : appS L = newSeg L := e1
      by_cases hne : L.segs = []
      · have hm0 : L.segs.length = 0 := by rw [hne]; rfl
        have e2 : newSeg L = { n := 1, first := L.next, count := 0, size := 0, whole := true, headed := true } := by unfold newSeg; rw [hne]; rfl
        have hfin : BoxAt w4 B (appS L) := by unfold BoxAt; rw [e1, e2]; exact hbox
        have HFI := Lib.hid hfin
        clear hfin hne e1 e2 hbox
        generalize L.segs.length = m at *
        subst hm0
        go_wp2
        go_meet
        exact ⟨HFI.out, Keep.refl _ _⟩
      · obtain ⟨k, sl, hk, hks, hl⟩ := segs_last hne
        have e2 : newSeg L = { n := sl.n + 1, first := L.next, count := 0, size := 0, whole := true, headed := true } := by unfold newSeg; rw [hl]
        have hn := (HB.out.2.1 sl (List.mem_of_getElem? hks))
        obtain ⟨rg, rfl, s0, _⟩ := (HA.out.1.no H4.out.1).segs.cell hks
        have hnw : IntKind.u64.wrap (sl.n + 1) = sl.n + 1 := wraps_u64 _ (by omega) (by omega)
        have hbx := heap_setCell_same (i := 0) (u := .int .u64 (sl.n + 1)) hbox
        have hfin : BoxAt (w4.setCell ⟨B, 0, none⟩ (.int .u64 (sl.n + 1))) B (appS L) := by unfold BoxAt; rw [e1, e2, hbx]; rfl
        have hkf : Keep (· = B) w4 (w4.setCell ⟨B, 0, none⟩ (.int .u64 (sl.n + 1))) := Keep.setCell (F := (· = B)) (Keep.refl _ _) (p := ⟨B, 0, none⟩) (.inl rfl) _
        have HFI := Lib.hid (And.intro hfin hkf)
        have hfl := HB.out.2.2.1
        clear hfin hkf hbx hn hne e1 e2 hbox hl hks
        generalize L.segs.length = m at *
        have hw1 : IntKind.i64.wrap ((m : Int) - 1) = (k : Int) := by rw [show (m : Int) - 1 = (k : Int) by omega]; exact IntWalk.i64_in _ (by omega)
        have hm1 : (m : Int) - 1 = (k : Int) := by omega
        have hm0 : (0 : Int) < (m : Int) := by omega
        have hkm : (k : Int) < (m : Int) := by omega
        have hkb : (k : Int) ≤ 1099511627776 := by omega
        clear hk hfl
        go_wp2
        go_meet
        exact HFI.out
    | false =>
      have hne : L.segs ≠ [] := fun e => by
        have h1 := HF.out.2.2
        unfold freshB at h1
        rw [e] at h1
        cases h1
      obtain ⟨k, sl, hkk, hks, hl⟩ := segs_last hne
      have e2 : appS L = sl := by rw [e1, hl]; rfl
      obtain ⟨rg, rfl, s0, s1, s2, s3, s4, s5⟩ := (HA.out.1.no H4.out.1).segs.cell hks
      have hfl := HB.out.2.2.1
      have hx := heap_setCell_same (i := 5) (u := .bool sl.headed) (heap_setCell_same (i := 4) (u := .bool sl.whole) (heap_setCell_same (i := 3) (u := .int .i64 sl.size) (heap_setCell_same (i := 2) (u := .int .u64 sl.count) (heap_setCell_same (i := 1) (u := .int .u64 sl.first) (heap_setCell_same (i := 0) (u := .int .u64 sl.n) hbox)))))
      have hk := fun (x : World) (hx : Keep (· = B) w4 x) (i : Nat) (u : Value) => Keep.setCell (F := (· = B)) hx (p := ⟨B, i, none⟩) (.inl rfl) u
      have hkx := hk _ (hk _ (hk _ (hk _ (hk _ (hk _ (Keep.refl _ _) 0 (.int .u64 sl.n)) 1 (.int .u64 sl.first)) 2 (.int .u64 sl.count)) 3 (.int .i64 sl.size)) 4 (.bool sl.whole)) 5 (.bool sl.headed)
      have b1 := cell_of hbox 1
      have f1 := frozen_of hbox 1
      have b2 := cell_of hbox 2
      have f2 := frozen_of hbox 2
      have b3 := cell_of hbox 3
      have f3 := frozen_of hbox 3
      have b4 := cell_of hbox 4
      have f4 := frozen_of hbox 4
      have b5 := cell_of hbox 5
      have f5 := frozen_of hbox 5
      simp at b1 b2 b3 b4 b5
      have HFI := Lib.hid (And.intro hx (And.intro hkx e2))
      clear hne e1 hl hks hx hk hkx e2 hbox
      generalize L.segs.length = m at *
      have hw1 : IntKind.i64.wrap ((m : Int) - 1) = (k : Int) := by rw [show (m : Int) - 1 = (k : Int) by omega]; exact IntWalk.i64_in _ (by omega)
      have hm1 : (m : Int) - 1 = (k : Int) := by omega
      have hm0 : (0 : Int) < (m : Int) := by omega
      have hkm : (k : Int) < (m : Int) := by omega
      have hkb : (k : Int) ≤ 1099511627776 := by omega
      clear hkk hfl
      go_wp2
      go_meet
      refine ⟨?_, HFI.out.2.1⟩
      unfold BoxAt
      rw [HFI.out.2.2, HFI.out.1]
      rfl
  case rest =>
    obtain ⟨hbox5, k5⟩ := hcut
    generalize wc = w5 at *
    have hk5 : Keep No w w5 := H4.out.1.absorb k5 (fun b e => by rw [e]; exact H4.out.2.1)
    have own5 := H4.out.2.2.keep k5 (fun b e1 e2 => by
      subst e2
      rcases H4.out.2.2.2 with ⟨hq, _⟩ | ⟨g', cap', cur', hq, _, hz, _⟩
      · rw [hq] at e1; simp [Value.ownBlock] at e1
      · rw [hq] at e1; simp [Value.ownBlock] at e1; subst e1; rw [hbox] at hz; simp at hz)
    have hB5 : B < w5.heap.size := heap_lt hbox5
    have H5 := Lib.hid (And.intro hk5 (And.intro own5 (And.intro hbox5 hB5)))
    have c4 := cell_of (HA.out.1.no hk5).blk 4
    simp at c4
    have hrl : (recB r).length ≤ 1099511627776 := by rw [recB_length]; have := HB.out.2.2.2.2; have := HR0.out; omega
    have HRL := Lib.hid hrl
    clear hk5 own5 hbox5 hB5 hbox k5 hrl
    generalize (recB r).length = xr at *
    go_upto_if 59 with fail
    go_cut [6] (fun v6 wx => BytesAt base wx v6 (appB L r) ∧ Keep No w5 wx)
    case first =>
      have e1 : appB L r = if fb then headB L.next ++ recB r else recB r := by unfold appB; rw [HF.out.2.2]
      have hlh := lHead_spec (w := w5) (Nat.le_trans HA.out.2.2.2.1 H5.out.1.size) L.next
      have hb5 := H5.out.2.1.bytes (base := base) (fun _ => HA.out.2.2.2.1)
      have HE := Lib.hid (And.intro e1 hb5)
      clear e1 hb5
      cases fb with
      | true =>
        go_wp2_with (first
          | (at_builtin; refine wpList_append_bytes rfl _ _ rfl w5.heap.size own6 (HE.out.2.no k6) rfl rfl (by rw [headB_length, recB_length]; have := HB.out.2.2.2.2; have := HR0.out; omega) k6.size ?_; intro v7 w7 own7 k7)
          | (go_at_call 54; refine hlh.mono ?_; rintro e w6 ⟨v6, rfl, own6, k6⟩))
        go_meet
        have e : appB L r = headB L.next ++ recB r := HE.out.1
        rw [e]
        exact ⟨own7.bytes (base := base) (fun _ => Nat.le_trans HA.out.2.2.2.1 H5.out.1.size), k6.trans k7 (fun b hb h => by have := (own6.lt b h).1; omega)⟩
      | false =>
        go_wp2
        go_meet
        have e : appB L r = recB r := HE.out.1
        rw [e]
        exact ⟨HE.out.2, Keep.refl _ _⟩
    case rest =>
      obtain ⟨hb6, k6⟩ := hcut
      generalize wc = w6 at *
      obtain ⟨a6, c6, rfl⟩ := hb6.form
      have hlb : (appB L r).length ≤ 1099511627776 := by
        have h1 := HB.out.2.2.2.2
        have h2 := HR0.out
        unfold appB
        split
        · rw [List.length_append, headB_length, recB_length]; omega
        · rw [recB_length]; omega
      have hk6 := H5.out.1.then k6
      have hbox6 : BoxAt w6 B (appS L) := k6.heap H5.out.2.2.1 (fun e => e)
      have hD6 := HA.out.2.1.no hk6
      have c0 := cell_of (HA.out.1.no hk6).blk 0
      simp at c0
      have b0 := cell_of hbox6 0
      simp [lsegCell] at b0
      have happ := fun (w' : World) (k : Keep No w6 w') => append_spec (hD6.no k) (Nat.le_trans HA.out.2.2.1 (hk6.then k).size) HA.out.2.2.2.2.2.1 (appS L).n (hb6.no k) hlb
      rw [HA.out.2.2.2.2.2.2] at happ
      have H6 := Lib.hid (And.intro hk6 (And.intro hbox6 hb6))
      have HLB := Lib.hid hlb
      clear hk6 hbox6 hb6 hD6 hlb k6 c4
      generalize hxb : (appB L r).length = xb at *
      have HXB := Lib.hid hxb
      clear hxb
      go_upto_region 15 with fail
      have hfg : ¬ foot p n s wv g := HA.out.1.apart HA.out.2.1 (.inl rfl)
      have hfB : ¬ foot p n s wv B := fun e => by have := HA.out.2.1.foot_lt B e; have := H4.out.2.1; omega
      refine wp_drawN (fun w' => Keep (foot p n s wv) w6 w') [0, 1, 2, 3, 4, 5, 6] [7] [8] (by kernel_rfl) (by kernel_rfl) (fun _ _ _ _ _ h => h) (Keep.refl _ _).drew ?_
      have kd : Keep No w6 w6.drew := (Keep.refl _ _).drew
      iterate 7 (refine earlyN_cons (v := ?_) rfl rfl rfl ?_ ?_; rotate_left; focus (
        intro w' hq
        have c0' := hq.cell c0 hfg
        have b0' := hq.cell b0 hfB
        go_simp
        try with_reducible rfl))
      refine earlyN_nil ?_
      refine midN_cons rfl rfl (fun K hK => ?_)
      go_simp
      refine (happ _ kd).mono ?_
      rintro e w8 ⟨rfl, n8, s8, wv8, hD8, k8, f8⟩
      have k68 : Keep (foot p n s wv) w6 w8 := kd.no.trans k8 (fun _ _ e => e)
      refine hK _ _ k68 ?_
      clear hK K
      refine midN_nil (tailN_cons rfl (tailN_nil ?_))
      have hD6 := HA.out.2.1.no H6.out.1
      have hL8 := (HA.out.1.no H6.out.1).byD hD6 k68
      have hp8 := (HA.out.2.2.2.2.1.no H6.out.1).keep hD6.foot_ok k68
      have hk8 : Keep (foot p n s wv) w w8 := H6.out.1.no.trans k68 (fun _ _ e => e)
      have h6sz := (H6.out.1.then kd).size
      have H8 := Lib.hid (And.intro hL8 (And.intro hk8 (And.intro h6sz (And.intro hD8 f8))))
      clear hL8 hp8 hk8 h6sz hD8 f8 hD6 k68 k8 kd c0 b0 happ
      go_wp2
      go_ret2
      exact ⟨rfl, n8, s8, wv8, H8.out.1, H8.out.2.2.2.1, H8.out.2.1, fun b hb => (H8.out.2.2.2.2 b hb).imp (fun h => h) (fun h => Nat.le_trans H8.out.2.2.1 h)⟩
end Go.Proofs.Ytpjggnfiocplmaa
