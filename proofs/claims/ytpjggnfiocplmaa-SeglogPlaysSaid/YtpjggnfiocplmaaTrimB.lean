/- Package seglog: Trim. -/
import Derived.Test.YtpjggnfiocplmaaTrimP
import Derived.Test.YtpjggnfiocplmaaPairA
namespace Go.Proofs.Ytpjggnfiocplmaa
open Go Go.RowKit Go.Dr

theorem elem_recs : Try.prog.underlying 64 = some (.slice (Try.prog.elem 64)) := by kernel_rfl
theorem size_recs (w : World) : (sizeOf (Try.prog.elem 64)).run Try.prog w = .ok 1 w := by kernel_rfl
theorem slice_recs [bn : Inhabited Ban] (ao : Option Addr) (n cap lo : Nat) (h1 : lo ≤ n) :
    ∃ o c, (∀ w, (Instr.slice 64 (.slice ao n cap) (some (.int .u64 (lo : Int))) none none).run Try.prog w = .ok (.slice o (n - lo) c) w) ∧
      ∀ base w l, RTail base w (.slice ao n cap) l → RTail base w (.slice o (n - lo) c) (l.drop lo) ∧ ∀ b, (Value.slice o (n - lo) c).ownBlock = some b → (Value.slice ao n cap).ownBlock = some b := by
  refine ⟨if cap = lo then ao else ao.map (·.add (lo * 1)), cap - lo, fun w => ?_, fun base w l h => ⟨?_, fun b hb => ?_⟩⟩
  · rw [run_slice_l w 64 ao n cap elem_recs .u64 _ (by omega) (by omega), Int.toNat_natCast, size_recs]
    rfl
  · obtain ⟨us, e1, e2, e3⟩ := h
    obtain ⟨_, _, hq, _⟩ := tail_form e3
    simp only [Value.slice.injEq] at hq
    obtain ⟨_, hn, _⟩ := hq
    subst hn
    refine ⟨us.drop lo, by rw [List.length_drop, List.length_drop, e1], fun i u b hu hb => ?_, ?_⟩
    · rw [List.getElem?_drop] at hu hb
      exact e2 _ u b hu hb
    · rw [List.length_drop]
      exact tail_cut e3 h1
  · revert hb
    unfold Value.ownBlock
    by_cases hc : cap = lo
    · rw [if_pos hc]
      cases ao <;> simp
    · rw [if_neg hc]
      cases ao with
      | none => simp
      | some a => simp [Addr.block_add]

/-- The log as Trim leaves it. -/
def trimL (size : Int) (n : Nat) (last : Int) (ss : List SegL) (segs : List SegV) (j : Nat) : LogS := { logD size ss with segs := segs, recs := (recsOf ss).drop (cntOf n last ss j) }
/-- In Trim's loop. -/
def TrimR [bn : Inhabited Ban] (base : Nat) (w : World) (g p n s : Nat) (wv sv lv : Value) (size : Int) (k : Nat) (last : Int) (ss : List SegL) (d : DiskS) (av dv iv : Value) (wr : World) : Prop :=
  ∃ (j n' s' : Nat) (wv' lv' : Value), j ≤ ss.length ∧ iv = .int .i64 j ∧ dv = .int .i64 ((dropsOf k last ss j).length : Nat) ∧ LSegsAt base wr av ((leftOf k last ss j).map SegL.view) ∧ (∀ b, av.ownBlock = some b → w.heap.size ≤ b) ∧
    LogAt base wr g p sv lv' (trimL size k last ss (ss.map SegL.view) j) ∧ (∀ b, lv'.ownBlock = some b → lv.ownBlock = some b) ∧ DiskAt base wr p n' s' wv' (trimD k last ss d j) ∧
    Keep (rfoot g p n s wv sv lv) w wr ∧ ∀ b, foot p n' s' wv' b → foot p n s wv b ∨ w.heap.size ≤ b

theorem wpList_append_lseg {base : Nat} {w : World} {ops : Array Oper} {rest : List Oper} {o : Oper} {a : Act} {Q : Exit → Act → World → Prop} (hg : o.guard = none) (s x : Operand)
    (ho : o.op = .call { callee := .builtin .append, args := #[s, x], argTypes := #[120, 120] }) {v : Value} {l : List SegV} (h : LSegsAt base w v l) (hs : a.eval s = v) {B : Nat} {c : SegV} (hB : w.heap[B]? = some (.cells (lsegCell c).toArray 124 (0, 0)))
    (hx : a.eval x = .slice (some ⟨B, 0, none⟩) 1 1) (hl : l.length ≤ 1099511627776) (hb : base ≤ w.heap.size)
    (hK : ∀ v' w', LSegsAt base w' v' (l ++ [c]) → Keep (fun b => v.ownBlock = some b) w w' → (∀ b, v'.ownBlock = some b → v.ownBlock = some b ∨ w.heap.size ≤ b) → wpList Try.prog ops Q rest (a.put o.dst v') w') : wpList Try.prog ops Q (o :: rest) a w :=
  wpList_plain hg fun _ hK' => wp_append_lseg s x ho h hs hB hx hl hb fun v' w' h1 h2 h3 => hK' _ _ (hK v' w' h1 h2 h3)

set_option maxRecDepth 100000 in
set_option maxHeartbeats 8000000 in
theorem lTrim_spec [bn : Inhabited Ban] {base : Nat} {w : World} {g p n s : Nat} {wv sv lv : Value} {size : Int} {ss : List SegL} {d : DiskS} {J : Nat} {l : List CallS} (hl : LogAt base w g p sv lv (logD size ss)) (hd : DiskAt base w p n s wv d) (hb : base ≤ w.heap.size)
    (hg : Good J l ss) (hJ : J ≤ 100) (k : Nat) {last : Int} (hlast : endOf (ss.map SegL.view) ss.length = last) (hcn : ∀ j s, ss[j]? = some s → cntOf k last ss j + s.recs.length ≤ (recsOf ss).length) (hsm : ∀ j, j ≤ ss.length → Small (trimD k last ss d j)) :
    Calls Try.prog 48 #[.pointer (some ⟨g, 0, none⟩), .int .u64 k] w fun e w' => e = .returned (.int .i64 ((dropsOf k last ss ss.length).length : Nat)) ∧ ∃ n' s' wv' sv' lv',
      LogAt base w' g p sv' lv' (trimL size k last ss ((leftOf k last ss ss.length).map SegL.view) ss.length) ∧ DiskAt base w' p n' s' wv' (trimD k last ss d ss.length) ∧ Keep (rfoot g p n s wv sv lv) w w' ∧
      ∀ b, rfoot g p n' s' wv' sv' lv' b → rfoot g p n s wv sv lv b ∨ w.heap.size ≤ b := by
  have hmap : (logD size ss).segs = ss.map SegL.view := rfl
  have hle := hg.len
  have hend := lend_spec hl (by rw [hmap, List.length_map]; omega)
  rw [hmap, List.length_map, hlast] at hend
  have hst : TrimR base w g p n s wv sv lv size k last ss d (.slice none 0 0) (.int .i64 0) (.int .i64 0) w :=
    ⟨0, n, s, wv, lv, Nat.zero_le _, rfl, rfl, World.ownsRow_nil _ _ _ _, fun b hb => by simp [Value.ownBlock] at hb, by rw [show trimL size k last ss (ss.map SegL.view) 0 = logD size ss by unfold trimL cntOf; rw [List.drop_zero]; rfl]; exact hl, fun b h => h, hd, Keep.refl _ _, fun b h => .inl h⟩
  obtain ⟨so, sc, hsv, hsc1, hsc2⟩ := hl.segs.form
  rw [hmap, List.length_map] at hsv hsc1
  subst hsv
  have c2 := cell_of hl.blk 2
  simp at c2
  have hli : (ss.length : Int) ≤ 1099511627776 := by omega
  have HH := Lib.hid (And.intro hb (And.intro hg (And.intro hcn (And.intro hsm (And.intro hle hl)))))
  have HLAST := Lib.hid hlast
  clear hb hg hcn hsm hle hmap hlast hl hd hsc1 hsc2
  go_enter Try.func48, Try.ntmps48
  go_upto_block 0 with (go_at_call 78; refine hend.mono ?_; rintro e w1 ⟨rfl, e1⟩; have e1 := e1.symm; subst e1)
  go_wp2_with fail
  go_loopw [5, 7, 19] (fun av dv iv wr => TrimR base w g p n s wv (.slice so ss.length sc) lv size k last ss d av dv iv wr) (fun _ _ iv _ => ss.length - (intOf iv).toNat)
  case atStart => exact hst
  case round =>
    clear hst c2
    obtain ⟨j, n', s', wv', lv', hj, rfl, rfl, hA, hAo, hL, hLo, hD, hK, hDo⟩ := hrel
    by_cases hlt : j < ss.length
    · have hsj : ss[j]? = some ss[j] := List.getElem?_eq_getElem hlt
      have hcj := HH.out.2.2.1 j _ hsj
      have hpos := HH.out.2.1.pos _ (List.getElem_mem hlt)
      have hnx := HH.out.2.1.next
      have hsmj := HH.out.2.2.2.1 j hj
      have hfc : (ss[j]).view.first + (ss[j]).view.count ≤ 9223372036854775807 := by
        have h1 : (ss[j]).view.count ≤ (recsOf ss).length := by show (ss[j]).recs.length ≤ _; omega
        have h2 := HH.out.2.1.recs
        cases hh : (ss[j]).headed with
        | true =>
          have h3 := ((HH.out.2.1.ok _ (List.getElem_mem hlt)).head hh).2.1
          have h4 : (ss[j]).view.first = (ss[j]).first := by show (if (ss[j]).headed then (ss[j]).first else 0) = _; rw [hh]; rfl
          omega
        | false =>
          have h4 : (ss[j]).view.first = 0 := by show (if (ss[j]).headed then (ss[j]).first else 0) = _; rw [hh]; rfl
          omega
      have hmj : (ss.map SegL.view)[j]? = some (ss[j]).view := by rw [List.getElem?_map, hsj]; rfl
      have hLc := hL.segs
      obtain ⟨r, rfl, s0, s1, s2, s3, s4, s5⟩ := LSegsAt.cell (l := ss.map SegL.view) hLc hmj
      have hkc : ∀ b, keepAt k last j (ss[j]) = b → neededB (ss[j]).view k ((j : Int) == last) = b := fun b e => e
      have hvn : (ss[j]).view.n = (ss[j]).n := rfl
      have hvc : (ss[j]).view.count = (ss[j]).recs.length := rfl
      generalize ss[j] = sg at *
      generalize hvw : sg.view = v at *
      have hneed := fun (w' : World) => lneeded_spec w' v k ((j : Int) == last) hfc
      have c0 := cell_of hL.blk 0
      have c3 := cell_of hL.blk 3
      simp at c0 c3
      have hji : (j : Int) < (ss.length : Int) := by omega
      generalize hlf : (leftOf k last ss j).map SegL.view = lf at hA
      obtain ⟨ao, ac, rfl, _, _⟩ := hA.form
      have HLF := Lib.hid hlf
      clear hlf
      have hlv : ∀ b, lfoot g (.slice (some ⟨r, 0, none⟩) ss.length sc) lv' b → b < w.heap.size := fun b hb => HH.out.2.2.2.2.2.lt b (by
        rcases hb with hb | hb | hb
        · exact .inl hb
        · exact .inr (.inl hb)
        · exact .inr (.inr (hLo b hb)))
      have hlfl : lf.length ≤ ss.length := by
        have h1 := HLF.out
        have h2 := (trim_all HH.out.2.1 k HLAST.out j hj).len
        rw [← h1, List.length_map]; omega
      have HI := Lib.hid (And.intro hA (And.intro hAo (And.intro hL (And.intro hLo (And.intro hD (And.intro hK (And.intro hDo (And.intro hlt (And.intro hvw (And.intro hlv hlfl))))))))))
      have HC := Lib.hid (And.intro hsj (And.intro hcj (And.intro hpos (And.intro hsmj (And.intro hvn hvc)))))
      clear hlv hlfl hA hAo hL hLo hD hK hDo hlt hsj hcj hpos hnx hsmj hfc hmj hj hvw hvn hvc hLc
      by_cases hk : keepAt k last j sg = true
      · have hnb := hkc _ hk
        clear hkc
        unfold segAgg at hneed
        rw [hnb] at hneed
        go_upto_region 9 with (go_at_call 79; refine (hneed _).mono ?_; rintro e w2 ⟨rfl, k2⟩)
        have kA : Keep No wr (wr.alloc (.cells #[.int .u64 v.n, .int .u64 v.first, .int .u64 v.count, .int .i64 v.size, .bool v.whole, .bool v.headed] 124)) := (Keep.refl _ _).alloc _
        have hbx := k2.heap (heap_new wr (.cells #[.int .u64 v.n, .int .u64 v.first, .int .u64 v.count, .int .i64 v.size, .bool v.whole, .bool v.headed] 124)) (fun e => e)
        have b0 := cell_of hbx 0
        have b1 := cell_of hbx 1
        have b2 := cell_of hbx 2
        have b3 := cell_of hbx 3
        have b4 := cell_of hbx 4
        have b5 := cell_of hbx 5
        simp at b0 b1 b2 b3 b4 b5
        have kB : Keep No w2 (w2.alloc (.cells #[.int .u64 v.n, .int .u64 v.first, .int .u64 v.count, .int .i64 v.size, .bool v.whole, .bool v.headed] 124)) := (Keep.refl _ _).alloc _
        have k3 := (kA.then k2).then kB
        have hA3 : LSegsAt base _ (.slice ao lf.length ac) lf := row_keep HI.out.1 k3 (fun _ _ e => e)
        have hB3 : (w2.alloc (.cells #[.int .u64 v.n, .int .u64 v.first, .int .u64 v.count, .int .i64 v.size, .bool v.whole, .bool v.headed] 124)).heap[w2.heap.size]? = some (.cells (lsegCell v).toArray 124 (0, 0)) := heap_new w2 _
        have hbs := Nat.le_trans HH.out.1 (HI.out.2.2.2.2.2.1.size)
        have hbs3 := Nat.le_trans hbs k3.size
        have hll : lf.length ≤ 1099511627776 := by have := HI.out.2.2.2.2.2.2.2.2.2.2; omega
        have H3 := Lib.hid (And.intro k3 (And.intro hA3 (And.intro hB3 (And.intro hbs3 hll))))
        clear kA hbx kB k3 hA3 hB3 hbs hbs3 hll k2
        go_upto_region 13 with (at_builtin; refine wpList_append_lseg rfl _ _ rfl H3.out.2.1 rfl H3.out.2.2.1 rfl H3.out.2.2.2.2 H3.out.2.2.2.1 ?_; intro v9 w9 hA9 k9 o9; obtain ⟨ao9, ac9, ev9, _, _⟩ := LSegsAt.form hA9; rw [List.length_append, List.length_singleton] at ev9; subst ev9)
        have k3 := H3.out.1
        have hoF : Foot base _ (fun b => (Value.slice ao lf.length ac).ownBlock = some b) := fun b hb => by
          obtain ⟨h1, cur, hz⟩ := row_kind H3.out.2.1 b hb
          exact ⟨h1, heap_lt hz, fun cs fr e => by rw [hz] at e; simp at e⟩
        have hL9 := (HI.out.2.2.1.no k3).keep hoF k9 (fun b hb e => by have h1 := HI.out.2.2.2.2.2.2.2.2.2.1 b hb; have h2 := HI.out.2.1 b e; omega)
        have hD9 := (HI.out.2.2.2.2.1.no k3).keep hoF k9 (fun b hb e => by
          obtain ⟨_, cur, hz⟩ := row_kind H3.out.2.1 b e
          rcases (HI.out.2.2.2.2.1.no k3).foot_kind hb hz with h | h <;> simp at h)
        have hK9 : Keep (rfoot g p n s wv (.slice (some ⟨r, 0, none⟩) ss.length sc) lv) w w9 := (HI.out.2.2.2.2.2.1.then k3).trans k9 (fun b hb e => by have := HI.out.2.1 b e; omega)
        have hA9o : ∀ b, (Value.slice ao9 (lf.length + 1) ac9).ownBlock = some b → w.heap.size ≤ b := fun b hb => by
          rcases o9 b hb with h | h
          · exact HI.out.2.1 b h
          · exact Nat.le_trans (HI.out.2.2.2.2.2.1.then k3).size h
        have eL := leftOf_keep HC.out.1 hk
        have eD := dropsOf_keep HC.out.1 hk
        have eC := cntOf_keep HC.out.1 hk
        have eT := trimD_keep (d := d) HC.out.1 hk
        have HZ := Lib.hid (And.intro hA9 (And.intro hA9o (And.intro hL9 (And.intro hD9 (And.intro hK9 (And.intro eL (And.intro eD (And.intro eC eT))))))))
        clear hA9 hA9o hL9 hD9 hK9 eL eD eC eT hoF k9 o9 k3 H3 b0 b1 b2 b3 b4 b5
        go_wp2
        go_roundw
        case rel =>
          obtain ⟨hA9, hA9o, hL9, hD9, hK9, eL, eD, eC, eT⟩ := HZ.out
          refine ⟨j + 1, n', s', wv', lv', HI.out.2.2.2.2.2.2.2.1, by go_num, by rw [eD], ?_, hA9o, ?_, HI.out.2.2.2.1, by rw [eT]; exact hD9, hK9, HI.out.2.2.2.2.2.2.1⟩
          · rw [eL, List.map_append, HLF.out]
            have : [sg].map SegL.view = [v] := by rw [← HI.out.2.2.2.2.2.2.2.2.1]; rfl
            rw [this]
            exact hA9
          · have : trimL size k last ss (ss.map SegL.view) (j + 1) = trimL size k last ss (ss.map SegL.view) j := by unfold trimL; rw [eC]
            rw [this]
            exact hL9
        case measure => have := HI.out.2.2.2.2.2.2.2.1; simp [intOf]; omega
      · have hk : keepAt k last j sg = false := by simpa using hk
        have hnb := hkc _ hk
        clear hkc
        unfold segAgg at hneed
        rw [hnb] at hneed
        go_upto_region 10 with (go_at_call 79; refine (hneed _).mono ?_; rintro e w2 ⟨rfl, k2⟩)
        have kA : Keep No wr (wr.alloc (.cells #[.int .u64 v.n, .int .u64 v.first, .int .u64 v.count, .int .i64 v.size, .bool v.whole, .bool v.headed] 124)) := (Keep.refl _ _).alloc _
        have hbx := k2.heap (heap_new wr (.cells #[.int .u64 v.n, .int .u64 v.first, .int .u64 v.count, .int .i64 v.size, .bool v.whole, .bool v.headed] 124)) (fun e => e)
        have k02 := kA.then k2
        have hL2 := HI.out.2.2.1.no k02
        have hD2 := HI.out.2.2.2.2.1.no k02
        have hA2 : LSegsAt base w2 (.slice ao lf.length ac) lf := row_keep HI.out.1 k02 (fun _ _ e => e)
        have c0 := k02.cell c0 (fun e => e)
        have b0 := cell_of hbx 0
        have b2 := cell_of hbx 2
        simp at b0 b2
        have hgD : ¬ foot p n' s' wv' g := hL2.apart hD2 (.inl rfl)
        have hBD : ¬ foot p n' s' wv' wr.heap.size := fun e => by
          rcases hD2.foot_kind e hbx with h | h <;> simp at h
        have hgB : g ≠ wr.heap.size := fun e => by have := heap_lt HI.out.2.2.1.blk; omega
        have hbs2 := Nat.le_trans HH.out.1 (HI.out.2.2.2.2.2.1.then k02).size
        have H2 := Lib.hid (And.intro k02 (And.intro hL2 (And.intro hD2 (And.intro hA2 (And.intro hbx hbs2)))))
        clear kA hbx k02 hL2 hD2 hA2 hbs2 k2
        refine wp_drawN (fun w' => Keep (foot p n' s' wv') w2 w') [0, 1, 2, 3, 4, 5] [6] [] (by kernel_rfl) (by kernel_rfl) (fun _ _ _ _ _ h => h) (Keep.refl _ _).drew ?_
        have kd : Keep No w2 w2.drew := (Keep.refl _ _).drew
        iterate 6 (refine earlyN_cons (v := ?_) rfl rfl rfl ?_ ?_; rotate_left; focus (
          intro w' hq
          have c0' := hq.cell c0 hgD
          have b0' := hq.cell b0 hBD
          go_simp
          try with_reducible rfl))
        refine earlyN_nil ?_
        refine midN_cons rfl rfl (fun K hK => ?_)
        go_simp
        refine (drop_spec (H2.out.2.2.1.no kd) (Nat.le_trans H2.out.2.2.2.2.2 kd.size) HC.out.2.2.2.1 v.n).mono ?_
        rintro e w3 ⟨rfl, n3, s3, wv3, hD3, k3, f3⟩
        have k23 : Keep (foot p n' s' wv') w2 w3 := kd.no.trans k3 (fun _ _ e => e)
        refine hK _ _ k23 ?_
        clear hK K
        refine midN_nil (tailN_nil ?_)
        have hL3 := H2.out.2.1.keep H2.out.2.2.1.foot_ok k23 (fun b hb => H2.out.2.1.apart H2.out.2.2.1 hb)
        have hA3 : LSegsAt base w3 (.slice ao lf.length ac) lf := row_keep H2.out.2.2.2.1 k23 (fun b e1 e2 => by
          obtain ⟨_, cur, hz⟩ := row_kind H2.out.2.2.2.1 b e1
          rcases H2.out.2.2.1.foot_kind e2 hz with h | h <;> simp at h)
        have hbx3 := k23.heap H2.out.2.2.2.2.1 hBD
        have b2 := cell_of hbx3 2
        simp at b2
        obtain ⟨lo, lc, rfl, hlc1, hlc2⟩ := hL3.recs.form
        have hcnt : v.count ≤ (trimL size k last ss (ss.map SegL.view) j).recs.length := by
          have h1 := HC.out.2.1
          have h2 := HC.out.2.2.2.2.2
          show v.count ≤ ((recsOf ss).drop (cntOf k last ss j)).length
          rw [List.length_drop]; omega
        obtain ⟨o7, c7, hrun, hsub⟩ := slice_recs lo (trimL size k last ss (ss.map SegL.view) j).recs.length lc v.count hcnt
        obtain ⟨hT7, hO7⟩ := hsub _ _ _ hL3.recs
        have c3 := cell_of hL3.blk 3
        have f3' := frozen_of hL3.blk 3
        simp at c3
        have hg3 := (log_set hL3.blk hL3.gb hL3.segs hL3.recs 3 (.slice o7 ((trimL size k last ss (ss.map SegL.view) j).recs.length - v.count) c7) rfl)
        have HY := Lib.hid (And.intro hL3 (And.intro hA3 (And.intro hD3 (And.intro k23 (And.intro f3 (And.intro hT7 (And.intro hO7 (And.intro hg3 (And.intro hbx3 (And.intro kd.size hrun))))))))))
        have hrun7 := hrun
        clear hL3 hA3 hD3 k23 f3 hT7 hO7 hg3 hbx3 k3 kd c0 b0 hsub hcnt hlc1 hlc2
        generalize (trimL size k last ss (ss.map SegL.view) j).recs.length = rl at *
        go_upto_region 11 with fail
        refine wp_drawS (fun w' => w'.cell? ⟨wr.heap.size, 2, none⟩ = some (.int .u64 v.count)) [([0, 1, 2, 3, 5, 6], [4, 7]), ([8, 9], [10])] (by kernel_rfl) (by kernel_rfl) (fun _ _ _ _ _ h => h) ((Keep.refl No w3).drew.cell b2 (fun e => e)) ?_
        have b2d := (Keep.refl No w3).drew.cell b2 (fun e => e)
        have c3d := (Keep.refl No w3).drew.cell c3 (fun e => e)
        iterate 6 (refine earlyN_cons (v := ?_) rfl rfl rfl ?_ ?_; rotate_left; focus (
          intro w' hq
          have b2' := hq
          go_simp
          try with_reducible rfl))
        refine earlyN_nil ?_
        refine midN_cons rfl rfl (fun K hK => ?_)
        go_simp
        refine hK _ _ b2d ?_
        clear hK K
        refine midN_cons rfl rfl (fun K hK => ?_)
        go_simp
        refine hK _ _ b2d ?_
        clear hK K
        refine midN_nil ?_
        iterate 2 (refine earlyN_cons (v := ?_) rfl rfl rfl ?_ ?_; rotate_left; focus (
          intro w' hq
          go_simp
          try with_reducible rfl))
        refine earlyN_nil ?_
        have b2s : (w3.setCell ⟨g, 3, none⟩ (.slice o7 (rl - v.count) c7)).drew.cell? ⟨wr.heap.size, 2, none⟩ = some (.int .u64 v.count) :=
          (HY.out.2.2.2.2.2.2.2.1.2.2.2.then (Keep.refl No _).drew).cell b2 (fun e => hgB e.symm)
        refine midN_cons rfl rfl (fun K hK => ?_)
        go_simp
        refine hK _ _ b2s ?_
        clear hK K b2d c3d b2s b2 c3 f3' hrun hrun7
        refine midN_nil ?_
        unfold stagesN
        go_upto_region 12 with fail
        have kS : Keep (· = g) w3 (w3.setCell ⟨g, 3, none⟩ (.slice o7 (rl - v.count) c7)).drew := HY.out.2.2.2.2.2.2.2.1.2.2.2.then (Keep.refl No _).drew
        have hb4 := (Keep.refl No (w3.setCell ⟨g, 3, none⟩ (.slice o7 (rl - v.count) c7))).drew.heap HY.out.2.2.2.2.2.2.2.1.1 (fun e => e)
        generalize (w3.setCell ⟨g, 3, none⟩ (.slice o7 (rl - v.count) c7)).drew = w4 at *
        obtain ⟨hL3, hA3, hD3, k23, f3, hT7, hO7, hg3, hbx3, hkds, _⟩ := HY.out
        have hFg : Foot base w3 (· = g) := fun b hb => hL3.foot b (.inl hb)
        have hT4 := hT7.keep hFg kS (fun b e1 e2 => by
          obtain ⟨us, _, _, hr⟩ := hT7
          obtain ⟨_, cur, hz⟩ := tail_kind hr b e1
          have e2 : b = g := e2
          rw [e2, hL3.blk] at hz; simp at hz)
        have hS4 : LSegsAt base w4 (.slice (some ⟨r, 0, none⟩) ss.length sc) (ss.map SegL.view) := row_keep hL3.segs kS (fun b e1 e2 => by
          obtain ⟨_, cur, hz⟩ := row_kind hL3.segs b e1
          have e2 : b = g := e2
          rw [e2, hL3.blk] at hz; simp at hz)
        have hA4 : LSegsAt base w4 (.slice ao lf.length ac) lf := row_keep hA3 kS (fun b e1 e2 => by
          obtain ⟨_, cur, hz⟩ := row_kind hA3 b e1
          have e2 : b = g := e2
          rw [e2, hL3.blk] at hz; simp at hz)
        have hD4 := hD3.keep hFg kS (fun b hb e => hL3.apart hD3 (.inl e) hb)
        have eL := leftOf_go HC.out.1 hk
        have eD := dropsOf_go HC.out.1 hk
        have eC := cntOf_go HC.out.1 hk
        have eT := trimD_go (d := d) HC.out.1 hk
        have hLog4 : LogAt base w4 g p (.slice (some ⟨r, 0, none⟩) ss.length sc) (.slice o7 (rl - v.count) c7) (trimL size k last ss (ss.map SegL.view) (j + 1)) := by
          refine ⟨hb4, hS4, ?_, hL3.gb⟩
          have e : (trimL size k last ss (ss.map SegL.view) (j + 1)).recs = ((trimL size k last ss (ss.map SegL.view) j).recs).drop v.count := by
            show (recsOf ss).drop (cntOf k last ss (j + 1)) = ((recsOf ss).drop (cntOf k last ss j)).drop v.count
            rw [eC, List.drop_drop, HC.out.2.2.2.2.2]
          rw [e]
          exact hT4
        have hD4' : DiskAt base w4 p n3 s3 wv3 (trimD k last ss d (j + 1)) := by rw [eT, ← HC.out.2.2.2.2.1]; exact hD4
        have hK4 : Keep (rfoot g p n s wv (.slice (some ⟨r, 0, none⟩) ss.length sc) lv) w w4 :=
          ((HI.out.2.2.2.2.2.1.then H2.out.1).trans k23 (fun b hb e => by
            rcases HI.out.2.2.2.2.2.2.1 b e with h | h
            · exact .inl h
            · omega)).trans kS (fun b _ e => .inr (.inl e))
        have hDo4 : ∀ b, foot p n3 s3 wv3 b → foot p n s wv b ∨ w.heap.size ≤ b := fun b hb => by
          rcases f3 b hb with h | h
          · exact HI.out.2.2.2.2.2.2.1 b h
          · exact .inr (Nat.le_trans (HI.out.2.2.2.2.2.1.then H2.out.1).size (Nat.le_trans hkds h))
        have HZ := Lib.hid (And.intro hA4 (And.intro hLog4 (And.intro hD4' (And.intro hK4 (And.intro hDo4 (And.intro hO7 (And.intro eL eD)))))))
        clear hA4 hLog4 hD4' hK4 hDo4 hO7 eL eD eC eT hD4 hS4 hT4 hFg kS hb4 hL3 hA3 hD3 k23 f3 hT7 hg3 hbx3 hkds
        have hdl : ((dropsOf k last ss j).length : Int) ≤ 1099511627776 := by
          have := (trim_all HH.out.2.1 k HLAST.out j (by have := HI.out.2.2.2.2.2.2.2.1; omega)).len
          omega
        go_wp2
        go_roundw
        case rel =>
          obtain ⟨hA4, hLog4, hD4', hK4, hDo4, hO7, eL, eD⟩ := HZ.out
          refine ⟨j + 1, n3, s3, wv3, _, HI.out.2.2.2.2.2.2.2.1, by go_num, by rw [eD]; simp, by rw [eL, HLF.out]; exact hA4, HI.out.2.1, hLog4, fun b hb => HI.out.2.2.2.1 b (hO7 b hb), hD4', hK4, hDo4⟩
        case measure => have := HI.out.2.2.2.2.2.2.2.1; simp [intOf]; omega
    · obtain rfl : j = ss.length := by omega
      have hji : ¬ ((ss.length : Int) < (ss.length : Int)) := by omega
      generalize hlf : (leftOf k last ss ss.length).map SegL.view = lf at hA
      have HLF := Lib.hid hlf
      obtain ⟨ao, ac, rfl, _, _⟩ := hA.form
      have e2 := cell_of hL.blk 2
      have f2 := frozen_of hL.blk 2
      simp at e2
      obtain ⟨q1, q2, q3, q4⟩ := log_set hL.blk hL.gb hL.segs hL.recs 2 (.slice ao lf.length ac) rfl
      have hA4 : LSegsAt base (wr.setCell ⟨g, 2, none⟩ (.slice ao lf.length ac)) (.slice ao lf.length ac) lf := row_keep hA q4 (fun b e1 e2 => by
        obtain ⟨_, cur, hz⟩ := row_kind hA b e1
        have e2 : b = g := e2
        rw [e2, hL.blk] at hz; simp at hz)
      have hFg : Foot base wr (· = g) := fun b hb => hL.foot b (.inl hb)
      have hD4 := hD.keep hFg q4 (fun b hb e => hL.apart hD (.inl e) hb)
      have hLog4 : LogAt base (wr.setCell ⟨g, 2, none⟩ (.slice ao lf.length ac)) g p (.slice ao lf.length ac) lv' (trimL size k last ss lf ss.length) := ⟨q1, hA4, q3, hL.gb⟩
      have hK4 := hK.trans q4 (fun b _ e => .inr (.inl e))
      have HZ := Lib.hid (And.intro hLog4 (And.intro hD4 (And.intro hK4 (And.intro hAo (And.intro hLo hDo)))))
      clear q1 q2 q3 q4 hA4 hFg hD4 hLog4 hK4 hAo hLo hDo hA hL hD hK hlt hj hlf
      go_wp2
      go_ret
      refine ⟨rfl, n', s', wv', .slice ao lf.length ac, lv', by rw [HLF.out]; exact HZ.out.1, HZ.out.2.1, HZ.out.2.2.1, fun b hb => ?_⟩
      rcases hb with hb | hb | hb | hb
      · rcases HZ.out.2.2.2.2.2 b hb with h | h
        · exact .inl (.inl h)
        · exact .inr h
      · exact .inl (.inr (.inl hb))
      · exact .inr (HZ.out.2.2.2.1 b hb)
      · exact .inl (.inr (.inr (.inr (HZ.out.2.2.2.2.1 b hb))))
end Go.Proofs.Ytpjggnfiocplmaa
