/- The document's All; the law's 'like' of a log. -/
import Derived.Test.YtpjggnfiocplmaaTrimY
import Derived.Test.YtpjggnfiocplmaaHoldsA
import Derived.Test.YtpjggnfiocplmaaSeqs
namespace Go.Proofs.Ytpjggnfiocplmaa
open Go Go.RowKit Go.Dr

set_option maxRecDepth 100000 in
set_option maxHeartbeats 4000000 in
theorem rAll_spec [bn : Inhabited Ban] {base : Nat} {w : World} {v : Value} {ss : List SegL} (h : R7 base w v ss) (hb : base ≤ w.heap.size) (hfew : ss.length ≤ 10000) (hrec : (recsOf ss).length ≤ 400000) :
    Calls Try.prog 76 #[v] w fun e w' => ∃ v', e = .returned v' ∧ LRecsAt base w' v' (recsOf ss) ∧ Keep No w w' := by
  obtain ⟨ps, hps, hR⟩ := h
  obtain ⟨ao, cap, rfl, _, _⟩ := hR.form
  have hpl : ps.length = ss.length := by rw [← hps, List.length_map]
  rw [hpl] at hR ⊢
  have hli : (ss.length : Int) ≤ 1099511627776 := by omega
  have HR := Lib.hid (And.intro hps (And.intro hR (And.intro hb hrec)))
  clear hps hR hb hpl hfew hrec
  go_enter Try.func76, Try.ntmps76
  go_wp2_with fail
  go_loopw [3, 8] (fun ov iv wr => ∃ j : Nat, j ≤ ss.length ∧ iv = .int .i64 j ∧ LRecsAt base wr ov (recsOf (ss.take j)) ∧ (∀ b, ov.ownBlock = some b → w.heap.size ≤ b) ∧ Keep No w wr) (fun _ iv _ => ss.length - (intOf iv).toNat)
  case atStart => exact ⟨0, Nat.zero_le _, rfl, by rw [List.take_zero]; exact recs_nil _ _, by simp [Value.ownBlock], Keep.refl _ _⟩
  case round =>
    obtain ⟨j, hj, rfl, hL, ho, hK⟩ := hrel
    obtain ⟨oo, oc, rfl, _, _⟩ := hL.form
    by_cases hlt : j < ss.length
    · have hsj : ss[j]? = some ss[j] := List.getElem?_eq_getElem hlt
      obtain ⟨u, hpj⟩ := R7At.at HR.out.1 hsj
      have hRr := HR.out.2.1.no hK
      have hst : recsOf (ss.take (j + 1)) = recsOf (ss.take j) ++ (ss[j]).recs := by
        rw [List.take_add_one, hsj, Option.toList_some, recsOf_append]; simp [recsOf]
      have hle : (recsOf (ss.take j)).length + (ss[j]).recs.length ≤ 1000000 := by
        have h1 : (recsOf (ss.take (j + 1))).length ≤ (recsOf ss).length := by
          have : recsOf ss = recsOf (ss.take (j + 1)) ++ recsOf (ss.drop (j + 1)) := by rw [← recsOf_append, List.take_append_drop]
          rw [this, List.length_append]; omega
        rw [hst, List.length_append] at h1
        have := HR.out.2.2.2
        omega
      generalize ss[j] = s at *
      have hlu := hRr.recs _ (List.mem_of_getElem? hpj)
      dsimp only at hlu
      obtain ⟨lo, lc, rfl, _, _⟩ := hlu.form
      obtain ⟨g, rfl, c0, c1, c2, c3, c4, c5⟩ := hRr.cell hpj
      dsimp only at c0 c1 c2 c3 c4 c5
      have hji : (j : Int) < (ss.length : Int) := by omega
      generalize (if s.headed = true then (s.first : Int) else 0) = fi at *
      generalize (s.headed && !s.tail.isEmpty) = tb at *
      generalize s.bytes.length = bl at *
      have kA : Keep No wr (wr.alloc (.cells #[.int .u64 s.n, .bool s.headed, .int .u64 fi, .slice lo s.recs.length lc, .bool tb, .int .i64 bl] 146)) := (Keep.refl _ _).alloc _
      have hLA := hL.keep (Foot.no _ _) kA (fun _ _ e => e)
      have huA := hlu.keep (Foot.no _ _) kA (fun _ _ e => e)
      have hbA := Nat.le_trans HR.out.2.2.1 (hK.then kA).size
      have HC := Lib.hid (And.intro hst (And.intro hlt (And.intro (hK.then kA) ho)))
      clear hst hlt hK ho hL hpj hsj hRr hlu hj kA
      go_wp2_with (at_builtin; refine wpList_append_recs rfl _ _ rfl rfl rfl hLA huA hle hbA ?_; intro v9 w9 hR9 k9 o9)
      go_roundw
      case rel =>
        refine ⟨j + 1, HC.out.2.1, by go_num, by rw [HC.out.1]; exact hR9, fun b hb => ?_, HC.out.2.2.1.absorb k9 (fun b hb => HC.out.2.2.2 b hb)⟩
        rcases o9 b hb with h | h
        · exact HC.out.2.2.2 b h
        · rw [h]; exact HC.out.2.2.1.size
      case measure => have := HC.out.2.1; simp [intOf]; omega
    · obtain rfl : j = ss.length := by omega
      have hji : ¬ ((ss.length : Int) < (ss.length : Int)) := by omega
      rw [List.take_length] at hL
      rw [List.take_length]
      have HE := Lib.hid (And.intro hL hK)
      clear hlt hj hL hK ho
      go_wp2
      go_ret
      exact ⟨_, rfl, HE.out.1, HE.out.2⟩

theorem lSegs7_spec [bn : Inhabited Ban] {base : Nat} {w : World} {g p : Nat} {sv lv : Value} {L : LogS} (h : LogAt base w g p sv lv L) :
    Calls Try.prog 47 #[.pointer (some ⟨g, 0, none⟩)] w fun e w' => e = .returned (.int .i64 (L.segs.length : Nat)) ∧ w' = w := by
  obtain ⟨so, sc, rfl, _, _⟩ := h.segs.form
  have c2 := cell_of h.blk 2
  simp at c2
  clear h
  go_enter Try.func47, Try.ntmps47
  go_wp2
  go_ret
  exact ⟨rfl, rfl⟩
theorem Good.few {J : Nat} {l : List CallS} {ss : List SegL} (h : Good J l ss) : ∀ b ∈ recsOf ss, b.length ≤ 1099511627776 := fun b hb => by
  unfold recsOf at hb
  obtain ⟨r, hr, hbr⟩ := List.mem_flatten.1 hb
  obtain ⟨s, hs, rfl⟩ := List.mem_map.1 hr
  have ho := h.ok s hs
  cases hh : s.headed with
  | true => exact Nat.le_trans ((ho.head hh).2.2.1 b hbr) (by decide)
  | false => rw [(ho.bare hh).1] at hbr; cases hbr

set_option maxRecDepth 100000 in
set_option maxHeartbeats 8000000 in
theorem like7_spec [bn : Inhabited Ban] {base : Nat} {w : World} {P : Nat} {size : Int} {ss : List SegL} {d : DiskS} {x : RDiskS} {G : Nat → Prop} {j : Nat} (h : Pair base w P size ss d x G) (hst : St7 j RT ss d x) (hj : j ≤ 100) (hb : base ≤ w.heap.size) (hT : ban.top ≤ w.heap.size) :
    Calls Try.prog 45 #[.pointer (some ⟨P, 0, none⟩)] w fun e w' => e = .returned (.bool true) ∧ Keep No w w' := by
  obtain ⟨g, q, p, n, s, wv, sv, lv, xv, h, rfl⟩ := h
  obtain ⟨lo, lc, rfl, hlc, hcm⟩ := h.rx.calls.form
  have hg := hst.good
  have hle := hg.len
  have hsu := hg.sum
  have hnb := hg.next
  have hrb := hg.recs
  have b0 := cell_of h.blk 0
  have b1 := cell_of h.blk 1
  have c2 := cell_of h.rx.blk 2
  simp at b0 b1 c2
  obtain ⟨nx, hnx⟩ : ∃ nx, max (nextOf 0 ss) 1 = nx := ⟨_, rfl⟩
  rw [hnx] at hnb hrb
  have so := hg.segsOk (by omega : j ≤ 1000)
  have h1 := fun (w' : World) (k : Keep No w w') => rRead_spec (h.rx.no k) (Nat.le_trans hb k.size) (Nat.le_trans hT k.size) (by omega) (by omega) hg.map so
  have h2 := fun (w' : World) (k : Keep No w w') => records_spec (h.lg.no k) (Nat.le_trans hb k.size) (Nat.le_trans hT k.size) (by show max (nextOf 0 ss) 1 ≤ _; omega) (by show (recsOf ss).length + 1 ≤ max (nextOf 0 ss) 1; omega) hg.few (by show (recsOf ss).length ≤ _; omega)
  have h3 := fun (w' : World) (k : Keep No w w') => segs_spec (h.rx.no k).calls (Nat.le_trans hb k.size) (by omega) (by omega)
  rw [hg.map] at h3
  have h4 := fun (w' : World) (v : Value) (hv : R7 base w' v ss) (hb' : base ≤ w'.heap.size) => rAll_spec hv hb' (by omega) (by omega)
  have h5 := fun (w' : World) (v : Value) (hv : R7 base w' v ss) => rNext_spec hv so
  rw [hnx] at h5
  have h6 : ∀ w', Keep No w w' → Calls Try.prog 46 #[.pointer (some ⟨g, 0, none⟩)] w' fun e w'' => e = .returned (.int .u64 nx) ∧ w'' = w' := fun w' k => by
    have := lNext_spec (h.lg.no k)
    rw [show (logD size ss).next = nx from hnx] at this
    exact this
  have h7 : ∀ w', Keep No w w' → Calls Try.prog 47 #[.pointer (some ⟨g, 0, none⟩)] w' fun e w'' => e = .returned (.int .i64 (ss.length : Nat)) ∧ w'' = w' := fun w' k => by
    have := lSegs7_spec (h.lg.no k)
    rw [show (logD size ss).segs.length = ss.length from List.length_map _] at this
    exact this
  have hmS := hg.sorted
  have hmap : SameMap (segMap ss) d.now := by rw [← hg.map]; exact hst.rel.now
  have hkeys : sortedKeys d.now = (segMap ss).map (·.1) := sortedKeys_eq hmS hst.rel.kn hmap
  have hml : (segMap ss).length = ss.length := List.length_map _
  have hnl : d.now.length = ss.length := by rw [← sortedKeys_length, hkeys, List.length_map, hml]
  have hus : msum d.now ≤ 300 * j := by have h1 := hst.rel.sum; have h2 := segs6_sum x.l; omega
  have hread : ∀ (i : Nat) (e : Int × Bytes), (segMap ss)[i]? = some e → d.read e.1 = (e.2, 0) := fun i e he => by
    have h1 := hmap e.1
    rw [mget_mem hmS.keys (List.mem_of_getElem? he)] at h1
    simp [DiskS.read, ← h1]
  have hds := fun (w' : World) (k : Keep No w w') => dsegs_spec (h.dk.no k) (by omega)
  rw [hkeys] at hds
  have hdi := fun (w' : World) (k : Keep No w w') => lDisk_spec (h.lg.no k)
  have hrd := fun (w' : World) (k : Keep No w w') => read_spec (h.dk.no k) (by omega : msum d.now ≤ 1099511627776)
  have hssb : (ss.length : Int) ≤ 1099511627776 := by omega
  have hLR : (logD size ss).recs = recsOf ss := rfl
  rw [hLR] at h2
  generalize segMap ss = m at *
  have HC := Lib.hid (And.intro h1 (And.intro h2 (And.intro h3 (And.intro h4 (And.intro h5 (And.intro h6 h7))))))
  have HD := Lib.hid (And.intro hds (And.intro hdi (And.intro hrd (And.intro hread (And.intro hb hml)))))
  have hmi : (m.length : Int) ≤ 1099511627776 := by rw [hml]; exact hssb
  clear h1 h2 h3 h4 h5 h6 h7 hds hdi hrd hread hkeys hmap hmS hus hnl so hnb hrb hle hsu hg hst hlc hcm h hnx hLR hT hml hb hj
  go_enter Try.func45, Try.ntmps45
  go_upto_region 1 with fail
  go_upto_region 2 with (go_at_call 75; refine (HC.out.1 _ (Keep.refl _ _)).mono ?_; rintro e w1 ⟨v1, rfl, hR1, _, k1⟩)
  obtain ⟨vo1, vc1, ev1, _, _⟩ : ∃ ao cap, v1 = .slice ao ss.length cap ∧ ss.length ≤ cap ∧ cap ≤ maxLen := by
    obtain ⟨ps, hps, hRp⟩ := hR1
    have hpl : ps.length = ss.length := by rw [← hps, List.length_map]
    have := hRp.form
    rw [hpl] at this
    exact this
  subst ev1
  have b0 := k1.cell b0 (fun e => e)
  have b1 := k1.cell b1 (fun e => e)
  have c2 := k1.cell c2 (fun e => e)
  go_upto_region 3 with (go_at_call 38; refine (HC.out.2.1 _ k1).mono ?_; rintro e w2 ⟨v2, rfl, hv2, _, k2⟩)
  obtain ⟨vo2, vc2, rfl, _, _⟩ := hv2.form
  have b0 := k2.cell b0 (fun e => e)
  have b1 := k2.cell b1 (fun e => e)
  have c2 := k2.cell c2 (fun e => e)
  have k12 := k1.then k2
  go_upto_region 4 with (go_at_call 23; refine (HC.out.2.2.1 _ k12).mono ?_; rintro e w3 ⟨v3, rfl, hS3, k3, _⟩)
  obtain ⟨vo3, vc3, rfl, _, _⟩ := hS3.form
  have b0 := k3.cell b0 (fun e => e)
  have k13 := k12.then k3
  have hR3 := hR1.no (k2.then k3)
  have hb3 := Nat.le_trans HD.out.2.2.2.2.1 k13.size
  have hv3 := hv2.keep (Foot.no _ _) k3 (fun _ _ e => e)
  have hS := Lib.hid hS3
  have hK := Lib.hid k13
  clear hS3 hv2 hR1 k1 k2 k3 k12 b1 c2
  go_upto_block 0 with (first
    | (go_at_call 47; refine (HC.out.2.2.2.2.2.2 _ (hK.out.then k7)).mono ?_; rintro e w8 ⟨rfl, e8⟩; have e8 := e8.symm; subst e8)
    | (go_at_call 77; refine (HC.out.2.2.2.2.1 _ _ hR5).mono ?_; rintro e w7 ⟨rfl, k7'⟩; have k7 := k5.then k7'; have b07 := k7'.cell b05 (fun e => e))
    | (go_at_call 46; refine (HC.out.2.2.2.2.2.1 _ (hK.out.then k5)).mono ?_; rintro e w6 ⟨rfl, e6⟩; have e6 := e6.symm; subst e6)
    | (go_at_call 40; refine (same7_spec (recs_slices (hv3.keep (Foot.no _ _) k4 (fun _ _ e => e))) (recs_slices hv4)).mono ?_; rintro e w5 ⟨rfl, k5'⟩; have k5 := k4.then k5'; have b05 := k5.cell b0 (fun e => e); have hR5 := hR3.no k5)
    | (go_at_call 76; refine (HC.out.2.2.2.1 _ _ hR3 hb3).mono ?_; rintro e w4 ⟨v4, rfl, hv4, k4⟩; obtain ⟨vo4, vc4, rfl, _, _⟩ := hv4.form))
  have hS8 := hS.out.no k7
  have hK8 := hK.out.then k7
  have HW := Lib.hid (And.intro hS8 (And.intro hK8 b07))
  clear hS8 hK8 hv3 hv4 hR5 k4 k5 k5' k7 k7' b05 b0 hR3 hb3 HC
  clear hssb
  go_wp2_with fail
  go_loopw [71] (fun iv wr => ∃ j : Nat, j ≤ m.length ∧ iv = .int .i64 j ∧ Keep No w7 wr) (fun iv _ => m.length - (intOf iv).toNat)
  case atStart => exact ⟨0, Nat.zero_le _, rfl, Keep.refl _ _⟩
  case round =>
    obtain ⟨j, hj, rfl, kr⟩ := hrel
    have b0 := kr.cell HW.out.2.2 (fun e => e)
    have k0r := HW.out.2.1.then kr
    by_cases hlt : j < m.length
    · obtain ⟨ga, rfl, hbg, hcells⟩ := HW.out.1.cells (by omega)
      have hej : m[j]? = some m[j] := List.getElem?_eq_getElem hlt
      obtain ⟨u, hu, e0, e1⟩ := hcells j _ hej
      have hread := HD.out.2.2.2.1 j _ hej
      have hrd := fun (w' : World) (k : Keep No w w') => HD.out.2.2.1 w' k (m[j]).1
      rw [hread] at hrd
      generalize m[j] = e at *
      obtain ⟨uo, uc, rfl⟩ := hu.form
      have e0 := kr.cell e0 (fun e => e)
      have e1 := kr.cell e1 (fun e => e)
      have hu := hu.no kr
      have hji : (j : Int) < (m.length : Int) := by omega
      have kA : Keep No wr (wr.alloc (.cells #[.int .u64 e.1, .slice uo e.2.length uc] 49)) := (Keep.refl _ _).alloc _
      have hbx := heap_new wr (.cells #[.int .u64 e.1, .slice uo e.2.length uc] 49)
      have huA := hu.no kA
      have HL := Lib.hid (And.intro hlt (And.intro kr (And.intro k0r (And.intro hrd (And.intro huA kA)))))
      have b0 := kA.cell b0 (fun e => e)
      clear hcells hej hlt hread hrd hu huA kr k0r hj
      go_upto_region 9 with fail
      generalize wr.alloc (.cells #[.int .u64 e.1, .slice uo e.2.length uc] 49) = w9 at *
      have kA := HL.out.2.2.2.2.2
      have f0 := cell_of hbx 0
      have f1 := cell_of hbx 1
      simp at f0 f1
      refine wp_drawS (fun w' => Keep No w9 w') [([0, 1, 2, 3, 5, 6], [4, 7, 8]), ([9, 10], [11, 12])] (by kernel_rfl) (by kernel_rfl) (fun _ _ _ _ _ h => h) (Keep.refl _ _).drew ?_
      have kd : Keep No w9 w9.drew := (Keep.refl _ _).drew
      iterate 6 (refine earlyN_cons (v := ?_) rfl rfl rfl ?_ ?_; rotate_left; focus (
        intro w' hq
        have b0' := hq.cell b0 (fun e => e)
        have f0' := hq.cell f0 (fun e => e)
        go_simp
        try with_reducible rfl))
      refine earlyN_nil ?_
      refine midN_cons rfl rfl (fun K hK => ?_)
      go_simp
      refine (HD.out.2.1 _ ((HL.out.2.2.1.then kA).then kd)).mono ?_
      rintro ee w10 ⟨rfl, rfl⟩
      refine hK _ _ kd ?_
      clear hK K
      refine midN_cons rfl rfl (fun K hK => ?_)
      go_simp
      refine (HL.out.2.2.2.1 _ ((HL.out.2.2.1.then kA).then kd)).mono ?_
      rintro ee w11 ⟨v11, rfl, hv11, _, k11⟩
      have kd := kd.then k11
      refine hK _ _ kd ?_
      clear hK K
      refine midN_cons rfl rfl (fun K hK => ?_)
      go_simp
      refine hK _ _ kd ?_
      clear hK K
      refine midN_nil ?_
      iterate 2 (refine earlyN_cons (v := ?_) rfl rfl rfl ?_ ?_; rotate_left; focus (
        intro w' hq
        go_simp
        try with_reducible rfl))
      refine earlyN_nil ?_
      iterate 2 (refine midN_cons rfl rfl (fun K hK => ?_); go_simp; refine hK _ _ kd ?_; clear hK K)
      refine midN_nil ?_
      unfold stagesN
      obtain ⟨vo11, vc11, rfl⟩ := hv11.form
      have hsm := r1same_spec hv11 (HL.out.2.2.2.2.1.no kd)
      rw [beq_self_eq_true] at hsm
      have f1 := kd.cell f1 (fun e => e)
      have hfin := HL.out.2.1.then (kA.then kd)
      clear b0 f0 e0 e1 hbx hv11 k11 kd
      go_wp2_with (go_at_call 26; refine hsm.mono ?_; rintro ee w12 ⟨rfl, k12⟩)
      go_roundw
      case rel => exact ⟨j + 1, HL.out.1, by go_num, hfin.then k12⟩
      case measure => have := HL.out.1; simp [intOf]; omega
    · have hji : ¬ (j : Int) < (m.length : Int) := by omega
      have hdi := HD.out.2.1 _ k0r
      have hds := HD.out.1 _ k0r
      have hlm : (m.map (fun e : Int × Bytes => e.1)).length = m.length := List.length_map _
      have HE := Lib.hid k0r
      clear hlt hj kr k0r
      go_wp2_with (first
        | (go_at_call 31; refine hds.mono ?_; rintro ee w10 ⟨v10, rfl, hN, k10⟩; obtain ⟨no, nc, rfl, _, _⟩ := hN.form; rw [hlm])
        | (go_at_call 39; refine hdi.mono ?_; rintro ee w9 ⟨rfl, e9⟩; have e9 := e9.symm; subst e9))
      go_ret
      exact ⟨by simp, HE.out.then k10⟩
end Go.Proofs.Ytpjggnfiocplmaa
