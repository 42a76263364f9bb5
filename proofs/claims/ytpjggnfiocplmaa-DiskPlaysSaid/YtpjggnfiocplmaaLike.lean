/- The law's 'like': a disk is the document's. -/
import Derived.Test.YtpjggnfiocplmaaSeqD
import Derived.Test.YtpjggnfiocplmaaSafe
import Derived.Test.YtpjggnfiocplmaaDrawC
namespace Go.Proofs.Ytpjggnfiocplmaa
open Go Go.RowKit Go.Dr

set_option maxRecDepth 100000 in
set_option maxHeartbeats 4000000 in
theorem like_spec [bn : Inhabited Ban] {base : Nat} {w : World} {p n s q : Nat} {wv lv : Value} {d : DiskS} {x : RDiskS} (h : DiskAt base w p n s wv d) (hx : RDiskAt base w q lv x) (hb : base ≤ w.heap.size) (hr : Rel6 d x) (hl : x.l.length ≤ 1000) (hs : wsum x.l ≤ 1099511627776) :
    Calls Try.prog 28 #[.pointer (some ⟨p, 0, none⟩), .pointer (some ⟨q, 0, none⟩)] w fun e w' => e = .returned (.bool true) ∧ Keep No w w' := by
  obtain ⟨lo, lc, rfl, hlc, hcm⟩ := hx.calls.form
  have c2 := cell_of hx.blk 2
  simp at c2
  have hsm := hr.small
  have hsg := segs_spec hx.calls hb hl hs
  obtain ⟨m, hm⟩ : ∃ m, m = segs6 x.l := ⟨_, rfl⟩
  rw [← hm] at hsg
  have hmS : Sorted m := by rw [hm]; exact segs6_sorted _
  have hmap : SameMap m d.now := by rw [hm]; exact hr.now
  have hkeys : sortedKeys d.now = m.map (·.1) := sortedKeys_eq hmS hr.kn hmap
  have hnl : d.now.length = m.length := by rw [← sortedKeys_length, hkeys, List.length_map]
  have hmsum : msum d.now = msum m := by rw [← hr.sum, hm]
  have hml : m.length ≤ 1000 := by
    have : ∀ l : List CallS, (segs6 l).length ≤ l.length := fun l => by
      have : ∀ k, (segs6 (l.take k)).length ≤ k := fun k => by
        induction k with
        | zero => simp [segs6]
        | succ k ih =>
          cases hc : l[k]? with
          | none =>
            have hge := List.getElem?_eq_none_iff.1 hc
            rw [List.take_of_length_le (by omega)] at ih ⊢
            omega
          | some c =>
            rw [segs6_take hc]
            have := step6_length (segs6 (l.take k)) c
            omega
      have := this l.length
      rwa [List.take_length] at this
    rw [hm]
    exact Nat.le_trans (this _) hl
  have hread : ∀ (i : Nat) (e : Int × Bytes), m[i]? = some e → d.read e.1 = (e.2, 0) := fun i e he => by
    have h1 := hmap e.1
    rw [mget_mem hmS.keys (List.mem_of_getElem? he)] at h1
    simp [DiskS.read, ← h1]
  have hwl : (x.l.length : Int) - x.safe = (d.wait.length : Int) := by have := hr.s0; have := hr.s1; rw [hr.wait, List.length_drop]; omega
  have hwr : IntKind.i64.wrap ((x.l.length : Int) - x.safe) = (d.wait.length : Int) := by rw [hwl]; exact IntWalk.i64_in _ (by omega)
  have hroom := hr.room
  have hmsum' : msum d.now ≤ 1099511627776 := by omega
  have HQ := Lib.hid (And.intro hr (And.intro hm (And.intro hread hmS)))
  clear hm hmap hr hread hmS hwl
  go_enter Try.func28, Try.ntmps28
  go_wp2_with fail
  refine hsg.mono ?_
  rintro e w1 ⟨v1, rfl, hS, k1, n1⟩
  obtain ⟨so, sc, rfl, hmc, hsc⟩ := hS.form
  have hds := dsegs_spec (h.no k1) (by omega)
  rw [hkeys] at hds
  clear hsg hkeys c2
  go_wp2_with (go_at_call 31; refine hds.mono ?_; rintro e w2 ⟨v2, rfl, hN, k2⟩)
  obtain ⟨no, nc, rfl, hnc, hncm⟩ := hN.form
  have hk12 := k1.then k2
  have hx2 := hx.no hk12
  have h2 := h.no hk12
  have hS2 := hS.no k2
  have hlm : (m.map (fun e : Int × Bytes => e.1)).length = m.length := List.length_map _
  rw [hlm] at hN hnc ⊢
  have d0 := cell_of hx2.blk 0
  have d2 := cell_of hx2.blk 2
  have d3 := cell_of hx2.blk 3
  simp at d0 d2 d3
  have hu1 := fun w' (k : Keep No w2 w') => used_spec (h2.no k) (Nat.le_trans hb (hk12.then k).size) (by omega)
  rw [hmsum] at hu1
  have hu2 := fun w' (k : Keep No w2 w') => rused_spec (hx2.no k) (Nat.le_trans hb (hk12.then k).size) hl hs
  rw [← HQ.out.2.1] at hu2
  have hu3 := fun w' (k : Keep No w2 w') => waiting_spec (h2.no k)
  have hu4 := fun w' (k : Keep No w2 w') => room_spec (h2.no k)
  rw [← hroom] at hu4
  have HU := Lib.hid (And.intro hu1 (And.intro hu2 (And.intro hu3 hu4)))
  have HW := Lib.hid (And.intro h2 (And.intro hx2 (And.intro hS2 (And.intro hN hk12))))
  clear hu1 hu2 hu3 hu4 h hx hS k1 k2 hk12 hds h2 hx2 hS2 hN hsm hmsum hnl hroom n1 hlm
  go_upto_region 3 with fail
  go_cut [53] (fun v wx => v = .bool false ∧ Keep No w2 wx)
  case first =>
    refine wp_drawS (fun w' => Keep No w2 w') [([0, 1, 2, 3, 4, 5, 6, 8], [7, 9]), ([10, 11, 12, 13, 15, 16, 17, 18, 19, 20, 21, 22, 23, 24], [14]), ([25, 26, 27, 28, 30, 31, 32, 33], [29]), ([34, 35], [])] (by kernel_rfl) (by kernel_rfl) (fun _ _ _ _ _ h => h) (Keep.refl _ _).drew ?_
    have kd : Keep No w2 w2.drew := (Keep.refl _ _).drew
    iterate 6 (refine earlyN_cons (v := ?_) rfl rfl rfl ?_ ?_; rotate_left; focus (
      intro w' hq
      go_simp
      try with_reducible rfl))
    iterate 2 (refine earlyN_guarded (v := ?_) rfl rfl (by first | kernel_rfl | simp [Region.wanted, yielded, Act.put, undef]) ?_ ?_; rotate_left; focus (
      intro w' hq
      go_simp
      try with_reducible rfl))
    refine earlyN_nil ?_
    refine midN_guarded rfl (by first | kernel_rfl | simp [Region.wanted, yielded, Act.put, undef]) (fun K hK => ?_)
    go_simp
    refine (HU.out.1 _ kd).mono ?_
    rintro e w3 ⟨rfl, k3⟩
    have kd := kd.then k3
    refine hK _ _ kd ?_
    clear hK K
    refine midN_guarded rfl (by first | kernel_rfl | simp [Region.wanted, yielded, Act.put, undef]) (fun K hK => ?_)
    go_simp
    refine (HU.out.2.1 _ kd).mono ?_
    rintro e w4 ⟨rfl, k4⟩
    have kd := kd.then k4
    refine hK _ _ kd ?_
    clear hK K
    refine midN_nil ?_
    iterate 1 (refine earlyN_guarded (v := ?_) rfl rfl (by first | kernel_rfl | simp [Region.wanted, yielded, Act.put, undef]) ?_ ?_; rotate_left; focus (
      intro w' hq
      have d0' := hq.cell d0 (fun e => e)
      have d2' := hq.cell d2 (fun e => e)
      have d3' := hq.cell d3 (fun e => e)
      go_simp
      try with_reducible rfl))
    iterate 2 (refine earlyN_cons (v := ?_) rfl rfl rfl ?_ ?_; rotate_left; focus (
      intro w' hq
      have d0' := hq.cell d0 (fun e => e)
      have d2' := hq.cell d2 (fun e => e)
      have d3' := hq.cell d3 (fun e => e)
      go_simp
      try with_reducible rfl))
    iterate 11 (refine earlyN_guarded (v := ?_) rfl rfl (by first | kernel_rfl | simp [Region.wanted, yielded, Act.put, undef]) ?_ ?_; rotate_left; focus (
      intro w' hq
      have d0' := hq.cell d0 (fun e => e)
      have d2' := hq.cell d2 (fun e => e)
      have d3' := hq.cell d3 (fun e => e)
      go_simp
      try with_reducible rfl))
    refine earlyN_nil ?_
    refine midN_guarded rfl (by first | kernel_rfl | simp [Region.wanted, yielded, Act.put, undef]) (fun K hK => ?_)
    go_simp
    refine (HU.out.2.2.1 _ kd).mono ?_
    rintro e w5 ⟨rfl, rfl⟩
    refine hK _ _ kd ?_
    clear hK K
    refine midN_nil ?_
    iterate 1 (refine earlyN_guarded (v := ?_) rfl rfl (by first | kernel_rfl | simp [Region.wanted, yielded, Act.put, undef]) ?_ ?_; rotate_left; focus (
      intro w' hq
      have d0' := hq.cell d0 (fun e => e)
      have d2' := hq.cell d2 (fun e => e)
      have d3' := hq.cell d3 (fun e => e)
      go_simp
      try with_reducible rfl))
    iterate 2 (refine earlyN_cons (v := ?_) rfl rfl rfl ?_ ?_; rotate_left; focus (
      intro w' hq
      have d0' := hq.cell d0 (fun e => e)
      have d2' := hq.cell d2 (fun e => e)
      have d3' := hq.cell d3 (fun e => e)
      go_simp
      try with_reducible rfl))
    iterate 5 (refine earlyN_guarded (v := ?_) rfl rfl (by first | kernel_rfl | simp [Region.wanted, yielded, Act.put, undef]) ?_ ?_; rotate_left; focus (
      intro w' hq
      have d0' := hq.cell d0 (fun e => e)
      have d2' := hq.cell d2 (fun e => e)
      have d3' := hq.cell d3 (fun e => e)
      go_simp
      try with_reducible rfl))
    refine earlyN_nil ?_
    refine midN_guarded rfl (by first | kernel_rfl | simp [Region.wanted, yielded, Act.put, undef]) (fun K hK => ?_)
    go_simp
    refine (HU.out.2.2.2 _ kd).mono ?_
    rintro e w6 ⟨rfl, rfl⟩
    refine hK _ _ kd ?_
    clear hK K
    refine midN_nil ?_
    iterate 1 (refine earlyN_guarded (v := ?_) rfl rfl (by first | kernel_rfl | simp [Region.wanted, yielded, Act.put, undef]) ?_ ?_; rotate_left; focus (
      intro w' hq
      have d0' := hq.cell d0 (fun e => e)
      have d2' := hq.cell d2 (fun e => e)
      have d3' := hq.cell d3 (fun e => e)
      go_simp
      try with_reducible rfl))
    iterate 1 (refine earlyN_cons (v := ?_) rfl rfl rfl ?_ ?_; rotate_left; focus (
      intro w' hq
      have d0' := hq.cell d0 (fun e => e)
      have d2' := hq.cell d2 (fun e => e)
      have d3' := hq.cell d3 (fun e => e)
      go_simp
      try with_reducible rfl))
    refine earlyN_nil ?_
    refine midN_nil ?_
    unfold stagesN
    go_wp2
    go_meet
    exact ⟨rfl, kd⟩
  case rest =>
    obtain ⟨rfl, k3⟩ := hcut
    generalize wc = w3 at *
    clear d0 d2 d3 hwr
    go_wp2
    go_loopw [56] (fun i wr => ∃ j : Nat, j ≤ m.length ∧ i = .int .i64 j ∧ Keep No w3 wr) (fun i _ => m.length - (intOf i).toNat)
    case atStart => exact ⟨0, Nat.zero_le _, rfl, Keep.refl _ _⟩
    case round =>
      obtain ⟨j, hj, rfl, kr⟩ := hrel
      by_cases hlt : j < m.length
      · have k2r := k3.then kr
        obtain ⟨g, rfl, hbg, hcells⟩ := HW.out.2.2.1.cells (by omega)
        have hej : m[j]? = some m[j] := List.getElem?_eq_getElem hlt
        obtain ⟨u, hu, e0, e1⟩ := hcells j _ hej
        have hrd := HQ.out.2.2.1 j _ hej
        have hnj := HW.out.2.2.2.1.cell (j := j) (k := m[j].1) (by rw [List.getElem?_map, hej]; rfl)
        generalize m[j] = e at *
        obtain ⟨gn, rfl, hnc⟩ := hnj
        obtain ⟨uo, uc, rfl⟩ := hu.form
        have e0 := k2r.cell e0 (fun e => e)
        have e1 := k2r.cell e1 (fun e => e)
        have hnc := k2r.cell hnc (fun e => e)
        have hu := hu.no k2r
        have hji : (j : Int) < (m.length : Int) := by omega
        have kA : Keep No wr (wr.alloc (.cells #[.int .u64 e.1, .slice uo e.2.length uc] 49)) := (Keep.refl _ _).alloc _
        have hread := read_spec ((HW.out.1.no k2r).no kA) hmsum' e.1
        rw [hrd] at hread
        have HL := Lib.hid hlt
        clear hcells hej hlt hrd
        go_wp2_with (go_at_call 25; refine hread.mono ?_; rintro ee w4 ⟨v4, rfl, hv4, _, k4⟩)
        obtain ⟨o4, c4, rfl⟩ := hv4.form
        have hbx := k4.heap (heap_new wr (.cells #[.int .u64 e.1, .slice uo e.2.length uc] 49)) (fun e => e)
        have b0 := cell_of hbx 0
        have b1 := cell_of hbx 1
        simp at b0 b1
        have kA4 := kA.then k4
        have hnc := kA4.cell hnc (fun e => e)
        have hneq : (e.1 != e.1) = false := by simp
        have hsame := fun w' (k : Keep No w4 w') => r1same_spec (hv4.no k) ((hu.no kA4).no k)
        rw [beq_self_eq_true] at hsame
        refine wp_drawS (fun w' => Keep No w4 w') [([0, 1, 2, 3, 4, 5, 6, 7, 8, 9, 10, 11, 12, 13, 14], [15, 16, 17])] (by kernel_rfl) (by kernel_rfl) (fun _ _ _ _ _ h => h) (Keep.refl _ _).drew ?_
        have kd : Keep No w4 w4.drew := (Keep.refl _ _).drew
        iterate 8 (refine earlyN_cons (v := ?_) rfl rfl rfl ?_ ?_; rotate_left; focus (
          intro w' hq
          have b0' := hq.cell b0 (fun e => e)
          have b1' := hq.cell b1 (fun e => e)
          have hnc' := hq.cell hnc (fun e => e)
          go_simp
          try with_reducible rfl))
        iterate 2 (refine earlyN_guarded (v := ?_) rfl rfl (by first | kernel_rfl | simp [Region.wanted, yielded, Act.put, undef]) ?_ ?_; rotate_left; focus (
          intro w' hq
          go_simp
          try with_reducible rfl))
        iterate 2 (refine earlyN_cons (v := ?_) rfl rfl rfl ?_ ?_; rotate_left; focus (
          intro w' hq
          go_simp
          try with_reducible rfl))
        iterate 3 (refine earlyN_guarded (v := ?_) rfl rfl (by first | kernel_rfl | simp [Region.wanted, yielded, Act.put, undef]) ?_ ?_; rotate_left; focus (
          intro w' hq
          have b0' := hq.cell b0 (fun e => e)
          have b1' := hq.cell b1 (fun e => e)
          go_simp
          try with_reducible rfl))
        refine earlyN_nil ?_
        refine midN_guarded rfl (by first | kernel_rfl | simp [Region.wanted, yielded, Act.put, undef]) (fun K hK => ?_)
        go_simp
        refine (hsame _ kd).mono ?_
        rintro e' w5 ⟨rfl, k5⟩
        have kd := kd.then k5
        refine hK _ _ kd ?_
        clear hK K
        refine midN_guarded rfl (by first | kernel_rfl | simp [Region.wanted, yielded, Act.put, undef]) (fun K hK => ?_)
        go_simp
        refine hK _ _ kd ?_
        clear hK K
        refine midN_cons rfl rfl (fun K hK => ?_)
        go_simp
        refine hK _ _ kd ?_
        clear hK K
        refine midN_nil ?_
        unfold stagesN
        have kfin := kr.then (kA4.then kd)
        clear hsame hv4 hbx b0 b1 e0 e1 hu hnc hread
        go_wp2
        go_roundw
        case rel => exact ⟨j + 1, by have := HL.out; omega, by go_num, kfin⟩
        case measure => have := HL.out; simp [intOf]; omega
      · have hji : ¬ (j : Int) < (m.length : Int) := by omega
        clear hlt
        go_wp2
        go_ret
        exact ⟨rfl, HW.out.2.2.2.2.then (k3.then kr)⟩
end Go.Proofs.Ytpjggnfiocplmaa
