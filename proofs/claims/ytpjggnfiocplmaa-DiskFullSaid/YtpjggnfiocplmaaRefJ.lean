/- The document's Crash. -/
import Derived.Test.YtpjggnfiocplmaaRefI
namespace Go.Proofs.Ytpjggnfiocplmaa
open Go Go.RowKit Go.Dr

/-- What is left of the call on which the crash falls. -/
def tornOf (l : List CallS) (n : Nat) (torn : Int) : List CallS :=
  match l[n]? with
  | none => []
  | some c => if c.drop = false ∧ 0 < min torn ((c.p.length : Int) - 1) then [⟨c.seg, c.p.take (min torn ((c.p.length : Int) - 1)).toNat, false⟩] else []
def RDiskS.num (x : RDiskS) (keep : Int) : Nat := (x.safe + min (max keep 0) ((x.l.length : Int) - x.safe)).toNat
def RDiskS.found (x : RDiskS) (keep torn : Int) : List CallS := x.l.take (x.num keep) ++ tornOf x.l (x.num keep) torn
def RDiskS.crash (x : RDiskS) (keep torn : Int) : RDiskS := { x with l := x.found keep torn, safe := (x.found keep torn).length }
/-- There is a new disk of the document's, x'; what was there is as it was. -/
def NewRDisk [bn : Inhabited Ban] (base : Nat) (w : World) (x' : RDiskS) (e : Ending) (w' : World) : Prop :=
  ∃ q lv, e = .returned (.pointer (some ⟨q, 0, none⟩)) ∧ RDiskAt base w' q lv x' ∧ Keep No w w' ∧ w.heap.size ≤ q ∧ ∀ b, lv.ownBlock = some b → w.heap.size ≤ b

set_option maxRecDepth 100000 in
set_option maxHeartbeats 2000000 in
theorem rcrash_spec [bn : Inhabited Ban] {base : Nat} {w : World} {q : Nat} {lv : Value} {x : RDiskS} (h : RDiskAt base w q lv x) (hb : base ≤ w.heap.size) (hl : x.l.length ≤ 1000) (hs : wsum x.l ≤ 1099511627776)
    (h0 : 0 ≤ x.safe) (h1 : x.safe ≤ x.l.length) (keep torn : Int) (hk : keep ≤ 9223372036854775807) :
    Calls Try.prog 63 #[.pointer (some ⟨q, 0, none⟩), .int .i64 keep, .int .i64 torn] w (NewRDisk base w (x.crash keep torn)) := by
  have d0 := cell_of h.blk 0
  have d1 := cell_of h.blk 1
  have d2 := cell_of h.blk 2
  have d3 := cell_of h.blk 3
  simp at d0 d1 d2 d3
  obtain ⟨lo, lc, rfl, hlc, hcm⟩ := h.calls.form
  unfold maxLen at hcm
  obtain ⟨s, hs0⟩ : ∃ s : Nat, x.safe = (s : Int) := ⟨x.safe.toNat, by omega⟩
  rw [hs0] at d3
  obtain ⟨k, hk0⟩ : ∃ k : Nat, min (max keep 0) ((x.l.length : Int) - x.safe) = (k : Int) := ⟨(min (max keep 0) ((x.l.length : Int) - x.safe)).toNat, by omega⟩
  obtain ⟨n, hn⟩ : ∃ n : Nat, n = s + k := ⟨_, rfl⟩
  have hnum : x.num keep = n := by unfold RDiskS.num; omega
  have hnl : n ≤ x.l.length := by omega
  have hcr : x.crash keep torn = { x with l := x.l.take n ++ tornOf x.l n torn, safe := ((x.l.take n ++ tornOf x.l n torn).length : Nat) } := by
    simp only [RDiskS.crash, RDiskS.found, hnum]
  rw [hcr]
  have hlen : (x.l.length : Int) ≤ 1000 := by omega
  have HA := Lib.hid (And.intro hs0 (And.intro hk0 (And.intro hn (And.intro hnl (And.intro hlc (And.intro hcm (And.intro hs h1)))))))
  clear hs0 hk0 hn hnl hnum hcr hlc hcm hs h0 h1
  go_enter Try.func63, Try.ntmps63
  go_upto_block 0 with fail
  go_cut [7, 1] (fun a _ wx => a = .int .i64 (n : Int) ∧ Keep No w wx)
  case first =>
    go_wp2_with fail
    go_loopw [7, 1] (fun a b wr => ∃ j : Nat, j ≤ k ∧ a = .int .i64 ((s + j : Nat) : Int) ∧ b = .int .i64 (keep - j) ∧ Keep No w wr) (fun a _ _ => x.l.length - (intOf a).toNat)
    case atStart => exact ⟨0, Nat.zero_le _, rfl, by simp, Keep.refl _ _⟩
    case round =>
      obtain ⟨j, hj, rfl, rfl, hkp⟩ := hrel
      have d2' := hkp.cell d2 (fun e => e)
      have hsj : ((s + j : Nat) : Int) ≤ 1000 := by have := HA.out; omega
      by_cases hlt : j < k
      · have hi1 : ((s + j : Nat) : Int) < (x.l.length : Int) := by have := HA.out; omega
        have hi2 : (0 : Int) < keep - (j : Int) := by have := HA.out; omega
        have HX := Lib.hid hlt
        clear hlt d0 d1 d2 d3
        go_wp2
        go_roundw
        case rel => exact ⟨j + 1, by have := HX.out; omega, by go_num, by go_num, hkp⟩
        case measure => have := HX.out; have := HA.out; simp [intOf]; omega
      · obtain rfl : j = k := by omega
        have hsn : s + j = n := by have := HA.out; omega
        rw [hsn] at hsj ⊢
        clear hsn
        by_cases hnn : n < x.l.length
        · have hi1 : (n : Int) < (x.l.length : Int) := by omega
          have hi2 : ¬ (0 : Int) < keep - (j : Int) := by have := HA.out; omega
          clear d0 d1 d2 d3 hlt hnn
          go_wp2
          go_meet
          exact ⟨rfl, hkp⟩
        · have hi1 : ¬ (n : Int) < (x.l.length : Int) := by omega
          clear d0 d1 d2 d3 hlt hnn
          go_wp2
          go_meet
          exact ⟨rfl, hkp⟩
  case rest =>
    obtain ⟨rfl, k0⟩ := hcut
    generalize wc = w0 at *
    have hB0 : base ≤ w0.heap.size := Nat.le_trans hb k0.size
    have d2' := k0.cell d2 (fun e => e)
    have kz : Keep No w0 (w0.alloc (.cells #[] 113)) := (Keep.refl _ _).alloc _
    have d2'' := kz.cell d2' (fun e => e)
    have hmade := LAt.made base w0 hB0
    have hlen0 : ((n : Nat) : Int) ≤ (lc : Int) := by have := HA.out; omega
    have hlc1 : ((lc : Nat) : Int) ≤ 9223372036854775807 := by have := HA.out; omega
    have hsrc := (h.no (k0.then kz)).calls.takeIn n (by have := HA.out; omega)
    have hl0 : (x.l.take n).length ≤ 1000 := by simp; omega
    obtain ⟨T0, hT0⟩ : ∃ T0, T0 = x.l.take n := ⟨_, rfl⟩
    rw [← hT0] at hsrc hl0
    have HT := Lib.hid hT0
    clear hT0
    have hl1 : ([] : List CallS).length + T0.length ≤ 1000000 := by simp; omega
    have hl2 : ∀ c : CallS, T0.length + ([c] : List CallS).length ≤ 1000000 := fun c => by simp; omega
    clear d0 d1 d2 d3 d2'
    go_upto_region 5 with fail
    go_cut [8] (fun v wx => LAt base wx v T0 ∧ Keep No w wx ∧ ∀ b, v.ownBlock = some b → w.heap.size ≤ b)
    case first =>
      go_wp2_with (at_builtin; refine wpList_append_rcalls (v := .slice (some ⟨w0.heap.size, 0, none⟩) 0 0) rfl _ _ rfl rfl rfl hmade hsrc hl1 (Nat.le_trans hB0 kz.size) ?_; intro v3 w3 hL3 hk3 hv3)
      go_meet
      refine ⟨by simpa using hL3, k0.then (kz.absorb hk3 (fun x hx => by have hx : some w0.heap.size = some x := hx; injection hx with hx; omega)), fun b hb => ?_⟩
      have := k0.size
      rcases hv3 b hb with hx | hx
      · have hx : some w0.heap.size = some b := hx
        injection hx with hx
        omega
      · have := kz.size; omega
    case rest =>
      obtain ⟨hL, k1, ho8⟩ := hcut
      obtain ⟨o8, c8, rfl, hc8, hm8⟩ := hL.form
      clear kz hmade hsrc hl1 d2'' hlen0 hlc1
      generalize wc = w1 at *
      have hX := h.no k1
      have hB1 : base ≤ w1.heap.size := Nat.le_trans hb k1.size
      have d0 := cell_of hX.blk 0
      have d1 := cell_of hX.blk 1
      have d2 := cell_of hX.blk 2
      simp at d0 d1 d2
      obtain ⟨th, ht1, ht0⟩ : ∃ th : Bool, (th = true → ∃ c, x.l[n]? = some c ∧ c.drop = false ∧ 0 < torn ∧ 1 < c.p.length) ∧ (th = false → tornOf x.l n torn = []) := by
        by_cases hq : ∃ c, x.l[n]? = some c ∧ c.drop = false ∧ 0 < torn ∧ 1 < c.p.length
        · exact ⟨true, fun _ => hq, fun h => by cases h⟩
        · refine ⟨false, fun h => (by cases h), fun _ => ?_⟩
          unfold tornOf
          cases hcn : x.l[n]? with
          | none => rfl
          | some c =>
            simp only []
            rw [if_neg]
            rintro ⟨h1, h2⟩
            exact hq ⟨c, hcn, h1, by omega, by omega⟩
      go_upto_region 6 with fail
      go_cut [70] (fun tv wx => tv = .bool th ∧ Keep No w1 wx)
      case first =>
        cases hcn : x.l[n]? with
        | none =>
          obtain rfl : th = false := by
            cases th
            · rfl
            · obtain ⟨c, hc, _⟩ := ht1 rfl
              rw [hcn] at hc; cases hc
          have hge := List.getElem?_eq_none_iff.1 hcn
          have hi : ¬ (n : Int) < (x.l.length : Int) := by omega
          clear hge hcn ht1 ht0
          go_wp2
          go_meet
          exact ⟨rfl, Keep.refl _ _⟩
        | some c =>
          have hlt := (List.getElem?_eq_some_iff.1 hcn).1
          have hi : (n : Int) < (x.l.length : Int) := by omega
          obtain ⟨g, rfl, hbg, hcells⟩ := hX.calls.cells (by omega)
          obtain ⟨u, hu, e0, e1, e2⟩ := hcells n _ hcn
          obtain ⟨uo, uc, rfl⟩ := hu.form
          have hf : ¬ (c.drop = false ∧ 0 < torn ∧ 1 < c.p.length) → th = false := fun hn => by
            cases th
            · rfl
            · obtain ⟨c', hc, h⟩ := ht1 rfl
              rw [hcn] at hc
              simp at hc
              subst hc
              exact absurd h hn
          have ht : (c.drop = false ∧ 0 < torn ∧ 1 < c.p.length) → th = true := fun ⟨h1, h2, h3⟩ => by
            cases th
            · have := ht0 rfl
              unfold tornOf at this
              rw [hcn] at this
              simp only [] at this
              rw [if_pos ⟨h1, by omega⟩] at this
              cases this
            · rfl
          clear hcells hu hlt ht1 ht0 hcn
          have hp0 : (0 : Int) ≤ (c.p.length : Int) := by omega
          cases hd : c.drop with
          | true =>
            obtain rfl := hf (by simp [hd])
            rw [hd] at e2
            clear hf ht hd
            go_wp2
            go_meet
            exact ⟨rfl, Keep.refl _ _⟩
          | false =>
            rw [hd] at e2
            by_cases htt : 0 < torn
            · by_cases hp : 1 < c.p.length
              · obtain rfl := ht ⟨hd, htt, hp⟩
                have hp' : (1 : Int) < (c.p.length : Int) := by omega
                clear hf ht hd hp
                go_wp2
                go_meet
                exact ⟨rfl, Keep.refl _ _⟩
              · obtain rfl := hf (fun h => hp h.2.2)
                have hp' : ¬ (1 : Int) < (c.p.length : Int) := by omega
                clear hf ht hd hp
                go_wp2
                go_meet
                exact ⟨rfl, Keep.refl _ _⟩
            · obtain rfl := hf (fun h => htt h.2.1)
              clear hf ht hd
              go_wp2
              go_meet
              exact ⟨rfl, Keep.refl _ _⟩
      case rest =>
        obtain ⟨rfl, k2⟩ := hcut
        generalize wc = w2 at *
        have hL := hL.no k2
        have hX := hX.no k2
        have kk := k1.then k2
        have hB2 : base ≤ w2.heap.size := Nat.le_trans hb kk.size
        have hww := kk.size
        clear d0 d1 d2 k1 hB1
        go_upto_if 70 with fail
        go_cut [8] (fun v wx => LAt base wx v (T0 ++ tornOf x.l n torn) ∧ Keep No w wx ∧ ∀ b, v.ownBlock = some b → w.heap.size ≤ b)
        case first =>
          cases th with
          | false =>
            have hT := ht0 rfl
            clear ht0 ht1
            go_wp2
            go_meet
            exact ⟨by rw [hT, List.append_nil]; exact hL, kk, ho8⟩
          | true =>
            obtain ⟨c, hcn, hd, htt, hp⟩ := ht1 rfl
            obtain ⟨t, ht⟩ : ∃ t : Nat, min torn ((c.p.length : Int) - 1) = (t : Int) := ⟨(min torn ((c.p.length : Int) - 1)).toNat, by omega⟩
            have hTo : tornOf x.l n torn = [⟨c.seg, c.p.take t, false⟩] := by
              unfold tornOf
              rw [hcn]
              simp only []
              rw [if_pos ⟨hd, by omega⟩, ht]
              rfl
            have hlt := (List.getElem?_eq_some_iff.1 hcn).1
            have hgl : ∀ g, lo = some ⟨g, 0, none⟩ → g < w.heap.size := fun g hg => by
              obtain ⟨_, cur, hz⟩ := h.calls.kind g (by rw [hg]; rfl)
              exact heap_lt hz
            have hpl : c.p.length ≤ 1099511627776 := by
              have h3 := wsum_take_le x.l (n + 1)
              rw [wsum_take hcn] at h3
              have := HA.out
              omega
            obtain ⟨g, hlo, hbg, hcells⟩ := hX.calls.cells (by omega)
            have hgw := hgl g hlo
            have hqw : q < w.heap.size := heap_lt h.blk
            obtain ⟨u, hu, e0, e1, e2⟩ := hcells n _ hcn
            have hcap : ∀ ao cap, u = .slice ao c.p.length cap → c.p.length ≤ cap ∧ cap ≤ maxLen := fun ao cap e => by obtain ⟨_, _, hq, h1, h2, _⟩ := hu; rw [e] at hq; simp at hq; omega
            obtain ⟨uo, uc, rfl⟩ := hu.form
            obtain ⟨hc1, hc2⟩ := hcap _ _ rfl
            unfold maxLen at hc2
            have d2 := cell_of hX.blk 2
            simp at d2
            rw [hlo] at d2
            have HT2 := Lib.hid (And.intro hTo (And.intro ht (And.intro hp htt)))
            have hi : (n : Int) < (x.l.length : Int) := by omega
            have hp0 : (0 : Int) ≤ (c.p.length : Int) := by omega
            clear hTo hcells hlt hd hgl ht0 ht1 hcn
            go_upto_if 82 with fail
            go_cut [9] (fun v wx => v = .int .i64 (t : Int) ∧ Keep No w2 wx)
            case first =>
              by_cases hge : (c.p.length : Int) ≤ torn
              · have e : (c.p.length : Int) - 1 = (t : Int) := by omega
                clear ht hp htt
                go_wp2
                go_meet
                exact ⟨by first | rfl | rw [e], Keep.refl _ _⟩
              · have e : torn = (t : Int) := by omega
                have HE := Lib.hid e
                clear ht hp htt e
                go_wp2
                go_meet
                exact ⟨by rw [HE.out], Keep.refl _ _⟩
            case rest =>
              obtain ⟨rfl, k3⟩ := hcut
              generalize wc = w3 at *
              have hL := hL.no k3
              have hu := hu.no k3
              have k03 := kk.then k3
              have d2 := k3.cell d2 (fun e => e)
              have e0 := k3.cell e0 (fun e => e)
              have e1 := k3.cell e1 (fun e => e)
              have hB3 : base ≤ w3.heap.size := Nat.le_trans hb k03.size
              have hF1 : ¬ (Value.slice o8 T0.length c8).ownBlock = some q := fun e => by have := ho8 _ e; omega
              have hF2 : ¬ (Value.slice o8 T0.length c8).ownBlock = some g := fun e => by have := ho8 _ e; omega
              have htl : (t : Int) ≤ (uc : Int) := by omega
              have hut : BytesAt base w3 (.slice uo t uc) (c.p.take t) := hu.take t (by omega)
              have htp : (c.p.take t).length = t := by simp; omega
              have hw3 := k03.size
              clear ht hp htt hc1 hc2 hX hB2 kk hww
              go_wp2_with fail
              refine wp_drawN (fun w' => Keep (fun b => (Value.slice o8 T0.length c8).ownBlock = some b) w3 w') [0, 1, 2, 3, 4, 5, 6, 7, 8, 9, 10, 11, 12, 13, 14, 15, 16, 17, 18] [19, 20, 21, 22, 23] [24] (by kernel_rfl) (by kernel_rfl) (fun _ _ _ _ _ h => h) (Keep.refl _ _).drew ?_
              iterate 19 (refine earlyN_cons (v := ?_) rfl rfl rfl ?_ ?_; rotate_left; focus (
                intro w' hq
                have d2' := hq.cell d2 hF1
                have e0' := hq.cell e0 hF2
                have e1' := hq.cell e1 hF2
                go_simp
                try with_reducible rfl))
              refine earlyN_nil ?_
              have kD : Keep No w3 (w3.alloc (.cells #[.slice uo t uc] 27)).drew := ((Keep.refl _ _).alloc _).drew
              have hsl : SlicesAt base (w3.alloc (.cells #[.slice uo t uc] 27)).drew (.slice (some ⟨w3.heap.size, 0, none⟩) 1 1) [c.p.take t] :=
                SlicesAt.of_block (cs := #[.slice uo t uc]) (heap_new w3 _) [c.p.take t] rfl (by simp [maxLen]) (fun i u' l h1 h2 => by
                  match i, h1, h2 with
                  | 0, h1, h2 => simp at h1 h2; subst h1 h2; exact hut.no ((Keep.refl _ _).alloc _))
              refine midN_cons rfl rfl (fun K hK => ?_)
              go_simp
              refine hK _ _ kD.no ?_
              clear hK K
              refine midN_cons rfl rfl (fun K hK => ?_)
              go_simp
              refine (join_spec hsl (by simp; omega)).mono ?_
              rintro e' w4 ⟨v4, rfl, hown4, k4⟩
              simp only []
              have k34 := kD.then k4
              refine hK _ _ k34.no ?_
              clear hK K
              have hv4 : BytesAt base w4 v4 (c.p.take t) := by
                have := hown4.bytes (base := base) (fun hne => Nat.le_trans (hut.top (by simpa using hne)) kD.size)
                simpa using this
              obtain ⟨v4o, v4c, rfl⟩ := hv4.form
              rw [htp] at hv4
              refine midN_cons rfl rfl (fun K hK => ?_)
              go_simp
              refine hK _ _ k34.no ?_
              clear hK K
              refine midN_cons rfl rfl (fun K hK => ?_)
              go_simp
              have kn : Keep No w4 (w4.alloc (.cells #[.int .u64 c.seg, .slice v4o t v4c, .bool false] 113)) := (Keep.refl _ _).alloc _
              have hkn := k34.then kn
              refine hK _ _ hkn.no ?_
              clear hK K
              have hone := (LAt.one ⟨c.seg, c.p.take t, false⟩ hv4 (Nat.le_trans hB3 k34.size)).allIn
              refine midN_cons rfl rfl (fun K hK => ?_)
              refine wp_append_rcalls (v := .slice o8 T0.length c8) _ _ rfl rfl rfl (hL.no hkn) hone (hl2 _) (Nat.le_trans hB3 hkn.size) ?_
              intro v6 w6 hL6 hk6 hv6
              have hk6 := hkn.no.trans hk6 (fun _ _ e => e)
              refine hK _ _ hk6 ?_
              clear hK K
              refine midN_nil (tailN_cons rfl (tailN_nil ?_))
              have hnew : ∀ b, v6.ownBlock = some b → w.heap.size ≤ b := fun b hb => by
                rcases hv6 b hb with hx | hx
                · exact ho8 b hx
                · have := hkn.size; omega
              clear hone kn hkn hv4 k34 k4 kD hsl hut hown4 d2 e0 e1 e2 hu hv6
              go_wp2
              go_meet
              exact ⟨by rw [HT2.out.1]; exact hL6, k03.absorb hk6 (fun x hx => ho8 x hx), hnew⟩
        case rest =>
          obtain ⟨hL, k3, ho8⟩ := hcut
          obtain ⟨o8, c8, rfl, hc8, hm8⟩ := hL.form
          generalize wc = w3 at *
          have hX := h.no k3
          have d0 := cell_of hX.blk 0
          have d1 := cell_of hX.blk 1
          simp at d0 d1
          have hB3 : base ≤ w3.heap.size := Nat.le_trans hb k3.size
          have hw3 := k3.size
          obtain ⟨T1, hT1⟩ : ∃ T1, T1 = T0 ++ tornOf x.l n torn := ⟨_, rfl⟩
          rw [← hT1] at hL ho8 ⊢
          have HT1 := Lib.hid hT1
          clear hT1 hc8 hm8
          go_wp2_with fail
          refine wp_drawN (fun w' => Keep No w3 w') [0, 1, 2, 3, 4, 5, 6, 7, 8, 9, 10, 11] [12] [13] (by kernel_rfl) (by kernel_rfl) (fun _ _ _ _ _ h => h) (Keep.refl _ _).drew ?_
          iterate 12 (refine earlyN_cons (v := ?_) rfl rfl rfl ?_ ?_; rotate_left; focus (
            intro w' hq
            have d0' := hq.cell d0 (fun e => e)
            have d1' := hq.cell d1 (fun e => e)
            go_simp
            try with_reducible rfl))
          refine earlyN_nil (midN_cons rfl rfl (fun K hK => ?_))
          go_simp
          have kN : Keep No w3 (w3.alloc (.cells #[.int .i64 x.room, .bool x.full, .slice o8 T1.length c8, .int .i64 T1.length] 40)).drew := ((Keep.refl _ _).alloc _).drew
          refine hK _ _ kN ?_
          clear hK K
          refine midN_nil (tailN_cons rfl (tailN_nil ?_))
          go_wp2
          go_ret
          have e : x.l.take n ++ tornOf x.l n torn = T1 := by rw [HT1.out, HT.out]
          rw [e]
          exact ⟨w3.heap.size, _, rfl, ⟨heap_new w3 _, hL.no kN, hB3⟩, k3.then kN, hw3, ho8⟩
end Go.Proofs.Ytpjggnfiocplmaa
