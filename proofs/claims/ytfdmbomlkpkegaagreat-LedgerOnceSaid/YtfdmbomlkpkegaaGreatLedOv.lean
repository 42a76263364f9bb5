/- LedgerOnce: the walk. -/
import Derived.Test.YtfdmbomlkpkegaaGreatLedSO
namespace Go.Proofs.YtfdmbomlkpkegaaGreat
open Go Go.RowKit Go.Dr Go.Shelf

set_option maxRecDepth 100000 in
set_option maxHeartbeats 8000000 in
theorem gonce_walk [bn : Inhabited Ban] {w : World} (hT : ban.top ≤ w.heap.size) (wd sg : Nat) (hwd : wd < 65536) (hsg : sg < 65536) {v2 : Value} {acts : List Act16S} (hv : Acts16At w.heap.size w v2 acts) :
    Calls Tryz.prog 3 #[.int .u16 wd, .int .u16 sg, v2] w fun e w' => e = .returned (.bool true) ∧ Keep No w w' := by
  obtain ⟨ao, cap, rfl, hac, hcm⟩ := hv.form
  have haw := awake16_spec (w := w) hT
  have hmm := @run_makeMap Tryz.prog
  have hli : (acts.length : Int) ≤ 9223372036854775807 := by unfold maxLen at hcm; omega
  have HT := Lib.hid (And.intro hT (And.intro hv (And.intro hwd (And.intro hsg hli))))
  clear hT hv hwd hsg hac hcm hli
  go_enter Tryz.func3, Tryz.ntmps3
  go_upto_region 3 with (go_at_call 11; refine haw.mono ?_; rintro e w1 ⟨rfl, k1⟩)
  clear haw
  have hop := open16_spec (base := w.heap.size) (w := w1) wd sg HT.out.2.2.1 HT.out.2.2.2.1 100000 (by decide) k1.size (Nat.le_trans HT.out.1 k1.size)
  go_upto_region 6 with (go_at_call 12; refine hop.mono ?_; rintro e w2 ⟨P, q, p, r, d, F, rfl, hO, hroom⟩)
  clear hop
  have hInit : OnR w w2 P r (1 + wd % 30) 0 (1 + sg % 300 : Nat) := by
    obtain ⟨ss, ho, hss⟩ := hO.led.onDisk
    refine ⟨q, p, _, d, _, F, 1, ⟨hO.led, ?_, hO.blk, k1.then hO.k, Nat.le_refl _, Nat.le_refl _, Nat.le_refl _, hO.used, hroom, Nat.le_trans k1.size hO.pnew, by omega, by omega⟩⟩
    have hds := hO.dsync
    exact OnS.fresh hO.led.telling rfl ho hds.1 hds.2 hss (fun r hr => by rw [List.mem_singleton.1 hr, incB, numB_lt (by decide)]; simp)
  obtain ⟨width, hwidth⟩ : ∃ n : Nat, n = 1 + wd % 30 := ⟨_, rfl⟩
  obtain ⟨size, hsize⟩ : ∃ n : Nat, n = 1 + sg % 300 := ⟨_, rfl⟩
  rw [← hwidth, ← hsize] at hInit
  clear hO hroom hwidth hsize
  have HI := Lib.hid hInit
  clear hInit k1
  go_wp2_with fail
  go_loopw [30] (fun v30 wr => ∃ i : Nat, v30 = .int .i64 (i : Nat) ∧ i ≤ acts.length ∧ OnR w wr P r width (min i 30) size) (fun v30 _ => acts.length - (intOf v30).toNat)
  case atStart => exact ⟨0, rfl, Nat.zero_le _, HI.out⟩
  case round =>
    obtain ⟨i, rfl, hi, hW⟩ := hrel
    have hli := HT.out.2.2.2.2
    by_cases hlt : i < acts.length
    · have hx : acts[i]? = some acts[i] := List.getElem?_eq_getElem hlt
      generalize acts[i] = a at hx
      obtain ⟨q, p, ts, d, L, F, s, hI⟩ := hW
      obtain ⟨g, o, hgo, hA⟩ := RowIn.at HT.out.2.1 hx
      subst hgo
      obtain ⟨u, hu, c0, c1, c2, c3, c4, c5, c6, c7⟩ := hA.cells
      obtain ⟨dn, hdn⟩ : ∃ dn : Nat, a.dop = dn := ⟨a.dop.toNat, by have := hA.dop0; omega⟩
      have hdn8 : dn ≤ 255 := by have := hA.dop0.2; omega
      rw [hdn] at c0
      have c0 := hI.k.cell c0 (fun e => e)
      have c1 := hI.k.cell c1 (fun e => e)
      have c2 := hI.k.cell c2 (fun e => e)
      have c3 := hI.k.cell c3 (fun e => e)
      have c4 := hI.k.cell c4 (fun e => e)
      have c5 := hI.k.cell c5 (fun e => e)
      have c6 := hI.k.cell c6 (fun e => e)
      have c7 := hI.k.cell c7 (fun e => e)
      obtain ⟨io, ic, rfl, hil, him⟩ := hu.form
      have hii : (i : Int) < (acts.length : Int) := by omega
      have hin : IntKind.i64.wrap ((i : Int) + 1) = ((i + 1 : Nat) : Int) := by rw [IntKind.wrap_i64]; omega
      obtain ⟨cs, hcs⟩ : ∃ cs : Array Value, cs = #[.int .u8 dn, .int .i64 a.agent, .int .u64 a.bas, .int .u64 a.epoch, .slice io a.items.length ic, .bool a.on, .int .i64 a.keep, .int .i64 a.torn] := ⟨_, rfl⟩
      have kA := (Keep.refl No wr).alloc (.cells cs 30)
      have hbA := heap_new wr (.cells cs 30)
      have hb64 := hA.bas
      have he64 := hA.epoch
      have hIA := hI.no kA
      have HRk := Lib.hid hI.k.size
      have HR := Lib.hid (And.intro hlt (And.intro hIA (And.intro hu (And.intro hb64 (And.intro he64 hbA)))))
      clear hI hA hu hdn hi hx kA hIA hb64 he64 hdn8 hil him
      by_cases h30 : 30 ≤ i
      · have q1 : (30 : Int) ≤ (i : Int) := by omega
        have HX := Lib.hid HR.out.2.1.k
        rw [hcs] at HX
        clear hcs hbA
        clear h30
        go_wp2_with fail
        go_ret
        exact ⟨rfl, HX.out⟩
      · have q1 : ¬ (30 : Int) ≤ (i : Int) := by omega
        have HCS := Lib.hid hcs
        have H30 := Lib.hid h30
        clear hbA h30
        go_upto_region 10 with fail
        rw [← HCS.out]
        obtain ⟨WA, hWA⟩ : ∃ WA, WA = wr.alloc (.cells cs 30) := ⟨_, rfl⟩
        rw [← hWA] at HR ⊢
        obtain ⟨b9, hb9⟩ : ∃ b, b = wr.heap.size := ⟨_, rfl⟩
        rw [← hb9] at HR ⊢
        have hbn9 : w.heap.size ≤ b9 := by have := HRk.out; omega
        have HN := Lib.hid hbn9
        clear hWA hb9 hbn9
        have hj : min i 30 = i := by have := H30.out; omega
        rw [hj] at HR
        have p0 := cell_of HR.out.2.1.blk 0
        simp at p0
        have hrecs : L.recs.length ≤ 1073741824 := by have := HR.out.2.1.nrec; have := H30.out; omega
        have hall := fun (X : World) (k : Keep No WA X) => gAll_ft (HR.out.2.1.led.no k) hrecs
        have hsto := fun (X : World) (k : Keep No WA X) => gStored_ft (HR.out.2.1.led.no k) hrecs HR.out.2.1.safeLe
        have hinc := fun (X : World) (k : Keep No WA X) => gInc_ft (HR.out.2.1.led.no k)
        have HS := Lib.hid (And.intro hall (And.intro hsto (And.intro hinc hrecs)))
        clear hall hsto hinc hrecs hj
        have kd : Keep No WA WA.drew := (Keep.refl _ _).drew
        refine wp_drawN (fun w' => Keep No WA w') [0, 1, 2, 3, 5, 6, 7, 8, 10, 11, 12, 13] [4, 9, 14] [15, 16, 17] (by kernel_rfl) (by kernel_rfl) (fun _ _ _ _ _ h => h) kd ?_
        iterate 12 (refine earlyN_cons (v := ?_) rfl rfl rfl ?_ ?_; rotate_left; focus (
          intro w' hS
          have e0 := hS.cell p0 (fun e => e)
          go_simp
          try with_reducible rfl))
        refine earlyN_nil (midN_cons rfl rfl (fun K hK => ?_))
        go_simp
        refine (HS.out.1 _ kd).mono ?_
        rintro e wa ⟨v10, rfl, hv10, ka⟩
        have ka1 := kd.then ka
        refine hK _ _ ka1 ?_
        clear hK K
        refine midN_cons rfl rfl (fun K hK => ?_)
        go_simp
        refine (HS.out.2.1 _ ka1).mono ?_
        rintro e wb ⟨v11, rfl, hv11, kb⟩
        have kb1 := ka1.then kb
        refine hK _ _ kb1 ?_
        clear hK K
        refine midN_cons rfl rfl (fun K hK => ?_)
        go_simp
        refine (HS.out.2.2.1 _ kb1).mono ?_
        rintro e wc ⟨rfl, ec⟩
        have ec := ec.symm
        subst ec
        refine hK _ _ kb1 ?_
        clear hK K
        refine midN_nil (tailN_cons rfl (tailN_cons rfl (tailN_cons rfl (tailN_nil ?_))))
        have hsA : w.heap.size ≤ WA.heap.size := HR.out.2.1.k.size
        have ho10 := (hv10.no kb).mono kd.size
        have ho11 := hv11.mono ka1.size
        obtain ⟨R, hR⟩ : ∃ R, R = L.recs := ⟨_, rfl⟩
        obtain ⟨S, hS⟩ : ∃ S, S = L.recs.take L.safe := ⟨_, rfl⟩
        have hSl : S.length = L.safe := by rw [hS, List.length_take]; have := HR.out.2.1.safeLe; omega
        rw [← hR] at ho10
        rw [← hS] at ho11
        obtain ⟨o10, c10, rfl, _, _⟩ := ho10.form
        obtain ⟨o11, c11, rfl, _, _⟩ := ho11.form
        have hIB := HR.out.2.1.no kb1
        have hAB := kb1.heap HR.out.2.2.2.2.2 (fun e => e)
        have HB := Lib.hid (And.intro ho10 (And.intro ho11 (And.intro hR (And.intro hSl (And.intro hIB (And.intro hAB (And.intro hsA kb1)))))))
        clear ho10 ho11 hR hS hSl hIB hAB hsA hv10 hv11 ka kb ka1 kb1 kd p0 HS
        have b0 := cell_of HB.out.2.2.2.2.2.1 0
        rw [HCS.out] at b0
        simp at b0
        by_cases h6 : dn % 7 = 6
        · -- CRASH
          -- DEV(
          have q6 : (dn : Int) % 7 = 6 := by omega
          have b6 := cell_of HB.out.2.2.2.2.2.1 6
          have b7 := cell_of HB.out.2.2.2.2.2.1 7
          have p0 := cell_of HB.out.2.2.2.2.1.blk 0
          rw [HCS.out] at b6 b7
          simp at b6 b7 p0
          obtain ⟨gl, hlog, hdisk⟩ := HB.out.2.2.2.2.1.led.logOf
          have hcr := HB.out.2.2.2.2.1.crashOf (by have := H30.out; omega) a.keep a.torn
          have HC := Lib.hid (And.intro hlog (And.intro hdisk hcr))
          clear hlog hdisk hcr h6
          go_upto_region 12 with fail
          have kd : Keep No wb wb.drew := (Keep.refl _ _).drew
          refine wp_drawN (fun w' => Keep No wb w') [0, 1, 2, 3, 6, 7, 8, 9] [4, 5, 10] [11] (by kernel_rfl) (by kernel_rfl) (fun _ _ _ _ _ h => h) kd ?_
          iterate 8 (refine earlyN_cons (v := ?_) rfl rfl rfl ?_ ?_; rotate_left; focus (
            intro w' hS
            have e0 := hS.cell p0 (fun e => e)
            have e6 := hS.cell b6 (fun e => e)
            have e7 := hS.cell b7 (fun e => e)
            go_simp
            try with_reducible rfl))
          refine earlyN_nil (midN_cons rfl rfl (fun K hK => ?_))
          go_simp
          refine (HC.out.1 _ kd).mono ?_
          rintro e w3 ⟨rfl, e3⟩
          have e3 := e3.symm
          subst e3
          refine hK _ _ kd ?_
          clear hK K
          refine midN_cons rfl rfl (fun K hK => ?_)
          go_simp
          refine (HC.out.2.1 _ kd).mono ?_
          rintro e w3 ⟨rfl, e3⟩
          have e3 := e3.symm
          subst e3
          refine hK _ _ kd ?_
          clear hK K
          refine midN_cons rfl rfl (fun K hK => ?_)
          go_simp
          refine (HC.out.2.2 _ kd).mono ?_
          rintro e w4 ⟨p4, n4, s4, wv4, rfl, hD4, k4, hnew4⟩
          have k04 := kd.then k4
          refine hK _ _ k04 ?_
          clear hK K
          refine midN_nil (tailN_cons rfl (tailN_nil ?_))
          have hfull := full_spec hD4 false
          have hnew4' : ∀ b, foot p4 n4 s4 wv4 b → wb.heap.size ≤ b := fun b hb => by have := hnew4 b hb; have := kd.size; omega
          have HD := Lib.hid (And.intro hD4 (And.intro k04 hnew4'))
          clear hD4 k4 k04 hnew4 hnew4' kd p0 b6 b7
          go_upto_region 14 with (go_at_call 19; refine hfull.mono ?_; rintro e w5 ⟨rfl, n5, s5, wv5, hD5, k5, hn5⟩)
          clear hfull
          have hnew5 : ∀ b, foot p4 n5 s5 wv5 b → wb.heap.size ≤ b := fun b hb => (hn5 b hb).elim (HD.out.2.2 b) (fun h => Nat.le_trans HD.out.2.1.size h)
          have k05 : Keep No wb w5 := HD.out.2.1.absorb k5 (fun x hx => HD.out.2.2 x hx)
          have hI5 := HB.out.2.2.2.2.1.no k05
          have hop := reopen (keep := a.keep) (torn := a.torn) hD5 rfl rfl rfl rfl hI5.on hI5.led.telling (by have := H30.out; omega) (by have := hI5.nts; have := H30.out; omega) (by have h1 := hI5.used; have h2 := hI5.room; have := H30.out; omega) (by have := hI5.room; omega) (by have := hI5.nrec; have := H30.out; omega) (by have := hI5.ninc; have := H30.out; omega) hI5.wide hI5.size1 hI5.k.size (Nat.le_trans HT.out.1 hI5.k.size)
          have pb5 := hI5.blk
          have pc2 := cell_of pb5 2
          have pc3 := cell_of pb5 3
          simp at pc2 pc3
          have HE := Lib.hid (And.intro k05 (And.intro hI5 hnew5))
          clear hD5 k5 hn5 hnew5 k05 hI5 pb5
          go_upto_region 15 with (go_at_call 20; refine hop.mono ?_; rintro e w6 ⟨q6', ts6, d6, M, F6, rfl, hRe⟩)
          clear hop pc2 pc3
          have hinc6 := gInc_ft hRe.led
          have hnle : ¬ (M.inc : Int) ≤ (L.inc : Int) := by have := hRe.inc; omega
          have HF := Lib.hid hRe
          clear hRe
          go_upto_region 17 with (go_at_call 15; refine hinc6.mono ?_; rintro e w7 ⟨rfl, e7⟩; have e7 := e7.symm; subst e7)
          clear hinc6 hnle
          have hI7 := HB.out.2.2.2.2.1.reopened HE.out.1 HE.out.2.2 HF.out
          have pb6 := HF.out.keep.heap HE.out.2.1.blk (fun e => by have h1 := HE.out.2.2 P e; have h2 := heap_lt HB.out.2.2.2.2.1.blk; omega)
          have p0 := cell_of pb6 0
          have fP := frozen_of pb6
          simp at p0
          obtain ⟨W7, hW7⟩ : ∃ W7, W7 = w6.setCell ⟨P, 0, none⟩ (.pointer (some ⟨q6', 0, none⟩)) := ⟨_, rfl⟩
          rw [← hW7] at hI7
          have k67 : Keep (· = P) w6 W7 := by rw [hW7]; exact keep_cell _ _
          have kb7 : Keep (fun b => foot p4 n5 s5 wv5 b ∨ b = P) wb W7 := ((HE.out.1.no.trans HF.out.keep (fun _ _ e => .inl e)).trans k67 (fun _ _ e => .inr e))
          have hPn : P < wb.heap.size := heap_lt HB.out.2.2.2.2.1.blk
          have ho10 := HB.out.1.keep kb7 (fun b hb hf cs fr => by
            rcases hf with hf | rfl
            · have h1 := HE.out.2.2 b hf
              exact ⟨fun e => by have := heap_lt e; omega, fun e => by have := heap_lt e; omega⟩
            · have h1 := HB.out.2.2.2.2.1.blk
              exact ⟨fun e => by rw [h1] at e; simp at e, fun e => by rw [h1] at e; simp at e⟩)
          have hrec7 : M.recs.length ≤ 1073741824 := by have := hI7.nrec; have := H30.out; omega
          have hall7 := gAll_ft hI7.led hrec7
          have hs7 := Nat.le_trans HB.out.2.2.2.2.2.2.1 (Nat.le_trans HB.out.2.2.2.2.2.2.2.size kb7.size)
          have HG := Lib.hid (And.intro hI7 (And.intro ho10 (And.intro hrec7 (And.intro hs7 HF.out))))
          clear hI7 ho10 hrec7 pb6 k67 kb7 hPn hs7
          go_upto_region 18 with fail
          rw [← hW7]
          clear hW7 p0 fP
          go_upto_region 19 with (go_at_call 13; refine hall7.mono ?_; rintro e w8 ⟨v16, rfl, hv16, k8⟩)
          clear hall7
          obtain ⟨R6, hR6⟩ : ∃ R6, R6 = M.recs := ⟨_, rfl⟩
          rw [← hR6] at hv16
          obtain ⟨o16, c16, rfl, _, _⟩ := hv16.form
          have hle : R6.length ≤ R.length := by rw [hR6, HB.out.2.2.1]; exact HG.out.2.2.2.2.len
          have hpre : R6 = R.take R6.length := by rw [hR6, HB.out.2.2.1]; exact HG.out.2.2.2.2.pre
          have hlow : S.length ≤ R6.length := by rw [hR6, HB.out.2.2.2.1]; exact HG.out.2.2.2.2.low
          have hR6l : R6.length ≤ 1073741824 := by rw [hR6]; exact HG.out.2.2.1
          have ha16 := hv16.at' (base := w.heap.size) (Nat.le_trans HT.out.1 HG.out.2.2.2.1) HG.out.2.2.2.1
          have h10 := (HG.out.2.1.no k8).at' (base := w.heap.size) (Nat.le_trans HT.out.1 HB.out.2.2.2.2.2.2.1) HB.out.2.2.2.2.2.2.1
          have h10t := h10.take hle
          rw [← hpre] at h10t
          have hsl := fun X => slice_recs h10 (k := R6.length) hle X
          have hal := alike16_spec ha16 h10t hR6l
          have hst := fun (X : World) (k : Keep No w8 X) => gStored_ft ((HG.out.1.led.no k8).no k) HG.out.2.2.1 (by rw [HG.out.2.2.2.2.safe]; exact Nat.le_refl _)
          rw [HG.out.2.2.2.2.safe, List.take_length, ← hR6] at hst
          have hal2 := fun (X : World) (k : Keep No w8 X) (v : Value) (B0 : Nat) (h : RecsOwn X B0 v R6) (hB : w.heap.size ≤ B0) => alike16_spec (h.at' (Nat.le_trans HT.out.1 hB) hB) (ha16.keep (Foot.no _ _) k (fun _ _ e => e)) hR6l
          have q1 : ¬ (R6.length : Int) < (S.length : Int) := by omega
          have q2 : ¬ (R.length : Int) < (R6.length : Int) := by omega
          have hs8 := Nat.le_trans HG.out.2.2.2.1 k8.size
          have HK := Lib.hid (And.intro k8 hs8)
          clear hv16 hle hpre hlow hR6l ha16 h10 h10t k8 hs8 hR6 q6
          go_wp2_with (first
            | (go_at_call 21; refine (hal2 w10 hk10 _ _ hv17 (Nat.le_trans HK.out.2 k9.size)).mono ?_; rintro e w11 ⟨rfl, k11⟩)
            | (go_at_call 14; refine (hst w9 k9).mono ?_; rintro e w10 ⟨v17, rfl, hv17, k10⟩; have hk10 := k9.then k10; obtain ⟨o17, c17, rfl, _, _⟩ := hv17.form)
            | (go_at_call 21; refine hal.mono ?_; rintro e w9 ⟨rfl, k9⟩))
          go_roundw
          case rel => exact ⟨i + 1, by congr 1, by have := HR.out.1; omega, by
            rw [show min (i + 1) 30 = i + 1 by have := H30.out; omega]
            exact ⟨_, _, _, _, _, _, _, HG.out.1.no (HK.out.1.then (hk10.then k11))⟩⟩
          case measure => have := HR.out.1; simp [intOf]; omega
          -- DEV)
        · have q6 : ¬ (dn : Int) % 7 = 6 := by omega
          have b1 := cell_of HB.out.2.2.2.2.2.1 1
          have b2 := cell_of HB.out.2.2.2.2.2.1 2
          have b3 := cell_of HB.out.2.2.2.2.2.1 3
          have b4 := cell_of HB.out.2.2.2.2.2.1 4
          have p0 := cell_of HB.out.2.2.2.2.1.blk 0
          rw [HCS.out] at b1 b2 b3 b4
          simp at b1 b2 b3 b4 p0
          have hkeepR := fun (X : World) (kF : Keep F wb X) (v : Value) (T : List RecS) (h : RecsOwn wb WA.heap.size v T) => h.keep kF (fun b hb hf cs fr => absurd (HR.out.2.1.led.foot b hf).2.1 (by omega))
          have HKR := Lib.hid hkeepR
          clear hkeepR
          go_upto_if 123 with fail
          go_cut [] (fun wx => OnK w wx WA.heap.size P q p r width (i + 1) size L (.slice o10 R.length c10) R (.slice o11 S.length c11) S)
          case first =>
            by_cases h5 : dn % 7 = 5
            · have q5 : (dn : Int) % 7 = 5 := by omega
              clear h5 h6 q6
              go_wp2_with fail
              go_meet
              exact ⟨_, _, _, _, _, HB.out.2.2.2.2.1.more (by omega), List.prefix_refl _, Nat.le_refl _, HB.out.1, HB.out.2.1⟩
            · have q5 : ¬ (dn : Int) % 7 = 5 := by omega
              by_cases h3 : dn % 7 = 3
              · have q3 : (dn : Int) % 7 = 3 := by omega
                clear h3 h5 h6 q6 q5
                have kd : Keep No wb wb.drew := (Keep.refl _ _).drew
                have hId := HB.out.2.2.2.2.1.no kd
                have hra := raise_any hId.led a.agent a.epoch (by have := hId.nts; have := H30.out; omega) (by have := hId.nrec; have := H30.out; omega) hId.k.size (Nat.le_trans HT.out.1 hId.k.size) (by have h1 := hId.used; have h2 := hId.room; have := H30.out; omega)
                go_upto_region 25 with fail
                refine wp_drawN (fun w' => Keep F wb w') [0, 1, 2, 3, 4, 5, 6, 7] [8] [] (by kernel_rfl) (by kernel_rfl) (fun _ _ _ _ _ h => h) kd.no ?_
                have hnP := HB.out.2.2.2.2.1.notP
                have hnA : ¬ F b9 := HB.out.2.2.2.2.1.led.not (by rw [HB.out.2.2.2.2.2.1]) (by decide)
                iterate 8 (refine earlyN_cons (v := ?_) rfl rfl rfl ?_ ?_; rotate_left; focus (
                  intro w' hS
                  have e0 := hS.cell p0 hnP
                  have e1 := hS.cell b1 hnA
                  have e3 := hS.cell b3 hnA
                  go_simp
                  try with_reducible rfl))
                refine earlyN_nil (midN_cons rfl rfl (fun K hK => ?_))
                go_simp
                refine hra.mono ?_
                rintro e wx ⟨cc, M, ts', d', F', rfl, hMr, hMs, hst⟩
                refine hK _ _ (kd.no.trans hst.keep (fun _ _ e => e)) ?_
                clear hK K
                refine midN_nil (tailN_nil ?_)
                have kx : Keep F wb wx := kd.no.trans hst.keep (fun _ _ e => e)
                have hfin : OnK w wx WA.heap.size P q p r width (i + 1) size L (.slice o10 R.length c10) R (.slice o11 S.length c11) S := ⟨_, _, _, _, _, hId.stepped hst (by decide) (by rw [hMr]; omega) hMs (by have := H30.out; omega), by rw [hMr]; exact List.prefix_refl _, by rw [hMs]; exact Nat.le_refl _, HKR.out _ kx _ _ HB.out.1, HKR.out _ kx _ _ HB.out.2.1⟩
                have HZ := Lib.hid hfin
                clear hst hfin hMr hMs kx hId kd hra
                go_wp2_with fail
                go_meet
                exact HZ.out
              · have q3 : ¬ (dn : Int) % 7 = 3 := by omega
                by_cases h4 : dn % 7 = 4
                · have q4 : (dn : Int) % 7 = 4 := by omega
                  clear h3 h4 h5 h6 q6 q5 q3
                  have hsy := gSync_ft HB.out.2.2.2.2.1.led HB.out.2.2.2.2.1.k.size
                  go_wp2_with (go_at_call 23; refine hsy.mono ?_; rintro e wx ⟨rfl, F', hl', hf', kx⟩)
                  go_meet
                  exact ⟨_, _, _, _, _, HB.out.2.2.2.2.1.synced hl' kx, List.prefix_refl _, HB.out.2.2.2.2.1.safeLe, HKR.out _ kx _ _ HB.out.1, HKR.out _ kx _ _ HB.out.2.1⟩
                · have q4 : ¬ (dn : Int) % 7 = 4 := by omega
                  clear h3 h4 h5 h6
                  have kd : Keep No wb wb.drew := (Keep.refl _ _).drew
                  have hId := HB.out.2.2.2.2.1.no kd
                  have hfew := few16_spec (HR.out.2.2.1.no hId.k) hId.k.size (Nat.le_trans HT.out.1 hId.k.size)
                  go_upto_region 23 with fail
                  refine wp_drawN (fun w' => Keep F wb w') [0, 1, 2, 3, 4, 5, 6, 7, 8, 9] [10, 11] [] (by kernel_rfl) (by kernel_rfl) (fun _ _ _ _ _ h => h) kd.no ?_
                  have hnP := HB.out.2.2.2.2.1.notP
                  have hnA : ¬ F b9 := HB.out.2.2.2.2.1.led.not (by rw [HB.out.2.2.2.2.2.1]) (by decide)
                  iterate 10 (refine earlyN_cons (v := ?_) rfl rfl rfl ?_ ?_; rotate_left; focus (
                    intro w' hS
                    have e0 := hS.cell p0 hnP
                    have e1 := hS.cell b1 hnA
                    have e2 := hS.cell b2 hnA
                    have e4 := hS.cell b4 hnA
                    go_simp
                    try with_reducible rfl))
                  refine earlyN_nil (midN_cons rfl rfl (fun K hK => ?_))
                  go_simp
                  refine hfew.mono ?_
                  rintro e w3 ⟨v3, rfl, hits, k3⟩
                  have kd3 := kd.then k3
                  refine hK _ _ kd3.no ?_
                  clear hK K
                  obtain ⟨lo, lc, rfl, _, _⟩ := hits.form
                  have hI3 := HB.out.2.2.2.2.1.no kd3
                  have hpu := put_step (a := a.agent) (b := a.bas) hI3.led hits (fewS_len _) (fewS_body _) (by have := hI3.nts; have := H30.out; omega) (by have := hI3.nrec; have := H30.out; omega) hI3.k.size (Nat.le_trans HT.out.1 hI3.k.size) (by have h1 := hI3.used; have h2 := hI3.room; have := H30.out; omega)
                  refine midN_cons rfl rfl (fun K hK => ?_)
                  go_simp
                  refine hpu.mono ?_
                  rintro e wx ⟨cc, M, ts', d', F', rfl, hMr, hMl, hMs, hst⟩
                  have kx : Keep F wb wx := kd3.no.trans hst.keep (fun _ _ e => e)
                  refine hK _ _ kx ?_
                  clear hK K
                  refine midN_nil (tailN_nil ?_)
                  have hfin : OnK w wx WA.heap.size P q p r width (i + 1) size L (.slice o10 R.length c10) R (.slice o11 S.length c11) S := ⟨_, _, _, _, _, hI3.stepped hst (by decide) hMl hMs (by have := H30.out; omega), hMr, by rw [hMs]; exact Nat.le_refl _, HKR.out _ kx _ _ HB.out.1, HKR.out _ kx _ _ HB.out.2.1⟩
                  have HZ := Lib.hid hfin
                  clear hst hfin hMr hMs hMl kx hId kd hfew hpu hits hI3 k3 kd3
                  go_wp2_with fail
                  go_meet
                  exact HZ.out
          case rest =>
            obtain ⟨ts', d', M, F', s', hI, hMr, hMs, h10, h11⟩ := hcut
            rename World => wx
            have hM : M.recs.length ≤ 1073741824 := by have := hI.nrec; have := H30.out; omega
            have hall := gAll_ft hI.led hM
            have p0 := cell_of hI.blk 0
            simp at p0
            obtain ⟨N, hN⟩ : ∃ N, N = M.recs := ⟨_, rfl⟩
            have hpre : R <+: N := by rw [hN, HB.out.2.2.1]; exact hMr
            have hSM : S.length ≤ M.safe := by rw [HB.out.2.2.2.1]; exact hMs
            rw [← hN] at hall
            have HJ := Lib.hid (And.intro hI (And.intro h10 (And.intro hM (And.intro hpre (And.intro hSM (And.intro hI.k.size hN))))))
            clear hN hI hMr hMs h10 h11 hM hpre hSM b0 b1 b2 b3 b4 q6 h6
            go_upto_region 29 with (go_at_call 13; refine hall.mono ?_; rintro e w8 ⟨v17, rfl, hv17, k8⟩)
            clear hall
            have p0 := k8.cell p0 (fun e => e)
            obtain ⟨o17, c17, rfl, _, _⟩ := hv17.form
            have hle := HJ.out.2.2.2.1.length_le
            have hN7 : N.length ≤ 1073741824 := by rw [HJ.out.2.2.2.2.2.2]; exact HJ.out.2.2.1
            have a17 := hv17.at' (base := w.heap.size) (Nat.le_trans HT.out.1 HJ.out.2.2.2.2.2.1) HJ.out.2.2.2.2.2.1
            have a10 := (HJ.out.2.1.no k8).at' (base := w.heap.size) (Nat.le_trans HT.out.1 HB.out.2.2.2.2.2.2.1) HB.out.2.2.2.2.2.2.1
            have a17t := a17.take hle
            rw [← List.prefix_iff_eq_take.1 HJ.out.2.2.2.1] at a17t
            have hsl := fun X => slice_recs a17 (k := R.length) hle X
            have hal := alike16_spec a17t a10 (by omega)
            have hsf := HJ.out.1.safeLe
            have hst := fun (X : World) (k : Keep No w8 X) => gStored_ft ((HJ.out.1.led.no k8).no k) HJ.out.2.2.1 hsf
            obtain ⟨T, hT6⟩ : ∃ T, T = M.recs.take M.safe := ⟨_, rfl⟩
            have hTl : S.length ≤ T.length := by rw [hT6, List.length_take]; have := HJ.out.2.2.2.2.1; omega
            rw [← hT6] at hst
            have q1 : ¬ (N.length : Int) < (R.length : Int) := by omega
            have q2 : ¬ (T.length : Int) < (S.length : Int) := by omega
            have HK := Lib.hid (And.intro k8 (And.intro a17 hN7))
            clear hv17 hle hN7 a17 a10 a17t hsf hT6 hTl k8
            go_upto_region 31 with (first
              | (go_at_call 14; refine (hst w9 k9).mono ?_; rintro e w10 ⟨v18, rfl, hv18, k10⟩; obtain ⟨o18, c18, rfl, _, _⟩ := hv18.form)
              | (go_at_call 21; refine hal.mono ?_; rintro e w9 ⟨rfl, k9⟩; have p0 := k9.cell p0 (fun e => e)))
            clear hst hal hsl q1 q2 hv18
            have k810 := HK.out.1.then (k9.then k10)
            have a17 := HK.out.2.1.keep (Foot.no _ _) (k9.then k10) (fun _ _ e => e)
            have hseen := SeenAt.new w10
            have kM := (Keep.refl No w10).alloc (.map #[] 0)
            obtain ⟨Bm, hBm⟩ : ∃ Bm, Bm = w10.heap.size := ⟨_, rfl⟩
            rw [← hBm] at hseen
            have HM := Lib.hid (And.intro k810 (And.intro a17 (And.intro hseen (And.intro kM hBm))))
            clear k810 a17 hseen kM k9 k10
            go_upto_region 32 with fail
            rw [← hBm]
            clear hBm hmm
            generalize w10.alloc (.map #[] 0) = W31 at HM ⊢
            go_wp2_with fail
            go_loopw [190] (fun v190 wr => ∃ k : Nat, v190 = .int .i64 (k : Nat) ∧ k ≤ N.length ∧ SeenAt wr Bm (N.take k) ∧ Keep (· = Bm) W31 wr) (fun v190 _ => N.length - (intOf v190).toNat)
            case atStart => exact ⟨0, rfl, Nat.zero_le _, HM.out.2.2.1, Keep.refl _ _⟩
            case round =>
              obtain ⟨k, rfl, hk, hsn, kr⟩ := hrel
              have hNl := HK.out.2.2
              by_cases hlt : k < N.length
              · have hx : N[k]? = some N[k] := List.getElem?_eq_getElem hlt
                have htake : N.take (k + 1) = N.take k ++ [N[k]] := List.take_succ_eq_append_getElem hlt
                generalize N[k] = x at hx htake
                have hnew := once_take (by rw [HJ.out.2.2.2.2.2.2]; exact HJ.out.1.led.ok.once) hx
                obtain ⟨g, u, hg, hub, e0, e1, e2, e3⟩ := HM.out.2.1.cell hx
                obtain ⟨uo, uc, rfl⟩ := hub.form
                subst hg
                have hgl : ¬ g = Bm := by have h1 := World.block_lt_of_cell? _ _ e0; have h2 := HM.out.2.2.2.2; simp at h1; omega
                have e0 := kr.cell (HM.out.2.2.2.1.cell e0 (fun e => e)) hgl
                have e1 := kr.cell (HM.out.2.2.2.1.cell e1 (fun e => e)) hgl
                have e2 := kr.cell (HM.out.2.2.2.1.cell e2 (fun e => e)) hgl
                have e3 := kr.cell (HM.out.2.2.2.1.cell e3 (fun e => e)) hgl
                have hki : (k : Int) < (N.length : Int) := by omega
                have hkn : IntKind.i64.wrap ((k : Int) + 1) = ((k + 1 : Nat) : Int) := by rw [IntKind.wrap_i64]; omega
                obtain ⟨WB, hWB⟩ : ∃ WB, WB = wr.alloc (.cells #[.int .i64 x.who, .int .u64 x.n, .int .i64 x.s.c, .slice uo x.s.body.length uc] 63) := ⟨_, rfl⟩
                have kB : Keep No wr WB := by rw [hWB]; exact (Keep.refl _ _).alloc _
                have hB : WB.heap[wr.heap.size]? = some (.cells #[.int .i64 x.who, .int .u64 x.n, .int .i64 x.s.c, .slice uo x.s.body.length uc] 63 (0, 0)) := by rw [hWB]; exact heap_new _ _
                have d0 := cell_of hB 0
                have d1 := cell_of hB 1
                simp at d0 d1
                have hsB := hsn.keep kB (fun e => e)
                have hlook := hsB.look x.who x.n hnew
                obtain ⟨WC, hpush, hsC, kC⟩ := hsB.push x hnew
                rw [← htake] at hsC
                have HX := Lib.hid (And.intro hlt (And.intro hsC ((kr.trans kB.no (fun _ _ e => e)).trans kC (fun _ _ e => e))))
                clear hlt hsn kr hx htake hnew hub hk hsB hsC kC kB hB hgl
                go_upto_region 35 with fail
                rw [← hWB]
                clear hWB e0 e1 e2 e3
                go_wp2_with fail
                go_roundw
                case rel => exact ⟨k + 1, by congr 1, by have := HX.out.1; omega, HX.out.2.1, HX.out.2.2⟩
                case measure => have := HX.out.1; simp [intOf]; omega
              · have hki : ¬ (k : Int) < (N.length : Int) := by omega
                have kz : Keep No wx wr := (HM.out.1.then HM.out.2.2.2.1).absorb kr (fun y hy => by have e : y = Bm := hy; have h1 := HM.out.2.2.2.2; have h2 := HM.out.1.size; omega)
                have HX := Lib.hid (HJ.out.1.no kz)
                clear hlt hk hsn kr kz
                go_wp2_with fail
                go_roundw
                case rel => exact ⟨i + 1, by congr 1, by have := HR.out.1; omega, by
                  rw [show min (i + 1) 30 = i + 1 by have := H30.out; omega]
                  exact ⟨_, _, _, _, _, _, _, HX.out⟩⟩
                case measure => have := HR.out.1; simp [intOf]; omega
    · have hie : i = acts.length := by omega
      have hii : ¬ (i : Int) < (acts.length : Int) := by omega
      obtain ⟨q, p, ts, d, L, F, s, hI⟩ := hW
      have HX := Lib.hid hI.k
      clear hI hi hlt
      subst hie
      go_wp2_with fail
      go_ret
      exact ⟨rfl, HX.out⟩
end Go.Proofs.YtfdmbomlkpkegaaGreat
