/- LedgerWindows: the walk. -/
import Derived.Test.YtgogfnafbeahoaaGreatLedWt
namespace Go.Proofs.YtgogfnafbeahoaaGreat
open Go Go.RowKit Go.Dr Go.Shelf

set_option maxRecDepth 100000 in
set_option maxHeartbeats 8000000 in
theorem gwindows_walk [bn : Inhabited Ban] {w : World} (hT : ban.top ≤ w.heap.size) (wd sg : Nat) (hwd : wd < 65536) (hsg : sg < 65536) {v2 : Value} {acts : List Act16S} (hv : Acts16At w.heap.size w v2 acts) :
    Calls Tryz.prog 4 #[.int .u16 wd, .int .u16 sg, v2] w fun e w' => e = .returned (.bool true) ∧ Keep No w w' := by
  obtain ⟨ao, cap, rfl, hac, hcm⟩ := hv.form
  have haw := awake16_spec (w := w) hT
  have hmm := @run_makeMap Tryz.prog
  have hli : (acts.length : Int) ≤ 9223372036854775807 := by unfold maxLen at hcm; omega
  have HT := Lib.hid (And.intro hT (And.intro hv (And.intro hwd (And.intro hsg hli))))
  clear hT hv hwd hsg hac hcm hli
  go_enter Tryz.func4, Tryz.ntmps4
  go_upto_region 3 with (go_at_call 8; refine haw.mono ?_; rintro e w1 ⟨rfl, k1⟩)
  clear haw
  have hop := open16_spec (base := w.heap.size) (w := w1) wd sg HT.out.2.2.1 HT.out.2.2.2.1 100000 (by decide) k1.size (Nat.le_trans HT.out.1 k1.size)
  go_upto_region 6 with (go_at_call 9; refine hop.mono ?_; rintro e w2 ⟨P, q, p, r, d, F, rfl, hO, hroom⟩)
  clear hop
  have hInit : WiR w (w2.alloc (.map #[] 0)) P q p r (1 + wd % 30) w2.heap.size 0 (1 + sg % 300 : Nat) := by
    have kM := (Keep.refl No w2).alloc (.map #[] 0)
    have h2 := hO.k.size
    exact ⟨_, d, _, F, fun _ => 0, fun _ => 0, ⟨hO.led.no kM, KeptAll.start 1, SkAt.new w2, fun h => by have := (hO.led.foot _ h).2.1; omega, kM.heap hO.blk (fun e => e), (k1.then hO.k).then kM, Nat.le_refl _, Nat.le_refl _, hO.used, hroom, Nat.le_trans k1.size hO.pnew, Nat.le_trans k1.size h2⟩, fun _ => rfl⟩
  obtain ⟨width, hwidth⟩ : ∃ n : Nat, n = 1 + wd % 30 := ⟨_, rfl⟩
  obtain ⟨size, hsize⟩ : ∃ n : Nat, n = 1 + sg % 300 := ⟨_, rfl⟩
  rw [← hwidth, ← hsize] at hInit
  clear hO hroom hwidth hsize
  have HI := Lib.hid hInit
  clear hInit k1
  obtain ⟨B, hB⟩ : ∃ B, B = w2.heap.size := ⟨_, rfl⟩
  rw [← hB] at HI
  go_upto_region 7 with fail
  rw [← hB]
  generalize w2.alloc (.map #[] 0) = W2 at HI ⊢
  clear hB hmm
  go_wp2_with fail
  go_loopw [35] (fun v35 wr => ∃ i : Nat, v35 = .int .i64 (i : Nat) ∧ i ≤ acts.length ∧ WiR w wr P q p r width B (min i 30) size) (fun v35 _ => acts.length - (intOf v35).toNat)
  case atStart => exact ⟨0, rfl, Nat.zero_le _, HI.out⟩
  case round =>
    obtain ⟨i, rfl, hi, hW⟩ := hrel
    have hli := HT.out.2.2.2.2
    by_cases hlt : i < acts.length
    · have hx : acts[i]? = some acts[i] := List.getElem?_eq_getElem hlt
      generalize acts[i] = a at hx
      obtain ⟨ts, d, L, F, f, sk, hI, hfs⟩ := hW
      obtain ⟨g, o, hgo, hA⟩ := RowIn.at HT.out.2.1 hx
      subst hgo
      have hW : WiR w wr P q p r width B (min i 30) size := ⟨ts, d, L, F, f, sk, hI, hfs⟩
      obtain ⟨u, hu, c0, c1, c2, c3, c4, c5, c6, c7⟩ := hA.cells
      obtain ⟨dn, hdn⟩ : ∃ dn : Nat, a.dop = dn := ⟨a.dop.toNat, by have := hA.dop0; omega⟩
      have hdn8 : dn ≤ 255 := by have := hA.dop0.2; omega
      rw [hdn] at c0
      have c0 := hI.k.cell c0 (fun e => e)
      have c1 := hI.k.cell c1 (fun e => e)
      have c2 := hI.k.cell c2 (fun e => e)
      have c3 := hI.k.cell c3 (fun e => e)
      have c4 := hI.k.cell c4 (fun e => e)
      have c5 := hI.k.cell c5 (fun e => e)
      have c6 := hI.k.cell c6 (fun e => e)
      have c7 := hI.k.cell c7 (fun e => e)
      obtain ⟨io, ic, rfl, hil, him⟩ := hu.form
      have hii : (i : Int) < (acts.length : Int) := by omega
      have hin : IntKind.i64.wrap ((i : Int) + 1) = ((i + 1 : Nat) : Int) := by rw [IntKind.wrap_i64]; omega
      obtain ⟨cs, hcs⟩ : ∃ cs : Array Value, cs = #[.int .u8 dn, .int .i64 a.agent, .int .u64 a.bas, .int .u64 a.epoch, .slice io a.items.length ic, .bool a.on, .int .i64 a.keep, .int .i64 a.torn] := ⟨_, rfl⟩
      have kA := (Keep.refl No wr).alloc (.cells cs 30)
      have hbA := heap_new wr (.cells cs 30)
      have hmore : WiR w (wr.alloc (.cells cs 30)) P q p r width B (min (i + 1) 30) size := ⟨ts, d, L, F, f, sk, (hI.no kA).more (by omega), hfs⟩
      have hb64 := hA.bas
      have hIA := hI.no kA
      have huA := hu
      have HRk := Lib.hid hI.k.size
      have HFS := Lib.hid hfs
      clear hfs
      have HR := Lib.hid (And.intro hmore (And.intro hlt (And.intro hIA (And.intro huA (And.intro hb64 hbA)))))
      clear hmore hI hW hA hu hdn hi hx kA hIA huA hb64 hdn8 hil him
      by_cases hcont : 30 ≤ i ∨ 2 < dn % 7
      · have hm := HR.out.1
        rw [hcs] at hm
        have HX := Lib.hid (And.intro hm HR.out.2.1)
        clear hm hcs
        by_cases h30 : 30 ≤ i
        · have q1 : (30 : Int) ≤ (i : Int) := by omega
          clear hcont h30
          go_wp2_with fail
          go_roundw
          case rel => exact ⟨i + 1, by congr 1, by have := HX.out.2; omega, HX.out.1⟩
          case measure => have := HX.out.2; simp [intOf]; omega
        · have q1 : ¬ (30 : Int) ≤ (i : Int) := by omega
          have q2 : (2 : Int) < (dn : Int) % 7 := by omega
          clear hcont h30
          go_wp2_with fail
          go_roundw
          case rel => exact ⟨i + 1, by congr 1, by have := HX.out.2; omega, HX.out.1⟩
          case measure => have := HX.out.2; simp [intOf]; omega
      · have q1 : ¬ (30 : Int) ≤ (i : Int) := by omega
        have q2 : ¬ (2 : Int) < (dn : Int) % 7 := by omega
        have HCS := Lib.hid hcs
        clear hcont hbA
        go_upto_region 11 with fail
        rw [← HCS.out]
        obtain ⟨WA, hWA⟩ : ∃ WA, WA = wr.alloc (.cells cs 30) := ⟨_, rfl⟩
        rw [← hWA] at HR ⊢
        obtain ⟨b10, hb10⟩ : ∃ b, b = wr.heap.size := ⟨_, rfl⟩
        rw [← hb10] at HR ⊢
        have hbn10 : w.heap.size ≤ b10 := by have := HRk.out; omega
        have HN := Lib.hid hbn10
        clear hWA hb10 hbn10
        obtain ⟨y, hy⟩ : ∃ y, y = (winA L a.agent).skip (a.bas % 1152921504606846976) := ⟨_, rfl⟩
        have p0 := cell_of HR.out.2.2.1.blk 0
        have b1 := cell_of HR.out.2.2.2.2.2 1
        have b2 := cell_of HR.out.2.2.2.2.2 2
        have b4 := cell_of HR.out.2.2.2.2.2 4
        rw [HCS.out] at b1 b2 b4
        simp at p0 b1 b2 b4
        have hfit := winA_fit HR.out.2.2.1.led.ok a.agent
        have hwin := fun (X : World) (k : Keep No WA X) => gWindow_any (HR.out.2.2.1.led.no k) a.agent
        have hskip := fun (X : World) (u : Value) (hu : WinV X u (winA L a.agent)) => wSkip_spec hu hfit.1 hfit.2 (a.bas % 1152921504606846976) (by omega)
        rw [← hy] at hskip
        have hbm : IntKind.u64.wrap ((a.bas : Int) % 1152921504606846976) = (a.bas : Int) % 1152921504606846976 := by rw [IntKind.wrap_u64]; omega
        have hbn : (((a.bas % 1152921504606846976 : Nat)) : Int) = (a.bas : Int) % 1152921504606846976 := by omega
        rw [hbn] at hskip
        have HS := Lib.hid (And.intro hwin (And.intro hskip hy))
        clear hwin hskip hy hfit hbn
        go_cut [11] (fun v11 wx => ∃ b11, v11 = .pointer (some ⟨b11, 0, none⟩) ∧ WinBox wx b11 y ∧ Keep No WA wx ∧ WA.heap.size ≤ b11)
        case first =>
          have kd : Keep No WA WA.drew := (Keep.refl _ _).drew
          refine wp_drawF (fun w' => Keep No WA w') [0, 1, 2, 3, 4, 5, 7, 8, 9] [6, 10] [12] 11 (by kernel_rfl) (by kernel_rfl) (fun _ _ _ _ _ h => h) kd ?_
          iterate 9 (refine earlyN_cons (v := ?_) rfl rfl rfl ?_ ?_; rotate_left; focus (
            intro w' hS
            have e0 := hS.cell p0 (fun e => e)
            have e1 := hS.cell b1 (fun e => e)
            have e2 := hS.cell b2 (fun e => e)
            go_simp
            try with_reducible rfl))
          refine earlyN_nil ?_
          refine ⟨?_, ?_⟩
          · refine midN_cons rfl rfl (fun K hK => ?_)
            go_simp
            have kA := (kd).alloc (.cells #[.int .u64 0, .int .u64 0, .slice none 0 0] 36)
            have hA : (WA.drew.alloc (.cells #[.int .u64 0, .int .u64 0, .slice none 0 0] 36)).heap[WA.heap.size]? = some (.cells #[.int .u64 0, .int .u64 0, .slice none 0 0] 36 (0, 0)) := heap_new WA.drew (.cells #[.int .u64 0, .int .u64 0, .slice none 0 0] 36)
            refine hK _ _ kA ?_
            clear hK K
            refine midN_cons rfl rfl (fun K hK => ?_)
            go_simp
            refine (HS.out.1 _ kA).mono ?_
            rintro e w6 ⟨u1, rfl, hu1, kw⟩
            have kw6 := (kA).then kw
            refine hK _ _ kw6 ?_
            clear hK K
            refine midN_cons rfl rfl (fun K hK => ?_)
            go_simp
            refine (HS.out.2.1 _ u1 hu1).mono ?_
            rintro e w7 ⟨u3, rfl, hw3, ks⟩
            obtain ⟨o3, c3, rfl, hr3⟩ := hw3.form
            have kw7 := (kw6).then ks
            refine hK _ _ kw7 ?_
            clear hK K
            have hB := ks.heap (kw.heap hA (fun e => e)) (fun e => e)
            have q0 := cell_of hB 0
            have q1 := cell_of hB 1
            have q2 := cell_of hB 2
            have fB := frozen_of hB
            simp at q0 q1 q2
            refine midN_nil (tailN_cons rfl (tailN_nil ?_))
            go_wp2_with fail
            go_meet
            obtain ⟨hZ, kZ⟩ := WinBox.ofV (x := y) hB hr3
            have hsz : WA.heap.size ≤ WA.heap.size := Nat.le_refl _
            exact ⟨_, rfl, hZ, (kw7).trans kZ (fun c hc e => by have e2 : c = WA.heap.size := e; omega), hsz⟩
          · refine midN_cons rfl rfl (fun K hK => ?_)
            go_simp
            refine (HS.out.1 _ kd).mono ?_
            rintro e w6 ⟨u1, rfl, hu1, kw⟩
            have kw6 := (kd).then kw
            refine hK _ _ kw6 ?_
            clear hK K
            refine midN_nil ⟨?_, ?_⟩
            · refine midN_cons rfl rfl (fun K hK => ?_)
              go_simp
              have kA := (kw6).alloc (.cells #[.int .u64 0, .int .u64 0, .slice none 0 0] 36)
              have hA := heap_new w6 (.cells #[.int .u64 0, .int .u64 0, .slice none 0 0] 36)
              refine hK _ _ kA ?_
              clear hK K
              refine midN_cons rfl rfl (fun K hK => ?_)
              go_simp
              refine (HS.out.2.1 _ u1 (hu1.no ((Keep.refl No w6).alloc (.cells #[.int .u64 0, .int .u64 0, .slice none 0 0] 36)))).mono ?_
              rintro e w7 ⟨u3, rfl, hw3, ks⟩
              obtain ⟨o3, c3, rfl, hr3⟩ := hw3.form
              have kw7 := (kA).then ks
              refine hK _ _ kw7 ?_
              clear hK K
              have hB := ks.heap hA (fun e => e)
              have q0 := cell_of hB 0
              have q1 := cell_of hB 1
              have q2 := cell_of hB 2
              have fB := frozen_of hB
              simp at q0 q1 q2
              refine midN_nil (tailN_cons rfl (tailN_nil ?_))
              go_wp2_with fail
              go_meet
              obtain ⟨hZ, kZ⟩ := WinBox.ofV (x := y) hB hr3
              have hsz : WA.heap.size ≤ w6.heap.size := kw6.size
              exact ⟨_, rfl, hZ, (kw7).trans kZ (fun c hc e => by have e2 : c = w6.heap.size := e; omega), hsz⟩
            · refine midN_cons rfl rfl (fun K hK => ?_)
              go_simp
              refine (HS.out.2.1 _ u1 hu1).mono ?_
              rintro e w7 ⟨u3, rfl, hw3, ks⟩
              obtain ⟨o3, c3, rfl, hr3⟩ := hw3.form
              have kw7 := (kw6).then ks
              refine hK _ _ kw7 ?_
              clear hK K
              refine midN_nil ?_
              refine midN_cons rfl rfl (fun K hK => ?_)
              go_simp
              have kA := (kw7).alloc (.cells #[.int .u64 0, .int .u64 0, .slice none 0 0] 36)
              have hA := heap_new w7 (.cells #[.int .u64 0, .int .u64 0, .slice none 0 0] 36)
              refine hK _ _ kA ?_
              clear hK K
              refine midN_nil (tailN_cons rfl (tailN_nil ?_))
              go_wp2_with fail
              go_meet
              exact ⟨_, rfl, ⟨o3, c3, heap_new _ _, hr3.no ((Keep.refl No w7).alloc _)⟩, kw7.alloc _, kw7.size⟩
        case rest =>
          obtain ⟨b11, rfl, hbox, k11, hb11⟩ := hcut
          rename World => W11
          obtain ⟨bs, hbs⟩ : ∃ bs : Nat, bs = a.bas % 1152921504606846976 := ⟨_, rfl⟩
          have hbs60 : bs < 1152921504606846976 := by omega
          have hbi : (a.bas : Int) % 1152921504606846976 = (bs : Int) := by omega
          have hy : y = (winA L a.agent).skip bs := by rw [hbs]; exact HS.out.2.2
          have hA11 := k11.heap HR.out.2.2.2.2.2 (fun e => e)
          rw [HCS.out] at hA11
          have b1 := cell_of hA11 1
          have b2 := cell_of hA11 2
          have b4 := cell_of hA11 4
          have fA := frozen_of hA11
          simp at b1 b2 b4
          have kS : Keep (· = b10) W11 (W11.setCell ⟨b10, 2, none⟩ (.int .u64 bs)) := keep_cell _ _
          have hA12 := heap_setCell_same (i := 2) (u := .int .u64 bs) hA11
          have hI12 := (HR.out.2.2.1.no k11).one hA11 HN.out (by decide) (by decide) (by decide) (by decide) kS
          have hfr : FootR W11 (· = b10) := FootR.block hA11 (by decide)
          have hbox12 := hbox.keep hfr kS (fun e => by obtain ⟨_, _, hz, _⟩ := hbox; have e : b11 = b10 := e; rw [e, hA11] at hz; simp at hz)
          obtain ⟨W12, hW12⟩ : ∃ W12, W12 = W11.setCell ⟨b10, 2, none⟩ (.int .u64 bs) := ⟨_, rfl⟩
          rw [← hW12] at kS hA12 hI12 hbox12
          have k01 := HR.out.2.2.1.k
          have HT12 := Lib.hid (And.intro hI12 (And.intro hbox12 (And.intro hA12 (And.intro hy (And.intro hbs60 (And.intro hb11 (And.intro kS k11)))))))
          clear hI12 hbox12 hA12 hy hbs60 hb11 kS k11 hbox hA11 hfr HS p0 k01 hbs hbm
          go_upto_region 13 with fail
          rw [← hW12]
          clear hW12
          have k12 := HT12.out.1.k
          have hfew := few16_spec (HR.out.2.2.2.1.no k12) k12.size (Nat.le_trans HT.out.1 k12.size)
          have b4 := cell_of HT12.out.2.2.1 4
          simp at b4
          clear k12 b1 b2 fA
          go_upto_region 14 with (go_at_call 10; refine hfew.mono ?_; rintro e W13 ⟨v12, rfl, hits, k13⟩)
          clear hfew
          obtain ⟨l, hl⟩ : ∃ l, l = fewS a.items := ⟨_, rfl⟩
          have hl8 := fewS_len a.items
          have hl40 := fewS_body a.items
          rw [← hl] at hits hl8 hl40
          obtain ⟨lo, lc, rfl, _, _⟩ := hits.form
          have hI13 := HT12.out.1.no k13
          have hA13 := k13.heap HT12.out.2.2.1 (fun e => e)
          have hbox13 := HT12.out.2.1.keep (FootR.no _) k13 (fun e => e)
          have hsz13 := hI13.k.size
          have hits13 := hits
          have kd13 : Keep No W13 W13.drew := (Keep.refl _ _).drew
          have hput := put_any (a := a.agent) (b := bs) (M := 40) (N := 519) (hI13.led.no kd13) (hits.no kd13) hl8 (by decide) hl40 (by omega) (by have := hI13.nts; omega) (by have := hI13.nrec; omega) hsz13 (Nat.le_trans HT.out.1 hsz13) (by have h1 := hI13.used; have h2 := hI13.room; omega)
          have p0 := cell_of hI13.blk 0
          have b1 := cell_of hA13 1
          have b2 := cell_of hA13 2
          simp at p0 b1 b2
          have hnP : ¬ F P := hI13.led.not hI13.blk (by decide)
          have hnA : ¬ F b10 := hI13.led.not hA13 (by decide)
          have H13 := Lib.hid (And.intro hI13 (And.intro hbox13 (And.intro hA13 (And.intro hits13 (And.intro hl8 (And.intro hl40 (And.intro k13 hl)))))))
          clear hI13 hbox13 hA13 hits13 hl8 hl40 k13 hl hits hsz13
          go_cut [13, 14] (fun v13 v14 wx => ∃ c : Int, v14 = .int .i64 c ∧ ((c ≠ 0 ∧ Keep No W13.drew wx) ∨ (c = 0 ∧ ∃ n : Nat, a.agent = n ∧ n < 16 ∧ rightB bs l = true ∧ OwnN wx W13.heap.size v13 ((pick ((L.win n).skip bs) l).map (·.n)) ∧ ItsAt w.heap.size wx W12.heap.size (.slice lo l.length lc) l ∧ PutFt w.heap.size W13.drew wx q p width size ts.length d (L.putL n bs l) (min i 30 + 1) 519 F)))
          case first =>
            have kd : Keep No W13 W13.drew := (Keep.refl _ _).drew
            refine wp_drawN2 (fun w' => Keep F W13 w') [0, 1, 2, 3, 4, 5, 6, 7, 8] [9, 10] [11, 12] [13, 14] (by kernel_rfl) (by kernel_rfl) (fun _ _ _ _ _ h => h) kd.no ?_
            iterate 9 (refine earlyN_cons (v := ?_) rfl rfl rfl ?_ ?_; rotate_left; focus (
              intro w' hS
              have e0 := hS.cell p0 hnP
              have e1 := hS.cell b1 hnA
              have e2 := hS.cell b2 hnA
              go_simp
              try with_reducible rfl))
            refine earlyN_nil (midN_cons rfl rfl (fun K hK => ?_))
            go_simp
            refine hput.mono ?_
            rintro e w14 ⟨tv, c, rfl, hpost⟩
            have kF : Keep F W13 w14 := kd13.no.trans (by
              rcases hpost with ⟨_, h⟩ | ⟨_, n, _, _, _, _, _, h⟩
              · exact h.no
              · exact h.keep) (fun _ _ e => e)
            refine hK _ _ kF ?_
            clear hK K
            refine midN_cons rfl rfl (fun K hK => ?_)
            go_simp
            refine hK _ _ kF ?_
            clear hK K
            refine midN_nil ?_
            iterate 2 (refine earlyN_cons (v := ?_) rfl rfl rfl ?_ ?_; rotate_left; focus (
              intro w' hS
              go_simp
              try with_reducible rfl))
            refine earlyN_nil (midN_cons rfl rfl (fun K hK => ?_))
            go_simp
            refine hK _ _ kF ?_
            clear hK K
            refine midN_cons rfl rfl (fun K hK => ?_)
            go_simp
            refine hK _ _ kF ?_
            clear hK K
            refine midN_nil ?_
            go_wp2_with fail
            go_meet
            exact ⟨c, rfl, hpost⟩
          case rest =>
            obtain ⟨c, rfl, hpost⟩ := hcut
            rename World => W14
            rcases hpost with ⟨hc, k14⟩ | ⟨rfl, n, hag, hn16, hr, hown, hits14, hP⟩
            · have hbad : WiR w W14 P q p r width B (min (i + 1) 30) size := ⟨ts, d, L, F, f, sk, (H13.out.1.no (((Keep.refl No W13).drew).then k14)).more (by omega), HFS.out⟩
              have HX := Lib.hid (And.intro hbad HR.out.2.1)
              clear hbad k14 p0 b1 b2 hnP hnA hput
              go_wp2_with fail
              go_roundw
              case rel => exact ⟨i + 1, by congr 1, by have := HX.out.2; omega, HX.out.1⟩
              case measure => have := HX.out.2; simp [intOf]; omega
            · have hye : y = (L.win n).skip bs := by rw [HT12.out.2.2.2.1, hag, winA_in L n hn16]
              have hbn11 : w.heap.size ≤ b11 := by have h1 := HN.out; have h2 := HT12.out.2.2.2.2.2.1; have h3 := HR.out.2.2.1.k.size; omega
              have hi30 : i < 30 := by omega
              rename Act → World → Prop => K
              rename ∀ a w, Code.wp _ _ _ a w → K a w => hKK
              refine hKK _ _ (wi_tail (j := min i 30) rfl H13.out.1 HFS.out H13.out.2.1 H13.out.2.2.1 (by rw [← hag]; rfl) rfl H13.out.2.2.2.2.1 hye HT12.out.2.2.2.2.1 HN.out hbn11 hn16 hr hown hits14 hP (by omega) ?_ ?_)
              · exact fun _ _ _ _ _ h => h
              clear hKK
              intros
              rename WiR _ _ _ _ _ _ _ _ _ _ => hR'
              have HX := Lib.hid (And.intro hR' HR.out.2.1)
              clear hR'
              go_wp2_with fail
              go_roundw
              case rel => exact ⟨i + 1, by congr 1, by have := HX.out.2; omega, by rw [show min (i + 1) 30 = min i 30 + 1 from by have := HX.out.2; omega]; exact HX.out.1⟩
              case measure => have := HX.out.2; simp [intOf]; omega
    · have hie : i = acts.length := by omega
      have hii : ¬ (i : Int) < (acts.length : Int) := by omega
      obtain ⟨ts, d, L, F, f, sk, hI, hfs⟩ := hW
      have HX := Lib.hid hI.k
      clear hI hfs hi hlt
      subst hie
      go_wp2_with fail
      go_ret
      exact ⟨rfl, HX.out⟩
end Go.Proofs.YtgogfnafbeahoaaGreat
