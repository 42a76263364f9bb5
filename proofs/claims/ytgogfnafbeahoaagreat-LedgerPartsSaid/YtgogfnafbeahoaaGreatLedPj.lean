/- LedgerParts: the walk. -/
import Derived.Test.YtgogfnafbeahoaaGreatLedPu
namespace Go.Proofs.YtgogfnafbeahoaaGreat
open Go Go.RowKit Go.Dr Go.Shelf

set_option maxRecDepth 100000 in
set_option maxHeartbeats 8000000 in
theorem gparts_walk [bn : Inhabited Ban] {w : World} (hT : ban.top ≤ w.heap.size) (wd sg : Nat) (hwd : wd < 65536) (hsg : sg < 65536) {v2 : Value} {acts : List Act16S} (hv : Acts16At w.heap.size w v2 acts) :
    Calls Tryz.prog 3 #[.int .u16 wd, .int .u16 sg, v2] w fun e w' => e = .returned (.bool true) ∧ Keep No w w' := by
  obtain ⟨ao, cap, rfl, hac, hcm⟩ := hv.form
  have haw := awake16_spec (w := w) hT
  have hli : (acts.length : Int) ≤ 9223372036854775807 := by unfold maxLen at hcm; omega
  have HT := Lib.hid (And.intro hT (And.intro hv (And.intro hwd (And.intro hsg hli))))
  clear hT hv hwd hsg hac hcm hli
  go_enter Tryz.func3, Tryz.ntmps3
  go_upto_region 3 with (go_at_call 8; refine haw.mono ?_; rintro e w1 ⟨rfl, k1⟩)
  clear haw
  have hop1 := open16_spec (base := w.heap.size) (w := w1) wd sg HT.out.2.2.1 HT.out.2.2.2.1 200000 (by decide) k1.size (Nat.le_trans HT.out.1 k1.size)
  have hopX := fun (X : World) (k : Keep No w1 X) => open16_spec (base := w.heap.size) (w := X) wd sg HT.out.2.2.1 HT.out.2.2.2.1 200000 (by decide) (Nat.le_trans k1.size k.size) (Nat.le_trans HT.out.1 (Nat.le_trans k1.size k.size))
  go_upto_region 6 with (first
    | (go_at_call 9; refine hop2.mono ?_; rintro e w3 ⟨P2, q2, p2, r2, d2, F2, rfl, hO2, hroom2⟩)
    | (go_at_call 9; refine hop1.mono ?_; rintro e w2 ⟨P1, q1, p1, r1, d1, F1, rfl, hO1, hroom1⟩; have hop2 := hopX w2 hO1.k))
  clear hop1 hop2 hopX
  have hInit : PaR w w3 P1 q1 p1 r1 P2 q2 p2 r2 (1 + wd % 30) 0 (1 + sg % 300 : Nat) := by
    exact ⟨_, d1, _, F1, _, d2, _, F2, ⟨hO1.led.no hO2.k, hO2.led, fun b h1 h2 => by have := (hO1.led.foot b h1).2.1; have := hO2.new b h2; omega, hO2.k.heap hO1.blk (fun e => e), hO2.blk, (k1.then hO1.k).then hO2.k, Nat.le_refl _, Nat.le_refl _, hO1.used, hO2.used, hroom1, hroom2⟩, ⟨fun _ _ => rfl, rfl, Nat.le_refl _⟩⟩
  obtain ⟨width, hwidth⟩ : ∃ n : Nat, n = 1 + wd % 30 := ⟨_, rfl⟩
  obtain ⟨size, hsize⟩ : ∃ n : Nat, n = 1 + sg % 300 := ⟨_, rfl⟩
  rw [← hwidth, ← hsize] at hInit
  clear hO1 hO2 hroom1 hroom2 hwidth hsize k1
  have HI := Lib.hid hInit
  clear hInit
  go_upto_region 6 with fail
  go_wp2_with fail
  go_loopw [38] (fun v38 wr => ∃ i : Nat, v38 = .int .i64 (i : Nat) ∧ i ≤ acts.length ∧ PaR w wr P1 q1 p1 r1 P2 q2 p2 r2 width (min i 25) size) (fun v38 _ => acts.length - (intOf v38).toNat)
  case atStart => exact ⟨0, rfl, Nat.zero_le _, HI.out⟩
  case round =>
    obtain ⟨i, rfl, hi, hW⟩ := hrel
    have hli := HT.out.2.2.2.2
    by_cases hlt : i < acts.length
    · have hx : acts[i]? = some acts[i] := List.getElem?_eq_getElem hlt
      generalize acts[i] = a at hx
      obtain ⟨ts1, d1, L1, F1, ts2, d2, L2, F2, hI, htw⟩ := hW
      obtain ⟨g, o, hgo, hA⟩ := RowIn.at HT.out.2.1 hx
      subst hgo
      have hW : PaR w wr P1 q1 p1 r1 P2 q2 p2 r2 width (min i 25) size := ⟨ts1, d1, L1, F1, ts2, d2, L2, F2, hI, htw⟩
      obtain ⟨u, hu, c0, c1, c2, c3, c4, c5, c6, c7⟩ := hA.cells
      obtain ⟨dn, hdn⟩ : ∃ dn : Nat, a.dop = dn := ⟨a.dop.toNat, by have := hA.dop0; omega⟩
      have hdn8 : dn ≤ 255 := by have := hA.dop0.2; omega
      rw [hdn] at c0
      have c0 := hI.k.cell c0 (fun e => e)
      have c1 := hI.k.cell c1 (fun e => e)
      have c2 := hI.k.cell c2 (fun e => e)
      have c3 := hI.k.cell c3 (fun e => e)
      have c4 := hI.k.cell c4 (fun e => e)
      have c5 := hI.k.cell c5 (fun e => e)
      have c6 := hI.k.cell c6 (fun e => e)
      have c7 := hI.k.cell c7 (fun e => e)
      obtain ⟨io, ic, rfl, hil, him⟩ := hu.form
      have hii : (i : Int) < (acts.length : Int) := by omega
      have hin : IntKind.i64.wrap ((i : Int) + 1) = ((i + 1 : Nat) : Int) := by rw [IntKind.wrap_i64]; omega
      obtain ⟨cs, hcs⟩ : ∃ cs : Array Value, cs = #[.int .u8 dn, .int .i64 a.agent, .int .u64 a.bas, .int .u64 a.epoch, .slice io a.items.length ic, .bool a.on, .int .i64 a.keep, .int .i64 a.torn] := ⟨_, rfl⟩
      have kA := (Keep.refl No wr).alloc (.cells cs 30)
      have hbA := heap_new wr (.cells cs 30)
      have hmore := (hW.more (show min i 25 ≤ min (i + 1) 25 by omega)).no kA
      have hb64 := hA.bas
      have hIA := hI.no kA
      have HRk := Lib.hid hI.k.size
      have HR := Lib.hid (And.intro hmore (And.intro hlt (And.intro hIA (And.intro hu (And.intro hb64 (And.intro hbA htw))))))
      clear hmore hI hW hA hu hdn hi hx kA hIA hb64 hdn8 hil him htw
      by_cases hcont : 25 ≤ i ∨ 2 < dn % 7 ∨ a.agent < 0 ∨ 15 < a.agent
      · have hm := HR.out.1
        rw [hcs] at hm
        have HX := Lib.hid (And.intro hm HR.out.2.1)
        clear hm hcs hbA
        have hsp : 25 ≤ i ∨ (i < 25 ∧ 2 < dn % 7) ∨ (i < 25 ∧ ¬ 2 < dn % 7 ∧ a.agent < 0) ∨ (i < 25 ∧ ¬ 2 < dn % 7 ∧ ¬ a.agent < 0 ∧ 15 < a.agent) := by omega
        clear hcont
        rcases hsp with h | ⟨h, h'⟩ | ⟨h, h', h''⟩ | ⟨h, h', h'', h4⟩
        · have q1' : (25 : Int) ≤ (i : Int) := by omega
          clear h
          go_wp2_with fail
          go_roundw
          case rel => exact ⟨i + 1, by congr 1, by have := HX.out.2; omega, HX.out.1⟩
          case measure => have := HX.out.2; simp [intOf]; omega
        · have q1' : ¬ (25 : Int) ≤ (i : Int) := by omega
          have q2' : (2 : Int) < (dn : Int) % 7 := by omega
          clear h h'
          go_wp2_with fail
          go_roundw
          case rel => exact ⟨i + 1, by congr 1, by have := HX.out.2; omega, HX.out.1⟩
          case measure => have := HX.out.2; simp [intOf]; omega
        · have q1' : ¬ (25 : Int) ≤ (i : Int) := by omega
          have q2' : ¬ (2 : Int) < (dn : Int) % 7 := by omega
          clear h h'
          go_wp2_with fail
          go_roundw
          case rel => exact ⟨i + 1, by congr 1, by have := HX.out.2; omega, HX.out.1⟩
          case measure => have := HX.out.2; simp [intOf]; omega
        · have q1' : ¬ (25 : Int) ≤ (i : Int) := by omega
          have q2' : ¬ (2 : Int) < (dn : Int) % 7 := by omega
          clear h h'
          go_wp2_with fail
          go_roundw
          case rel => exact ⟨i + 1, by congr 1, by have := HX.out.2; omega, HX.out.1⟩
          case measure => have := HX.out.2; simp [intOf]; omega
      · obtain ⟨n, hag⟩ : ∃ n : Nat, a.agent = n := ⟨a.agent.toNat, by omega⟩
        have hn16 : n < 16 := by omega
        have q1' : ¬ (25 : Int) ≤ (i : Int) := by omega
        have q2' : ¬ (2 : Int) < (dn : Int) % 7 := by omega
        have q3' : ¬ (n : Int) < 0 := by omega
        have q4' : ¬ (15 : Int) < (n : Int) := by omega
        rw [hag] at hcs c1
        have HCS := Lib.hid hcs
        have HAG := Lib.hid (And.intro hag hn16)
        clear hcont hbA hag hcs
        go_upto_region 10 with fail
        rw [← HCS.out]
        obtain ⟨WA, hWA⟩ : ∃ WA, WA = wr.alloc (.cells cs 30) := ⟨_, rfl⟩
        rw [← hWA] at HR ⊢
        obtain ⟨b10, hb10⟩ : ∃ b, b = wr.heap.size := ⟨_, rfl⟩
        rw [← hb10] at HR ⊢
        have hbn10 : w.heap.size ≤ b10 := by have := HRk.out; omega
        have HN := Lib.hid hbn10
        clear hWA hb10 hbn10
        obtain ⟨bs, hbs⟩ : ∃ bs : Nat, bs = a.bas % 1152921504606846976 := ⟨_, rfl⟩
        have hbs60 : bs < 1152921504606846976 := by omega
        have hbi : (a.bas : Int) % 1152921504606846976 = (bs : Int) := by omega
        have hA11 := HR.out.2.2.2.2.2.1
        rw [HCS.out] at hA11
        have b2 := cell_of hA11 2
        have b1 := cell_of hA11 1
        have b4 := cell_of hA11 4
        have fA := frozen_of hA11
        simp at b1 b2 b4
        have kS : Keep (· = b10) WA (WA.setCell ⟨b10, 2, none⟩ (.int .u64 bs)) := keep_cell _ _
        have hA12 := heap_setCell_same (i := 2) (u := .int .u64 bs) hA11
        have hI12 := HR.out.2.2.1.write hA11 HN.out (by decide) (by decide) (by decide) (by decide) kS
        have kall : Keep No w (WA.setCell ⟨b10, 2, none⟩ (.int .u64 bs)) := hI12.k
        have kWA : Keep No wr (WA.setCell ⟨b10, 2, none⟩ (.int .u64 bs)) → True := fun _ => trivial
        obtain ⟨W11, hW11⟩ : ∃ W11, W11 = WA.setCell ⟨b10, 2, none⟩ (.int .u64 bs) := ⟨_, rfl⟩
        rw [← hW11] at hA12 hI12
        have H11 := Lib.hid (And.intro hI12 (And.intro hA12 hbs60))
        clear hI12 hA12 hbs60 kS kall hA11 hbs kWA
        go_upto_region 11 with fail
        rw [← hW11]
        clear hW11
        have k11 := H11.out.1.k
        have hfew := few16_spec (HR.out.2.2.2.1.no k11) k11.size (Nat.le_trans HT.out.1 k11.size)
        have b4 := cell_of H11.out.2.1 4
        simp at b4
        clear k11 b1 b2 fA hbi
        go_upto_region 12 with (go_at_call 10; refine hfew.mono ?_; rintro e W12 ⟨v12, rfl, hits, k13⟩)
        clear hfew b4
        obtain ⟨l, hl⟩ : ∃ l, l = fewS a.items := ⟨_, rfl⟩
        have hl8 := fewS_len a.items
        have hl40 := fewS_body a.items
        rw [← hl] at hits hl8 hl40
        obtain ⟨lo, lc, rfl, _, _⟩ := hits.form
        have hI13 := H11.out.1.no k13
        have hA13 := k13.heap H11.out.2.1 (fun e => e)
        have b1 := cell_of hA13 1
        have p0 := cell_of hI13.blk1 0
        simp at p0 b1
        obtain ⟨on, hon⟩ : ∃ on : Nat, on = (n + 1) % 16 := ⟨_, rfl⟩
        have hon16 : on < 16 := by omega
        have honn : on ≠ n := by omega
        have hn16 := HAG.out.2
        have hoi : ((n : Int) + 1) % 16 = (on : Int) := by omega
        have hwin := fun (X : World) (k : Keep No W12 X) => gWindow_any (hI13.one.no k) (on : Int)
        rw [winA_in L1 on hon16] at hwin
        have hflo := fun (X : World) (k : Keep No W12 X) => gFloor_ft (hI13.one.no k) on hon16
        have HS := Lib.hid (And.intro hwin hflo)
        have H12 := Lib.hid (And.intro hI13 (And.intro hA13 (And.intro hits (And.intro hl8 (And.intro hl40 (And.intro k13 (And.intro hon16 honn)))))))
        clear hI13 hA13 hits hl8 hl40 k13 hon hon16 honn hwin hflo hl hn16
        go_upto_region 13 with fail
        rw [hoi]
        clear hoi
        go_cut [13, 14] (fun v13 v14 wx => ∃ b13, v13 = .pointer (some ⟨b13, 0, none⟩) ∧ v14 = .int .u64 (L1.floor on) ∧ WinBox wx b13 (L1.win on) ∧ Keep No W12 wx ∧ W12.heap.size ≤ b13)
        case first =>
          -- sorry
          have kd : Keep No W12 W12.drew := (Keep.refl _ _).drew
          refine wp_drawF (fun w' => Keep No W12 w') [0, 1, 2, 3, 4, 6, 7, 8, 9, 10] [5, 11] [13, 14] 12 (by kernel_rfl) (by kernel_rfl) (fun _ _ _ _ _ h => h) kd ?_
          iterate 10 (refine earlyN_cons (v := ?_) rfl rfl rfl ?_ ?_; rotate_left; focus (
            intro w' hS
            have e0 := hS.cell p0 (fun e => e)
            go_simp
            try with_reducible rfl))
          refine earlyN_nil ?_
          refine ⟨?_, ?_⟩
          · refine midN_cons rfl rfl (fun K hK => ?_)
            go_simp
            have kA := (kd).alloc (.cells #[.int .u64 0, .int .u64 0, .slice none 0 0] 36)
            have hA : (W12.drew.alloc (.cells #[.int .u64 0, .int .u64 0, .slice none 0 0] 36)).heap[W12.heap.size]? = some (.cells #[.int .u64 0, .int .u64 0, .slice none 0 0] 36 (0, 0)) := heap_new W12.drew _
            refine hK _ _ kA ?_
            clear hK K
            refine midN_cons rfl rfl (fun K hK => ?_)
            go_simp
            refine (HS.out.1 _ kA).mono ?_
            rintro e w6 ⟨u1, rfl, hu1, kw⟩
            obtain ⟨o3, c3, rfl, hr3⟩ := hu1.form
            have kw6 := (kA).then kw
            refine hK _ _ kw6 ?_
            clear hK K
            refine midN_cons rfl rfl (fun K hK => ?_)
            go_simp
            refine (HS.out.2 _ kw6).mono ?_
            rintro e w7 ⟨rfl, ew⟩
            have ew := ew.symm
            subst ew
            refine hK _ _ kw6 ?_
            clear hK K
            have hB := kw.heap hA (fun e => e)
            have q0 := cell_of hB 0
            have q1 := cell_of hB 1
            have q2 := cell_of hB 2
            have fB := frozen_of hB
            simp at q0 q1 q2
            refine midN_nil (tailN_cons rfl (tailN_cons rfl (tailN_nil ?_)))
            go_wp2_with fail
            go_meet
            obtain ⟨hZ, kZ⟩ := WinBox.ofV (x := L1.win on) hB hr3
            have hsz : W12.heap.size ≤ W12.heap.size := Nat.le_refl _
            exact ⟨_, rfl, rfl, hZ, (kw6).trans kZ (fun c hc e => by have e2 : c = W12.heap.size := e; omega), hsz⟩
          · refine midN_cons rfl rfl (fun K hK => ?_)
            go_simp
            refine (HS.out.1 _ kd).mono ?_
            rintro e w6 ⟨u1, rfl, hu1, kw⟩
            obtain ⟨o3, c3, rfl, hr3⟩ := hu1.form
            have kw6 := (kd).then kw
            refine hK _ _ kw6 ?_
            clear hK K
            refine midN_nil ⟨?_, ?_⟩
            · refine midN_cons rfl rfl (fun K hK => ?_)
              go_simp
              have kA := (kw6).alloc (.cells #[.int .u64 0, .int .u64 0, .slice none 0 0] 36)
              have hA : (w6.alloc (.cells #[.int .u64 0, .int .u64 0, .slice none 0 0] 36)).heap[w6.heap.size]? = some (.cells #[.int .u64 0, .int .u64 0, .slice none 0 0] 36 (0, 0)) := heap_new w6 _
              refine hK _ _ kA ?_
              clear hK K
              refine midN_cons rfl rfl (fun K hK => ?_)
              go_simp
              refine (HS.out.2 _ kA).mono ?_
              rintro e w7 ⟨rfl, ew⟩
              have ew := ew.symm
              subst ew
              refine hK _ _ kA ?_
              clear hK K
              refine midN_nil (tailN_cons rfl (tailN_cons rfl (tailN_nil ?_)))
              go_wp2_with fail
              go_meet
              exact ⟨_, rfl, rfl, ⟨o3, c3, heap_new _ _, hr3.no ((Keep.refl No w6).alloc _)⟩, kw6.alloc _, kw6.size⟩
            · refine midN_cons rfl rfl (fun K hK => ?_)
              go_simp
              refine (HS.out.2 _ kw6).mono ?_
              rintro e w7 ⟨rfl, ew⟩
              have ew := ew.symm
              subst ew
              refine hK _ _ kw6 ?_
              clear hK K
              refine midN_nil ?_
              refine midN_cons rfl rfl (fun K hK => ?_)
              go_simp
              have kA := (kw6).alloc (.cells #[.int .u64 0, .int .u64 0, .slice none 0 0] 36)
              have hA : (w6.alloc (.cells #[.int .u64 0, .int .u64 0, .slice none 0 0] 36)).heap[w6.heap.size]? = some (.cells #[.int .u64 0, .int .u64 0, .slice none 0 0] 36 (0, 0)) := heap_new w6 _
              refine hK _ _ kA ?_
              clear hK K
              refine midN_nil (tailN_cons rfl (tailN_cons rfl (tailN_nil ?_)))
              go_wp2_with fail
              go_meet
              exact ⟨_, rfl, rfl, ⟨o3, c3, heap_new _ _, hr3.no ((Keep.refl No w6).alloc _)⟩, kw6.alloc _, kw6.size⟩
        case rest =>
          obtain ⟨b13, rfl, rfl, hbox, k13, hb13⟩ := hcut
          rename World => W13
          have hi25 : min i 25 < 25 := by omega
          rename Act → World → Prop => K
          rename ∀ a w, Code.wp _ _ _ a w → K a w => hKK
          refine hKK _ _ (pa_tail (j := min i 25) rfl (H12.out.1.no k13) HR.out.2.2.2.2.2.2 hi25 (k13.heap H12.out.2.1 (fun e => e)) rfl rfl HAG.out.2 H12.out.2.2.2.2.2.2.1 H12.out.2.2.2.2.2.2.2 H11.out.2.2 (H12.out.2.2.1.no k13) H12.out.2.2.2.1 H12.out.2.2.2.2.1 hbox rfl HT.out.1 ?_ ?_ ?_)
          · exact fun _ _ _ _ _ h => h
          · clear hKK
            intros
            rename PaR _ _ _ _ _ _ _ _ _ _ _ _ _ => hR'
            have HX := Lib.hid (And.intro hR' HR.out.2.1)
            clear hR' hbox k13 p0 b1 hb13
            go_wp2_with fail
            go_roundw
            case rel => exact ⟨i + 1, by congr 1, by have := HX.out.2; omega, by rw [show min (i + 1) 25 = min i 25 + 1 from by omega]; exact HX.out.1⟩
            case measure => have := HX.out.2; simp [intOf]; omega
          · clear hKK
            intros
            rename PaR _ _ _ _ _ _ _ _ _ _ _ _ _ => hR'
            have HX := Lib.hid (And.intro (hR'.more (show min i 25 ≤ min (i + 1) 25 by omega)) HR.out.2.1)
            clear hR' hbox k13 p0 b1 hb13
            go_wp2_with fail
            go_roundw
            case rel => exact ⟨i + 1, by congr 1, by have := HX.out.2; omega, HX.out.1⟩
            case measure => have := HX.out.2; simp [intOf]; omega
    · have hie : i = acts.length := by omega
      have hii : ¬ (i : Int) < (acts.length : Int) := by omega
      obtain ⟨ts1, d1, L1, F1, ts2, d2, L2, F2, hI, htw⟩ := hW
      have p1 := cell_of hI.blk1 0
      have p2 := cell_of hI.blk2 0
      simp at p1 p2
      have hn1 := htw.nrec
      have hn2 := htw.nrec
      rw [htw.recs] at hn2
      have hall1 := fun (X : World) (k : Keep No wr X) => gAll_ft (hI.one.no k) (by omega)
      have hall2 := fun (X : World) (k : Keep No wr X) => gAll_ft (hI.two.no k) (by omega)
      rw [← htw.recs] at hall2
      have HX := Lib.hid (And.intro hI.k (And.intro hall1 (And.intro hall2 hn1)))
      clear hI hi hlt hn1 hn2 hall1 hall2 htw
      subst hie
      go_upto_region 29 with fail
      have kd : Keep No wr wr.drew := (Keep.refl _ _).drew
      refine wp_drawN (fun w' => Keep No wr w') [0, 1, 2, 3, 5, 6, 7, 8] [4, 9, 10, 11] [] (by kernel_rfl) (by kernel_rfl) (fun _ _ _ _ _ h => h) kd ?_
      iterate 8 (refine earlyN_cons (v := ?_) rfl rfl rfl ?_ ?_; rotate_left; focus (
        intro w' hS
        have e1 := hS.cell p1 (fun e => e)
        have e2 := hS.cell p2 (fun e => e)
        go_simp
        try with_reducible rfl))
      refine earlyN_nil (midN_cons rfl rfl (fun K hK => ?_))
      go_simp
      refine (HX.out.2.1 _ kd).mono ?_
      rintro e wa ⟨v1, rfl, hv1, ka⟩
      have ka := kd.then ka
      refine hK _ _ ka ?_
      clear hK K
      refine midN_cons rfl rfl (fun K hK => ?_)
      go_simp
      refine (HX.out.2.2.1 _ ka).mono ?_
      rintro e wb ⟨v2, rfl, hv2, kb⟩
      have hs1 : w.heap.size ≤ wr.drew.heap.size := Nat.le_trans HX.out.1.size kd.size
      have hs2 : w.heap.size ≤ wa.heap.size := Nat.le_trans HX.out.1.size ka.size
      have hal := alike16_spec (base := w.heap.size) ((hv1.no kb).at' (Nat.le_trans HT.out.1 hs1) hs1) (hv2.at' (Nat.le_trans HT.out.1 hs2) hs2) (by have := HX.out.2.2.2; omega)
      have kb := ka.then kb
      refine hK _ _ kb ?_
      clear hK K
      refine midN_cons rfl rfl (fun K hK => ?_)
      go_simp
      refine hal.mono ?_
      rintro e wc ⟨rfl, kc⟩
      have kc := kb.then kc
      refine hK _ _ kc ?_
      clear hK K
      refine midN_cons rfl rfl (fun K hK => ?_)
      go_simp
      refine hK _ _ kc ?_
      clear hK K
      have HK := Lib.hid (HX.out.1.then kc)
      clear kd ka kb kc hv1 hv2 hs1 hs2 hal
      refine midN_nil (tailN_nil ?_)
      go_wp2_with fail
      go_ret
      exact ⟨rfl, HK.out⟩
end Go.Proofs.YtgogfnafbeahoaaGreat
