/- LedgerParts: a round, once its spans were taken. -/
import Derived.Test.YtgogfnafbeahoaaGreatLedPt
namespace Go.Proofs.YtgogfnafbeahoaaGreat
open Go Go.RowKit Go.Dr Go.Shelf

set_option maxRecDepth 100000 in
set_option maxHeartbeats 8000000 in
theorem pa_tail [bn : Inhabited Ban] {c : Code} (hc : Func.from Tryz.f3 14 = some c) {Q : Exit → Act → World → Prop} {w W13 : World} {P1 q1 p1 r1 P2 q2 p2 r2 width : Nat} {size : Int} {ts1 : List LRec} {d1 : DiskS} {L1 : LedS} {F1 : Nat → Prop} {ts2 : List LRec} {d2 : DiskS} {L2 : LedS} {F2 : Nat → Prop} {j b10 b13 n on fl bs B12 : Nat} {csA : Array Value} {l : List ItemS} {lo : Option Addr} {lc : Nat}
    {s0 s1 s2 s3 s4 s5 s6 s9 s15 s16 s17 s18 s19 s20 s21 s22 s23 s24 s25 s26 s27 s28 s29 s30 s31 s32 s33 s34 s35 s36 s37 s38 s39 s40 s41 s42 s43 s44 s45 s46 s47 s48 s49 s50 s51 s52 s53 s54 s55 s56 s57 s58 s59 s60 s61 s62 s63 s64 s65 s66 s67 s68 s69 s70 s71 s72 s73 s74 s75 s76 s77 s78 s79 s80 s81 s82 s83 s84 s85 s86 s87 s88 s89 s90 s91 s92 s93 s94 s95 s96 s97 s98 s99 s100 s101 s102 s103 s104 s105 s106 s107 s108 s109 s110 s111 s112 s113 s114 s115 s116 s117 s118 s119 s120 s121 s122 s123 s124 s125 s126 s127 s128 s129 s130 s131 s132 s133 s134 s135 s136 s137 s138 s139 s140 s141 s142 s143 s144 s145 s146 s147 s148 s149 s150 s151 s152 s153 s154 s155 s156 s157 s158 s159 s160 s161 s162 s163 s164 s165 s166 s167 s168 s169 s170 s171 s172 s173 s174 s175 s176 s177 s178 s179 s180 s181 s182 s183 s184 s185 s186 s187 s188 : Value}
    (hI : PaI w W13 P1 q1 p1 r1 P2 q2 p2 r2 width size ts1 d1 L1 F1 ts2 d2 L2 F2 (j + 1) (9 * j + 1) (22 + 539 * j) (22 + 947 * j)) (htw : Twin L1 L2 j) (hj : j < 25) (hA : W13.heap[b10]? = some (.cells csA 30 (0, 0))) (hcs1 : csA[1]? = some (.int .i64 n)) (hcs2 : csA[2]? = some (.int .u64 bs)) (hn16 : n < 16) (hon16 : on < 16) (honn : on ≠ n) (hbs60 : bs < 1152921504606846976)
    (hits : ItsAt w.heap.size W13 B12 (.slice lo l.length lc) l) (hl8 : l.length ≤ 8) (hl40 : ∀ x ∈ l, x.s.body.length ≤ 40) (hbox : WinBox W13 b13 (L1.win on)) (hfl : L1.floor on = fl) (hT : ban.top ≤ w.heap.size)
    (hQp : ∀ c a d v w, Q (.panic c) (Act.put a (some d) v) w → Q (.panic c) a w)
    (hQ1 : ∀ {x6 x9 x15 x16 x17 x19 x20 x21 x39 x40 x41 x42 x43 x44 x45 x46 x47 x48 x49 x50 x51 x52 x53 x54 x55 x56 x57 x58 x59 x60 x61 x62 x63 x64 x65 x66 x67 x68 x69 x70 x71 x72 x73 x74 x75 x76 x77 x78 x79 x80 x81 x82 x83 x84 x85 x86 x87 x88 x89 x90 x91 x92 x93 x94 x95 x96 x97 x98 x99 x100 x101 x102 x103 x104 x105 x106 x107 x108 x109 x110 x111 x112 x113 x114 x115 x116 x117 x118 x119 x120 x121 x122 x123 x124 x125 x126 x127 x128 x129 x130 x131 x132 x133 x134 x135 x136 x137 x138 x139 x140 x141 x142 x143 x144 x145 x146 x147 x148 x149 x150 x151 x152 x153 x154 x155 x156 x157 x158 x159 x160 x161 x162 x163 x164 x165 x166 x167 x168 x169 x170 x171 x172 x173 x174 x175 x176 x177 : Value} {W' : World}, PaR w W' P1 q1 p1 r1 P2 q2 p2 r2 width (j + 1) size → Q .normal { tmps := #[s0, s1, s2, s3, s4, s5, x6, .pointer (some ⟨P1, 0, none⟩), .pointer (some ⟨P2, 0, none⟩), x9, .pointer (some ⟨b10, 0, none⟩), .slice lo l.length lc, .int .i64 on, .pointer (some ⟨b13, 0, none⟩), .int .u64 fl, x15, x16, x17, s18, x19, x20, x21, s22, s23, s24, s25, s26, s27, s28, s29, s30, s31, s32, s33, s34, s35, s36, s37, s38, x39, x40, x41, x42, x43, x44, x45, x46, x47, x48, x49, x50, x51, x52, x53, x54, x55, x56, x57, x58, x59, x60, x61, x62, x63, x64, x65, x66, x67, x68, x69, x70, x71, x72, x73, x74, x75, x76, x77, x78, x79, x80, x81, x82, x83, x84, x85, x86, x87, x88, x89, x90, x91, x92, x93, x94, x95, x96, x97, x98, x99, x100, x101, x102, x103, x104, x105, x106, x107, x108, x109, x110, x111, x112, x113, x114, x115, x116, x117, x118, x119, x120, x121, x122, x123, x124, x125, x126, x127, x128, x129, x130, x131, x132, x133, x134, x135, x136, x137, x138, x139, x140, x141, x142, x143, x144, x145, x146, x147, x148, x149, x150, x151, x152, x153, x154, x155, x156, x157, x158, x159, x160, x161, x162, x163, x164, x165, x166, x167, x168, x169, x170, x171, x172, x173, x174, x175, x176, x177, s178, s179, s180, s181, s182, s183, s184, s185, s186, s187, s188], defers := [] } W')
    (hQ2 : ∀ {x6 x9 x15 x16 x17 x19 x20 x21 x39 x40 x41 x42 x43 x44 x45 x46 x47 x48 x49 x50 x51 x52 x53 x54 x55 x56 x57 x58 x59 x60 x61 x62 x63 x64 x65 x66 x67 x68 x69 x70 x71 x72 x73 x74 x75 x76 x77 x78 x79 x80 x81 x82 x83 x84 x85 x86 x87 x88 x89 x90 x91 x92 x93 x94 x95 x96 x97 x98 x99 x100 x101 x102 x103 x104 x105 x106 x107 x108 x109 x110 x111 x112 x113 x114 x115 x116 x117 x118 x119 x120 x121 x122 x123 x124 x125 x126 x127 x128 x129 x130 x131 x132 x133 x134 x135 x136 x137 x138 x139 x140 x141 x142 x143 x144 x145 x146 x147 x148 x149 x150 x151 x152 x153 x154 x155 x156 x157 x158 x159 x160 x161 x162 x163 x164 x165 x166 x167 x168 x169 x170 x171 x172 x173 x174 x175 x176 x177 : Value} {W' : World}, PaR w W' P1 q1 p1 r1 P2 q2 p2 r2 width j size → Q (.exit 1) { tmps := #[s0, s1, s2, s3, s4, s5, x6, .pointer (some ⟨P1, 0, none⟩), .pointer (some ⟨P2, 0, none⟩), x9, .pointer (some ⟨b10, 0, none⟩), .slice lo l.length lc, .int .i64 on, .pointer (some ⟨b13, 0, none⟩), .int .u64 fl, x15, x16, x17, s18, x19, x20, x21, s22, s23, s24, s25, s26, s27, s28, s29, s30, s31, s32, s33, s34, s35, s36, s37, s38, x39, x40, x41, x42, x43, x44, x45, x46, x47, x48, x49, x50, x51, x52, x53, x54, x55, x56, x57, x58, x59, x60, x61, x62, x63, x64, x65, x66, x67, x68, x69, x70, x71, x72, x73, x74, x75, x76, x77, x78, x79, x80, x81, x82, x83, x84, x85, x86, x87, x88, x89, x90, x91, x92, x93, x94, x95, x96, x97, x98, x99, x100, x101, x102, x103, x104, x105, x106, x107, x108, x109, x110, x111, x112, x113, x114, x115, x116, x117, x118, x119, x120, x121, x122, x123, x124, x125, x126, x127, x128, x129, x130, x131, x132, x133, x134, x135, x136, x137, x138, x139, x140, x141, x142, x143, x144, x145, x146, x147, x148, x149, x150, x151, x152, x153, x154, x155, x156, x157, x158, x159, x160, x161, x162, x163, x164, x165, x166, x167, x168, x169, x170, x171, x172, x173, x174, x175, x176, x177, s178, s179, s180, s181, s182, s183, s184, s185, s186, s187, s188], defers := [] } W') :
    c.wp Tryz.prog Q { tmps := #[s0, s1, s2, s3, s4, s5, s6, .pointer (some ⟨P1, 0, none⟩), .pointer (some ⟨P2, 0, none⟩), s9, .pointer (some ⟨b10, 0, none⟩), .slice lo l.length lc, .int .i64 on, .pointer (some ⟨b13, 0, none⟩), .int .u64 fl, s15, s16, s17, s18, s19, s20, s21, s22, s23, s24, s25, s26, s27, s28, s29, s30, s31, s32, s33, s34, s35, s36, s37, s38, s39, s40, s41, s42, s43, s44, s45, s46, s47, s48, s49, s50, s51, s52, s53, s54, s55, s56, s57, s58, s59, s60, s61, s62, s63, s64, s65, s66, s67, s68, s69, s70, s71, s72, s73, s74, s75, s76, s77, s78, s79, s80, s81, s82, s83, s84, s85, s86, s87, s88, s89, s90, s91, s92, s93, s94, s95, s96, s97, s98, s99, s100, s101, s102, s103, s104, s105, s106, s107, s108, s109, s110, s111, s112, s113, s114, s115, s116, s117, s118, s119, s120, s121, s122, s123, s124, s125, s126, s127, s128, s129, s130, s131, s132, s133, s134, s135, s136, s137, s138, s139, s140, s141, s142, s143, s144, s145, s146, s147, s148, s149, s150, s151, s152, s153, s154, s155, s156, s157, s158, s159, s160, s161, s162, s163, s164, s165, s166, s167, s168, s169, s170, s171, s172, s173, s174, s175, s176, s177, s178, s179, s180, s181, s182, s183, s184, s185, s186, s187, s188], defers := [] } W13 := by
  have h0 : Func.from Tryz.f3 14 = some _ := rfl
  obtain rfl := Option.some.inj (h0.symm.trans hc)
  clear h0 hc
  let Q0 : Exit → Act → World → Prop := bodyPost Tryz.prog Tryz.f3 (fun _ _ => True)
  have kd : Keep No W13 W13.drew := (Keep.refl _ _).drew
  have hszw : w.heap.size ≤ W13.heap.size := hI.k.size
  have hput := put_any (a := (n : Int)) (b := bs) (M := 40) (N := 519) (hI.one.no kd) (hits.no kd) hl8 (by decide) hl40 (by omega) (by have := hI.nts1; omega) (by have := htw.nrec; omega) hszw (Nat.le_trans hT hszw) (by have h1 := hI.used1; have h2 := hI.room1; omega)
  have p0 := cell_of hI.blk1 0
  have a1 := cell_of hA 1
  have a2 := cell_of hA 2
  rw [hcs1] at a1
  rw [hcs2] at a2
  simp at p0
  have hnP : ¬ F1 P1 := hI.one.not hI.blk1 (by decide)
  have hnA : ¬ F1 b10 := hI.one.not hA (by decide)
  have H13 := Lib.hid (And.intro hI (And.intro htw (And.intro hj (And.intro hA (And.intro hits (And.intro hl8 (And.intro hl40 (And.intro hbox (And.intro hfl (And.intro hT hbs60))))))))))
  have HCA := Lib.hid (And.intro hcs1 (And.intro hcs2 (And.intro hn16 (And.intro hon16 honn))))
  clear hI htw hj hA hits hl8 hl40 hbox hfl hT hbs60 hcs1 hcs2 hn16 hon16 honn hszw
  go_upto_region 14 with fail
  dsimp only
  go_cut [15, 16] (fun v15 v16 wx => ∃ c : Int, v16 = .int .i64 c ∧ ((c ≠ 0 ∧ Keep No W13.drew wx) ∨ (c = 0 ∧ rightB bs l = true ∧ OwnN wx W13.heap.size v15 ((pick ((L1.win n).skip bs) l).map (·.n)) ∧ ItsAt w.heap.size wx B12 (.slice lo l.length lc) l ∧ PutFt w.heap.size W13.drew wx q1 p1 width size ts1.length d1 (L1.putL n bs l) (j + 1) 519 F1)))
  case first =>
    refine wp_drawN2 (fun w' => Keep F1 W13 w') [0, 1, 2, 3, 4, 5, 6, 7, 8] [9, 10] [11, 12] [13, 14] (by kernel_rfl) (by kernel_rfl) (fun _ _ _ _ _ h => hQp _ _ _ _ _ h) kd.no ?_
    iterate 9 (refine earlyN_cons (v := ?_) rfl rfl rfl ?_ ?_; rotate_left; focus (
      intro w' hS
      have e0 := hS.cell p0 hnP
      have e1 := hS.cell a1 hnA
      have e2 := hS.cell a2 hnA
      go_simp
      try with_reducible rfl))
    refine earlyN_nil (midN_cons rfl rfl (fun K hK => ?_))
    go_simp
    refine hput.mono ?_
    rintro e w14 ⟨tv, c, rfl, hpost⟩
    have kF : Keep F1 W13 w14 := kd.no.trans (by
      rcases hpost with ⟨_, h⟩ | ⟨_, n, _, _, _, _, _, h⟩
      · exact h.no
      · exact h.keep) (fun _ _ e => e)
    refine hK _ _ kF ?_
    clear hK K
    refine midN_cons rfl rfl (fun K hK => ?_)
    go_simp
    refine hK _ _ kF ?_
    clear hK K
    refine midN_nil ?_
    iterate 2 (refine earlyN_cons (v := ?_) rfl rfl rfl ?_ ?_; rotate_left; focus (
      intro w' hS
      go_simp
      try with_reducible rfl))
    refine earlyN_nil (midN_cons rfl rfl (fun K hK => ?_))
    go_simp
    refine hK _ _ kF ?_
    clear hK K
    refine midN_cons rfl rfl (fun K hK => ?_)
    go_simp
    refine hK _ _ kF ?_
    clear hK K
    refine midN_nil ?_
    go_wp2_with fail
    go_meet
    refine ⟨c, rfl, hpost.imp id ?_⟩
    rintro ⟨h1, n', hn, _, h2, h3, h4, h5⟩
    obtain rfl : n = n' := by omega
    exact ⟨h1, h2, h3, h4, h5⟩
  case rest =>
    obtain ⟨c, rfl, hpost⟩ := hcut
    rename World => W14
    rcases hpost with ⟨hc, k14⟩ | ⟨rfl, hr, hown, hits14, hP⟩
    · have hbad : PaR w W14 P1 q1 p1 r1 P2 q2 p2 r2 width j size := ⟨ts1, d1, L1, F1, ts2, d2, L2, F2, (H13.out.1.no kd).no k14, H13.out.2.1⟩
      have HX := Lib.hid hbad
      clear hbad k14 p0 a1 a2 hnP hnA hput
      go_wp2_with fail
      first | exact HX.out | exact hQ2 HX.out
    · obtain ⟨ts1', d1', F1', hI14, hF1⟩ := (H13.out.1.no kd).put1 hP
      have hn16 := HCA.out.2.2.1
      obtain ⟨hI, htw, hj, hA, hits, hl8, hl40, hbox, hfl, hT, hbs60⟩ := H13.out
      have k14 : Keep F1 W13 W14 := kd.no.trans hP.keep (fun _ _ e => e)
      have hA14 := k14.heap hA hnA
      have hbk := hbox
      obtain ⟨_, _, hzb, _⟩ := hbk
      have hbox14 := hbox.keep hI.one.footR k14 (hI.one.not hzb (by decide))
      have kd14 : Keep No W14 W14.drew := (Keep.refl _ _).drew
      have hsz14 : w.heap.size ≤ W14.heap.size := hI14.k.size
      have hr0 : rightB bs [] = true := by simp [rightB]; omega
      have hput2 := put_ft (a := n) (b := bs) (M := 0) (N := 31) (hI14.two.no kd14) hn16 (ItsAt.nil w.heap.size W14.drew 0) hr0 (by simp) (by decide) (fun x hx => by simp at hx) (by simp) (by have := hI14.nts2; omega) (by have h1 := htw.nrec; have h2 := htw.recs; rw [h2] at h1; omega) hsz14 (Nat.le_trans hT hsz14) (by have h1 := hI14.used2; have h2 := hI14.room2; omega)
      have p0 := cell_of hI14.blk2 0
      have a1 := cell_of hA14 1
      have a2 := cell_of hA14 2
      rw [HCA.out.1] at a1
      rw [HCA.out.2.1] at a2
      simp at p0
      have hnP : ¬ F2 P2 := hI14.two.not hI14.blk2 (by decide)
      have hnA : ¬ F2 b10 := hI14.two.not hA14 (by decide)
      have H14 := Lib.hid (And.intro hI14 (And.intro hA14 (And.intro hbox14 (And.intro hr (And.intro hown (And.intro hits14 kd14))))))
      clear hI14 hA14 hbox14 hr hown hits14 hI htw hj hA hits hl8 hl40 hbox hfl hT hbs60 hzb hput hP hF1 k14 hsz14 hr0 hn16
      go_upto_region 17 with fail
      go_cut [15] (fun v15 wx => OwnN wx W13.heap.size v15 ((pick ((L1.win n).skip bs) l).map (·.n)) ∧ PutFt w.heap.size W14.drew wx q2 p2 width size ts2.length d2 (L2.putL n bs []) (9 * j + 1) 31 F2)
      case first =>
        refine wp_drawN (fun w' => Keep F2 W14 w') [0, 1, 2, 3, 4, 5, 6, 7] [8] [] (by kernel_rfl) (by kernel_rfl) (fun _ _ _ _ _ h => hQp _ _ _ _ _ h) H14.out.2.2.2.2.2.2.no ?_
        iterate 8 (refine earlyN_cons (v := ?_) rfl rfl rfl ?_ ?_; rotate_left; focus (
          intro w' hS
          have e0 := hS.cell p0 hnP
          have e1 := hS.cell a1 hnA
          have e2 := hS.cell a2 hnA
          go_simp
          try with_reducible rfl))
        refine earlyN_nil (midN_cons rfl rfl (fun K hK => ?_))
        go_simp
        refine hput2.mono ?_
        rintro e w17 ⟨tv, rfl, _, _, hP17⟩
        have k17 : Keep F2 W14 w17 := H14.out.2.2.2.2.2.2.no.trans hP17.keep (fun _ _ e => e)
        refine hK _ _ k17 ?_
        clear hK K
        refine midN_nil (tailN_nil ?_)
        go_wp2_with fail
        go_meet
        refine ⟨H14.out.2.2.2.2.1.keep k17 (fun b hb e => ?_), hP17⟩
        obtain ⟨_, cur, hz⟩ := H14.out.2.2.2.2.1.kind b hb
        exact H14.out.1.two.not hz (by decide) e
      case rest =>
        rename World => W17
        obtain ⟨hown17, hP17⟩ := hcut
        obtain ⟨ts2', d2', F2', hI17, hF2⟩ := (H14.out.1.no H14.out.2.2.2.2.2.2).put2 hP17
        have k17 : Keep F2 W14 W17 := H14.out.2.2.2.2.2.2.no.trans hP17.keep (fun _ _ e => e)
        obtain ⟨hI14, hA14, hbox14, hr, hown, hits14, kd14⟩ := H14.out
        have hA17 := k17.heap hA14 hnA
        have hbk := hbox14
        obtain ⟨_, _, hzb, _⟩ := hbk
        have hbox17 := hbox14.keep hI14.two.footR k17 (hI14.two.not hzb (by decide))
        have hits17 := hits14.keep hI14.two.foot k17 (fun b hb e => by
          obtain ⟨_, cur, hz⟩ := hits14.kind b hb
          exact hI14.two.not hz (by decide) e)
        have hpart := Partly.start (b := bs) hI14.two.ok HCA.out.2.2.1
        have hyy : (L2.win n).skip bs = (L1.win n).skip bs := by rw [H13.out.2.1.win n HCA.out.2.2.1]
        rw [hyy] at hpart
        have hyf : ((L1.win n).skip bs).Fine width := (H13.out.1.one.ok.fine HCA.out.2.2.1).skip (by have := H13.out.2.2.2.2.2.2.2.2.2.2; omega)
        have hylow : bs ≤ ((L1.win n).skip bs).low + 1 := (H13.out.1.one.ok.fine HCA.out.2.2.1).ok.skip_low (by have := H13.out.2.2.2.2.2.2.2.2.2.2; omega)
        obtain ⟨y, hy⟩ : ∃ y, y = (L1.win n).skip bs := ⟨_, rfl⟩
        rw [← hy] at hpart hyf hylow hown17
        have H17 := Lib.hid (And.intro hI17 (And.intro hA17 (And.intro hbox17 (And.intro hits17 (And.intro hown17 (And.intro hpart (And.intro hyf (And.intro hylow (And.intro hr hy)))))))))
        clear hI14 hA14 hbox14 hr hown hits14 kd14 hA17 hbox17 hits17 hpart hyf hylow hyy hzb hI17 hown17 hP17 k17 hF2 p0 a1 a2 hnP hnA hput2 hy
        go_upto_region 18 with fail
        go_upto_block 2 with fail
        go_cut [17] (fun v17 wx => PaL w W17 wx P1 q1 p1 r1 P2 q2 p2 r2 width size ts1' d1' (L1.putL n bs l) F1' L2 F2' (j + 2) (9 * j + 2) (22 + 539 * j + 539) (22 + 947 * j + 51) n y (pick y l) l.length v17)
        case first =>
          go_wp2_with fail
          go_loopw [17, 110] (fun v17 v110 wr => ∃ k, v110 = .int .i64 (k : Nat) ∧ k ≤ l.length ∧ PaL w W17 wr P1 q1 p1 r1 P2 q2 p2 r2 width size ts1' d1' (L1.putL n bs l) F1' L2 F2' (j + 2) (9 * j + 2) (22 + 539 * j + 539) (22 + 947 * j + 51) n y (pick y (l.take k)) k v17) (fun _ v110 _ => l.length - (intOf v110).toNat)
          case atStart => exact ⟨0, rfl, Nat.zero_le _, ts2', d2', _, F2', H17.out.1, fun b hb => .inl hb, Keep.refl _ _, H17.out.2.2.2.2.2.1, OwnN.nil _ _⟩
          case round =>
            obtain ⟨k, rfl, hk, hL⟩ := hrel
            obtain ⟨t, ht⟩ : ∃ t, t = pick y (l.take k) := ⟨_, rfl⟩
            rw [← ht] at hL
            obtain ⟨ts3, d3, M, F3, hI3, hF3, k3, hpt, hown3⟩ := hL
            obtain ⟨so, sc, h17, _, _⟩ := hown3.form
            subst h17
            by_cases hlt : k < l.length
            · have hx : l[k]? = some l[k] := List.getElem?_eq_getElem hlt
              have htake : l.take (k + 1) = l.take k ++ [l[k]] := List.take_succ_eq_append_getElem hlt
              generalize l[k] = z at hx htake
              have hzm := List.mem_of_getElem? hx
              have hki : (k : Int) < (l.length : Int) := by omega
              have hkn : IntKind.i64.wrap ((k : Int) + 1) = ((k + 1 : Nat) : Int) := by rw [IntKind.wrap_i64]; have := H13.out.2.2.2.2.2.1; omega
              have hrr := (rightB_iff bs l).1 H17.out.2.2.2.2.2.2.2.2.1
              have hrz : rightB bs [z] = true := (rightB_iff bs [z]).2 ⟨fun x hx => by obtain rfl := List.mem_singleton.1 hx; exact hrr.1 _ hzm, hrr.2⟩
              have hts : t.length ≤ 8 ∧ ∀ x ∈ t, x.n < 2305843009213693952 := by
                rw [ht]
                have hs := (pick_sub y (l.take k)).trans (List.take_sublist k l)
                exact ⟨Nat.le_trans hs.length_le H13.out.2.2.2.2.2.1, fun x hx => (hrr.1 x (hs.subset hx)).1⟩
              obtain ⟨hpk, hptn⟩ := hpt.next (x := z) hI3.two.ok HCA.out.2.2.1 H17.out.2.2.2.2.2.2.1 H17.out.2.2.2.2.2.2.2.1 hts.2
              have hsn := pick_snoc y (l.take k) z
              rw [← htake, ← ht, ← hpk] at hsn
              have hMr : M.recs.length ≤ 1073741824 := by
                rw [hpt.recs, List.length_append, List.length_map]
                have h1 := H13.out.2.1.nrec
                rw [H13.out.2.1.recs] at h1
                have h2 := H13.out.2.2.1
                have h3 := hts.1
                omega
              have HL := Lib.hid (And.intro hI3 (And.intro hF3 (And.intro k3 (And.intro hptn (And.intro hown3 (And.intro hx (And.intro hzm (And.intro hlt (And.intro hrz (And.intro hts (And.intro hsn hMr)))))))))))
              clear hI3 hF3 k3 hptn hown3 hx hzm hlt hrz hts hsn hMr hrr hpt hpk htake ht hk
              go_upto_block 3 with fail
              refine wp_block (pa_one rfl HL.out.1 (by have h1 := H13.out.2.2.1; have h2 := HL.out.2.2.2.2.2.2.2.1; have h3 := H13.out.2.2.2.2.2.1; omega) (by have h1 := H13.out.2.2.1; have h2 := HL.out.2.2.2.2.2.2.2.1; have h3 := H13.out.2.2.2.2.2.1; omega) HL.out.2.2.2.2.2.2.2.2.2.2.2 (HL.out.2.2.1.heap H17.out.2.1 (H17.out.1.two.not H17.out.2.1 (by decide))) HCA.out.1 HCA.out.2.1 HCA.out.2.2.1 HL.out.2.2.2.2.2.2.2.2.1 (H13.out.2.2.2.2.2.2.1 z HL.out.2.2.2.2.2.2.1)
                (H17.out.2.2.2.1.keep H17.out.1.two.foot HL.out.2.2.1 (fun b hb e => by
                  obtain ⟨_, cur, hz⟩ := H17.out.2.2.2.1.kind b hb
                  exact H17.out.1.two.not hz (by decide) e)) H13.out.2.2.2.2.2.1 HL.out.2.2.2.2.2.1 HL.out.2.2.2.2.1 HL.out.2.2.1.size H17.out.1.k.size (by rw [List.length_map]; have := HL.out.2.2.2.2.2.2.2.2.2.1.1; omega) H13.out.2.2.2.2.2.2.2.2.2.1 ?_ ?_)
              · exact fun _ _ _ _ _ h => hQp _ _ _ _ _ h
              intros
              rename PaI _ _ _ _ _ _ _ _ _ _ _ _ _ _ _ _ _ _ _ _ _ _ _ _ => hI'
              rename Keep _ _ _ => kk'
              rename OwnN _ _ _ _ => hown'
              rename ∀ b, _ → F3 b ∨ _ => hF'
              rename _ = List.map _ _ ++ List.map _ _ => ht'
              have HX := Lib.hid (And.intro hI' (And.intro hF' (And.intro kk' (And.intro hown' ht'))))
              clear hI' hF' kk' hown'
              go_wp2_with fail
              go_roundw
              case rel =>
                refine ⟨k + 1, by congr 1, by have := HL.out.2.2.2.2.2.2.2.1; omega, _, _, _, _, HX.out.1, fun b hb => ?_, HL.out.2.2.1.trans HX.out.2.2.1 (fun b hb e => ?_), ?_, ?_⟩
                · have hsz := HL.out.2.2.1.size
                  rcases HX.out.2.1 b hb with h | h
                  · exact HL.out.2.1 b h
                  · exact .inr (by omega)
                · rcases e with h | h
                  · rcases HL.out.2.1 b h with h | h
                    · exact h
                    · omega
                  · omega
                · rw [HL.out.2.2.2.2.2.2.2.2.2.2.1]
                  exact HL.out.2.2.2.1
                · rw [HL.out.2.2.2.2.2.2.2.2.2.2.1, List.map_append, ← HX.out.2.2.2.2]
                  exact HX.out.2.2.2.1
              case measure => have := HL.out.2.2.2.2.2.2.2.1; simp [intOf]; omega
            · have hke : k = l.length := by omega
              have hki : ¬ (k : Int) < (l.length : Int) := by omega
              have HL := Lib.hid (show PaL w W17 wr P1 q1 p1 r1 P2 q2 p2 r2 width size ts1' d1' (L1.putL n bs l) F1' L2 F2' (j + 2) (9 * j + 2) (22 + 539 * j + 539) (22 + 947 * j + 51) n y (pick y l) l.length (.slice so (t.map (·.n)).length sc) from by
                have htl : t = pick y l := by rw [ht, hke, List.take_of_length_le (Nat.le_refl _)]
                rw [← htl, ← hke]
                exact ⟨ts3, d3, M, F3, hI3, hF3, k3, hpt, hown3⟩)
              clear hI3 hF3 k3 hpt hown3 hke hlt hk ht
              go_wp2_with fail
              go_meet
              have h := HL.out
              rw [List.length_map] at h
              exact h
        case rest =>
          rename World => W18
          obtain ⟨ts3, d3, M, F3, hI3, hF3, k3, hpt, hown3⟩ := hcut
          have hA18 := k3.heap H17.out.2.1 (H17.out.1.two.not H17.out.2.1 (by decide))
          have hbk := H17.out.2.2.1
          obtain ⟨_, _, hzb, _⟩ := hbk
          have hbox18 := H17.out.2.2.1.keep H17.out.1.two.footR k3 (H17.out.1.two.not hzb (by decide))
          have hown15 := H17.out.2.2.2.2.1.keep k3 (fun b hb e => by
            obtain ⟨_, cur, hz⟩ := H17.out.2.2.2.2.1.kind b hb
            exact H17.out.1.two.not hz (by decide) e)
          have hMis := putL_is (b := bs) (l := l) H13.out.1.one.ok HCA.out.2.2.1
          have htw' : Twin (L1.putL n bs l) M (j + 1) := H13.out.2.1.put H13.out.1.one.ok HCA.out.2.2.1 H13.out.2.2.2.2.2.1 (by rw [← H17.out.2.2.2.2.2.2.2.2.2]; exact hpt)
          have hl8 := H13.out.2.2.2.2.2.1
          have hns8 : ((pick y l).map (·.n)).length ≤ 8 := by rw [List.length_map]; exact Nat.le_trans (pick_sub y l).length_le hl8
          have hR : PaR w W18 P1 q1 p1 r1 P2 q2 p2 r2 width (j + 1) size := ⟨ts1', d1', _, F1', ts3, d3, M, F3, hI3.more (by omega) (by omega) (by omega) (by omega), htw'⟩
          rename Act → World → Prop => K
          rename ∀ a w, Code.wp _ _ _ a w → K a w => hKK
          refine hKK _ _ (pa_end rfl hI3 hA18 HCA.out.1 HCA.out.2.2.1 HCA.out.2.2.2.1 (htw'.win n HCA.out.2.2.1) hbox18 (hMis.other on HCA.out.2.2.2.2) ((hMis.floor on).trans H13.out.2.2.2.2.2.2.2.2.1) hown15 hown3 hns8 ?_ ?_)
          · exact fun _ _ _ _ _ h => hQp _ _ _ _ _ h
          intros
          rename Keep _ _ _ => kk'
          exact hQ1 (hR.no kk')

end Go.Proofs.YtgogfnafbeahoaaGreat
