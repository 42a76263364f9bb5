/- LedgerWindows: a round, once its spans were taken. -/
import Derived.Test.YtgogfnafbeahoaaGreatLedGW
import Derived.Test.YtgogfnafbeahoaaGreatDrawFJ
namespace Go.Proofs.YtgogfnafbeahoaaGreat
open Go Go.RowKit Go.Dr Go.Shelf

set_option maxRecDepth 100000 in
set_option maxHeartbeats 8000000 in
theorem wi_tail [bn : Inhabited Ban] {c : Code} (hc : Func.from Tryz.f4 15 = some c) {Q : Exit → Act → World → Prop} {w W13 W14 : World} {P q p r width B j b10 b11 n bs : Nat} {size : Int} {ts : List LRec} {d : DiskS} {L : LedS} {F : Nat → Prop} {f : Int → Nat} {sk : Nat → Nat}
    {y : WinS} {l : List ItemS} {csA : Array Value} {lo : Option Addr} {lc B12 : Nat} {v13 : Value} {u0 u1 u2 u3 u4 u5 u6 u9 u15 u16 u17 u18 u19 u20 u21 u22 u23 u24 u25 u26 u27 u28 u29 u30 u31 u32 u33 u34 u35 u36 u37 u38 u39 u40 u41 u42 u43 u44 u45 u46 u47 u48 u49 u50 u51 u52 u53 u54 u55 u56 u57 u58 u59 u60 u61 u62 u63 u64 u65 u66 u67 u68 u69 u70 u71 u72 u73 u74 u75 u76 u77 u78 u79 u80 u81 u82 u83 u84 u85 u86 u87 u88 u89 u90 u91 u92 u93 u94 u95 u96 u97 u98 u99 u100 u101 u102 u103 u104 u105 u106 u107 u108 u109 u110 u111 u112 u113 u114 u115 u116 u117 u118 u119 u120 u121 u122 u123 u124 u125 u126 u127 u128 u129 u130 u131 u132 u133 u134 u135 u136 u137 u138 u139 u140 u141 u142 u143 u144 u145 u146 u147 u148 u149 u150 u151 u152 u153 u154 u155 u156 u157 u158 u159 u160 u161 u162 u163 u164 u165 u166 u167 u168 u169 u170 u171 u172 u173 u174 u175 u176 u177 u178 u179 u180 u181 u182 u183 u184 u185 u186 u187 u188 u189 u190 u191 u192 u193 u194 u195 u196 : Value}
    (hI13 : WiI w W13 P q p r width B j size ts d L F f sk) (hfs : ∀ a : Nat, f (a : Int) = sk a) (hbx13 : WinBox W13 b11 y) (hA13' : W13.heap[b10]? = some (.cells csA 30 (0, 0))) (hcs1 : csA[1]? = some (.int .i64 n)) (hcs2 : csA[2]? = some (.int .u64 bs))
    (hl8 : l.length ≤ 8) (hye : y = (L.win n).skip bs) (hbs60 : bs < 1152921504606846976) (_hbn10 : w.heap.size ≤ b10) (hbn11 : w.heap.size ≤ b11) (hn16 : n < 16) (hr : rightB bs l = true) (hown : OwnN W14 W13.heap.size v13 ((pick ((L.win n).skip bs) l).map (·.n)))
    (hits14 : ItsAt w.heap.size W14 B12 (.slice lo l.length lc) l) (hP : PutFt w.heap.size W13.drew W14 q p width size ts.length d (L.putL n bs l) (j + 1) 519 F) (hj : j < 30)
    (hQp : ∀ c a d v w, Q (.panic c) (Act.put a (some d) v) w → Q (.panic c) a w) (hQ : ∀ {x6 x9 x10 x11 x12 x13 x14 x15 x17 x18 x19 x20 x22 x23 x24 x36 x37 x38 x39 x40 x41 x42 x43 x44 x45 x46 x47 x48 x49 x50 x51 x52 x53 x54 x55 x56 x57 x58 x59 x60 x61 x62 x63 x64 x65 x66 x67 x68 x69 x70 x71 x72 x73 x74 x75 x76 x77 x78 x79 x80 x81 x82 x83 x84 x85 x86 x87 x88 x89 x90 x91 x92 x93 x94 x95 x96 x97 x98 x99 x100 x101 x102 x103 x104 x105 x106 x107 x108 x109 x110 x111 x112 x113 x114 x115 x116 x117 x118 x119 x120 x121 x122 x123 x124 x125 x126 x127 x128 x129 x130 x131 x132 x133 x134 x135 x136 x137 x138 x139 x140 x141 x142 x143 x144 x145 x146 x147 x148 x149 x150 x151 x152 x153 x154 x155 x156 x157 x158 x159 x160 x161 x162 x163 x164 x165 x166 x167 x168 x169 x170 x171 x172 x173 x174 x175 x176 x177 x178 x179 x180 x181 x182 x183 x184 x185 x186 x187 x188 x189 x190 x191 x192 x193 x194 x195 x196 : Value} {W' : World}, WiR w W' P q p r width B (j + 1) size → Q .normal { tmps := #[u0, u1, u2, u3, u4, u5, x6, .pointer (some ⟨P, 0, none⟩), .map (some B), x9, x10, x11, x12, x13, x14, x15, u16, x17, x18, x19, x20, u21, x22, x23, x24, u25, u26, u27, u28, u29, u30, u31, u32, u33, u34, u35, x36, x37, x38, x39, x40, x41, x42, x43, x44, x45, x46, x47, x48, x49, x50, x51, x52, x53, x54, x55, x56, x57, x58, x59, x60, x61, x62, x63, x64, x65, x66, x67, x68, x69, x70, x71, x72, x73, x74, x75, x76, x77, x78, x79, x80, x81, x82, x83, x84, x85, x86, x87, x88, x89, x90, x91, x92, x93, x94, x95, x96, x97, x98, x99, x100, x101, x102, x103, x104, x105, x106, x107, x108, x109, x110, x111, x112, x113, x114, x115, x116, x117, x118, x119, x120, x121, x122, x123, x124, x125, x126, x127, x128, x129, x130, x131, x132, x133, x134, x135, x136, x137, x138, x139, x140, x141, x142, x143, x144, x145, x146, x147, x148, x149, x150, x151, x152, x153, x154, x155, x156, x157, x158, x159, x160, x161, x162, x163, x164, x165, x166, x167, x168, x169, x170, x171, x172, x173, x174, x175, x176, x177, x178, x179, x180, x181, x182, x183, x184, x185, x186, x187, x188, x189, x190, x191, x192, x193, x194, x195, x196], defers := [] } W') :
    c.wp Tryz.prog Q { tmps := #[u0, u1, u2, u3, u4, u5, u6, .pointer (some ⟨P, 0, none⟩), .map (some B), u9, .pointer (some ⟨b10, 0, none⟩), .pointer (some ⟨b11, 0, none⟩), .slice lo l.length lc, v13, .int .i64 0, u15, u16, u17, u18, u19, u20, u21, u22, u23, u24, u25, u26, u27, u28, u29, u30, u31, u32, u33, u34, u35, u36, u37, u38, u39, u40, u41, u42, u43, u44, u45, u46, u47, u48, u49, u50, u51, u52, u53, u54, u55, u56, u57, u58, u59, u60, u61, u62, u63, u64, u65, u66, u67, u68, u69, u70, u71, u72, u73, u74, u75, u76, u77, u78, u79, u80, u81, u82, u83, u84, u85, u86, u87, u88, u89, u90, u91, u92, u93, u94, u95, u96, u97, u98, u99, u100, u101, u102, u103, u104, u105, u106, u107, u108, u109, u110, u111, u112, u113, u114, u115, u116, u117, u118, u119, u120, u121, u122, u123, u124, u125, u126, u127, u128, u129, u130, u131, u132, u133, u134, u135, u136, u137, u138, u139, u140, u141, u142, u143, u144, u145, u146, u147, u148, u149, u150, u151, u152, u153, u154, u155, u156, u157, u158, u159, u160, u161, u162, u163, u164, u165, u166, u167, u168, u169, u170, u171, u172, u173, u174, u175, u176, u177, u178, u179, u180, u181, u182, u183, u184, u185, u186, u187, u188, u189, u190, u191, u192, u193, u194, u195, u196], defers := [] } W14 := by
  have h0 : Func.from Tryz.f4 15 = some _ := rfl
  obtain rfl := Option.some.inj (h0.symm.trans hc)
  clear h0 hc
  have hag : True := trivial
  have hnA : ¬ F b10 := hI13.led.not hA13' (by decide)
  have H13 := Lib.hid (And.intro hI13 (And.intro hbx13 (And.intro hA13' (And.intro trivial (And.intro hl8 trivial)))))
  have HFS := Lib.hid hfs
  have HCA := Lib.hid (And.intro hcs1 hcs2)
  have HNN := Lib.hid hbn11
  have HJ := Lib.hid hj
  let Q0 : Exit → Act → World → Prop := bodyPost Tryz.prog Tryz.f4 (fun _ _ => True)
  clear hI13 hbx13 hA13' hl8 hfs hcs1 hcs2 hj _hbn10 hbn11
  have kd13 : Keep No W13 W13.drew := (Keep.refl _ _).drew
  have hI13 := H13.out.1.no kd13
  obtain ⟨ts', d', F', hI14, hF'⟩ := hI13.put hn16 hr H13.out.2.2.2.2.1 hP
  have hMis := putL_is (b := bs) (l := l) hI13.led.ok hn16
  have hMok := hI14.led.ok
  rw [← hye] at hown
  have hhere : (L.putL n bs l).win n = y.putAll (pick y l) := by rw [hye]; exact hMis.here
  have hyf : y.Fine width := by rw [hye]; exact (hI13.led.ok.fine hn16).skip (by omega)
  have hrr := (rightB_iff bs l).1 hr
  have hA13 := kd13.heap H13.out.2.2.1 (fun e => e)
  have hA14 := hP.keep.heap hA13 hnA
  obtain ⟨_, _, hz11, _⟩ := H13.out.2.1
  have hbox14 := (H13.out.2.1.keep (FootR.no _) kd13 (fun e => e)).keep hI13.led.footR hP.keep (H13.out.1.led.not hz11 (by decide))
  generalize L.putL n bs l = M at hI14 hhere hMok
  have hlk := sk_lookup hI14.map (n : Int)
  obtain ⟨W15, hst, hm15, k15⟩ := sk_store hI14.map (n : Int) (max (f n) bs)
  have hmx : ((max (f n) bs : Nat) : Int) = max (f n : Int) (bs : Int) := by omega
  rw [hmx] at hst
  have hI15 := hI14.store hm15 k15
  have p0 := cell_of hI14.blk 0
  have b1 := cell_of hA14 1
  have b2 := cell_of hA14 2
  rw [HCA.out.1] at b1
  rw [HCA.out.2] at b2
  simp at p0
  have H14 := Lib.hid (And.intro hI14 (And.intro hI15 (And.intro hhere (And.intro hMok (And.intro hyf (And.intro hrr (And.intro hA14 (And.intro hbox14 (And.intro hown (And.intro hits14 (And.intro k15 (And.intro hag hn16))))))))))))
  clear hI14 hI15 hMis hhere hMok hye hyf hrr hA13 hA14 hz11 hbox14 hown hits14 k15 hm15 hI13 hP hF' hr hnA kd13 hag hn16
  go_upto_region 16 with fail
  go_upto_region 17 with fail
  clear hlk hst hmx p0 b1 b2
  obtain ⟨hI14, hI15, hhere, hMok, hyf, hrr, hA14, hbox14, hown, hits14, k15, hag, hn16⟩ := H14.out
  have hF15 := hI14.map.foots hI14.bb
  have hits15 := hits14.keep hF15.1 k15 (fun b hb e => by obtain ⟨_, cur, hz⟩ := hits14.kind b hb; have e : b = B := e; subst e; exact hI14.map.notCells hz)
  have hbox15 := hbox14.keep hF15.2 k15 (fun e => by obtain ⟨_, _, hz, _⟩ := hbox14; have e : b11 = B := e; subst e; exact hI14.map.notCells hz)
  have hA15 := k15.heap hA14 (fun e => by have e : b10 = B := e; subst e; exact hI14.map.notCells hA14)
  have hown15 := hown.keep k15 (fun b hb e => by obtain ⟨_, cur, hz⟩ := hown.kind b hb; have e : b = B := e; subst e; exact hI14.map.notCells hz)
  have hsz11 := HNN.out
  have H15 := Lib.hid (And.intro hI15 (And.intro hits15 (And.intro hbox15 (And.intro hA15 (And.intro hown15 (And.intro hsz11 (And.intro hyf (And.intro hrr (And.intro hag (And.intro hn16 (And.intro hhere hMok)))))))))))
  clear hI14 hI15 hhere hMok hyf hrr hA14 hbox14 hown hits14 k15 hag hn16 hF15 hits15 hbox15 hA15 hown15 hsz11
  go_upto_region 18 with fail
  go_upto_block 2 with fail
  go_cut [15] (fun v15 wx => WantI W15 wx b11 v15 y (pick y l))
  case first =>
    go_wp2_with fail
    go_loopw [15, 93] (fun v15 v93 wr => ∃ k, v93 = .int .i64 (k : Nat) ∧ k ≤ l.length ∧ WantI W15 wr b11 v15 y (pick y (l.take k))) (fun _ v93 _ => l.length - (intOf v93).toNat)
    case atStart => exact ⟨0, rfl, Nat.zero_le _, ⟨OwnN.nil _ _, H15.out.2.2.1, Keep.refl _ _⟩⟩
    case round =>
      obtain ⟨k, rfl, hk, htk⟩ := hrel
      obtain ⟨t, ht⟩ : ∃ t, t = pick y (l.take k) := ⟨_, rfl⟩
      rw [← ht] at htk
      obtain ⟨to', tc, hto, _, _⟩ := htk.nums.form
      subst hto
      have htlen : (t.map (·.n)).length = t.length := by simp
      rw [htlen] at htk ⊢
      have hll := H13.out.2.2.2.2.1
      by_cases hlt : k < l.length
      · have hx : l[k]? = some l[k] := List.getElem?_eq_getElem hlt
        have htake : l.take (k + 1) = l.take k ++ [l[k]] := List.take_succ_eq_append_getElem hlt
        generalize l[k] = z at hx htake
        have hzm := List.mem_of_getElem? hx
        have hzr := H15.out.2.2.2.2.2.2.2.1.1 z hzm
        have htsub : t.length ≤ 8 ∧ ∀ x ∈ t, x.Right := by
          rw [ht]
          have hs := (pick_sub y (l.take k)).trans (List.take_sublist k l)
          exact ⟨Nat.le_trans hs.length_le hll, fun x hx => H15.out.2.2.2.2.2.2.2.1.1 x (hs.subset hx)⟩
        have hsn := pick_snoc y (l.take k) z
        rw [← htake, ← ht] at hsn
        obtain ⟨gi, ui, hgi, hub, e0, e1, e2⟩ := (H15.out.2.1.keep (H15.out.2.2.1.foot H15.out.2.2.2.2.2.1) htk.k (H15.out.2.1.notBox H15.out.2.2.1)).cell hx
        obtain ⟨uo, uc, rfl⟩ := hub.form
        subst hgi
        have hki : (k : Int) < (l.length : Int) := by omega
        have hkn : IntKind.i64.wrap ((k : Int) + 1) = ((k + 1 : Nat) : Int) := by rw [IntKind.wrap_i64]; omega
        have hfine : (y.putAll t).Fine width := H15.out.2.2.2.2.2.2.1.putAll (fun x hx => (htsub.2 x hx).1)
        obtain ⟨T, hTe⟩ : ∃ T, T = y.putAll t := ⟨_, rfl⟩
        have hbox := htk.box
        rw [← hTe] at hsn hfine hbox
        obtain ⟨bo, bc, d0, d1, d2, _, hv⟩ := hbox.cells
        have kA := (Keep.refl No wr).alloc (.cells #[.int .u64 z.n, .int .i64 z.s.c, .slice uo z.s.body.length uc] 53)
        have b0A := fun o => ((Keep.refl No wr).alloc o).cell d0 (fun e => e)
        have b1A := fun o => ((Keep.refl No wr).alloc o).cell d1 (fun e => e)
        have b2A := fun o => ((Keep.refl No wr).alloc o).cell d2 (fun e => e)
        have hnewA := heap_new wr (.cells #[.int .u64 z.n, .int .i64 z.s.c, .slice uo z.s.body.length uc] 53)
        have hbl := hbox.lt
        have htks := wTakes_spec (hv.no kA) hfine.ok.pre z.n
        cases htt : T.takes z.n
        · rw [htt] at htks hsn
          have hsn : pick y (l.take (k + 1)) = t := by rw [hsn]; simp
          have HK := Lib.hid (And.intro (htk.no kA) (And.intro hlt hsn))
          clear htk hlt hsn hx htake hzm hzr htsub hub hfine hTe hbox hv kA hnewA hbl htt ht hk htlen hll
          go_wp2_with (go_at_call 19; refine htks.mono ?_; rintro e w6 ⟨rfl, k6⟩)
          go_roundw
          case rel => exact ⟨k + 1, by congr 1, by have := HK.out.2.1; omega, by rw [HK.out.2.2]; exact HK.out.1.no k6⟩
          case measure => have := HK.out.2.1; simp [intOf]; omega
        · rw [htt] at htks hsn
          have hsn : pick y (l.take (k + 1)) = t ++ [z] := by rw [hsn]; simp
          have hput := fun (w' : World) (k : Keep No (wr.alloc (.cells #[.int .u64 z.n, .int .i64 z.s.c, .slice uo z.s.body.length uc] 53)) w') => wPut_spec ((hv.no kA).no k) hfine.ok z.n (by have := hzr.1; omega)
          have hTn : (y.putAll (t ++ [z])) = T.put z.n := by rw [putAll_append, ← hTe]; rfl
          have HK := Lib.hid (And.intro (htk.no kA) (And.intro hlt (And.intro hsn (And.intro (hbox.keep (FootR.no _) kA (fun e => e)) (And.intro hnewA (And.intro htsub.1 (And.intro hTn (And.intro hput hbl))))))))
          clear htk hlt hsn hx htake hzm hzr htsub hub hfine hTe hbox hv kA hnewA hbl htt ht hk htlen hput hTn hll
          go_wp2_with (go_at_call 19; refine htks.mono ?_; rintro e w6 ⟨rfl, k6⟩; have p0 := k6.cell (b0A _) (fun e => e); have p1 := k6.cell (b1A _) (fun e => e); have p2 := k6.cell (b2A _) (fun e => e); have hn6 := k6.heap HK.out.2.2.2.2.1 (fun e => e); have n0 := cell_of hn6 0; simp at n0)
          refine (HK.out.2.2.2.2.2.2.2.1 w6 k6).mono ?_
          rintro e w7 ⟨u7, rfl, hv7, k7⟩
          obtain ⟨o7, c7, rfl, hr7⟩ := hv7.form
          have k67 := k6.then k7
          have hb7 := HK.out.2.2.2.1.keep (FootR.no _) k67 (fun e => e)
          obtain ⟨_, _, q0, q1, q2, fq, _⟩ := hb7.cells
          obtain ⟨hst, kst⟩ := hb7.store hr7
          obtain ⟨Z, hZ⟩ : ∃ Z, ((w7.setCell ⟨b11, 0, none⟩ (.int .u64 (T.put z.n).low)).setCell ⟨b11, 1, none⟩ (.int .u64 (T.put z.n).width)).setCell ⟨b11, 2, none⟩ (.slice o7 (T.put z.n).set.length c7) = Z := ⟨_, rfl⟩
          rw [hZ] at hst kst
          have hbl := HK.out.2.2.2.2.2.2.2.2
          have hnZ := kst.heap (k67.heap HK.out.2.2.2.2.1 (fun e => e)) (show ¬ wr.heap.size = b11 by omega)
          obtain ⟨hnums, kZ⟩ := (HK.out.1.no k67).store hst kst
          have z0 := cell_of hnZ 0
          simp at z0
          have kN := (Keep.refl No Z).alloc (.cells #[.int .u64 z.n] 27)
          have hN := heap_new Z (.cells #[.int .u64 z.n] 27)
          have HZ := Lib.hid (And.intro hst (And.intro (hnums.keep kN (fun _ _ e => e)) (And.intro (kZ.then kN) (And.intro hN kN))))
          clear hst kst hnZ hnums kZ kN hN hb7 hv7 hr7 k67 k7 hn6
          have hkd := HZ.out.2.1.kind
          go_wp2_with (at_builtin; refine wpList_append_num rfl _ _ rfl HZ.out.2.1 rfl HZ.out.2.2.2.1 rfl (by have := HK.out.2.2.2.2.2.1; simp; omega) HZ.out.2.2.1.size ?_; intro vo8 vc8 w8 hn8 k8)
          go_roundw
          case rel =>
            have hF8R : FootR (Z.alloc (.cells #[.int .u64 z.n] 27)) (fun b => (Value.slice to' t.length tc).ownBlock = some b) := fun c hc hr => by
              obtain ⟨h1, cur, hz⟩ := hkd c hc
              obtain ⟨cs, fr, e⟩ := hr
              rw [hz] at e; simp at e
            have hbxN := HZ.out.1.keep (FootR.no _) HZ.out.2.2.2.2 (fun e => e)
            have hbx8 := hbxN.keep hF8R k8 (fun e => by
              obtain ⟨_, cur, hz⟩ := hkd _ e
              obtain ⟨_, _, hz2, _⟩ := hbxN
              rw [hz] at hz2; simp at hz2)
            refine ⟨k + 1, by congr 1, by have := HK.out.2.1; omega, ?_⟩
            rw [HK.out.2.2.1]
            refine ⟨?_, ?_, ?_⟩
            · rw [List.length_map] at hn8
              rw [List.map_append]
              exact hn8
            · rw [HK.out.2.2.2.2.2.2.1]
              exact hbx8
            · exact HZ.out.2.2.1.trans k8 (fun c hc e => by have := (hkd c e).1; omega)
          case measure => have := HK.out.2.1; simp [intOf]; omega
      · have hke : k = l.length := by omega
        have hki : ¬ (k : Int) < (l.length : Int) := by omega
        have htl : t = pick y l := by rw [ht, hke, List.take_of_length_le (Nat.le_refl _)]
        have HK := Lib.hid (And.intro htk htl)
        clear htk htl hk hlt ht htlen hll
        go_wp2_with fail
        go_meet
        rw [← HK.out.2]
        exact HK.out.1
  case rest =>
    have hwant := hcut
    clear hcut
    rename World => W16
    obtain ⟨t, ht⟩ : ∃ t, t = pick y l := ⟨_, rfl⟩
    rw [← ht] at hwant
    obtain ⟨T, hT⟩ : ∃ T, T = y.putAll t := ⟨_, rfl⟩
    obtain ⟨hI15, hits15, hbox15, hA15, hown15, hsz11, hyf, hrr, hag, hn16, hhere, hMok⟩ := H15.out
    rw [← ht] at hown15 hhere
    have hTM : M.win n = T := by rw [hhere, hT]
    obtain ⟨_, _, hz11, _⟩ := hbox15
    have hI16 := hI15.one hz11 hsz11 (by decide) (by decide) (by decide) (by decide) hwant.k
    have hne : ¬ b10 = b11 := fun e => by subst e; rw [hA15] at hz11; simp at hz11
    have hA16 := hwant.k.heap hA15 hne
    have hown16 := hown15.keep hwant.k (fun b hb e => by obtain ⟨_, cur, hz⟩ := hown15.kind b hb; have e : b = b11 := e; subst e; rw [hz11] at hz; simp at hz)
    have hbox16 : WinBox W16 b11 T := by rw [hT]; exact hwant.box
    have hTf : T.Fine width := by rw [← hTM]; exact hMok.fine hn16
    have hnums := hwant.nums
    have H16 := Lib.hid (And.intro hI16 (And.intro hA16 (And.intro hbox16 (And.intro hTf (And.intro hTM (And.intro hag hn16))))))
    have hns8 : (t.map (·.n)).length ≤ 8 := by have h1 := (pick_sub y l).length_le; have h2 := H13.out.2.2.2.2.1; rw [← ht] at h1; simp; omega
    generalize t.map (·.n) = ns at hown16 hnums hns8
    obtain ⟨lo13, lc13, h13, _, _⟩ := hown16.form
    obtain ⟨lo15, lc15, h15, _, _⟩ := hnums.form
    subst h13 h15
    have heq := fun (X : World) (k : Keep No W16 X) => eq64_spec ((hown16.us).no k) ((hnums.us).no k) (by omega) (by omega)
    have hwin := fun (X : World) (k : Keep No W16 X) => gWindow_any (hI16.led.no k) (n : Int)
    rw [winA_in M n hn16, hTM] at hwin
    obtain ⟨so, sc, b0, b1', b2', _, hv⟩ := hbox16.cells
    have hsame := fun (X : World) (u : Value) (hu : WinV X u T) (k : Keep No W16 X) => wSame_spec hu (hv.no k) hTf.ok.few hTf.ok.few
    obtain ⟨_, _, hvv, hrow⟩ := hv.form
    have hrow16 : RunsAt W16 (.slice so T.set.length sc) T.set := by
      simp at hvv
      obtain ⟨rfl, rfl⟩ := hvv
      exact hrow
    have hcnt := fun (X : World) (k : Keep No W16 X) => rCount_spec (hrow16.no k) hTf.ok.set (by have := hTf.ok.few; omega) (by have h1 := hTf.ok.size; have h2 := hTf.ok.width; omega)
    have hw7 : ¬ (width : Int) ≤ ((sizeR T.set : Nat) : Int) := by have h1 := hTf.ok.size; have h2 := hTf.width; omega
    simp only [decide_true] at heq hsame
    have p0 := cell_of hI16.blk 0
    have p2 := cell_of hI16.blk 2
    have a1 := cell_of hA16 1
    rw [HCA.out.1] at a1
    simp at p0 p2
    have HQ := Lib.hid (And.intro heq (And.intro hwin (And.intro hsame hcnt)))
    clear hwant hTM hI15 hits15 hA15 hown15 hsz11 hyf hrr hag hn16 hhere hMok hz11 hI16 hne hA16 hown16 hbox16 hTf hnums heq hwin hsame hcnt hv hvv hrow hrow16 hT hns8 ht
    go_upto_region 25 with fail
    go_cut [137] (fun v137 wx => v137 = .bool false ∧ Keep No W16 wx)
    case first =>
      have kd : Keep No W16 W16.drew := (Keep.refl _ _).drew
      refine wp_drawS (fun w' => Keep No W16 w') [([0, 1], [2]), ([3, 4, 5, 6, 7, 8, 9, 10, 12], [11, 13]), ([14, 15, 16, 17, 18, 20, 21, 22, 23, 24], [19]), ([25, 26], [])] (by kernel_rfl) (by kernel_rfl) (fun _ _ _ _ _ h => hQp _ _ _ _ _ h) kd ?_
      iterate 2 (refine earlyN_cons (v := ?_) rfl rfl rfl ?_ ?_; rotate_left; focus (
        intro w' hq
        have e0 := hq.cell p0 (fun e => e)
        have e2 := hq.cell p2 (fun e => e)
        have ea := hq.cell a1 (fun e => e)
        have eb0 := hq.cell b0 (fun e => e)
        have eb1 := hq.cell b1' (fun e => e)
        have eb2 := hq.cell b2' (fun e => e)
        go_simp
        try with_reducible rfl))
      refine earlyN_nil ?_
      refine midN_cons rfl rfl (fun K hK => ?_)
      go_simp
      refine (HQ.out.1 _ kd).mono ?_
      rintro e wn ⟨rfl, kn⟩
      have kd := kd.then kn
      refine hK _ _ kd ?_
      clear hK K
      refine midN_nil ?_
      iterate 2 (refine earlyN_cons (v := ?_) rfl rfl rfl ?_ ?_; rotate_left; focus (
        intro w' hq
        have e0 := hq.cell p0 (fun e => e)
        have e2 := hq.cell p2 (fun e => e)
        have ea := hq.cell a1 (fun e => e)
        have eb0 := hq.cell b0 (fun e => e)
        have eb1 := hq.cell b1' (fun e => e)
        have eb2 := hq.cell b2' (fun e => e)
        go_simp
        try with_reducible rfl))
      iterate 6 (refine earlyN_guarded (v := ?_) rfl rfl (by first | kernel_rfl | simp [Region.wanted, yielded, Act.put, undef]) ?_ ?_; rotate_left; focus (
        intro w' hq
        have e0 := hq.cell p0 (fun e => e)
        have e2 := hq.cell p2 (fun e => e)
        have ea := hq.cell a1 (fun e => e)
        have eb0 := hq.cell b0 (fun e => e)
        have eb1 := hq.cell b1' (fun e => e)
        have eb2 := hq.cell b2' (fun e => e)
        go_simp
        try with_reducible rfl))
      iterate 1 (refine earlyN_guarded (v := ?_) rfl rfl (by first | kernel_rfl | simp [Region.wanted, yielded, Act.put, undef]) ?_ ?_; rotate_left; focus (
        intro w' hq
        have e0 := hq.cell p0 (fun e => e)
        have e2 := hq.cell p2 (fun e => e)
        have ea := hq.cell a1 (fun e => e)
        have eb0 := hq.cell b0 (fun e => e)
        have eb1 := hq.cell b1' (fun e => e)
        have eb2 := hq.cell b2' (fun e => e)
        go_simp
        try with_reducible rfl))
      refine earlyN_nil ?_
      refine midN_want rfl (by first | kernel_rfl | simp [Region.wanted, yielded, Act.put, undef]) (fun K hK => ?_)
      go_simp
      refine (HQ.out.2.1 _ kd).mono ?_
      rintro e wn ⟨u1, rfl, hu1, kn⟩
      have kd := kd.then kn
      refine hK _ _ kd ?_
      clear hK K
      refine midN_want rfl (by first | kernel_rfl | simp [Region.wanted, yielded, Act.put, undef]) (fun K hK => ?_)
      go_simp
      refine (HQ.out.2.2.1 _ u1 hu1 kd).mono ?_
      rintro e wn ⟨rfl, kn⟩
      have kd := kd.then kn
      refine hK _ _ kd ?_
      clear hK K
      refine midN_nil ?_
      iterate 1 (refine earlyN_guarded (v := ?_) rfl rfl (by first | kernel_rfl | simp [Region.wanted, yielded, Act.put, undef]) ?_ ?_; rotate_left; focus (
        intro w' hq
        have e0 := hq.cell p0 (fun e => e)
        have e2 := hq.cell p2 (fun e => e)
        have ea := hq.cell a1 (fun e => e)
        have eb0 := hq.cell b0 (fun e => e)
        have eb1 := hq.cell b1' (fun e => e)
        have eb2 := hq.cell b2' (fun e => e)
        go_simp
        try with_reducible rfl))
      iterate 2 (refine earlyN_cons (v := ?_) rfl rfl rfl ?_ ?_; rotate_left; focus (
        intro w' hq
        have e0 := hq.cell p0 (fun e => e)
        have e2 := hq.cell p2 (fun e => e)
        have ea := hq.cell a1 (fun e => e)
        have eb0 := hq.cell b0 (fun e => e)
        have eb1 := hq.cell b1' (fun e => e)
        have eb2 := hq.cell b2' (fun e => e)
        go_simp
        try with_reducible rfl))
      iterate 7 (refine earlyN_guarded (v := ?_) rfl rfl (by first | kernel_rfl | simp [Region.wanted, yielded, Act.put, undef]) ?_ ?_; rotate_left; focus (
        intro w' hq
        have e0 := hq.cell p0 (fun e => e)
        have e2 := hq.cell p2 (fun e => e)
        have ea := hq.cell a1 (fun e => e)
        have eb0 := hq.cell b0 (fun e => e)
        have eb1 := hq.cell b1' (fun e => e)
        have eb2 := hq.cell b2' (fun e => e)
        go_simp
        try with_reducible rfl))
      refine earlyN_nil ?_
      refine midN_want rfl (by first | kernel_rfl | simp [Region.wanted, yielded, Act.put, undef]) (fun K hK => ?_)
      go_simp
      refine (HQ.out.2.2.2 _ kd).mono ?_
      rintro e wn ⟨rfl, kn⟩
      have kd := kd.then kn
      refine hK _ _ kd ?_
      clear hK K
      refine midN_nil ?_
      iterate 1 (refine earlyN_guarded (v := ?_) rfl rfl (by first | kernel_rfl | simp [Region.wanted, yielded, Act.put, undef]) ?_ ?_; rotate_left; focus (
        intro w' hq
        have e0 := hq.cell p0 (fun e => e)
        have e2 := hq.cell p2 (fun e => e)
        have ea := hq.cell a1 (fun e => e)
        have eb0 := hq.cell b0 (fun e => e)
        have eb1 := hq.cell b1' (fun e => e)
        have eb2 := hq.cell b2' (fun e => e)
        go_simp
        try with_reducible rfl))
      iterate 1 (refine earlyN_cons (v := ?_) rfl rfl rfl ?_ ?_; rotate_left; focus (
        intro w' hq
        have e0 := hq.cell p0 (fun e => e)
        have e2 := hq.cell p2 (fun e => e)
        have ea := hq.cell a1 (fun e => e)
        have eb0 := hq.cell b0 (fun e => e)
        have eb1 := hq.cell b1' (fun e => e)
        have eb2 := hq.cell b2' (fun e => e)
        go_simp
        try with_reducible rfl))
      refine earlyN_nil ?_
      refine midN_nil ?_
      unfold stagesN
      go_wp2_with fail
      go_meet
      exact ⟨rfl, kd⟩
    case rest =>
      obtain ⟨rfl, k17⟩ := hcut
      rename World => W17
      obtain ⟨hI16, hA16, hbox16, hTf, hTM, hag, hn16⟩ := H16.out
      have hI17 := hI16.no k17
      have hA17 := k17.heap hA16 (fun e => e)
      have hbox17 := hbox16.keep (FootR.no _) k17 (fun e => e)
      obtain ⟨s0, hs0⟩ : ∃ s0, s0 = max (f n) bs := ⟨_, rfl⟩
      have hrs : raised sk n bs n = s0 := by unfold raised; rw [if_pos rfl, ← HFS.out n, hs0]
      have hlkX := fun (X : World) (k : Keep No W17 X) => sk_lookup (hI17.no k).map (n : Int)
      simp only [if_pos] at hlkX
      rw [← hs0] at hlkX
      have hlk17 := hlkX W17 (Keep.refl _ _)
      have hlow := hI17.kept.low n hn16
      rw [hrs, hTM] at hlow
      have hTl := hTf.low
      have hR17 : WiR w W17 P q p r width B (j + 1) size := ⟨ts', d', M, F', _, _, hI17.more (by omega), fun a => by
        unfold raised
        by_cases ha : a = n
        · subst ha; rw [if_pos rfl, if_pos rfl, HFS.out]
        · rw [if_neg (by omega), if_neg ha, HFS.out]⟩
      have hget := fun (X : World) (k : Keep No W17 X) (x : Nat) (h1 : 1 ≤ x) (hx : s0 ≤ x) (hh : T.Had x) => gGet_kept (hI17.led.no k) hI17.kept (by have h1 := hI17.nrec; have h2 := HJ.out; omega) n x hn16 h1 (by rw [hrs]; exact hx) (by rw [hTM]; exact hh)
      have hmx1 : max (s0 : Int) 1 = ((max s0 1 : Nat) : Int) := by omega
      obtain ⟨so, sc, b0, b1', b2', _, hv⟩ := hbox17.cells
      obtain ⟨_, _, hvv, hrow⟩ := hv.form
      have hrow17 : RunsAt W17 (.slice so T.set.length sc) T.set := by
        simp at hvv
        obtain ⟨rfl, rfl⟩ := hvv
        exact hrow
      have p0 := cell_of hI17.blk 0
      have a1 := cell_of hA17 1
      rw [HCA.out.1] at a1
      simp at p0
      have h200 : IntKind.u64.wrap ((s0 : Int) + 200) = (s0 : Int) + 200 := by rw [IntKind.wrap_u64]; omega
      have H17 := Lib.hid (And.intro hR17 (And.intro hget (And.intro hlow (And.intro hTl (And.intro hTf (And.intro hrow17 (And.intro hI17 hlkX)))))))
      clear hI16 hA16 hbox16 hTf hTM hag hn16 hI17 hA17 hbox17 hrs hlow hTl hR17 hget hv hvv hrow hrow17 k17 hs0 hlkX
      go_upto_region 27 with fail
      go_upto_block 4 with fail
      clear hlk17
      go_cut [20] (fun _ wx => Keep No W17 wx)
      case first =>
        go_wp2_with fail
        go_loopw [18] (fun v18 wr => ∃ x : Nat, v18 = .int .u64 (x : Nat) ∧ max s0 1 ≤ x ∧ x ≤ s0 + 201 ∧ Keep No W17 wr) (fun v18 _ => s0 + 300 - (intOf v18).toNat)
        case atStart => exact ⟨_, rfl, Nat.le_refl _, by omega, Keep.refl _ _⟩
        case round =>
          obtain ⟨x, rfl, hx1, hx2, kr⟩ := hrel
          have hlk := H17.out.2.2.2.2.2.2.2 wr kr
          have p0 := kr.cell p0 (fun e => e)
          have a1 := kr.cell a1 (fun e => e)
          have b0 := kr.cell b0 (fun e => e)
          by_cases hc1 : x ≤ T.low
          · by_cases hc2 : x < s0 + 200
            · have hc1 : (x : Int) ≤ (T.low : Int) := by omega
              have hc2 : (x : Int) < (s0 : Int) + 200 := by omega
              have hTl := H17.out.2.2.2.1
              have hxw : IntKind.u64.wrap ((x : Int) + 1) = ((x + 1 : Nat) : Int) := by rw [IntKind.wrap_u64]; omega
              have hget := fun (X : World) (k : Keep No W17 X) => H17.out.2.1 X k x (by omega) (by omega) (.inl (by omega))
              have HX := Lib.hid (And.intro hx1 (And.intro hx2 (And.intro kr (And.intro hc2 hget))))
              clear hx1 hx2 kr hTl hget
              go_upto_region 30 with fail
              go_cut [20] (fun v20 wx => v20 = .bool true ∧ Keep No W17 wx)
              case first =>
                have kd : Keep No wr wr.drew := (Keep.refl _ _).drew
                refine wp_drawJ (fun w' => Keep No wr w') [0, 1, 2, 3, 4, 5, 6, 7] 8 12 [([], [8]), ([9, 10, 11], [13, 14])] [([9, 10, 11], [12, 13, 14])] (by kernel_rfl) (by kernel_rfl) (fun _ _ _ _ _ h => hQp _ _ _ _ _ h) kd ?_
                iterate 8 (refine earlyN_cons (v := ?_) rfl rfl rfl ?_ ?_; rotate_left; focus (
                  intro w' hS
                  have f0 := hS.cell p0 (fun e => e)
                  have f1 := hS.cell a1 (fun e => e)
                  go_simp
                  try with_reducible rfl))
                refine earlyN_nil ⟨?_, ?_⟩
                · refine midN_cons rfl rfl (fun K hK => ?_)
                  go_simp
                  have kA := kd.alloc (.cells #[.int .i64 0, .slice none 0 0] 51)
                  have hA : (wr.drew.alloc (.cells #[.int .i64 0, .slice none 0 0] 51)).heap[wr.heap.size]? = some (.cells #[.int .i64 0, .slice none 0 0] 51 (0, 0)) := heap_new wr.drew _
                  refine hK _ _ kA ?_
                  clear hK K
                  refine midN_nil (earlyN_nil (midN_cons rfl rfl (fun K hK => ?_)))
                  go_simp
                  refine (HX.out.2.2.2.2 _ (HX.out.2.2.1.then kA)).mono ?_
                  rintro e wg ⟨cg, vg, rfl, ⟨lg, og⟩, kg⟩
                  obtain ⟨og1, og2, rfl⟩ := og.form
                  refine hK _ _ (kA.then kg) ?_
                  clear hK K
                  refine midN_nil ?_
                  iterate 3 (refine earlyN_cons (v := ?_) rfl rfl rfl ?_ ?_; rotate_left; focus (
                    intro w' hS
                    go_simp
                    try with_reducible rfl))
                  refine earlyN_nil ?_
                  have hB := kg.heap hA (fun e => e)
                  have g0 := cell_of hB 0
                  have g1 := cell_of hB 1
                  have gf := frozen_of hB
                  simp at g0 g1
                  have kZ : Keep No wr ((wg.setCell ⟨wr.heap.size, 0, none⟩ (.int .i64 cg)).setCell ⟨wr.heap.size, 1, none⟩ (.slice og1 lg.length og2)) := ((kA.then kg).trans (keep_cell (g := wr.heap.size) (i := 0) wg (.int .i64 cg)) (fun c hc e => by have e : c = wr.heap.size := e; omega)).trans (keep_cell (g := wr.heap.size) (i := 1) _ (.slice og1 lg.length og2)) (fun c hc e => by have e : c = wr.heap.size := e; omega)
                  refine midN_cons rfl rfl (fun K hK => ?_)
                  go_simp
                  refine hK _ _ kZ ?_
                  clear hK K
                  refine midN_cons rfl rfl (fun K hK => ?_)
                  go_simp
                  refine hK _ _ kZ ?_
                  clear hK K
                  refine midN_nil ?_
                  unfold stagesN
                  go_wp2_with fail
                  go_meet
                  exact ⟨rfl, HX.out.2.2.1.then kZ⟩
                · refine midN_cons rfl rfl (fun K hK => ?_)
                  go_simp
                  refine (HX.out.2.2.2.2 _ (HX.out.2.2.1.then kd)).mono ?_
                  rintro e wg ⟨cg, vg, rfl, ⟨lg, og⟩, kg⟩
                  obtain ⟨og1, og2, rfl⟩ := og.form
                  refine hK _ _ (kd.then kg) ?_
                  clear hK K
                  refine midN_nil ?_
                  iterate 3 (refine earlyN_cons (v := ?_) rfl rfl rfl ?_ ?_; rotate_left; focus (
                    intro w' hS
                    go_simp
                    try with_reducible rfl))
                  refine earlyN_nil ?_
                  refine midN_cons rfl rfl (fun K hK => ?_)
                  go_simp
                  have kA := (kd.then kg).alloc (.cells #[.int .i64 0, .slice none 0 0] 51)
                  refine hK _ _ kA ?_
                  clear hK K
                  have kZ := (kd.then kg).alloc (.cells #[.int .i64 cg, .slice og1 lg.length og2] 51)
                  refine midN_cons rfl rfl (fun K hK => ?_)
                  go_simp
                  refine hK _ _ kZ ?_
                  clear hK K
                  refine midN_cons rfl rfl (fun K hK => ?_)
                  go_simp
                  refine hK _ _ kZ ?_
                  clear hK K
                  refine midN_nil ?_
                  unfold stagesN
                  go_wp2_with fail
                  go_meet
                  exact ⟨rfl, HX.out.2.2.1.then kZ⟩
              case rest =>
                obtain ⟨rfl, k20⟩ := hcut
                have hc2 := hc2
                clear hlk p0 a1 b0
                go_wp2_with fail
                go_roundw
                case rel => exact ⟨x + 1, by congr 1, by have := HX.out.1; omega, by have := HX.out.2.1; omega, k20⟩
                case measure => have := HX.out.2.1; simp [intOf]; omega
            · have hc1 : (x : Int) ≤ (T.low : Int) := by omega
              have hc2 : ¬ (x : Int) < (s0 : Int) + 200 := by omega
              have HX := Lib.hid kr
              clear hx1 hx2 kr
              go_wp2_with fail
              go_meet
              exact HX.out
          · have hc1 : ¬ (x : Int) ≤ (T.low : Int) := by omega
            have HX := Lib.hid kr
            clear hx1 hx2 kr
            go_wp2_with fail
            go_meet
            exact HX.out
      case rest =>
        have k18 := hcut
        clear hcut
        rename World => W18
        have p0 := k18.cell p0 (fun e => e)
        have a1 := k18.cell a1 (fun e => e)
        have b2' := k18.cell b2' (fun e => e)
        have hTf := H17.out.2.2.2.2.1
        have hrow18 := H17.out.2.2.2.2.2.1.no k18
        have kB := (Keep.refl No W18).alloc (.cells #[.slice so T.set.length sc] 34)
        have hcol := collectR_spec (B := W18.heap.size) (hrow18.no kB) hTf.ok.set (by have := hTf.ok.few; omega) (heap_new W18 _) (by have h1 := hTf.ok.size; have h2 := hTf.ok.width; omega)
        have hall := rAll_call W18 (.slice so T.set.length sc)
        have hrl : ∀ x ∈ allR T.set, HasR T.set x := fun x hx => allR_mem.1 hx
        have hrn : (allR T.set).length ≤ 1024 := by have h1 := hTf.ok.size; have h2 := hTf.ok.width; have h3 := hTf.width; rw [allR_len hTf.ok.set]; omega
        generalize allR T.set = rl at hcol hrl hrn
        have hab : ∀ x ∈ rl, 1 ≤ x ∧ s0 ≤ x := fun x hx => by have h1 := (hTf.ok.above x (hrl x hx)).1; have h2 := H17.out.2.2.1; omega
        have H18 := Lib.hid (And.intro k18 (And.intro kB (And.intro hrl (And.intro hab hrn))))
        clear k18 hTf hrow18 kB hrl hab b0 b1' h200 hmx1
        go_upto_region 33 with fail
        go_upto_block 6 with (first
          | (go_at_call 23; refine hcol.mono ?_; rintro e W19 ⟨v19, rfl, hown19, k19⟩; obtain ⟨o19, c19, rfl, _, _⟩ := hown19.form)
          | (go_at_call 24; refine hall.mono ?_; rintro e Wb ⟨rfl, eWb⟩; have eWb := eWb.symm; subst eWb))
        have kA := H18.out.2.1.then k19
        have p0 := kA.cell p0 (fun e => e)
        have a1 := kA.cell a1 (fun e => e)
        have hrn := H18.out.2.2.2.2
        have hri : (rl.length : Int) ≤ 1024 := by omega
        have H19 := Lib.hid (And.intro hown19 (H18.out.1.then kA))
        clear hown19 kA k19 hcol hall b2' hrn
        go_wp2_with fail
        go_loopw [177] (fun v177 wr => ∃ k : Nat, v177 = .int .i64 (k : Nat) ∧ k ≤ rl.length ∧ Keep No W19 wr) (fun v177 _ => rl.length - (intOf v177).toNat)
        case atStart => exact ⟨0, rfl, Nat.zero_le _, Keep.refl _ _⟩
        case round =>
          obtain ⟨k, rfl, hk, kr⟩ := hrel
          by_cases hlt : k < rl.length
          · have hx : rl[k]? = some rl[k] := List.getElem?_eq_getElem hlt
            have hmem := List.getElem_mem hlt
            generalize rl[k] = x at hx hmem
            obtain ⟨ga, ha, hcx⟩ := row_cell H19.out.1 (j := k) (x := u64v x) (by rw [List.getElem?_map, hx]; rfl) (by simp)
            unfold u64v at hcx
            subst ha
            have hcx := kr.cell hcx (fun e => e)
            have p0 := kr.cell p0 (fun e => e)
            have a1 := kr.cell a1 (fun e => e)
            have hki : (k : Int) < (rl.length : Int) := by omega
            have hkn : IntKind.i64.wrap ((k : Int) + 1) = ((k + 1 : Nat) : Int) := by rw [IntKind.wrap_i64]; omega
            have hxx := H18.out.2.2.2.1 x hmem
            have hget := fun (X : World) (k : Keep No W17 X) => H17.out.2.1 X k x hxx.1 hxx.2 (.inr (H18.out.2.2.1 x hmem))
            have HX := Lib.hid (And.intro (And.intro hlt kr) (And.intro (H19.out.2.then kr) hget))
            clear hlt kr hget hx hmem hxx hk
            go_upto_region 36 with fail
            go_cut [24] (fun v24 wx => v24 = .bool true ∧ Keep No W17 wx ∧ Keep No wr wx)
            case first =>
              have kd : Keep No wr wr.drew := (Keep.refl _ _).drew
              refine wp_drawJ (fun w' => Keep No wr w') [0, 1, 2, 3, 4, 5, 6, 7] 8 12 [([], [8]), ([9, 10, 11], [13, 14])] [([9, 10, 11], [12, 13, 14])] (by kernel_rfl) (by kernel_rfl) (fun _ _ _ _ _ h => hQp _ _ _ _ _ h) kd ?_
              iterate 8 (refine earlyN_cons (v := ?_) rfl rfl rfl ?_ ?_; rotate_left; focus (
                intro w' hS
                have f0 := hS.cell p0 (fun e => e)
                have f1 := hS.cell a1 (fun e => e)
                go_simp
                try with_reducible rfl))
              refine earlyN_nil ⟨?_, ?_⟩
              · refine midN_cons rfl rfl (fun K hK => ?_)
                go_simp
                have kA := kd.alloc (.cells #[.int .i64 0, .slice none 0 0] 51)
                have hA : (wr.drew.alloc (.cells #[.int .i64 0, .slice none 0 0] 51)).heap[wr.heap.size]? = some (.cells #[.int .i64 0, .slice none 0 0] 51 (0, 0)) := heap_new wr.drew _
                refine hK _ _ kA ?_
                clear hK K
                refine midN_nil (earlyN_nil (midN_cons rfl rfl (fun K hK => ?_)))
                go_simp
                refine (HX.out.2.2 _ (HX.out.2.1.then kA)).mono ?_
                rintro e wg ⟨cg, vg, rfl, ⟨lg, og⟩, kg⟩
                obtain ⟨og1, og2, rfl⟩ := og.form
                refine hK _ _ (kA.then kg) ?_
                clear hK K
                refine midN_nil ?_
                iterate 3 (refine earlyN_cons (v := ?_) rfl rfl rfl ?_ ?_; rotate_left; focus (
                  intro w' hS
                  go_simp
                  try with_reducible rfl))
                refine earlyN_nil ?_
                have hB := kg.heap hA (fun e => e)
                have g0 := cell_of hB 0
                have g1 := cell_of hB 1
                have gf := frozen_of hB
                simp at g0 g1
                have kZ : Keep No wr ((wg.setCell ⟨wr.heap.size, 0, none⟩ (.int .i64 cg)).setCell ⟨wr.heap.size, 1, none⟩ (.slice og1 lg.length og2)) := ((kA.then kg).trans (keep_cell (g := wr.heap.size) (i := 0) wg (.int .i64 cg)) (fun c hc e => by have e : c = wr.heap.size := e; omega)).trans (keep_cell (g := wr.heap.size) (i := 1) _ (.slice og1 lg.length og2)) (fun c hc e => by have e : c = wr.heap.size := e; omega)
                refine midN_cons rfl rfl (fun K hK => ?_)
                go_simp
                refine hK _ _ kZ ?_
                clear hK K
                refine midN_cons rfl rfl (fun K hK => ?_)
                go_simp
                refine hK _ _ kZ ?_
                clear hK K
                refine midN_nil ?_
                unfold stagesN
                go_wp2_with fail
                go_meet
                exact ⟨rfl, HX.out.2.1.then kZ, kZ⟩
              · refine midN_cons rfl rfl (fun K hK => ?_)
                go_simp
                refine (HX.out.2.2 _ (HX.out.2.1.then kd)).mono ?_
                rintro e wg ⟨cg, vg, rfl, ⟨lg, og⟩, kg⟩
                obtain ⟨og1, og2, rfl⟩ := og.form
                refine hK _ _ (kd.then kg) ?_
                clear hK K
                refine midN_nil ?_
                iterate 3 (refine earlyN_cons (v := ?_) rfl rfl rfl ?_ ?_; rotate_left; focus (
                  intro w' hS
                  go_simp
                  try with_reducible rfl))
                refine earlyN_nil ?_
                refine midN_cons rfl rfl (fun K hK => ?_)
                go_simp
                have kA := (kd.then kg).alloc (.cells #[.int .i64 0, .slice none 0 0] 51)
                refine hK _ _ kA ?_
                clear hK K
                have kZ := (kd.then kg).alloc (.cells #[.int .i64 cg, .slice og1 lg.length og2] 51)
                refine midN_cons rfl rfl (fun K hK => ?_)
                go_simp
                refine hK _ _ kZ ?_
                clear hK K
                refine midN_cons rfl rfl (fun K hK => ?_)
                go_simp
                refine hK _ _ kZ ?_
                clear hK K
                refine midN_nil ?_
                unfold stagesN
                go_wp2_with fail
                go_meet
                exact ⟨rfl, HX.out.2.1.then kZ, kZ⟩
            case rest =>
              obtain ⟨rfl, k24, kr24⟩ := hcut
              clear hcx p0 a1
              go_wp2_with fail
              go_roundw
              case rel => exact ⟨k + 1, by congr 1, by have := HX.out.1.1; omega, HX.out.1.2.then kr24⟩
              case measure => have := HX.out.1.1; simp [intOf]; omega
          · have hki : ¬ (k : Int) < (rl.length : Int) := by omega
            have HX := Lib.hid (H17.out.1.no (H19.out.2.then kr))
            clear hlt kr hk p0 a1
            go_wp2_with fail
            first | exact HX.out | exact hQ HX.out
end Go.Proofs.YtgogfnafbeahoaaGreat
