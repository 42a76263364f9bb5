/- LedgerParts: parts of a round. -/
import Derived.Test.YtgogfnafbeahoaaGreatLedPB
import Derived.Test.YtgogfnafbeahoaaGreatDrawFJ
namespace Go.Proofs.YtgogfnafbeahoaaGreat
open Go Go.RowKit Go.Dr Go.Shelf

set_option maxRecDepth 100000 in
set_option maxHeartbeats 8000000 in
/-- One item by itself. -/
theorem pa_one [bn : Inhabited Ban] {c : Code} (hc : Func.from Tryz.f3 20 = some c) {Q : Exit → Act → World → Prop} {w wr : World} {P1 q1 p1 r1 P2 q2 p2 r2 width : Nat} {size : Int} {ts1 : List LRec} {d1 : DiskS} {L1 : LedS} {F1 : Nat → Prop} {ts2 : List LRec} {d2 : DiskS} {M : LedS} {F2 : Nat → Prop} {n1 n2 u1 u2 b10 n bs B B12 k : Nat} {l : List ItemS} {z : ItemS} {csA : Array Value} {lo so : Option Addr} {lc sc : Nat} {t : List Nat}
    {s0 s1 s2 s3 s4 s5 s6 s7 s9 s11 s12 s13 s14 s15 s16 s18 s19 s20 s21 s22 s23 s24 s25 s26 s27 s28 s29 s30 s31 s32 s33 s34 s35 s36 s37 s38 s39 s40 s41 s42 s43 s44 s45 s46 s47 s48 s49 s50 s51 s52 s53 s54 s55 s56 s57 s58 s59 s60 s61 s62 s63 s64 s65 s66 s67 s68 s69 s70 s71 s72 s73 s74 s75 s76 s77 s78 s79 s80 s81 s82 s83 s84 s85 s86 s87 s88 s89 s90 s91 s92 s93 s94 s95 s96 s97 s98 s99 s100 s101 s102 s103 s104 s105 s106 s107 s109 s111 s112 s113 s114 s115 s116 s117 s118 s119 s120 s121 s122 s123 s124 s125 s126 s127 s128 s129 s130 s131 s132 s133 s134 s135 s136 s137 s138 s139 s140 s141 s142 s143 s144 s145 s146 s147 s148 s149 s150 s151 s152 s153 s154 s155 s156 s157 s158 s159 s160 s161 s162 s163 s164 s165 s166 s167 s168 s169 s170 s171 s172 s173 s174 s175 s176 s177 s178 s179 s180 s181 s182 s183 s184 s185 s186 s187 s188 : Value}
    (hI : PaI w wr P1 q1 p1 r1 P2 q2 p2 r2 width size ts1 d1 L1 F1 ts2 d2 M F2 n1 n2 u1 u2) (hn2 : n2 ≤ 1000) (hu2 : u2 + 112 ≤ 200000) (hrec : M.recs.length ≤ 1073741824) (hA : wr.heap[b10]? = some (.cells csA 30 (0, 0))) (hcs1 : csA[1]? = some (.int .i64 n)) (hcs2 : csA[2]? = some (.int .u64 bs)) (hn16 : n < 16)
    (hr : rightB bs [z] = true) (hz40 : z.s.body.length ≤ 40) (hits : ItsAt w.heap.size wr B12 (.slice lo l.length lc) l) (_hl8 : l.length ≤ 8) (hx : l[k]? = some z) (hown : OwnN wr B (.slice so t.length sc) t) (hB : B ≤ wr.heap.size) (hBw : w.heap.size ≤ B) (ht : t.length ≤ 100) (hT : ban.top ≤ w.heap.size)
    (hQp : ∀ c a d v w, Q (.panic c) (Act.put a (some d) v) w → Q (.panic c) a w)
    (hQ : ∀ {x19 x20 x21 x111 x112 x113 x114 x115 x116 x117 x118 x119 x120 x121 x122 x123 x124 x125 x126 x127 x128 x129 x130 x131 x132 x133 : Value} {so' : Option Addr} {sc' : Nat} {t' : List Nat} {ts' : List LRec} {d' : DiskS} {F' : Nat → Prop} {W' : World}, PaI w W' P1 q1 p1 r1 P2 q2 p2 r2 width size ts1 d1 L1 F1 ts' d' (M.putL n bs [z]) F' n1 (n2 + 1) u1 (u2 + 112) → (∀ b, F' b → F2 b ∨ wr.heap.size ≤ b) → Keep (fun b => F2 b ∨ B ≤ b) wr W' → t' = t ++ (pick ((M.win n).skip bs) [z]).map (·.n) → OwnN W' B (.slice so' t'.length sc') t' → Q .normal { tmps := #[s0, s1, s2, s3, s4, s5, s6, s7, .pointer (some ⟨P2, 0, none⟩), s9, .pointer (some ⟨b10, 0, none⟩), s11, s12, s13, s14, s15, s16, .slice so' t'.length sc', s18, x19, x20, x21, s22, s23, s24, s25, s26, s27, s28, s29, s30, s31, s32, s33, s34, s35, s36, s37, s38, s39, s40, s41, s42, s43, s44, s45, s46, s47, s48, s49, s50, s51, s52, s53, s54, s55, s56, s57, s58, s59, s60, s61, s62, s63, s64, s65, s66, s67, s68, s69, s70, s71, s72, s73, s74, s75, s76, s77, s78, s79, s80, s81, s82, s83, s84, s85, s86, s87, s88, s89, s90, s91, s92, s93, s94, s95, s96, s97, s98, s99, s100, s101, s102, s103, s104, s105, s106, s107, .slice lo l.length lc, s109, .int .i64 k, x111, x112, x113, x114, x115, x116, x117, x118, x119, x120, x121, x122, x123, x124, x125, x126, x127, x128, x129, x130, x131, x132, x133, s134, s135, s136, s137, s138, s139, s140, s141, s142, s143, s144, s145, s146, s147, s148, s149, s150, s151, s152, s153, s154, s155, s156, s157, s158, s159, s160, s161, s162, s163, s164, s165, s166, s167, s168, s169, s170, s171, s172, s173, s174, s175, s176, s177, s178, s179, s180, s181, s182, s183, s184, s185, s186, s187, s188], defers := [] } W') :
    c.wp Tryz.prog Q { tmps := #[s0, s1, s2, s3, s4, s5, s6, s7, .pointer (some ⟨P2, 0, none⟩), s9, .pointer (some ⟨b10, 0, none⟩), s11, s12, s13, s14, s15, s16, .slice so t.length sc, s18, s19, s20, s21, s22, s23, s24, s25, s26, s27, s28, s29, s30, s31, s32, s33, s34, s35, s36, s37, s38, s39, s40, s41, s42, s43, s44, s45, s46, s47, s48, s49, s50, s51, s52, s53, s54, s55, s56, s57, s58, s59, s60, s61, s62, s63, s64, s65, s66, s67, s68, s69, s70, s71, s72, s73, s74, s75, s76, s77, s78, s79, s80, s81, s82, s83, s84, s85, s86, s87, s88, s89, s90, s91, s92, s93, s94, s95, s96, s97, s98, s99, s100, s101, s102, s103, s104, s105, s106, s107, .slice lo l.length lc, s109, .int .i64 k, s111, s112, s113, s114, s115, s116, s117, s118, s119, s120, s121, s122, s123, s124, s125, s126, s127, s128, s129, s130, s131, s132, s133, s134, s135, s136, s137, s138, s139, s140, s141, s142, s143, s144, s145, s146, s147, s148, s149, s150, s151, s152, s153, s154, s155, s156, s157, s158, s159, s160, s161, s162, s163, s164, s165, s166, s167, s168, s169, s170, s171, s172, s173, s174, s175, s176, s177, s178, s179, s180, s181, s182, s183, s184, s185, s186, s187, s188], defers := [] } wr := by
  have h0 : Func.from Tryz.f3 20 = some _ := rfl
  obtain rfl := Option.some.inj (h0.symm.trans hc)
  clear h0 hc
  let Q0 : Exit → Act → World → Prop := bodyPost Tryz.prog Tryz.f3 (fun _ _ => True)
  obtain ⟨g, u, hg, hu, e0, e1, e2⟩ := hits.cell hx
  subst hg
  obtain ⟨uo, uc, rfl⟩ := hu.form
  have hkl : k < l.length := (List.getElem?_eq_some_iff.1 hx).1
  have hki : (k : Int) < (l.length : Int) := by omega
  have p0 := cell_of hI.blk2 0
  have a1 := cell_of hA 1
  have a2 := cell_of hA 2
  rw [hcs1] at a1
  rw [hcs2] at a2
  simp at p0
  have kA := (Keep.refl No wr).alloc (.cells #[.int .u64 z.n, .int .i64 z.s.c, .slice uo z.s.body.length uc] 53)
  have hbA := heap_new wr (.cells #[.int .u64 z.n, .int .i64 z.s.c, .slice uo z.s.body.length uc] 53)
  have fA := frozen_of hbA
  have HH := Lib.hid (And.intro hI (And.intro hn2 (And.intro hu2 (And.intro hrec (And.intro hA (And.intro hn16 (And.intro hr (And.intro hz40 (And.intro hown (And.intro hB (And.intro ht (And.intro hT (And.intro hu kA)))))))))))))
  clear hI hn2 hu2 hrec hA hn16 hr hz40 hown hB ht hT hu kA hits hx _hl8 hcs1 hcs2 fA
  go_upto_region 21 with fail
  obtain ⟨WA, hWA⟩ : ∃ WA, WA = wr.alloc (.cells #[.int .u64 z.n, .int .i64 z.s.c, .slice uo z.s.body.length uc] 53) := ⟨_, rfl⟩
  rw [← hWA] at HH hbA ⊢
  have kA := HH.out.2.2.2.2.2.2.2.2.2.2.2.2.2
  have kd : Keep No WA WA.drew := (Keep.refl _ _).drew
  have hI21 := HH.out.1.no kA
  have hszw : w.heap.size ≤ WA.heap.size := hI21.k.size
  have hput := fun (X : World) (b : Nat) (k : Keep No WA X) (hb : X.heap[b]? = some (.cells #[.int .u64 z.n, .int .i64 z.s.c, .slice uo z.s.body.length uc] 53 (0, 0))) (hbb : w.heap.size ≤ b) =>
    put_ft (a := n) (b := bs) (M := 40) (N := 92) (hI21.two.no k) HH.out.2.2.2.2.2.1 (oneIt (x := z) (HH.out.2.2.2.2.2.2.2.2.2.2.2.2.1.no (kA.then k)) hb hbb) HH.out.2.2.2.2.2.2.1 (by simp) (by decide) (fun x hx => by obtain rfl := List.mem_singleton.1 hx; exact HH.out.2.2.2.2.2.2.2.1) (by simp) (by have := hI21.nts2; have := HH.out.2.1; omega) HH.out.2.2.2.1
      (Nat.le_trans hszw k.size) (Nat.le_trans HH.out.2.2.2.2.2.2.2.2.2.2.2.1 (Nat.le_trans hszw k.size)) (by have h1 := hI21.used2; have h2 := hI21.room2; have h3 := HH.out.2.2.1; omega)
  have i0 := cell_of hbA 0
  have i1 := cell_of hbA 1
  have i2 := cell_of hbA 2
  have hnP : ¬ F2 P2 := hI21.two.not hI21.blk2 (by decide)
  have hnA : ¬ F2 b10 := hI21.two.not (kA.heap HH.out.2.2.2.2.1 (fun e => e)) (by decide)
  have hnB : ¬ F2 wr.heap.size := hI21.two.not hbA (by decide)
  simp at i0 i1 i2
  have p0 := kA.cell p0 (fun e => e)
  have a1 := kA.cell a1 (fun e => e)
  have a2 := kA.cell a2 (fun e => e)
  obtain ⟨b19, hb19⟩ : ∃ b, b = wr.heap.size := ⟨_, rfl⟩
  rw [← hb19] at i0 i1 i2 hnB ⊢
  have HP := Lib.hid (And.intro hput (And.intro hI21 hszw))
  clear hbA hput hI21 hszw hWA kA hb19
  go_cut [20, 21] (fun v20 v21 wx => v21 = .int .i64 0 ∧ ∃ B7, OwnN wx B7 v20 ((pick ((M.win n).skip bs) [z]).map (·.n)) ∧ ∃ X, Keep No WA X ∧ PutFt w.heap.size X wx q2 p2 width size ts2.length d2 (M.putL n bs [z]) n2 92 F2)
  case first =>
    refine wp_drawN2 (fun w' => Keep F2 WA w') [0, 1, 2, 3, 4, 5, 6, 7, 8] [9, 10, 11] [12, 13] [14, 15] (by kernel_rfl) (by kernel_rfl) (fun _ _ _ _ _ h => hQp _ _ _ _ _ h) kd.no ?_
    iterate 9 (refine earlyN_cons (v := ?_) rfl rfl rfl ?_ ?_; rotate_left; focus (
      intro w' hS
      have e0 := hS.cell p0 hnP
      have e1 := hS.cell a1 hnA
      have e2 := hS.cell a2 hnA
      have e3 := hS.cell i0 hnB
      have e4 := hS.cell i1 hnB
      have e5 := hS.cell i2 hnB
      go_simp
      try with_reducible rfl))
    refine earlyN_nil (midN_cons rfl rfl (fun K hK => ?_))
    go_simp
    have k1 : Keep No WA ((WA.alloc (.cells #[.int .u64 z.n, .int .i64 z.s.c, .slice uo z.s.body.length uc] 53)).drew) := ((Keep.refl _ WA).alloc _).drew
    have hb1 : ((WA.alloc (.cells #[.int .u64 z.n, .int .i64 z.s.c, .slice uo z.s.body.length uc] 53)).drew).heap[WA.heap.size]? = some (.cells #[.int .u64 z.n, .int .i64 z.s.c, .slice uo z.s.body.length uc] 53 (0, 0)) := heap_new WA _
    refine hK _ _ k1.no ?_
    clear hK K
    refine midN_cons rfl rfl (fun K hK => ?_)
    go_simp
    refine (HP.out.1 _ _ k1 hb1 HP.out.2.2).mono ?_
    rintro e w7 ⟨tv, rfl, hown7, _, hp7⟩
    have k7 : Keep F2 WA w7 := k1.no.trans hp7.keep (fun _ _ e => e)
    refine hK _ _ k7 ?_
    clear hK K
    refine midN_cons rfl rfl (fun K hK => ?_)
    go_simp
    refine hK _ _ k7 ?_
    clear hK K
    refine midN_nil ?_
    iterate 2 (refine earlyN_cons (v := ?_) rfl rfl rfl ?_ ?_; rotate_left; focus (
      intro w' hS
      go_simp
      try with_reducible rfl))
    refine earlyN_nil ?_
    refine midN_cons rfl rfl (fun K hK => ?_)
    go_simp
    refine hK _ _ k7 ?_
    clear hK K
    refine midN_cons rfl rfl (fun K hK => ?_)
    go_simp
    refine hK _ _ k7 ?_
    clear hK K
    refine midN_nil ?_
    go_wp2_with fail
    go_meet
    exact ⟨rfl, _, hown7, _, k1, hp7⟩
  case rest =>
    rename World => W7
    obtain ⟨rfl, B7, hown7, X, kX, hp7⟩ := hcut
    obtain ⟨uo7, uc7, h7, _, _⟩ := hown7.form
    subst h7
    obtain ⟨ts', d', F', hI7, hF'⟩ := (HP.out.2.1.no kX).put2 hp7
    have k7 : Keep F2 WA W7 := kX.no.trans hp7.keep (fun _ _ e => e)
    have kwr : Keep No wr WA := HH.out.2.2.2.2.2.2.2.2.2.2.2.2.2
    have k07 : Keep F2 wr W7 := kwr.no.trans k7 (fun _ _ e => e)
    have hown := HH.out.2.2.2.2.2.2.2.2.1.keep k07 (fun b hb e => by
      obtain ⟨_, cur, hz⟩ := HH.out.2.2.2.2.2.2.2.2.1.kind b hb
      exact HH.out.1.two.not hz (by decide) e)
    have hB := HH.out.2.2.2.2.2.2.2.2.2.1
    have hB7 : B ≤ W7.heap.size := Nat.le_trans hB k07.size
    have hpl : ((pick ((M.win n).skip bs) [z]).map (·.n)).length ≤ 1 := by rw [List.length_map]; exact (pick_sub _ [z]).length_le
    have ht := HH.out.2.2.2.2.2.2.2.2.2.2.1
    have hFs : ∀ b, F' b → F2 b ∨ wr.heap.size ≤ b := fun b hb => (hF' b hb).imp id (fun h => Nat.le_trans (Nat.le_trans kwr.size kX.size) h)
    have hkind := hown.kind
    have H7 := Lib.hid (And.intro hI7 (And.intro hFs (And.intro k07 (And.intro hown (And.intro hB7 (And.intro hkind hown7))))))
    generalize (pick ((M.win n).skip bs) [z]).map (·.n) = ns at *
    clear hI7 hFs k07 hown hB7 hkind hown7 hF' k7 kwr hB p0 a1 a2 i0 i1 i2 hnP hnA hnB kd hp7
    go_wp2_with (at_builtin; refine wpList_append_nums rfl _ _ rfl H7.out.2.2.2.1 H7.out.2.2.2.2.2.2 rfl rfl (by omega) H7.out.2.2.2.2.1 ?_; intro v' w8 hn8 k8)
    have hI8 : PaI w w8 P1 q1 p1 r1 P2 q2 p2 r2 width size ts1 d1 L1 F1 ts' d' (M.putL n bs [z]) F' n1 (n2 + 1) u1 (u2 + 112) := by
      cases hso : (Value.slice so t.length sc).ownBlock with
      | none => exact H7.out.1.no ((Keep.refl No W7).trans k8 (fun b _ e => by rw [hso] at e; cases e))
      | some c =>
        obtain ⟨hBc, cur, hz⟩ := H7.out.2.2.2.2.2.1 c hso
        exact H7.out.1.write hz (Nat.le_trans hBw hBc) (by decide) (by decide) (by decide) (by decide) ((Keep.refl (· = c) W7).trans k8 (fun b _ e => by rw [hso] at e; exact (Option.some.inj e).symm))
    have kk : Keep (fun b => F2 b ∨ B ≤ b) wr w8 := ((Keep.refl _ wr).trans H7.out.2.2.1 (fun b _ e => .inl e)).trans k8 (fun b _ e => .inr (H7.out.2.2.2.2.2.1 b e).1)
    obtain ⟨so', sc', rfl, _, _⟩ := hn8.form
    exact hQ hI8 H7.out.2.1 kk rfl hn8

set_option maxRecDepth 100000 in
set_option maxHeartbeats 8000000 in
/-- The comparisons at a round's end. -/
theorem pa_end [bn : Inhabited Ban] {c : Code} (hc : Func.from Tryz.f3 26 = some c) {Q : Exit → Act → World → Prop} {w wr : World} {P1 q1 p1 r1 P2 q2 p2 r2 width : Nat} {size : Int} {ts1 : List LRec} {d1 : DiskS} {L1 : LedS} {F1 : Nat → Prop} {ts2 : List LRec} {d2 : DiskS} {M : LedS} {F2 : Nat → Prop} {n1 n2 u1 u2 b10 b13 n on fl B15 B17 : Nat} {csA : Array Value} {ns : List Nat} {y : WinS} {v15 v17 : Value}
    {s0 s1 s2 s3 s4 s5 s6 s9 s11 s16 s18 s19 s20 s21 s22 s23 s24 s25 s26 s27 s28 s29 s30 s31 s32 s33 s34 s35 s36 s37 s38 s39 s40 s41 s42 s43 s44 s45 s46 s47 s48 s49 s50 s51 s52 s53 s54 s55 s56 s57 s58 s59 s60 s61 s62 s63 s64 s65 s66 s67 s68 s69 s70 s71 s72 s73 s74 s75 s76 s77 s78 s79 s80 s81 s82 s83 s84 s85 s86 s87 s88 s89 s90 s91 s92 s93 s94 s95 s96 s97 s98 s99 s100 s101 s102 s103 s104 s105 s106 s107 s108 s109 s110 s111 s112 s113 s114 s115 s116 s117 s118 s119 s120 s121 s122 s123 s124 s125 s126 s127 s128 s129 s130 s131 s132 s133 s134 s135 s136 s137 s138 s139 s140 s141 s142 s143 s144 s145 s146 s147 s148 s149 s150 s151 s152 s153 s154 s155 s156 s157 s158 s159 s160 s161 s162 s163 s164 s165 s166 s167 s168 s169 s170 s171 s172 s173 s174 s175 s176 s177 s178 s179 s180 s181 s182 s183 s184 s185 s186 s187 s188 : Value}
    (hI : PaI w wr P1 q1 p1 r1 P2 q2 p2 r2 width size ts1 d1 L1 F1 ts2 d2 M F2 n1 n2 u1 u2) (hA : wr.heap[b10]? = some (.cells csA 30 (0, 0))) (hcs1 : csA[1]? = some (.int .i64 n)) (hn16 : n < 16) (hon16 : on < 16) (hwin : L1.win n = M.win n) (hbox : WinBox wr b13 y) (hwo : L1.win on = y) (hfl : L1.floor on = fl)
    (h15 : OwnN wr B15 v15 ns) (h17 : OwnN wr B17 v17 ns) (hns : ns.length ≤ 8)
    (hQp : ∀ c a d v w, Q (.panic c) (Act.put a (some d) v) w → Q (.panic c) a w)
    (hQ : ∀ {x134 x135 x136 x137 x138 x139 x140 x141 x142 x143 x144 x145 x146 x147 x148 x149 x150 x151 x152 x153 x154 x155 x156 x157 x158 x159 x160 x161 x162 x163 x164 x165 x166 x167 x168 x169 x170 x171 x172 x173 x174 x175 x176 : Value} {W' : World}, Keep No wr W' → Q .normal { tmps := #[s0, s1, s2, s3, s4, s5, s6, .pointer (some ⟨P1, 0, none⟩), .pointer (some ⟨P2, 0, none⟩), s9, .pointer (some ⟨b10, 0, none⟩), s11, .int .i64 on, .pointer (some ⟨b13, 0, none⟩), .int .u64 fl, v15, s16, v17, s18, s19, s20, s21, s22, s23, s24, s25, s26, s27, s28, s29, s30, s31, s32, s33, s34, s35, s36, s37, s38, s39, s40, s41, s42, s43, s44, s45, s46, s47, s48, s49, s50, s51, s52, s53, s54, s55, s56, s57, s58, s59, s60, s61, s62, s63, s64, s65, s66, s67, s68, s69, s70, s71, s72, s73, s74, s75, s76, s77, s78, s79, s80, s81, s82, s83, s84, s85, s86, s87, s88, s89, s90, s91, s92, s93, s94, s95, s96, s97, s98, s99, s100, s101, s102, s103, s104, s105, s106, s107, s108, s109, s110, s111, s112, s113, s114, s115, s116, s117, s118, s119, s120, s121, s122, s123, s124, s125, s126, s127, s128, s129, s130, s131, s132, s133, x134, x135, x136, x137, x138, x139, x140, x141, x142, x143, x144, x145, x146, x147, x148, x149, x150, x151, x152, x153, x154, x155, x156, x157, x158, x159, x160, x161, x162, x163, x164, x165, x166, x167, x168, x169, x170, x171, x172, x173, x174, x175, x176, s177, s178, s179, s180, s181, s182, s183, s184, s185, s186, s187, s188], defers := [] } W') :
    c.wp Tryz.prog Q { tmps := #[s0, s1, s2, s3, s4, s5, s6, .pointer (some ⟨P1, 0, none⟩), .pointer (some ⟨P2, 0, none⟩), s9, .pointer (some ⟨b10, 0, none⟩), s11, .int .i64 on, .pointer (some ⟨b13, 0, none⟩), .int .u64 fl, v15, s16, v17, s18, s19, s20, s21, s22, s23, s24, s25, s26, s27, s28, s29, s30, s31, s32, s33, s34, s35, s36, s37, s38, s39, s40, s41, s42, s43, s44, s45, s46, s47, s48, s49, s50, s51, s52, s53, s54, s55, s56, s57, s58, s59, s60, s61, s62, s63, s64, s65, s66, s67, s68, s69, s70, s71, s72, s73, s74, s75, s76, s77, s78, s79, s80, s81, s82, s83, s84, s85, s86, s87, s88, s89, s90, s91, s92, s93, s94, s95, s96, s97, s98, s99, s100, s101, s102, s103, s104, s105, s106, s107, s108, s109, s110, s111, s112, s113, s114, s115, s116, s117, s118, s119, s120, s121, s122, s123, s124, s125, s126, s127, s128, s129, s130, s131, s132, s133, s134, s135, s136, s137, s138, s139, s140, s141, s142, s143, s144, s145, s146, s147, s148, s149, s150, s151, s152, s153, s154, s155, s156, s157, s158, s159, s160, s161, s162, s163, s164, s165, s166, s167, s168, s169, s170, s171, s172, s173, s174, s175, s176, s177, s178, s179, s180, s181, s182, s183, s184, s185, s186, s187, s188], defers := [] } wr := by
  have h0 : Func.from Tryz.f3 26 = some _ := rfl
  obtain rfl := Option.some.inj (h0.symm.trans hc)
  clear h0 hc
  let Q0 : Exit → Act → World → Prop := bodyPost Tryz.prog Tryz.f3 (fun _ _ => True)
  have p1 := cell_of hI.blk1 0
  have p2 := cell_of hI.blk2 0
  have a1 := cell_of hA 1
  rw [hcs1] at a1
  simp at p1 p2
  obtain ⟨bo, bc, b0, b1', b2', _, hv⟩ := hbox.cells
  have hyf : y.Fine width := by rw [← hwo]; exact hI.one.ok.fine hon16
  have hnf : (L1.win n).Fine width := hI.one.ok.fine hn16
  have heq := fun (X : World) (k : Keep No wr X) => eq64_spec (h15.us.no k) (h17.us.no k) (by omega) (by omega)
  have hw1 := fun (X : World) (k : Keep No wr X) => gWindow_any (hI.one.no k) (n : Int)
  rw [winA_in L1 n hn16] at hw1
  have hw2 := fun (X : World) (k : Keep No wr X) => gWindow_any (hI.two.no k) (n : Int)
  rw [winA_in M n hn16, ← hwin] at hw2
  have hwo2 := fun (X : World) (k : Keep No wr X) => gWindow_any (hI.one.no k) (on : Int)
  rw [winA_in L1 on hon16, hwo] at hwo2
  have hsame := fun (X : World) (u u' : Value) (hu : WinV X u (L1.win n)) (hu' : WinV X u' (L1.win n)) => wSame_spec hu hu' hnf.ok.few hnf.ok.few
  have hsame2 := fun (X : World) (u : Value) (hu : WinV X u y) (k : Keep No wr X) => wSame_spec hu (hv.no k) hyf.ok.few hyf.ok.few
  have hflo := fun (X : World) (k : Keep No wr X) => gFloor_ft (hI.one.no k) on hon16
  rw [hfl] at hflo
  simp only [decide_true] at heq hsame hsame2
  obtain ⟨o15, c15, h15e, _, _⟩ := h15.form
  obtain ⟨o17, c17, h17e, _, _⟩ := h17.form
  subst h15e h17e
  have HQ := Lib.hid (And.intro heq (And.intro hw1 (And.intro hw2 (And.intro hwo2 (And.intro hsame (And.intro hsame2 hflo))))))
  clear hI hA hcs1 hwin hwo hfl h15 h17 hyf hnf heq hw1 hw2 hwo2 hsame hsame2 hflo hv hbox hn16 hon16 hns
  go_upto_region 26 with fail
  have kd : Keep No wr wr.drew := (Keep.refl _ _).drew
  refine wp_drawS (fun w' => Keep No wr w') [([0, 1], [2]), ([3, 4, 5, 6, 7, 8, 9, 10, 12, 13, 14, 15, 16, 17], [11, 18, 19]), ([20, 21, 22, 23, 24, 25, 26, 27, 29], [28, 30]), ([31, 32, 33, 34, 35, 36, 37, 38, 40], [39]), ([41, 42], [])] (by kernel_rfl) (by kernel_rfl) (fun _ _ _ _ _ h => hQp _ _ _ _ _ h) kd ?_
  iterate 2 (refine earlyN_cons (v := ?_) rfl rfl rfl ?_ ?_; rotate_left; focus (
    intro w' hq
    have e1 := hq.cell p1 (fun e => e)
    have e2 := hq.cell p2 (fun e => e)
    have ea := hq.cell a1 (fun e => e)
    have eb0 := hq.cell b0 (fun e => e)
    have eb1 := hq.cell b1' (fun e => e)
    have eb2 := hq.cell b2' (fun e => e)
    go_simp
    try with_reducible rfl))
  refine earlyN_nil ?_
  refine midN_cons rfl rfl (fun K hK => ?_)
  go_simp
  refine (HQ.out.1 _ kd).mono ?_
  rintro e wn ⟨rfl, kn⟩
  have kd := kd.then kn
  refine hK _ _ kd ?_
  clear hK K
  refine midN_nil ?_
  iterate 2 (refine earlyN_cons (v := ?_) rfl rfl rfl ?_ ?_; rotate_left; focus (
    intro w' hq
    have e1 := hq.cell p1 (fun e => e)
    have e2 := hq.cell p2 (fun e => e)
    have ea := hq.cell a1 (fun e => e)
    have eb0 := hq.cell b0 (fun e => e)
    have eb1 := hq.cell b1' (fun e => e)
    have eb2 := hq.cell b2' (fun e => e)
    go_simp
    try with_reducible rfl))
  iterate 12 (refine earlyN_guarded (v := ?_) rfl rfl (by first | kernel_rfl | simp [Region.wanted, yielded, Act.put, undef]) ?_ ?_; rotate_left; focus (
    intro w' hq
    have e1 := hq.cell p1 (fun e => e)
    have e2 := hq.cell p2 (fun e => e)
    have ea := hq.cell a1 (fun e => e)
    have eb0 := hq.cell b0 (fun e => e)
    have eb1 := hq.cell b1' (fun e => e)
    have eb2 := hq.cell b2' (fun e => e)
    go_simp
    try with_reducible rfl))
  refine earlyN_nil ?_
  refine midN_want rfl (by first | kernel_rfl | simp [Region.wanted, yielded, Act.put, undef]) (fun K hK => ?_)
  go_simp
  refine (HQ.out.2.1 _ kd).mono ?_
  rintro e wn ⟨u1, rfl, hu1, kn⟩
  have kd := kd.then kn
  refine hK _ _ kd ?_
  clear hK K
  refine midN_want rfl (by first | kernel_rfl | simp [Region.wanted, yielded, Act.put, undef]) (fun K hK => ?_)
  go_simp
  refine (HQ.out.2.2.1 _ kd).mono ?_
  rintro e wn ⟨u2, rfl, hu2, kn⟩
  have hu1 := hu1.no kn
  have kd := kd.then kn
  refine hK _ _ kd ?_
  clear hK K
  refine midN_want rfl (by first | kernel_rfl | simp [Region.wanted, yielded, Act.put, undef]) (fun K hK => ?_)
  go_simp
  refine (HQ.out.2.2.2.2.1 _ u1 u2 hu1 hu2).mono ?_
  rintro e wn ⟨rfl, kn⟩
  have kd := kd.then kn
  refine hK _ _ kd ?_
  clear hK K
  refine midN_nil ?_
  iterate 1 (refine earlyN_guarded (v := ?_) rfl rfl (by first | kernel_rfl | simp [Region.wanted, yielded, Act.put, undef]) ?_ ?_; rotate_left; focus (
    intro w' hq
    have e1 := hq.cell p1 (fun e => e)
    have e2 := hq.cell p2 (fun e => e)
    have ea := hq.cell a1 (fun e => e)
    have eb0 := hq.cell b0 (fun e => e)
    have eb1 := hq.cell b1' (fun e => e)
    have eb2 := hq.cell b2' (fun e => e)
    go_simp
    try with_reducible rfl))
  iterate 2 (refine earlyN_cons (v := ?_) rfl rfl rfl ?_ ?_; rotate_left; focus (
    intro w' hq
    have e1 := hq.cell p1 (fun e => e)
    have e2 := hq.cell p2 (fun e => e)
    have ea := hq.cell a1 (fun e => e)
    have eb0 := hq.cell b0 (fun e => e)
    have eb1 := hq.cell b1' (fun e => e)
    have eb2 := hq.cell b2' (fun e => e)
    go_simp
    try with_reducible rfl))
  iterate 6 (refine earlyN_guarded (v := ?_) rfl rfl (by first | kernel_rfl | simp [Region.wanted, yielded, Act.put, undef]) ?_ ?_; rotate_left; focus (
    intro w' hq
    have e1 := hq.cell p1 (fun e => e)
    have e2 := hq.cell p2 (fun e => e)
    have ea := hq.cell a1 (fun e => e)
    have eb0 := hq.cell b0 (fun e => e)
    have eb1 := hq.cell b1' (fun e => e)
    have eb2 := hq.cell b2' (fun e => e)
    go_simp
    try with_reducible rfl))
  refine earlyN_nil ?_
  refine midN_want rfl (by first | kernel_rfl | simp [Region.wanted, yielded, Act.put, undef]) (fun K hK => ?_)
  go_simp
  refine (HQ.out.2.2.2.1 _ kd).mono ?_
  rintro e wn ⟨u3, rfl, hu3, kn⟩
  have kd := kd.then kn
  refine hK _ _ kd ?_
  clear hK K
  refine midN_want rfl (by first | kernel_rfl | simp [Region.wanted, yielded, Act.put, undef]) (fun K hK => ?_)
  go_simp
  refine (HQ.out.2.2.2.2.2.1 _ u3 hu3 kd).mono ?_
  rintro e wn ⟨rfl, kn⟩
  have kd := kd.then kn
  refine hK _ _ kd ?_
  clear hK K
  refine midN_nil ?_
  iterate 1 (refine earlyN_guarded (v := ?_) rfl rfl (by first | kernel_rfl | simp [Region.wanted, yielded, Act.put, undef]) ?_ ?_; rotate_left; focus (
    intro w' hq
    have e1 := hq.cell p1 (fun e => e)
    have e2 := hq.cell p2 (fun e => e)
    have ea := hq.cell a1 (fun e => e)
    have eb0 := hq.cell b0 (fun e => e)
    have eb1 := hq.cell b1' (fun e => e)
    have eb2 := hq.cell b2' (fun e => e)
    go_simp
    try with_reducible rfl))
  iterate 2 (refine earlyN_cons (v := ?_) rfl rfl rfl ?_ ?_; rotate_left; focus (
    intro w' hq
    have e1 := hq.cell p1 (fun e => e)
    have e2 := hq.cell p2 (fun e => e)
    have ea := hq.cell a1 (fun e => e)
    have eb0 := hq.cell b0 (fun e => e)
    have eb1 := hq.cell b1' (fun e => e)
    have eb2 := hq.cell b2' (fun e => e)
    go_simp
    try with_reducible rfl))
  iterate 6 (refine earlyN_guarded (v := ?_) rfl rfl (by first | kernel_rfl | simp [Region.wanted, yielded, Act.put, undef]) ?_ ?_; rotate_left; focus (
    intro w' hq
    have e1 := hq.cell p1 (fun e => e)
    have e2 := hq.cell p2 (fun e => e)
    have ea := hq.cell a1 (fun e => e)
    have eb0 := hq.cell b0 (fun e => e)
    have eb1 := hq.cell b1' (fun e => e)
    have eb2 := hq.cell b2' (fun e => e)
    go_simp
    try with_reducible rfl))
  refine earlyN_nil ?_
  refine midN_want rfl (by first | kernel_rfl | simp [Region.wanted, yielded, Act.put, undef]) (fun K hK => ?_)
  go_simp
  refine (HQ.out.2.2.2.2.2.2 _ kd).mono ?_
  rintro e wn ⟨rfl, ew⟩
  have ew := ew.symm
  subst ew
  refine hK _ _ kd ?_
  clear hK K
  refine midN_nil ?_
  iterate 1 (refine earlyN_guarded (v := ?_) rfl rfl (by first | kernel_rfl | simp [Region.wanted, yielded, Act.put, undef]) ?_ ?_; rotate_left; focus (
    intro w' hq
    have e1 := hq.cell p1 (fun e => e)
    have e2 := hq.cell p2 (fun e => e)
    have ea := hq.cell a1 (fun e => e)
    have eb0 := hq.cell b0 (fun e => e)
    have eb1 := hq.cell b1' (fun e => e)
    have eb2 := hq.cell b2' (fun e => e)
    go_simp
    try with_reducible rfl))
  iterate 1 (refine earlyN_cons (v := ?_) rfl rfl rfl ?_ ?_; rotate_left; focus (
    intro w' hq
    have e1 := hq.cell p1 (fun e => e)
    have e2 := hq.cell p2 (fun e => e)
    have ea := hq.cell a1 (fun e => e)
    have eb0 := hq.cell b0 (fun e => e)
    have eb1 := hq.cell b1' (fun e => e)
    have eb2 := hq.cell b2' (fun e => e)
    go_simp
    try with_reducible rfl))
  refine earlyN_nil ?_
  refine midN_nil ?_
  unfold stagesN
  have HK := Lib.hid kd
  clear kd
  go_wp2_with fail
  first | exact HK.out | exact hQ HK.out

end Go.Proofs.YtgogfnafbeahoaaGreat
