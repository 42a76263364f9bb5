/- SeglogNil: the walk. -/
import Derived.Test.YtpjggnfiocplmaaNilA
namespace Go.Proofs.Ytpjggnfiocplmaa
open Go Go.RowKit Go.Shelf Go.Dr

set_option maxRecDepth 100000 in
theorem lAppend_long (w : World) (g : Nat) (ao : Option Addr) (cap : Nat) : Calls Try.prog 36 #[.pointer (some ⟨g, 0, none⟩), .slice ao 1048577 cap] w fun e w' => e = .returned (.tuple #[.int .u64 0, .int .i64 6]) ∧ w' = w := by
  go_enter Try.func36, Try.ntmps36
  go_wp2_with fail
  go_ret2
  exact ⟨rfl, rfl⟩
theorem open_new [bn : Inhabited Ban] {base : Nat} {w : World} {p n s : Nat} {wv : Value} {d : DiskS} (h : DiskAt base w p n s wv d) (hb : base ≤ w.heap.size) (hn : d.now = []) (hT : ban.top ≤ w.heap.size) (z : Int) (hz : ¬ z < 1) :
    Calls Try.prog 35 #[.pointer (some ⟨p, 0, none⟩), .int .i64 z] w fun e w' => ∃ g, e = .returned (.tuple #[.pointer (some ⟨g, 0, none⟩), .int .i64 0]) ∧ DiskAt base w' p n s wv d ∧ Keep No w w' := by
  have ho : OnDisk [] [] d.now := by rw [hn]; exact OnDisk.nil
  refine (lOpen_spec h hb hT (ho.diskL (by simp) (by simp) (by rw [hn]; decide)) (by omega)).mono ?_
  rintro e w' ⟨g, sv, lv, rfl, _, hd, k, _⟩
  exact ⟨g, rfl, hd, k⟩

/-- A range over an iterator that hands nothing. -/
theorem wpIn_rangeNone {F : Fence} {n : Nat} {P : Program} {α : Type} {g : Operand} {ps : Array Tmp} {body : Code} {Q : Exit → Act → World → Prop} {a : Act} {w : World}
    (hro : F.round = none) (h1 : 1 ≤ n) {gf : Nat} {lb : Array Value} (hg : a.eval g = .func (.func gf) #[] lb) (hFg : F.fn gf) (eg : ∀ args w, (callFunc gf args).run P w = .ok (.enter gf args) w)
    {encs : α → Array Value} {S : List α → Prop} (hseq : SeqSays F (n - 1) P gf lb encs (fun _ _ _ => False) (KeepTo w.heap.size No) S w) (hps : ∀ x, (encs x).size = ps.size)
    (hdone : ∀ (D : Nat) (_ : List α) (W : World), w.heap.size ≤ D → KeepTo w.heap.size No w W → W.heap[D]? = some (.deferred (some [])) → Q .normal { a with defers := { target := .collected D, args := #[] } :: a.defers } W) :
    (Code.rangeFunc g ps Code.skip body).wpIn F n P Q a w := by
  refine wpIn_rangeSays hro h1 hg hFg eg hseq (fun h k => h.trans k) (fun A B row hs hg hr => KeepTo.grown hg hs hr) hps (fun _ W => KeepTo w.heap.size No w W)
    (fun s A B row h hg hr => h.trans (KeepTo.grown hg h.size (fun r e => (hr r e).1))) (fun pre x s A B row h hg hr => h) (KeepTo.refl _ _ _)
    (fun x => { tmps := (ps.zip (encs x)).foldl (fun t (p, v) => t.setIfInBounds p v) a.tmps, defers := [] }) ?assign ?body ?done
  case assign =>
    intro l x W K hK
    exact wpIn_skip hK
  case body =>
    rintro l pre x W hI hG
    exact hG.elim
  case done =>
    rintro D xs W hD hS hI hK
    exact hdone D xs W hD hI hK

set_option maxRecDepth 100000 in
set_option maxHeartbeats 8000000 in
theorem nil_walk [bn : Inhabited Ban] {w : World} (hT : ban.top ≤ w.heap.size) (z : Int) (n : Nat) (hn : n < 2 ^ 64) {pv : Value} {q : Bytes} (hp : BytesAt w.heap.size w pv q) :
    Calls Try.prog 13 #[.int .i64 z, .int .u64 n, pv] w fun e w' => e = .returned (.bool true) ∧ Keep No w w' := by
  obtain ⟨po, pc, rfl⟩ := hp.form
  have HP := Lib.hid (And.intro hp (And.intro hT hn))
  clear hp hT hn
  refine (callsIn_wide (n := 6)).1 ?_
  refine callsIn_of_wp_marks Try.func13 rfl trivial ?_ rfl
  simp only [Try.ntmps13, List.size_toArray, List.length_cons, List.length_nil, Nat.reduceAdd, Nat.reduceSub, Array.replicate_succ, Array.replicate_zero, List.push_toArray, List.append_toArray, List.nil_append, List.cons_append]
  refine wpIn_wide.2 ?_
  refine wp_mono (Q := calmPost _) ?_ (fun e a w h => calm_le h)
  have kA : Keep No w (w.alloc (.cells #[.bool false] 4)) := (Keep.refl _ _).alloc _
  have hA := heap_new w (.cells #[.bool false] 4)
  have haw := awake7_spec (w := w.alloc (.cells #[.bool false] 4)) (Nat.le_trans HP.out.2.1 kA.size)
  go_upto_region 3 with (go_at_call 34; refine haw.mono ?_; rintro e w1 ⟨rfl, k1⟩)
  have hk1 := kA.then k1
  have hB1 := k1.heap hA (fun e => e)
  clear haw kA hA k1
  have hnew := new_spec (w := w1) w1.heap.size 100 (Nat.le_refl _)
  by_cases hz : z < 1
  · have hz1 : ¬ (1 ≤ z) := by omega
    go_upto_region 4 with (go_at_call 35; refine (lOpen_none1 _ _ hz).mono ?_; rintro e w2 ⟨rfl, e2⟩; have e2 := e2.symm; subst e2)
    go_upto_region 5 with (first
      | (go_at_call 15; refine hnew.mono ?_; rintro e w2 ⟨p, dn, ds, wv, rfl, hD, k2, f2⟩)
      | (go_at_call 35; refine (lOpen_bad _ _ _ hz).mono ?_; rintro e w3 ⟨rfl, e3⟩; have k3 : Keep No w1 w3 := by { rw [e3]; exact k2 }; clear e3))
    go_upto_block 0 with (first
      | (go_at_call 36; refine (lAppend_none _ _).mono ?_; rintro e w4 ⟨rfl, e4⟩; have e4 := e4.symm; subst e4)
      | (go_at_call 49; refine (lGet_none _ _).mono ?_; rintro e w5 ⟨rfl, k5⟩)
      | (go_at_call 50; refine (lAll_none _).mono ?_; rintro e w6 ⟨rfl, e6⟩; have e6 := e6.symm; subst e6))
    have k6 : Keep No w1 (w5.alloc (.cells #[.pointer none] 65)) := (k3.then k5).alloc _
    have hcB : (w5.alloc (.cells #[.pointer none] 65)).cell? ⟨w5.heap.size, 0, none⟩ = some (.pointer none) := by rw [cell_of (heap_new w5 _) 0]; rfl
    have hseq := lAllf_none 5 (by decide) hcB
    have HK := Lib.hid k6
    refine (wpIn_wide (n := 6)).1 ?_
    refine wpIn_block ?_
    refine wpIn_rangeNone rfl (by decide) (gf := 80) (lb := #[.pointer (some ⟨w5.heap.size, 0, none⟩)]) rfl trivial (enters_of Try.func80 (by kernel_rfl) rfl) hseq (fun _ => rfl) ?_
    rintro D xs W hDD hI hK
    have hkW := HK.out.then hI.keep
    have k6x := k3.then k5
    have HD := Lib.hid (And.intro hkW (And.intro hK hDD))
    clear hkW hK hDD hI hseq hcB HK k6 hD f2
    go_upto_region 15 with (first
      | (go_at_call 37; refine (lSync_none _).mono ?_; rintro e w7 ⟨rfl, e7⟩; have e7 := e7.symm; subst e7)
      | (go_at_call 43; refine (lFits_none _ _).mono ?_; rintro e w7 ⟨rfl, e7⟩; have e7 := e7.symm; subst e7)
      | (go_at_call 48; refine (lTrim_none _ _).mono ?_; rintro e w7 ⟨rfl, e7⟩; have e7 := e7.symm; subst e7)
      | (go_at_call 51; refine (lSpare_none _ _).mono ?_; rintro e w7 ⟨rfl, e7⟩; have e7 := e7.symm; subst e7)
      | (go_at_call 44; refine (lFirst_none _).mono ?_; rintro e w7 ⟨rfl, e7⟩; have e7 := e7.symm; subst e7)
      | (go_at_call 46; refine (lNext_none _).mono ?_; rintro e w7 ⟨rfl, e7⟩; have e7 := e7.symm; subst e7)
      | (go_at_call 47; refine (lSegs_none _).mono ?_; rintro e w7 ⟨rfl, e7⟩; have e7 := e7.symm; subst e7)
      | (go_at_call 39; refine (lDisk_none _).mono ?_; rintro e w7 ⟨rfl, e7⟩; have e7 := e7.symm; subst e7))
    have hkV := HD.out.1.alloc (.cells #[.int .i64 1] 3)
    have hDV := ((Keep.refl No W).alloc (.cells #[.int .i64 1] 3)).heap HD.out.2.1 (fun e => e)
    generalize W.alloc (.cells #[.int .i64 1] 3) = V at *
    have hnd := new_spec (w := V) V.heap.size 4194304 (Nat.le_refl _)
    go_upto_region 16 with (go_at_call 15; refine hnd.mono ?_; rintro e w8 ⟨p8, dn8, ds8, wv8, rfl, hD8, k8, f8⟩)
    have hop8 := open_new hD8 k8.size rfl (Nat.le_trans HP.out.2.1 (hk1.then (hkV.then k8)).size) 1 (by decide)
    clear hnd f8
    go_upto_region 17 with (go_at_call 35; refine hop8.mono ?_; rintro e w9 ⟨g9', rfl, hD9, k9⟩)
    obtain ⟨w10, hmk, k10⟩ := make_big w9
    clear hop8 hD8
    go_upto_region 18 with (go_at_call 36; refine (lAppend_long _ _ _ _).mono ?_; rintro e w11 ⟨rfl, e11⟩; have k11 : Keep No w9 w11 := by { rw [e11]; exact k10 }; clear e11)
    have hk11 := ((hkV.then k8).then k9).then k11
    have hcut := cut_spec (HP.out.1.no (hk1.then hk11)) 50 (by decide)
    have hl50 : (q.take 50).length ≤ 1099511627776 := by rw [List.length_take]; omega
    generalize q.take 50 = q50 at hcut hl50
    have HL := Lib.hid hl50
    clear hl50
    have hD11 := hD9.no k11
    have hDx := ((k8.then k9).then k11).heap hDV (fun e => e)
    have HX := Lib.hid (And.intro hk11 (And.intro hD11 (And.intro hDx ((k8.then k9).then k11).size)))
    clear hmk hk11 hD11 hDx hD9 hkV hDV
    go_upto_region 19 with (go_at_call 16; refine hcut.mono ?_; rintro e w12 ⟨v12, rfl, own12, k12⟩; obtain ⟨o12, c12, rfl⟩ := own12.form)
    have b12 := own12.bytes (base := w.heap.size) (fun _ => Nat.le_trans HP.out.2.1 (hk1.then HX.out.1).size)
    have hT12 : ban.top ≤ w12.heap.size := Nat.le_trans HP.out.2.1 (hk1.then (HX.out.1.then k12)).size
    have hus : Calls Try.prog 30 #[.pointer (some ⟨p8, 0, none⟩)] w12 fun e w' => e = .returned (.int .i64 0) ∧ Keep No w12 w' := used_spec (HX.out.2.1.no k12) (Nat.le_trans HX.out.2.2.2 k12.size) (by decide)
    have HQ := Lib.hid (And.intro b12 (And.intro hT12 HL.out))
    have hDx := k12.heap HX.out.2.2.1 (fun e => e)
    have hkx := HX.out.1.then k12
    have HY := Lib.hid (And.intro hDx hkx)
    clear b12 hT12 own12 hcut HL hDx hkx
    go_wp2_with (first
      | (go_at_call 26; refine (r1same_spec (b5.no k6') b6).mono ?_; rintro e w19 ⟨he, k7'⟩; rw [beq_self_eq_true] at he; subst he; have kz := k6.then k7'; have hzd := kz.heap HY.out.1 (fun e => e); have hzc := (HY.out.2.then kz).heap hB1 (fun e => e); have c6 := cell_of hzc 0; have f6 := frozen_of hzc 0)
      | (go_at_call 55; refine (rHead_spec (Nat.le_trans HQ.out.2.1 k5.size) n HP.out.2.2).mono ?_; rintro e w18 ⟨v6, rfl, own6, k6'⟩; have b6 := own6.bytes (base := w.heap.size) (fun _ => Nat.le_trans HQ.out.2.1 k5.size); have k6 := k5.then k6')
      | (go_at_call 54; refine (lHead_spec (Nat.le_trans HQ.out.2.1 k4.size) n).mono ?_; rintro e w17 ⟨v5, rfl, own5, k5'⟩; have b5 := own5.bytes (base := w.heap.size) (fun _ => Nat.le_trans HQ.out.2.1 k4.size); have k5 := k4.then k5')
      | (go_at_call 26; refine (r1same_spec (b2.no k3'') b3).mono ?_; rintro e w16 ⟨he, k4'⟩; rw [beq_self_eq_true] at he; subst he; have k4 := k3x.then k4')
      | (go_at_call 53; refine (rRecord_spec (HQ.out.1.no k2x) (Nat.le_trans HQ.out.2.1 k2x.size) HQ.out.2.2).mono ?_; rintro e w15 ⟨v3, rfl, own3, k3''⟩; have b3 := own3.bytes (base := w.heap.size) (fun _ => Nat.le_trans HQ.out.2.1 k2x.size); have k3x := k2x.then k3'')
      | (go_at_call 52; refine (lRecord_spec (HQ.out.1.no k1x) (Nat.le_trans HQ.out.2.1 k1x.size) HQ.out.2.2).mono ?_; rintro e w14 ⟨v2, rfl, own2, k2''⟩; have b2 := own2.bytes (base := w.heap.size) (fun _ => Nat.le_trans HQ.out.2.1 k1x.size); have k2x := k1x.then k2'')
      | (go_at_call 30; refine hus.mono ?_; rintro e w13 ⟨rfl, k1x⟩))
    have hlt1 : w.heap.size < w1.heap.size := heap_lt hB1
    have kS : Keep (· = w.heap.size) w19 (w19.setCell ⟨w.heap.size, 0, none⟩ (.bool true)) := Keep.setCell (F := (· = w.heap.size)) (Keep.refl _ _) (p := ⟨w.heap.size, 0, none⟩) (.inl rfl) _
    have hKd := kS.heap hzd (fun e => by have h1 := HD.out.2.2; have h2 := k6x.size; have e : D = w.heap.size := e; simp only [World.size_alloc] at h1; omega)
    have hz2 := heap_setCell_same (i := 0) (u := .bool true) hzc
    have hkf : Keep No w (w19.setCell ⟨w.heap.size, 0, none⟩ (.bool true)) := (hk1.then (HY.out.2.then kz)).absorb kS (fun b e => by rw [e]; exact Nat.le_refl _)
    generalize w19.setCell ⟨w.heap.size, 0, none⟩ (.bool true) = W2 at *
    have hgp := grownBy_putObj' W2 D (.deferred none)
    have hnc : ∀ r, some D = some r → ∃ o : Obj, W2.heap[r]? = some o ∧ o.isCells = false := fun r e => by cases e; exact ⟨_, hKd, rfl⟩
    have hz3 := (grownBy_keeps_cells hgp hnc hz2 rfl).trans hz2
    refine (show bodyPostM _ _ _ _ _ Exit.ret _ _ from ⟨by simp, .inl ⟨_, _, rfl, run_takeDeferred hKd, ?_⟩⟩)
    have hke := hkf.grown hgp (fun r e => by cases e; exact .inr (by have h1 := HD.out.2.2; have h2 := k6x.size; simp only [World.size_alloc] at h1; omega))
    generalize W2.putObj D (.deferred none) = W3 at *
    have cz := cell_of hz3 0
    refine ⟨.bool true, ?_, rfl, hke⟩
    simp at cz
    simp [results, Try.results13, go_sem, cz]
  · have hz1 : 1 ≤ z := by omega
    have hop := fun (w2 : World) (p dn ds : Nat) (wv : Value) (d : DiskS) (h : DiskAt w1.heap.size w2 p dn ds wv d) (hb : w1.heap.size ≤ w2.heap.size) (hn : d.now = []) => open_new h hb hn (Nat.le_trans HP.out.2.1 (Nat.le_trans hk1.size hb)) z hz
    go_upto_region 4 with (go_at_call 35; refine (lOpen_none4 _ _ hz).mono ?_; rintro e w2 ⟨rfl, e2⟩; have e2 := e2.symm; subst e2)
    go_upto_region 5 with (first
      | (go_at_call 15; refine hnew.mono ?_; rintro e w2 ⟨p, dn, ds, wv, rfl, hD, k2, f2⟩)
      | (go_at_call 35; refine (hop _ _ _ _ _ _ hD k2.size rfl).mono ?_; rintro e w3 ⟨g9, rfl, hD3, k3'⟩; have k3 : Keep No w1 w3 := k2.then k3'))
    go_upto_block 0 with (first
      | (go_at_call 36; refine (lAppend_none _ _).mono ?_; rintro e w4 ⟨rfl, e4⟩; have e4 := e4.symm; subst e4)
      | (go_at_call 49; refine (lGet_none _ _).mono ?_; rintro e w5 ⟨rfl, k5⟩)
      | (go_at_call 50; refine (lAll_none _).mono ?_; rintro e w6 ⟨rfl, e6⟩; have e6 := e6.symm; subst e6))
    have k6 : Keep No w1 (w5.alloc (.cells #[.pointer none] 65)) := (k3.then k5).alloc _
    have hcB : (w5.alloc (.cells #[.pointer none] 65)).cell? ⟨w5.heap.size, 0, none⟩ = some (.pointer none) := by rw [cell_of (heap_new w5 _) 0]; rfl
    have hseq := lAllf_none 5 (by decide) hcB
    have HK := Lib.hid k6
    refine (wpIn_wide (n := 6)).1 ?_
    refine wpIn_block ?_
    refine wpIn_rangeNone rfl (by decide) (gf := 80) (lb := #[.pointer (some ⟨w5.heap.size, 0, none⟩)]) rfl trivial (enters_of Try.func80 (by kernel_rfl) rfl) hseq (fun _ => rfl) ?_
    rintro D xs W hDD hI hK
    have hkW := HK.out.then hI.keep
    have k6x := k3.then k5
    have HD := Lib.hid (And.intro hkW (And.intro hK hDD))
    clear hkW hK hDD hI hseq hcB HK k6 hD f2
    go_upto_region 15 with (first
      | (go_at_call 37; refine (lSync_none _).mono ?_; rintro e w7 ⟨rfl, e7⟩; have e7 := e7.symm; subst e7)
      | (go_at_call 43; refine (lFits_none _ _).mono ?_; rintro e w7 ⟨rfl, e7⟩; have e7 := e7.symm; subst e7)
      | (go_at_call 48; refine (lTrim_none _ _).mono ?_; rintro e w7 ⟨rfl, e7⟩; have e7 := e7.symm; subst e7)
      | (go_at_call 51; refine (lSpare_none _ _).mono ?_; rintro e w7 ⟨rfl, e7⟩; have e7 := e7.symm; subst e7)
      | (go_at_call 44; refine (lFirst_none _).mono ?_; rintro e w7 ⟨rfl, e7⟩; have e7 := e7.symm; subst e7)
      | (go_at_call 46; refine (lNext_none _).mono ?_; rintro e w7 ⟨rfl, e7⟩; have e7 := e7.symm; subst e7)
      | (go_at_call 47; refine (lSegs_none _).mono ?_; rintro e w7 ⟨rfl, e7⟩; have e7 := e7.symm; subst e7)
      | (go_at_call 39; refine (lDisk_none _).mono ?_; rintro e w7 ⟨rfl, e7⟩; have e7 := e7.symm; subst e7))
    have hkV := HD.out.1.alloc (.cells #[.int .i64 1] 3)
    have hDV := ((Keep.refl No W).alloc (.cells #[.int .i64 1] 3)).heap HD.out.2.1 (fun e => e)
    generalize W.alloc (.cells #[.int .i64 1] 3) = V at *
    have hnd := new_spec (w := V) V.heap.size 4194304 (Nat.le_refl _)
    go_upto_region 16 with (go_at_call 15; refine hnd.mono ?_; rintro e w8 ⟨p8, dn8, ds8, wv8, rfl, hD8, k8, f8⟩)
    have hop8 := open_new hD8 k8.size rfl (Nat.le_trans HP.out.2.1 (hk1.then (hkV.then k8)).size) 1 (by decide)
    clear hnd f8
    go_upto_region 17 with (go_at_call 35; refine hop8.mono ?_; rintro e w9 ⟨g9', rfl, hD9, k9⟩)
    obtain ⟨w10, hmk, k10⟩ := make_big w9
    clear hop8 hD8
    go_upto_region 18 with (go_at_call 36; refine (lAppend_long _ _ _ _).mono ?_; rintro e w11 ⟨rfl, e11⟩; have k11 : Keep No w9 w11 := by { rw [e11]; exact k10 }; clear e11)
    have hk11 := ((hkV.then k8).then k9).then k11
    have hcut := cut_spec (HP.out.1.no (hk1.then hk11)) 50 (by decide)
    have hl50 : (q.take 50).length ≤ 1099511627776 := by rw [List.length_take]; omega
    generalize q.take 50 = q50 at hcut hl50
    have HL := Lib.hid hl50
    clear hl50
    have hD11 := hD9.no k11
    have hDx := ((k8.then k9).then k11).heap hDV (fun e => e)
    have HX := Lib.hid (And.intro hk11 (And.intro hD11 (And.intro hDx ((k8.then k9).then k11).size)))
    clear hmk hk11 hD11 hDx hD9 hkV hDV
    go_upto_region 19 with (go_at_call 16; refine hcut.mono ?_; rintro e w12 ⟨v12, rfl, own12, k12⟩; obtain ⟨o12, c12, rfl⟩ := own12.form)
    have b12 := own12.bytes (base := w.heap.size) (fun _ => Nat.le_trans HP.out.2.1 (hk1.then HX.out.1).size)
    have hT12 : ban.top ≤ w12.heap.size := Nat.le_trans HP.out.2.1 (hk1.then (HX.out.1.then k12)).size
    have hus : Calls Try.prog 30 #[.pointer (some ⟨p8, 0, none⟩)] w12 fun e w' => e = .returned (.int .i64 0) ∧ Keep No w12 w' := used_spec (HX.out.2.1.no k12) (Nat.le_trans HX.out.2.2.2 k12.size) (by decide)
    have HQ := Lib.hid (And.intro b12 (And.intro hT12 HL.out))
    have hDx := k12.heap HX.out.2.2.1 (fun e => e)
    have hkx := HX.out.1.then k12
    have HY := Lib.hid (And.intro hDx hkx)
    clear b12 hT12 own12 hcut HL hDx hkx
    go_wp2_with (first
      | (go_at_call 26; refine (r1same_spec (b5.no k6') b6).mono ?_; rintro e w19 ⟨he, k7'⟩; rw [beq_self_eq_true] at he; subst he; have kz := k6.then k7'; have hzd := kz.heap HY.out.1 (fun e => e); have hzc := (HY.out.2.then kz).heap hB1 (fun e => e); have c6 := cell_of hzc 0; have f6 := frozen_of hzc 0)
      | (go_at_call 55; refine (rHead_spec (Nat.le_trans HQ.out.2.1 k5.size) n HP.out.2.2).mono ?_; rintro e w18 ⟨v6, rfl, own6, k6'⟩; have b6 := own6.bytes (base := w.heap.size) (fun _ => Nat.le_trans HQ.out.2.1 k5.size); have k6 := k5.then k6')
      | (go_at_call 54; refine (lHead_spec (Nat.le_trans HQ.out.2.1 k4.size) n).mono ?_; rintro e w17 ⟨v5, rfl, own5, k5'⟩; have b5 := own5.bytes (base := w.heap.size) (fun _ => Nat.le_trans HQ.out.2.1 k4.size); have k5 := k4.then k5')
      | (go_at_call 26; refine (r1same_spec (b2.no k3'') b3).mono ?_; rintro e w16 ⟨he, k4'⟩; rw [beq_self_eq_true] at he; subst he; have k4 := k3x.then k4')
      | (go_at_call 53; refine (rRecord_spec (HQ.out.1.no k2x) (Nat.le_trans HQ.out.2.1 k2x.size) HQ.out.2.2).mono ?_; rintro e w15 ⟨v3, rfl, own3, k3''⟩; have b3 := own3.bytes (base := w.heap.size) (fun _ => Nat.le_trans HQ.out.2.1 k2x.size); have k3x := k2x.then k3'')
      | (go_at_call 52; refine (lRecord_spec (HQ.out.1.no k1x) (Nat.le_trans HQ.out.2.1 k1x.size) HQ.out.2.2).mono ?_; rintro e w14 ⟨v2, rfl, own2, k2''⟩; have b2 := own2.bytes (base := w.heap.size) (fun _ => Nat.le_trans HQ.out.2.1 k1x.size); have k2x := k1x.then k2'')
      | (go_at_call 30; refine hus.mono ?_; rintro e w13 ⟨rfl, k1x⟩))
    have hlt1 : w.heap.size < w1.heap.size := heap_lt hB1
    have kS : Keep (· = w.heap.size) w19 (w19.setCell ⟨w.heap.size, 0, none⟩ (.bool true)) := Keep.setCell (F := (· = w.heap.size)) (Keep.refl _ _) (p := ⟨w.heap.size, 0, none⟩) (.inl rfl) _
    have hKd := kS.heap hzd (fun e => by have h1 := HD.out.2.2; have h2 := k6x.size; have e : D = w.heap.size := e; simp only [World.size_alloc] at h1; omega)
    have hz2 := heap_setCell_same (i := 0) (u := .bool true) hzc
    have hkf : Keep No w (w19.setCell ⟨w.heap.size, 0, none⟩ (.bool true)) := (hk1.then (HY.out.2.then kz)).absorb kS (fun b e => by rw [e]; exact Nat.le_refl _)
    generalize w19.setCell ⟨w.heap.size, 0, none⟩ (.bool true) = W2 at *
    have hgp := grownBy_putObj' W2 D (.deferred none)
    have hnc : ∀ r, some D = some r → ∃ o : Obj, W2.heap[r]? = some o ∧ o.isCells = false := fun r e => by cases e; exact ⟨_, hKd, rfl⟩
    have hz3 := (grownBy_keeps_cells hgp hnc hz2 rfl).trans hz2
    refine (show bodyPostM _ _ _ _ _ Exit.ret _ _ from ⟨by simp, .inl ⟨_, _, rfl, run_takeDeferred hKd, ?_⟩⟩)
    have hke := hkf.grown hgp (fun r e => by cases e; exact .inr (by have h1 := HD.out.2.2; have h2 := k6x.size; simp only [World.size_alloc] at h1; omega))
    generalize W2.putObj D (.deferred none) = W3 at *
    have cz := cell_of hz3 0
    refine ⟨.bool true, ?_, rfl, hke⟩
    simp at cz
    simp [results, Try.results13, go_sem, cz]
end Go.Proofs.Ytpjggnfiocplmaa
