/- Package tale: Text. -/
import Derived.Test.YtlbjkmpdakmgeaaDoorTaleM
namespace Go.Proofs.YtlbjkmpdakmgeaaDoor
open Go Go.RowKit Go.Dr

theorem whoF_len {n : Int} (h : Int64 n) : (whoF n).length ≤ 21 := by
  unfold whoF
  split
  · simp
  · exact Lib.itoa_length_le n h.1 h.2
theorem hexF_len (p : List UInt8) : (hexF p).length ≤ 2 * p.length + 1 := by
  unfold hexF
  split
  · simp
  · rw [hexB_len]; omega
theorem onF_len (b : Bool) : (onF b).length ≤ 3 := by cases b <;> decide
theorem text_len {e : EvS} (h : e.Ok) : (textF e).length ≤ 100 + 2 * e.body.length + 2 * e.p.length := by
  by_cases hk : e.kind < 12
  · obtain ⟨k, hm, hke⟩ := lines_of hk
    rw [textF_line hm hke, Lib.join_length]
    have h1 := whoF_len h.who
    have h2 := Lib.itoa_length_le e.cls h.cls.1 h.cls.2
    have h3 := hexF_len e.body
    have h4 := hexF_len e.p
    have h5 := onF_len e.on
    have h6 := Lib.itoa_length_le e.keep h.keep.1 h.keep.2
    have h7 := Lib.itoa_length_le e.torn h.torn.1 h.torn.2
    have h8 := Lib.itoa_length_le e.ix h.ix.1 h.ix.2
    have h9 := Lib.itoa_length_le e.pos h.pos.1 h.pos.2
    have h10 := Lib.itoa_length_le (e.val.toNat : Int) (u8_int64 _).1 (u8_int64 _).2
    simp only [linesF, List.mem_cons, List.not_mem_nil, or_false] at hm
    rcases hm with rfl | rfl | rfl | rfl | rfl | rfl | rfl | rfl | rfl | rfl | rfl | rfl <;>
      simp [wordsF, Lib.lens, nOffer, nHalt, nTick, nDeliver, nDrop, nDouble, nReplay, nTurn, nForge, nFull, nCrash, nBoot] <;> omega
  · rw [text_none (by omega)]; simp

theorem findF_some {k : LineS} (hk : k ∈ linesF) : findF k.kind = (k, true) := by unfold findF; rw [lines_kind k hk]
theorem findF_none {n : Nat} (h : 12 ≤ n) : findF n = (⟨0, [], []⟩, false) := by unfold findF; rw [lines_none h]
theorem lines_ascii : ∀ k ∈ linesF, ∀ c ∈ k.parts, c.toNat < 128 := by decide
theorem lines_words : ∀ k ∈ linesF, k.parts.length ≤ 4 := by decide
theorem words_len (e : EvS) (c : UInt8) : (wordsF e c).length ≤ 2 := by
  unfold wordsF
  split <;> (try split) <;> (try split) <;> (try split) <;> (try split) <;> (try split) <;> (try split) <;> (try split) <;> simp
theorem flat_len (e : EvS) : ∀ cs : List UInt8, (cs.flatMap (wordsF e)).length ≤ 2 * cs.length
  | [] => Nat.le_refl _
  | c :: cs => by
    rw [List.flatMap_cons, List.length_append, List.length_cons]
    have := flat_len e cs
    have := words_len e c
    omega
theorem evCells {w : World} {g : Nat} {e : EvS} {bv pv : Value} {t : TypeId} {fr : Nat × Nat} (h : w.heap[g]? = some (.cells (evC e bv pv) t fr)) :
    w.cell? ⟨g, 0, none⟩ = some (.int .u8 e.kind) ∧ w.cell? ⟨g, 1, none⟩ = some (.int .i64 e.who) ∧ w.cell? ⟨g, 2, none⟩ = some (.int .i64 e.cls) ∧ w.cell? ⟨g, 3, none⟩ = some bv ∧
    w.cell? ⟨g, 4, none⟩ = some (.int .i64 e.ix) ∧ w.cell? ⟨g, 5, none⟩ = some (.int .i64 e.pos) ∧ w.cell? ⟨g, 6, none⟩ = some (.int .u8 e.val.toNat) ∧ w.cell? ⟨g, 7, none⟩ = some (.int .i64 e.keep) ∧
    w.cell? ⟨g, 8, none⟩ = some (.int .i64 e.torn) ∧ w.cell? ⟨g, 9, none⟩ = some (.bool e.on) ∧ w.cell? ⟨g, 10, none⟩ = some pv := by
  simp only [cell_of h]
  exact ⟨rfl, rfl, rfl, rfl, rfl, rfl, rfl, rfl, rfl, rfl, rfl⟩
theorem StrsAt.kind {w : World} {B : Nat} {v : Value} {ws : List (List UInt8)} (h : StrsAt w B v ws) {b : Nat} (hb : v.ownBlock = some b) : ∃ cur, w.heap[b]? = some (.cells cur 9 (0, 0)) := by
  obtain ⟨h1, ⟨rfl, h⟩ | ⟨g, cap, cur, rfl, _, hg, _⟩⟩ := h
  · simp [Value.ownBlock] at hb
  · simp [Value.ownBlock] at hb
    subst hb
    exact ⟨cur, hg⟩

set_option maxRecDepth 100000 in
set_option maxHeartbeats 400000 in
theorem text_spec [bn : Inhabited Ban] {base : Nat} {w : World} (hV : VarsAt w) {e : EvS} {bv pv : Value} (hb : BytesAt base w bv e.body) (hp : BytesAt base w pv e.p) (hok : EvOk e) :
    Calls Tryd.prog 13 #[evV e bv pv] w fun r w' => r = .returned (strV (textF e)) ∧ Keep No w w' := by
  have hkn := hok.kind
  have hki : (e.kind : Int) ≤ 255 := by omega
  unfold evV
  have hbx := heap_new w (.cells (evC e bv pv) 27)
  have kW : Keep No w (w.alloc (.cells (evC e bv pv) 27)) := (Keep.refl _ _).alloc _
  by_cases hk : e.kind < 12
  · obtain ⟨L, hm, hke⟩ := lines_of hk
    have hf := find_spec (w.alloc (.cells (evC e bv pv) 27)) e.kind hkn
    have hff := findF_some hm
    rw [hke] at hff
    rw [hff] at hf
    have hte := textF_line hm hke
    have hln := text_len hok.ok
    have HT := Lib.hid (And.intro hm (And.intro hte (And.intro hln hke)))
    clear hff hm hte hln hke
    obtain ⟨kd, nm, pt⟩ := L
    simp only [lineV] at hf
    go_enter Tryd.func13, Tryd.ntmps13
    go_wp2_with fail
    refine hf.mono ?_
    rintro r w1 ⟨rfl, k1⟩
    clear hf
    have k1s := k1.size
    simp at k1s
    have hbx := k1.heap hbx (fun e => e)
    have k1 := kW.then k1
    have k1' : w.heap.size + 1 ≤ w1.heap.size := k1s
    go_wp2_with fail
    obtain ⟨W, hW⟩ : ∃ W, W = (((w1.alloc (.cells #[.int .u8 kd, strV nm, strV pt] 68)).alloc (.cells #[strV nm] 9)).iter (strB pt) 0) := ⟨_, rfl⟩
    have kW : Keep No w W := by rw [hW]; exact k1.then ((((Keep.refl _ _).alloc _).alloc _).alloc _)
    have hbx : W.heap[w.heap.size]? = some (.cells (evC e bv pv) 27) := by rw [hW]; exact ((((Keep.refl No _).alloc _).alloc _).alloc _).heap hbx (fun e => e)
    have hit : W.heap[w1.heap.size + 2]? = some (.stringIter (strB pt) 0) := by
      rw [hW]
      have := World.iter_heap ((w1.alloc (.cells #[.int .u8 kd, strV nm, strV pt] 68)).alloc (.cells #[strV nm] 9)) (strB pt) 0
      rw [World.size_alloc, World.size_alloc] at this
      exact this
    have hst : StrsAt W w.heap.size (.slice (some ⟨w1.heap.size + 1, 0, none⟩) 1 1) [nm] := by
      refine StrsAt.new [nm] ?_ (by have := k1.size; omega) (by simp)
      rw [hW]
      have := heap_new (w1.alloc (.cells #[.int .u8 kd, strV nm, strV pt] 68)) (.cells #[strV nm] 9)
      rw [World.size_alloc] at this
      exact ((Keep.refl No _).alloc _).heap this (fun e => e)
    show Code.wp _ _ _ _ (((w1.alloc (.cells #[.int .u8 kd, strV nm, strV pt] 68)).alloc (.cells #[strV nm] 9)).iter (strB pt) 0)
    rw [← hW]
    clear hW k1
    have hG : w.heap.size ≤ w1.heap.size + 2 := by have := k1'; omega
    have hGA : w.heap.size ≠ w1.heap.size + 2 := by have := k1'; omega
    clear k1'
    generalize w1.heap.size + 2 = G at *
    generalize w1.heap.size + 1 = S0 at *
    go_loopw [5] (fun v wr => ∃ j : Nat, j ≤ pt.length ∧ wr.heap[G]? = some (.stringIter (strB pt) j) ∧ StrsAt wr w.heap.size v (nm :: (pt.take j).flatMap (wordsF e)) ∧ Keep No w wr ∧ wr.heap[w.heap.size]? = some (.cells (evC e bv pv) 27)) (fun _ wr => pt.length - wr.iterPos G)
    case atStart => exact ⟨0, Nat.zero_le _, hit, hst, kW, hbx⟩
    case round =>
      obtain ⟨j, hj, hit, hst, hkr, hbx⟩ := hrel
      by_cases hlt : j < pt.length
      · obtain ⟨c, hc⟩ : ∃ c, pt[j]? = some c := ⟨_, List.getElem?_eq_getElem hlt⟩
        have hca := lines_ascii _ HT.out.1 c (List.mem_of_getElem? hc)
        have hcs := (lines_signs _ HT.out.1).1 c (List.mem_of_getElem? hc)
        have hnx := fun ty => run_next_at (w := wr) ty hit hc hca
        have htk : pt.take (j + 1) = pt.take j ++ [c] := by
          obtain ⟨h1, h2⟩ := List.getElem?_eq_some_iff.1 hc
          rw [List.take_succ_eq_append_getElem h1, h2]
        have k2 := iterAt_keep wr G (strB pt) (j + 1)
        have hit2 := iterAt_heap (s := strB pt) (p := j + 1) hit
        have hF : ∀ b, u5.ownBlock = some b → ¬ b = G := fun b hb e => by
          obtain ⟨cur, h⟩ := hst.kind hb
          rw [e, hit] at h
          cases h
        have hst2 := hst.keep k2 hF
        have hbx2 := k2.heap hbx (fun e => hGA e)
        have kr2 : Keep No w (iterAt wr G (strB pt) (j + 1)) := hkr.trans k2 (fun x hx e => by omega)
        obtain ⟨c0, c1, c2, c3, c4, c5, c6, c7, c8, c9, c10⟩ := evCells hbx2
        have hw := words_spec (hV.no kr2) (hb.no kr2) (hp.no kr2) hok hcs
        have hwl := words_len e c
        have hfl := flat_len e (pt.take j)
        have hpl := lines_words _ HT.out.1
        simp only at hpl
        have hptl : (pt.take j).length ≤ 4 := by simp; omega
        have HI := Lib.hid hit
        have HS := Lib.hid (And.intro htk (And.intro hit2 (And.intro hst2 (And.intro kr2 hbx2))))
        unfold evV at hw
        clear htk hit2 hst2 kr2 hbx2 hit hst hkr hbx k2 hc hb hp
        obtain ⟨ws, hws⟩ : ∃ ws, ws = wordsF e c := ⟨_, rfl⟩
        rw [← hws] at hw hwl
        have HW := Lib.hid hws
        clear hws
        go_wp2_with fail
        refine hw.mono ?_
        rintro r w2 ⟨g, rfl, hg, hgc, k3⟩
        have hsrc : ∀ (i : Nat) x, ws[i]? = some x → w2.cell? ⟨g, 0 + i, none⟩ = some (strV x) := fun i x hx => by
          rw [cell_of hgc, Nat.zero_add]
          simp [hx]
        have hz := k3.size
        go_wp2_with (at_builtin; refine wpList_append_strs rfl _ _ rfl w.heap.size (HS.out.2.2.1.no k3) hsrc rfl rfl (by rw [List.length_cons]; omega) (by have := HS.out.2.2.2.1.size; omega) ?_; intro v' w3 hst' k4)
        have k34 := k3.no.trans k4 (F := fun b => u5.ownBlock = some b) (fun _ _ e => e)
        have hF2 : ∀ b, u5.ownBlock = some b → ¬ b = G ∧ ¬ b = w.heap.size := fun b hb => by
          obtain ⟨cur, h⟩ := HS.out.2.2.1.kind hb
          refine ⟨fun e => ?_, fun e => ?_⟩
          · rw [e, HS.out.2.1] at h; cases h
          · rw [e, HS.out.2.2.2.2] at h; cases h
        go_roundw
        case rel =>
          refine ⟨j + 1, by omega, k34.heap HS.out.2.1 (fun e => (hF2 _ e).1 rfl), ?_, HS.out.2.2.2.1.trans k34 (fun x hx e => by have := (HS.out.2.2.1.lt x e).1; omega), k34.heap HS.out.2.2.2.2 (fun e => (hF2 _ e).2 rfl)⟩
          rw [HS.out.1, List.flatMap_append]
          have e1 : List.flatMap (wordsF e) [c] = ws := by rw [HW.out]; simp
          rw [e1]
          exact hst'
        case measure =>
          rw [iterPos_of (k34.heap HS.out.2.1 (fun e => (hF2 _ e).1 rfl)), iterPos_of HI.out]
          omega
      · obtain rfl : j = pt.length := by omega
        have hnx := fun ty => run_next_over (w := wr) ty hit (Nat.le_refl _)
        obtain ⟨g, cap, rfl, hgl, hgm, hgs, hgc⟩ := hst.cells (by simp)
        rw [List.take_length] at hgc hgl
        have hfl := flat_len e pt
        have hpl := lines_words _ HT.out.1
        simp only at hpl
        have hjn := joinC_spec (w := wr) (nm :: pt.flatMap (wordsF e)) g 0 cap (fun i x hx => by rw [Nat.zero_add]; exact hgc i x hx) hgs hgl (by rw [← HT.out.2.1]; have := HT.out.2.2.1; have := hok.body; have := hok.p; omega) (by rw [List.length_cons]; omega)
        rw [← HT.out.2.1] at hjn
        have hln : (nm :: List.flatMap (wordsF e) (List.take pt.length pt)).length = (nm :: pt.flatMap (wordsF e)).length := by rw [List.take_length]
        rw [hln]
        clear hln hgc hst hit hbx hgl
        generalize (nm :: pt.flatMap (wordsF e)).length = N at *
        go_wp2_with fail
        refine hjn.mono ?_
        rintro r w2 ⟨rfl, k3⟩
        go_wp2_with fail
        go_ret
        exact ⟨rfl, hkr.then k3⟩
  · have hf := find_spec (w.alloc (.cells (evC e bv pv) 27)) e.kind hkn
    rw [findF_none (by omega)] at hf
    simp only [lineV] at hf
    have HT := Lib.hid (text_none (e := e) (by omega))
    go_enter Tryd.func13, Tryd.ntmps13
    go_wp2_with fail
    refine hf.mono ?_
    rintro r w1 ⟨rfl, k1⟩
    go_wp2_with fail
    go_ret
    exact ⟨by rw [HT.out]; rfl, (kW.then k1).alloc _⟩
end Go.Proofs.YtlbjkmpdakmgeaaDoor
