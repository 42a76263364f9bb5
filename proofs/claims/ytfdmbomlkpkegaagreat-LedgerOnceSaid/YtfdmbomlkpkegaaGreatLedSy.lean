/- The ledger: Sync. -/
import Derived.Test.YtfdmbomlkpkegaaGreatLedZ
namespace Go.Proofs.YtfdmbomlkpkegaaGreat
open Go Go.RowKit Go.Dr

theorem ledCells_set6 {g inc : Nat} {ags : List (List Value)} {lv : Value} {safe m i : Nat} {c : List Value} (u1 u2 u3 : Value) (h : ∀ a ∈ ags, a.length = 7) (hi : ags[i]? = some c) :
    (((ledCells g inc ags lv safe m).set (2 + i * 7 + 4) u1).set (2 + i * 7 + 5) u2).set (2 + i * 7 + 6) u3 = ledCells g inc (ags.set i (((c.set 4 u1).set 5 u2).set 6 u3)) lv safe m := by
  have hl := (List.getElem?_eq_some_iff.1 hi).1
  have hc := h c (List.mem_of_getElem? hi)
  have h7 : ∀ d : List Value, d.length = 7 → ∀ a ∈ ags.set i d, a.length = 7 := fun d hd a ha => by
    rcases List.mem_or_eq_of_mem_set ha with ha | rfl
    · exact h a ha
    · exact hd
  rw [ledCells_set u1 h hi (by decide), ledCells_set (i := i) (a := c.set 4 u1) u2 (h7 _ (by simp [hc])) (by simp [hl]) (by decide), List.set_set,
    ledCells_set (i := i) (a := (c.set 4 u1).set 5 u2) u3 (h7 _ (by simp [hc])) (by simp [hl]) (by decide), List.set_set]
theorem LedAt.setSafe [bn : Inhabited Ban] {base : Nat} {w : World} {q g m a : Nat} {lv : Value} {L : LedS} {x : AgS} (h : LedAt base w q g m lv L) (ha : L.ag[a]? = some x) (y : WinS) {ao : Option Addr} {cap : Nat} (hr : RunsAt w (.slice ao y.set.length cap) y.set) :
    LedAt base (((w.setCell ⟨q, 2 + a * 7 + 4, none⟩ (.int .u64 y.low)).setCell ⟨q, 2 + a * 7 + 5, none⟩ (.int .u64 y.width)).setCell ⟨q, 2 + a * 7 + 6, none⟩ (.slice ao y.set.length cap)) q g m lv { L with ag := L.ag.set a { x with safe := y } } ∧
      Keep (· = q) w (((w.setCell ⟨q, 2 + a * 7 + 4, none⟩ (.int .u64 y.low)).setCell ⟨q, 2 + a * 7 + 5, none⟩ (.int .u64 y.width)).setCell ⟨q, 2 + a * 7 + 6, none⟩ (.slice ao y.set.length cap)) := by
  obtain ⟨hF, hR, _⟩ := h.set 0 (.bool true)
  have k := ((keep_cell (g := q) (i := 2 + a * 7 + 4) w (.int .u64 y.low)).setCell (p := ⟨q, 2 + a * 7 + 5, none⟩) (.inl rfl) (.int .u64 y.width)).setCell (p := ⟨q, 2 + a * 7 + 6, none⟩) (.inl rfl) (.slice ao y.set.length cap)
  obtain ⟨ap1, ap2, ap3⟩ := h.apart
  obtain ⟨ags, hz, hag⟩ := h.blk
  obtain ⟨ns, ss, e, h1, h2⟩ := hag.at' a x ha
  refine ⟨⟨⟨ags.set a (agCells { x with safe := y } ns (.slice ao y.set.length cap)), ?_, ?_⟩, h.recs.keep hF k (fun b hb e => ap2 (by rw [hb, show b = q from e])), h.by'.keep k (fun e => ap1 e.symm), h.qb, h.mb⟩, k⟩
  · rw [heap_setCell_same (heap_setCell_same (heap_setCell_same hz)), toArray_set, toArray_set, toArray_set, ledCells_set6 _ _ _ hag.seven e]
    rfl
  · exact (hag.keep hR k).set ha (y := { x with safe := y }) (h1.keep hR k) (hr.keep hR k)
theorem LedAt.setCount [bn : Inhabited Ban] {base : Nat} {w : World} {q g m : Nat} {lv : Value} {L : LedS} (h : LedAt base w q g m lv L) (n : Nat) :
    LedAt base (w.setCell ⟨q, 115, none⟩ (.int .i64 n)) q g m lv { L with safe := n } := by
  obtain ⟨hF, hR, k⟩ := h.set 115 (.int .i64 n)
  obtain ⟨ap1, ap2, ap3⟩ := h.apart
  obtain ⟨ags, hz, ha⟩ := h.blk
  refine ⟨⟨ags, ?_, ha.keep hR k⟩, h.recs.keep hF k (fun b hb e => ap2 (by rw [hb, show b = q from e])), h.by'.keep k (fun e => ap1 e.symm), h.qb, h.mb⟩
  rw [heap_setCell_same hz, toArray_set, ledCells_setS n ha.seven ha.len]
def syncA (g : AgS) : AgS := { g with safe := g.now }
def LedS.syncK (L : LedS) (k : Nat) : LedS := { L with ag := (L.ag.take k).map syncA ++ L.ag.drop k }
theorem syncK_succ {L : LedS} {k : Nat} {x : AgS} (h : L.ag[k]? = some x) : (L.syncK k).ag[k]? = some x ∧ { L.syncK k with ag := (L.syncK k).ag.set k { x with safe := x.now } } = L.syncK (k + 1) := by
  obtain ⟨hk, hx⟩ := List.getElem?_eq_some_iff.1 h
  have e : (L.syncK k).ag = (L.ag.take k).map syncA ++ (x :: L.ag.drop (k + 1)) := by
    show (L.ag.take k).map syncA ++ L.ag.drop k = _
    rw [List.drop_eq_getElem_cons hk, hx]
  have hlen : ((L.ag.take k).map syncA).length = k := by simp; omega
  refine ⟨?_, ?_⟩
  · rw [e, List.getElem?_append_right (by omega), hlen, Nat.sub_self]
    rfl
  · rw [e, List.set_append_right _ _ (by omega), hlen, Nat.sub_self]
    unfold LedS.syncK
    rw [List.take_succ_eq_append_getElem hk, hx, List.map_append, List.append_assoc]
    rfl
set_option maxRecDepth 100000 in
set_option maxHeartbeats 2000000 in
theorem gSync_spec [bn : Inhabited Ban] {base : Nat} {w : World} {q g m p n s width : Nat} {lv wv sgv rlv : Value} {size : Int} {ss : List SegL} {ts : List LRec} {d : DiskS} {L : LedS}
    (h : LReady base w q g m lv p n s wv sgv rlv width size ss ts d L) (hb : base ≤ w.heap.size) :
    Calls Tryz.prog 23 #[.pointer (some ⟨q, 0, none⟩)] w fun e w' => e = .returned (.int .i64 0) ∧ LPost base w q g m p width size ts d.sync L.sync ss.length (lrfoot q g m lv p n s wv sgv rlv) w' := by
  have HH := Lib.hid (And.intro h hb)
  clear h hb
  go_enter Tryz.func23, Tryz.ntmps23
  go_wp2_with fail
  go_loopw [6] (fun v6 wr => ∃ k, v6 = .int .i64 (k : Nat) ∧ k ≤ 16 ∧ LedAt base wr q g m lv (L.syncK k) ∧ Keep (· = q) w wr) (fun v6 _ => 16 - (intOf v6).toNat)
  case atStart => exact ⟨0, rfl, Nat.zero_le _, by unfold LedS.syncK; simpa using HH.out.1.led, Keep.refl _ _⟩
  case round =>
    obtain ⟨k, rfl, hk, hled, kr⟩ := hrel
    by_cases hlt : k < 16
    · have hx : L.ag[k]? = some (L.ag[k]'(by rw [HH.out.1.ok.ag]; exact hlt)) := List.getElem?_eq_getElem _
      generalize (L.ag[k]'(by rw [HH.out.1.ok.ag]; exact hlt)) = x at hx
      obtain ⟨hx2, hse⟩ := syncK_succ hx
      obtain ⟨ns, ss', hns, _, _, a1, a2, a3, a4, a5, a6⟩ := hled.agCell hx2
      obtain ⟨no, nc, rfl, _, _⟩ := hns.form
      have hki : (k : Int) < 16 := by omega
      have kd : Keep No wr wr.drew := (Keep.refl _ _).drew
      obtain ⟨hset, kset⟩ := (hled.no kd).setSafe hx2 x.now (hns.no kd)
      rw [hse] at hset
      have fq := (hled.no kd).incCell.2.2
      have b4 := kd.cell a4 (fun e => e)
      have b5 := kd.cell a5 (fun e => e)
      have b6 := kd.cell a6 (fun e => e)
      have HR := Lib.hid (And.intro hset (And.intro (kr.then kd) (And.intro kset hlt)))
      clear hset kset hse hx2 hx hled kr hk hns hlt a4 a5 a6
      go_wp2_with fail
      refine wp_drawN (fun w' => Keep No wr w') [0, 1, 2, 3, 4, 5, 6, 7, 8, 9, 10] [] [11, 12, 13] (by kernel_rfl) (by kernel_rfl) (fun _ _ _ _ _ h => h) kd ?_
      iterate 11 (refine earlyN_cons (v := ?_) rfl rfl rfl ?_ ?_; rotate_left; focus (
        intro w' hS
        have f1 := hS.cell a1 (fun e => e)
        have f2 := hS.cell a2 (fun e => e)
        have f3 := hS.cell a3 (fun e => e)
        go_simp
        try with_reducible rfl))
      refine earlyN_nil (midN_nil (tailN_cons rfl (tailN_cons rfl (tailN_cons rfl (tailN_nil ?_)))))
      clear a1 a2 a3
      generalize wr.drew = X at *
      go_wp2_with fail
      go_roundw
      case rel => exact ⟨k + 1, by congr 1, by have := HR.out.2.2.2; omega, HR.out.1, HR.out.2.1.trans HR.out.2.2.1 (fun _ _ e => e)⟩
      case measure => have := HR.out.2.2.2; simp [intOf]; omega
    · have hke : k = 16 := by omega
      subst hke
      have hsy : L.syncK 16 = { L with ag := L.ag.map syncA } := by
        unfold LedS.syncK
        rw [List.take_of_length_le (by rw [HH.out.1.ok.ag]; exact Nat.le_refl _), List.drop_of_length_le (by rw [HH.out.1.ok.ag]; exact Nat.le_refl _), List.append_nil]
      rw [hsy] at hled
      obtain ⟨c114, c115, _⟩ := hled.endCells
      obtain ⟨lo, lc, hlv, _, _⟩ := hled.recs.form
      obtain ⟨_, c0, fq⟩ := hled.incCell
      have hcount := hled.setCount L.recs.length
      have kc : Keep (· = q) wr (wr.setCell ⟨q, 115, none⟩ (.int .i64 (L.recs.length : Nat))) := keep_cell _ _
      obtain ⟨Z, hZ⟩ : ∃ Z, wr.setCell ⟨q, 115, none⟩ (.int .i64 (L.recs.length : Nat)) = Z := ⟨_, rfl⟩
      rw [hZ] at hcount kc
      have hap := apart16 HH.out.1.led HH.out.1.rdy HH.out.1.mn HH.out.1.ms
      obtain ⟨hFq, hRq, _⟩ := HH.out.1.led.set 0 (.bool true)
      have kq := kr.trans kc (fun _ _ e => e)
      have hrd := HH.out.1.rdy.keepF hFq kq (fun b hb e => hap q (.inl rfl) (by rw [show q = b from e.symm]; exact hb))
      have hls := lSync_spec hrd.lg hrd.dk (Nat.le_trans HH.out.2 kq.size)
      obtain ⟨_, d0, _⟩ := hcount.incCell
      subst hlv
      have HR := Lib.hid (And.intro hcount (And.intro kq (And.intro hrd hap)))
      clear hcount kq kc hrd hap hFq hRq hled hsy kr hk hlt
      go_wp2_with fail
      refine hls.mono ?_
      rintro e w2 ⟨rfl, n', s', wv', hD, k2, ho2⟩
      clear hls
      go_wp2_with fail
      go_ret
      obtain ⟨hcount, kq, hrd, hap⟩ := HR.out
      have hmlt := hcount.lt m (.inr (.inl rfl))
      have hmn : m ≠ n' := fun e => by
        rcases ho2 n' (.inr (.inl rfl)) with e2 | e2
        · exact hap m (.inr (.inl rfl)) (.inl (by rw [e]; exact e2))
        · omega
      have hms : m ≠ s' := fun e => by
        rcases ho2 s' (.inr (.inr (.inl rfl))) with e2 | e2
        · exact hap m (.inr (.inl rfl)) (.inl (by rw [e]; exact e2))
        · omega
      have hdf : Foot base Z (foot p n s wv) := fun b hb => hrd.foot b (.inl hb)
      have hdr : FootR Z (foot p n s wv) := fun b hb => hrd.footR b (.inl hb)
      have hled2 := hcount.keep hdf hdr k2 (fun b hb e => apart16 hcount hrd HH.out.1.mn HH.out.1.ms b hb (.inl e))
      refine ⟨rfl, _, n', s', wv', sgv, rlv, ss, ⟨hled2, ⟨hrd.lg.byD hrd.dk k2, hD, hrd.on, hrd.few, hrd.full, hrd.room0, hrd.room1, hrd.used, Nat.zero_le _⟩, HH.out.1.ok.sync, HH.out.1.tl.sync, hmn, hms⟩, Nat.le_refl _, (kq.mono (fun b _ e => .inl (.inl e))).trans k2 (fun b _ e => .inr (.inl e)), fun b hb => ?_⟩
      rcases hb with hb | hb | hb
      · exact .inl (.inl hb)
      · rcases ho2 b hb with e | e
        · exact .inl (.inr (.inl e))
        · exact .inr (Nat.le_trans kq.size e)
      · exact .inl (.inr (.inr hb))
end Go.Proofs.YtfdmbomlkpkegaaGreat
