/- alike: rows of spans that came. LedgerParts: what its rounds keep. -/
import Derived.Test.YtfdmbomlkpkegaaGreatLedBB
import Derived.Test.YtfdmbomlkpkegaaGreatDisk
import Derived.Test.YtfdmbomlkpkegaaGreatLedGW

/-! ## LedAk -/
namespace Go.Proofs.YtfdmbomlkpkegaaGreat
open Go Go.RowKit Go.Dr

set_option maxHeartbeats 1000000 in
theorem spSame_spec [bn : Inhabited Ban] {base : Nat} {w : World} {u v : Value} {c : Int} {l : Bytes} (hu : BytesAt base w u l) (hv : BytesAt base w v l) :
    Calls Tryz.prog 60 #[.agg #[.int .i64 c, u], .agg #[.int .i64 c, v]] w fun e w' => e = .returned (.bool true) ∧ Keep No w w' := by
  obtain ⟨uo, uc, rfl⟩ := hu.form
  obtain ⟨vo, vc, rfl⟩ := hv.form
  have kA := ((Keep.refl No w).alloc (.cells #[.int .i64 c, .slice uo l.length uc] 61)).alloc (.cells #[.int .i64 c, .slice vo l.length vc] 61)
  have heq := bequal_spec (hu.no kA) (hv.no kA)
  have HH := Lib.hid kA
  clear hu hv kA
  go_enter Tryz.func60, Tryz.ntmps60
  go_wp2_with (go_at_call 113; refine heq.mono ?_; rintro e w' ⟨rfl, e2⟩; subst e2)
  go_ret
  exact ⟨by simp, HH.out⟩
set_option maxRecDepth 100000 in
set_option maxHeartbeats 4000000 in
/-- Two rows of the same. -/
theorem alike16_spec [bn : Inhabited Ban] {base : Nat} {w : World} {va vb : Value} {l : List RecS} (ha : RecsAt base w va l) (hb : RecsAt base w vb l) (hl : l.length ≤ 1073741824) :
    Calls Tryz.prog 21 #[va, vb] w fun e w' => e = .returned (.bool true) ∧ Keep No w w' := by
  obtain ⟨ao, ac, rfl, _, _⟩ := ha.form
  obtain ⟨bo, bc, rfl, _, _⟩ := hb.form
  have hli : (l.length : Int) ≤ 1073741824 := by omega
  have HH := Lib.hid (And.intro ha hb)
  clear ha hb hl
  go_enter Tryz.func21, Tryz.ntmps21
  go_wp2_with fail
  go_loopw [13] (fun v13 wr => ∃ k : Nat, v13 = .int .i64 (k : Nat) ∧ k ≤ l.length ∧ Keep No w wr) (fun v13 _ => l.length - (intOf v13).toNat)
  case atStart => exact ⟨0, rfl, Nat.zero_le _, Keep.refl _ _⟩
  case round =>
    obtain ⟨k, rfl, hk, kr⟩ := hrel
    by_cases hlt : k < l.length
    · have hx : l[k]? = some l[k] := List.getElem?_eq_getElem hlt
      generalize l[k] = x at hx
      obtain ⟨ga, ua, hga, hua, a0, a1, a2, a3⟩ := HH.out.1.cell hx
      obtain ⟨gb, ub, hgb, hub, b0, b1, b2, b3⟩ := HH.out.2.cell hx
      obtain ⟨uo, uc, rfl⟩ := hua.form
      obtain ⟨vo, vc, rfl⟩ := hub.form
      subst hga hgb
      have a0 := kr.cell a0 (fun e => e)
      have a1 := kr.cell a1 (fun e => e)
      have a2 := kr.cell a2 (fun e => e)
      have a3 := kr.cell a3 (fun e => e)
      have b0 := kr.cell b0 (fun e => e)
      have b1 := kr.cell b1 (fun e => e)
      have b2 := kr.cell b2 (fun e => e)
      have b3 := kr.cell b3 (fun e => e)
      have hsame := fun (X : World) (k : Keep No wr X) => spSame_spec (c := x.s.c) ((hua.no kr).no k) ((hub.no kr).no k)
      have hki : (k : Int) < (l.length : Int) := by omega
      have hkn : IntKind.i64.wrap ((k : Int) + 1) = ((k + 1 : Nat) : Int) := by rw [IntKind.wrap_i64]; omega
      have HX := Lib.hid (And.intro hlt (And.intro kr hsame))
      clear hlt kr hsame hx hk hua hub
      go_upto_region 6 with fail
      have kd : Keep No wr wr.drew := (Keep.refl _ _).drew
      refine wp_drawS (fun w' => Keep No wr w') [([0, 1, 2, 3, 4, 5, 6, 7, 8, 9, 10, 11], []), ([12, 13, 14, 15, 16, 17, 18, 19, 20, 21], [22]), ([23, 24], [])] (by kernel_rfl) (by kernel_rfl) (fun _ _ _ _ _ h => h) kd ?_
      iterate 12 (refine earlyN_cons (v := ?_) rfl rfl rfl ?_ ?_; rotate_left; focus (
        intro w' hq
        have ea0 := hq.cell a0 (fun e => e)
        have ea1 := hq.cell a1 (fun e => e)
        have ea2 := hq.cell a2 (fun e => e)
        have ea3 := hq.cell a3 (fun e => e)
        have eb0 := hq.cell b0 (fun e => e)
        have eb1 := hq.cell b1 (fun e => e)
        have eb2 := hq.cell b2 (fun e => e)
        have eb3 := hq.cell b3 (fun e => e)
        go_simp
        try with_reducible rfl))
      refine earlyN_nil ?_
      refine midN_nil ?_
      iterate 10 (refine earlyN_guarded (v := ?_) rfl rfl (by first | kernel_rfl | simp [Region.wanted, yielded, Act.put, undef]) ?_ ?_; rotate_left; focus (
        intro w' hq
        have ea0 := hq.cell a0 (fun e => e)
        have ea1 := hq.cell a1 (fun e => e)
        have ea2 := hq.cell a2 (fun e => e)
        have ea3 := hq.cell a3 (fun e => e)
        have eb0 := hq.cell b0 (fun e => e)
        have eb1 := hq.cell b1 (fun e => e)
        have eb2 := hq.cell b2 (fun e => e)
        have eb3 := hq.cell b3 (fun e => e)
        go_simp
        try with_reducible rfl))
      refine earlyN_nil ?_
      refine midN_want rfl (by first | kernel_rfl | simp [Region.wanted, yielded, Act.put, undef]) (fun K hK => ?_)
      go_simp
      refine (HX.out.2.2 _ kd).mono ?_
      rintro e wn ⟨rfl, kn⟩
      have kd := kd.then kn
      refine hK _ _ kd ?_
      clear hK K
      refine midN_nil ?_
      iterate 1 (refine earlyN_guarded (v := ?_) rfl rfl (by first | kernel_rfl | simp [Region.wanted, yielded, Act.put, undef]) ?_ ?_; rotate_left; focus (
        intro w' hq
        have ea0 := hq.cell a0 (fun e => e)
        have ea1 := hq.cell a1 (fun e => e)
        have ea2 := hq.cell a2 (fun e => e)
        have ea3 := hq.cell a3 (fun e => e)
        have eb0 := hq.cell b0 (fun e => e)
        have eb1 := hq.cell b1 (fun e => e)
        have eb2 := hq.cell b2 (fun e => e)
        have eb3 := hq.cell b3 (fun e => e)
        go_simp
        try with_reducible rfl))
      iterate 1 (refine earlyN_cons (v := ?_) rfl rfl rfl ?_ ?_; rotate_left; focus (
        intro w' hq
        have ea0 := hq.cell a0 (fun e => e)
        have ea1 := hq.cell a1 (fun e => e)
        have ea2 := hq.cell a2 (fun e => e)
        have ea3 := hq.cell a3 (fun e => e)
        have eb0 := hq.cell b0 (fun e => e)
        have eb1 := hq.cell b1 (fun e => e)
        have eb2 := hq.cell b2 (fun e => e)
        have eb3 := hq.cell b3 (fun e => e)
        go_simp
        try with_reducible rfl))
      refine earlyN_nil ?_
      refine midN_nil ?_
      unfold stagesN
      go_wp2_with fail
      go_roundw
      case rel => exact ⟨k + 1, by congr 1, by have := HX.out.1; omega, HX.out.2.1.then kd⟩
      case measure => have := HX.out.1; simp [intOf]; omega
    · have hki : ¬ (k : Int) < (l.length : Int) := by omega
      have HX := Lib.hid kr
      clear hlt kr hk
      go_wp2_with fail
      go_ret
      exact ⟨rfl, HX.out⟩
end Go.Proofs.YtfdmbomlkpkegaaGreat

/-! ## LedPa -/
namespace Go.Proofs.YtfdmbomlkpkegaaGreat
open Go Go.RowKit Go.Dr Go.Shelf

/-- Two ledgers, each with its own disk, in memory. -/
structure PaI [bn : Inhabited Ban] (w0 wr : World) (P1 q1 p1 r1 P2 q2 p2 r2 width : Nat) (size : Int) (ts1 : List LRec) (d1 : DiskS) (L1 : LedS) (F1 : Nat → Prop) (ts2 : List LRec) (d2 : DiskS) (L2 : LedS) (F2 : Nat → Prop) (n1 n2 u1 u2 : Nat) : Prop where
  one : LedFt w0.heap.size wr q1 p1 width size ts1 d1 L1 n1 F1
  two : LedFt w0.heap.size wr q2 p2 width size ts2 d2 L2 n2 F2
  apart : ∀ b, F1 b → ¬ F2 b
  blk1 : wr.heap[P1]? = some (.cells #[.pointer (some ⟨q1, 0, none⟩), .pointer (some ⟨r1, 0, none⟩), .int .u64 width, .int .i64 size] 37 (0, 0))
  blk2 : wr.heap[P2]? = some (.cells #[.pointer (some ⟨q2, 0, none⟩), .pointer (some ⟨r2, 0, none⟩), .int .u64 width, .int .i64 size] 37 (0, 0))
  k : Keep No w0 wr
  nts1 : ts1.length ≤ n1
  nts2 : ts2.length ≤ n2
  used1 : msum d1.now ≤ u1
  used2 : msum d2.now ≤ u2
  room1 : d1.room = 200000
  room2 : d2.room = 200000
section
variable [bn : Inhabited Ban] {w0 wr w' : World} {P1 q1 p1 r1 P2 q2 p2 r2 width : Nat} {size : Int} {ts1 ts2 : List LRec} {d1 d2 : DiskS} {L1 L2 M : LedS} {F1 F2 : Nat → Prop} {n1 n2 u1 u2 N : Nat}
theorem PaI.no (h : PaI w0 wr P1 q1 p1 r1 P2 q2 p2 r2 width size ts1 d1 L1 F1 ts2 d2 L2 F2 n1 n2 u1 u2) (k : Keep No wr w') : PaI w0 w' P1 q1 p1 r1 P2 q2 p2 r2 width size ts1 d1 L1 F1 ts2 d2 L2 F2 n1 n2 u1 u2 :=
  ⟨h.one.no k, h.two.no k, h.apart, k.heap h.blk1 (fun e => e), k.heap h.blk2 (fun e => e), h.k.then k, h.nts1, h.nts2, h.used1, h.used2, h.room1, h.room2⟩
theorem LedFt.more {q p k0 k1 : Nat} {ts : List LRec} {d : DiskS} {L : LedS} {F : Nat → Prop} {base : Nat} {w : World} (h : LedFt base w q p width size ts d L k0 F) (hk : k0 ≤ k1) : LedFt base w q p width size ts d L k1 F := by
  obtain ⟨g, m, lv, n, s, wv, sgv, rlv, ss, h1, h2, e⟩ := h
  exact ⟨g, m, lv, n, s, wv, sgv, rlv, ss, h1, Nat.le_trans h2 hk, e⟩
theorem PaI.more (h : PaI w0 wr P1 q1 p1 r1 P2 q2 p2 r2 width size ts1 d1 L1 F1 ts2 d2 L2 F2 n1 n2 u1 u2) {n1' n2' u1' u2' : Nat} (a : n1 ≤ n1') (b : n2 ≤ n2') (c : u1 ≤ u1') (d : u2 ≤ u2') : PaI w0 wr P1 q1 p1 r1 P2 q2 p2 r2 width size ts1 d1 L1 F1 ts2 d2 L2 F2 n1' n2' u1' u2' :=
  ⟨h.one.more a, h.two.more b, h.apart, h.blk1, h.blk2, h.k, Nat.le_trans h.nts1 a, Nat.le_trans h.nts2 b, Nat.le_trans h.used1 c, Nat.le_trans h.used2 d, h.room1, h.room2⟩
theorem PaI.write (h : PaI w0 wr P1 q1 p1 r1 P2 q2 p2 r2 width size ts1 d1 L1 F1 ts2 d2 L2 F2 n1 n2 u1 u2) {c : Nat} {cs : Array Value} {t : TypeId} (hz : wr.heap[c]? = some (.cells cs t (0, 0))) (hb : w0.heap.size ≤ c) (ht : Else t) (hr : t ≠ 96) (h8 : t ≠ 5) (hp : t ≠ 37)
    (k : Keep (· = c) wr w') : PaI w0 w' P1 q1 p1 r1 P2 q2 p2 r2 width size ts1 d1 L1 F1 ts2 d2 L2 F2 n1 n2 u1 u2 :=
  ⟨h.one.one hz hb ht hr h8 k, h.two.one hz hb ht hr h8 k, h.apart, k.heap h.blk1 (fun e => by have e : P1 = c := e; subst e; have := h.blk1; rw [hz] at this; simp at this; exact hp this.2), k.heap h.blk2 (fun e => by have e : P2 = c := e; subst e; have := h.blk2; rw [hz] at this; simp at this; exact hp this.2),
    h.k.trans k (fun b hb' e => by have e : b = c := e; omega), h.nts1, h.nts2, h.used1, h.used2, h.room1, h.room2⟩
end
/-- Alike: windows, and the spans that came. -/
structure Twin (L1 L2 : LedS) (j : Nat) : Prop where
  win : ∀ a, a < 16 → L1.win a = L2.win a
  recs : L1.recs = L2.recs
  nrec : L1.recs.length ≤ 8 * j
theorem Twin.more {L1 L2 : LedS} {j j' : Nat} (h : Twin L1 L2 j) (hj : j ≤ j') : Twin L1 L2 j' := ⟨h.win, h.recs, by have := h.nrec; omega⟩
/-- Within the loop of the single ones: as far as t. -/
structure Partly (L2 M : LedS) (n : Nat) (y : WinS) (t : List ItemS) : Prop where
  here : M.win n = y.putAll t
  other : ∀ c, c ≠ n → M.win c = L2.win c
  recs : M.recs = L2.recs ++ t.map (fun x => ⟨n, x.n, x.s⟩)
theorem Partly.start {width n b : Nat} {L2 : LedS} (h : L2.Ok width) (hn : n < 16) : Partly L2 (L2.putL n b []) n ((L2.win n).skip b) [] := by
  have hp := putL_is (b := b) (l := []) h hn
  exact ⟨hp.here, hp.other, hp.recs⟩
theorem Partly.next {width n b : Nat} {L2 M : LedS} {y : WinS} {t : List ItemS} {x : ItemS} (h : Partly L2 M n y t) (hM : M.Ok width) (hn : n < 16) (hy : y.Fine width) (hb : b ≤ y.low + 1) (ht : ∀ z ∈ t, z.n < 2305843009213693952) :
    pick ((M.win n).skip b) [x] = (if (y.putAll t).takes x.n = true then [x] else []) ∧ Partly L2 (M.putL n b [x]) n y (t ++ pick ((M.win n).skip b) [x]) := by
  have hlow := putAll_low hy ht
  have hid : (M.win n).skip b = y.putAll t := by rw [h.here]; exact skip_id (by omega)
  have hp := putL_is (b := b) (l := [x]) hM hn
  refine ⟨by rw [hid]; rfl, ?_, fun c hc => (hp.other c hc).trans (h.other c hc), ?_⟩
  · rw [hp.here, putAll_append, hid]
  · rw [hp.recs, h.recs, List.append_assoc, List.map_append]
theorem Twin.put {width n b j : Nat} {L1 L2 M : LedS} {l : List ItemS} (h : Twin L1 L2 j) (h1 : L1.Ok width) (hn : n < 16) (hl : l.length ≤ 8) (hM : Partly L2 M n ((L1.win n).skip b) (pick ((L1.win n).skip b) l)) : Twin (L1.putL n b l) M (j + 1) := by
  have hp := putL_is (b := b) (l := l) h1 hn
  refine ⟨fun a ha => ?_, ?_, ?_⟩
  · by_cases he : a = n
    · subst he; rw [hp.here, hM.here]
    · rw [hp.other a he, hM.other a he, h.win a ha]
  · rw [hp.recs, hM.recs, h.recs]
  · rw [hp.recs, List.length_append, List.length_map]
    have := (pick_sub ((L1.win n).skip b) l).length_le
    have := h.nrec
    omega
/-- Out of sight. -/
def PaR [bn : Inhabited Ban] (w0 wr : World) (P1 q1 p1 r1 P2 q2 p2 r2 width j : Nat) (size : Int) : Prop :=
  ∃ ts1 d1 L1 F1 ts2 d2 L2 F2, PaI w0 wr P1 q1 p1 r1 P2 q2 p2 r2 width size ts1 d1 L1 F1 ts2 d2 L2 F2 (j + 1) (9 * j + 1) (22 + 539 * j) (22 + 947 * j) ∧ Twin L1 L2 j
theorem PaR.no [bn : Inhabited Ban] {w0 wr w' : World} {P1 q1 p1 r1 P2 q2 p2 r2 width j : Nat} {size : Int} (h : PaR w0 wr P1 q1 p1 r1 P2 q2 p2 r2 width j size) (k : Keep No wr w') : PaR w0 w' P1 q1 p1 r1 P2 q2 p2 r2 width j size := by
  obtain ⟨ts1, d1, L1, F1, ts2, d2, L2, F2, h, ht⟩ := h
  exact ⟨ts1, d1, L1, F1, ts2, d2, L2, F2, h.no k, ht⟩
theorem PaR.more [bn : Inhabited Ban] {w0 wr : World} {P1 q1 p1 r1 P2 q2 p2 r2 width j j' : Nat} {size : Int} (h : PaR w0 wr P1 q1 p1 r1 P2 q2 p2 r2 width j size) (hj : j ≤ j') : PaR w0 wr P1 q1 p1 r1 P2 q2 p2 r2 width j' size := by
  obtain ⟨ts1, d1, L1, F1, ts2, d2, L2, F2, h, ht⟩ := h
  exact ⟨ts1, d1, L1, F1, ts2, d2, L2, F2, h.more (by omega) (by omega) (by omega) (by omega), ht.more hj⟩
section
variable [bn : Inhabited Ban] {base : Nat} {w : World} {q p width k0 : Nat} {size : Int} {ts : List LRec} {d : DiskS} {L : LedS} {F : Nat → Prop}
theorem gAll_ft (h : LedFt base w q p width size ts d L k0 F) (hrec : L.recs.length ≤ 1073741824) : Calls Tryz.prog 13 #[.pointer (some ⟨q, 0, none⟩)] w fun e w' => ∃ v, e = .returned v ∧ RecsOwn w' w.heap.size v L.recs ∧ Keep No w w' := by
  obtain ⟨g, m, lv, hat⟩ := h.at
  exact gAll_spec hat hrec (fun r hr => by have := (h.ok.had r hr).2.2.1.2.2; omega)
end
end Go.Proofs.YtfdmbomlkpkegaaGreat
