/- The ledger's errors, and slices.Equal of numbers. The ledger with its log and disk, all that it holds out of sight; what the rows do with it. What Put does with a ledger: the plain law; what LedgerWindows and LedgerParts ask. The ledger with the blocks that it holds; Put, Open. -/
import Derived.Test.YtfdmbomlkpkegaaGreatLedOp
import Derived.Test.YtfdmbomlkpkegaaGreatLedBB
import Derived.Test.YtfdmbomlkpkegaaGreatLedCC

/-! ## LedE -/
namespace Go.Proofs.YtfdmbomlkpkegaaGreat
open Go Go.RowKit Go.Dr Go.Shelf

/-! ### Equal numbers in a row -/
def UsAt (w : World) (v : Value) (l : List Nat) : Prop := ∃ ao cap, v = .slice ao l.length cap ∧ (l ≠ [] → ∃ g o, ao = some ⟨g, o, none⟩ ∧ ∀ (k x : Nat), l[k]? = some x → w.cell? ⟨g, o + k, none⟩ = some (.int .u64 x))
theorem UsAt.nil (w : World) : UsAt w (.slice none 0 0) [] := ⟨none, 0, rfl, fun h => absurd rfl h⟩
theorem UsAt.no {w w' : World} {v : Value} {l : List Nat} (h : UsAt w v l) (k : Keep No w w') : UsAt w' v l := by
  obtain ⟨ao, cap, rfl, h⟩ := h
  refine ⟨ao, cap, rfl, fun hl => ?_⟩
  obtain ⟨g, o, e, hh⟩ := h hl
  exact ⟨g, o, e, fun i x hx => k.cell (hh i x hx) (fun e => e)⟩
theorem OwnN.nums {w : World} {B : Nat} {v : Value} {l : List Nat} (h : OwnN w B v l) : UsAt w v l := by
  obtain ⟨ao, cap, rfl, _, _⟩ := h.form
  refine ⟨ao, cap, rfl, fun hl => ?_⟩
  cases ao with
  | none => rcases h.2 with ⟨_, h0⟩ | ⟨g, cap', cur, e, _⟩
            · exact absurd (List.length_eq_zero_iff.1 h0) hl
            · cases e
  | some a =>
    rcases h.2 with ⟨e, _⟩ | ⟨g, cap', cur, e, _⟩
    · cases e
    · cases e
      refine ⟨g, 0, rfl, fun i x hx => ?_⟩
      obtain ⟨g', e, hc⟩ := row_cell h (j := i) (x := u64v x) (by rw [List.getElem?_map, hx]; rfl) (by simp)
      cases e
      rw [Nat.zero_add]
      exact hc
set_option maxRecDepth 100000 in
theorem eq64_spec {w : World} {va vb : Value} {l m : List Nat} (ha : UsAt w va l) (hb : UsAt w vb m) (hl : l.length ≤ 268435456) (_hm : m.length ≤ 268435456) :
    Calls Tryz.prog 49 #[va, vb] w fun e w' => e = .returned (.bool (decide (l = m))) ∧ Keep No w w' := by
  obtain ⟨ao, ac, rfl, ha⟩ := ha
  obtain ⟨bo, bc, rfl, hb⟩ := hb
  have hli : (l.length : Int) ≤ 268435456 := by omega
  obtain ⟨bb, hbb⟩ : ∃ bb, bb = decide (l = m) := ⟨_, rfl⟩
  rw [← hbb]
  by_cases hlm : l.length = m.length
  · have HH := Lib.hid (And.intro ha (And.intro hb hlm))
    have HD := Lib.hid hbb
    clear hbb
    have hcmp : ((l.length : Int) != (m.length : Int)) = false := by simp [hlm]
    clear ha hb hlm hl
    go_enter Tryz.func49, Tryz.ntmps49
    go_wp2_with fail
    go_loopw [13] (fun iv wr => ∃ (k : Nat), iv = .int .i64 k ∧ k ≤ l.length ∧ l.take k = m.take k ∧ Keep No w wr) (fun iv _ => l.length - (intOf iv).toNat)
    case atStart => exact ⟨0, rfl, Nat.zero_le _, by simp, Keep.refl _ _⟩
    case round =>
      obtain ⟨k, rfl, hk, htk, kr⟩ := hrel
      by_cases hlt : k < l.length
      · have hltm : k < m.length := by rw [← HH.out.2.2]; exact hlt
        have hr : l[k]? = some l[k] := List.getElem?_eq_getElem hlt
        have hs : m[k]? = some m[k] := List.getElem?_eq_getElem hltm
        obtain ⟨r, hre⟩ : ∃ r, r = l[k] := ⟨_, rfl⟩
        obtain ⟨s, hse⟩ : ∃ s, s = m[k] := ⟨_, rfl⟩
        rw [← hre] at hr
        rw [← hse] at hs
        obtain ⟨g, o, rfl, hrow⟩ := HH.out.1 (fun e => by rw [e] at hlt; simp at hlt)
        obtain ⟨g2, o2, rfl, hrow2⟩ := HH.out.2.1 (fun e => by rw [e] at hltm; simp at hltm)
        have r0 := kr.cell (hrow k r hr) (fun e => e)
        have s0 := kr.cell (hrow2 k s hs) (fun e => e)
        have hki : (k : Int) < (l.length : Int) := by omega
        have hki2 : (k : Int) < (m.length : Int) := by omega
        have htl : l.take (k + 1) = l.take k ++ [r] := by rw [List.take_succ_eq_append_getElem hlt, hre]
        have htm : m.take (k + 1) = m.take k ++ [s] := by rw [List.take_succ_eq_append_getElem hltm, hse]
        by_cases hrs : r = s
        · subst hrs
          have HR := Lib.hid (And.intro (show l.take (k + 1) = m.take (k + 1) by rw [htl, htm, htk]) (And.intro kr hlt))
          clear htl htm htk kr hlt hltm hr hs hrow hrow2 hk hre hse
          go_wp2_with fail
          go_quiet (fail)
          go_wp2_with fail
          go_roundw
          case rel => exact ⟨k + 1, by congr 1, by have := HR.out.2.2; omega, HR.out.1, HR.out.2.1.drewN _⟩
          case measure => have := HR.out.2.2; simp [intOf]; omega
        · have hne : decide (l = m) = false := by
            simp
            intro e
            apply hrs
            rw [hre, hse]
            subst e
            rfl
          obtain rfl : bb = false := HD.out.trans hne
          have h2 : ((r : Int) == (s : Int)) = false := by simp; omega
          have HR := Lib.hid (And.intro kr hlt)
          clear htl htm htk kr hlt hltm hr hs hrow hrow2 hk hre hse hne hrs
          go_wp2_with fail
          go_quiet (fail)
          go_wp2_with fail
          go_ret
          exact ⟨rfl, HR.out.1.drewN _⟩
      · have hki : ¬ (k : Int) < (l.length : Int) := by omega
        have hke : k = l.length := by omega
        have hbt : bb = true := by
          rw [HD.out]
          simp
          rw [hke, List.take_of_length_le (Nat.le_refl _), HH.out.2.2, List.take_of_length_le (Nat.le_refl _)] at htk
          exact htk
        subst hbt
        clear hke htk hlt hk
        go_wp2_with fail
        go_ret
        exact ⟨rfl, kr⟩
  · have hne : decide (l = m) = false := by simp; exact fun e => hlm (by rw [e])
    obtain rfl : bb = false := hbb.trans hne
    have hcmp : ((l.length : Int) != (m.length : Int)) = true := by simp; omega
    clear hlm hne hbb ha hb hl
    go_enter Tryz.func49, Tryz.ntmps49
    go_wp2_with fail
    go_ret
    exact ⟨rfl, Keep.refl _ _⟩

/-! ### Open -/
/-! ### Raise and Put -/
theorem gRaise_out (w : World) (q : Nat) (a : Int) (n : Nat) (ha : a < 0 ∨ 16 ≤ a) : Calls Tryz.prog 22 #[.pointer (some ⟨q, 0, none⟩), .int .i64 a, .int .u64 n] w fun e w' => e = .returned (.int .i64 1) ∧ w' = w := by
  have hg := gAgent_out (w := w) q a ha
  clear ha
  go_enter Tryz.func22, Tryz.ntmps22
  go_wp2_with (go_at_call 61; refine hg.mono ?_; rintro e w1 ⟨rfl, e1⟩; have e1 := e1.symm; subst e1)
  go_ret
  exact ⟨rfl, rfl⟩
theorem gPut_out (w : World) (q : Nat) (a : Int) (n : Nat) (v : Value) (ha : a < 0 ∨ 16 ≤ a) : Calls Tryz.prog 24 #[.pointer (some ⟨q, 0, none⟩), .int .i64 a, .int .u64 n, v] w fun e w' => e = .returned (.tuple #[.slice none 0 0, .int .i64 1]) ∧ w' = w := by
  have hg := gAgent_out (w := w) q a ha
  clear ha
  go_enter Tryz.func24, Tryz.ntmps24
  go_wp2_with (go_at_call 61; refine hg.mono ?_; rintro e w1 ⟨rfl, e1⟩; have e1 := e1.symm; subst e1)
  go_ret2
  exact ⟨rfl, rfl⟩
theorem gPut_wrong [bn : Inhabited Ban] {base B : Nat} {w : World} {v : Value} {l : List ItemS} (q a b : Nat) (ha : a < 16) (h : ItsAt base w B v l) (hl : l.length ≤ 1048576) (hbl : ∀ x ∈ l, x.s.body.length ≤ 1073741824) (hr : rightB b l = false) : Calls Tryz.prog 24 #[.pointer (some ⟨q, 0, none⟩), .int .i64 a, .int .u64 b, v] w fun e w' => e = .returned (.tuple #[.slice none 0 0, .int .i64 1]) ∧ Keep No w w' := by
  have hg := gAgent_in (w := w) q a ha
  have hrg := gRight_spec b h hl hbl
  rw [hr] at hrg
  obtain ⟨vo, vc, rfl, _, _⟩ := h.form
  clear ha h hbl hl
  go_enter Tryz.func24, Tryz.ntmps24
  go_wp2_with (first
    | (go_at_call 63; refine hrg.mono ?_; rintro e w2 ⟨rfl, k2⟩)
    | (go_at_call 61; refine hg.mono ?_; rintro e w1 ⟨rfl, e1⟩; have e1 := e1.symm; subst e1))
  go_ret2
  exact ⟨rfl, k2⟩
end Go.Proofs.YtfdmbomlkpkegaaGreat

/-! ## LedF -/
namespace Go.Proofs.YtfdmbomlkpkegaaGreat
open Go Go.RowKit Go.Dr Go.Shelf

def Led [bn : Inhabited Ban] (base : Nat) (w : World) (q p width : Nat) (size : Int) (ts : List LRec) (d : DiskS) (L : LedS) (k0 : Nat) : Prop :=
  ∃ g m lv n s wv sgv rlv ss, LReady base w q g m lv p n s wv sgv rlv width size ss ts d L ∧ ss.length ≤ k0
section
variable [bn : Inhabited Ban] {base : Nat} {w w' : World} {q p width k0 : Nat} {size : Int} {ts : List LRec} {d : DiskS} {L : LedS}
theorem Led.no (h : Led base w q p width size ts d L k0) (k : Keep No w w') : Led base w' q p width size ts d L k0 := by
  obtain ⟨g, m, lv, n, s, wv, sgv, rlv, ss, h, hk⟩ := h
  exact ⟨g, m, lv, n, s, wv, sgv, rlv, ss, h.no k, hk⟩
theorem Led.at (h : Led base w q p width size ts d L k0) : ∃ g m lv, LedAt base w q g m lv L := by
  obtain ⟨g, m, lv, n, s, wv, sgv, rlv, ss, h, hk⟩ := h
  exact ⟨g, m, lv, h.led⟩
theorem Led.ok (h : Led base w q p width size ts d L k0) : L.Ok width := by
  obtain ⟨g, m, lv, n, s, wv, sgv, rlv, ss, h, hk⟩ := h
  exact h.ok
end
/-- A type none of whose blocks a ledger holds. -/
def Else (t : TypeId) : Prop := t ≠ 126 ∧ t ≠ 63 ∧ t ≠ 135 ∧ t ≠ 137 ∧ t ≠ 130 ∧ t ≠ 265 ∧ t ≠ 59
instance (t : TypeId) : Decidable (Else t) := by unfold Else; infer_instance
/-- What a step of a ledger leaves: all that lay there ahead of the base, and the blocks of other types. -/
structure Aside (base : Nat) (w w' : World) : Prop where
  keep : ∀ w0 : World, w0.heap.size ≤ base → Keep No w0 w → Keep No w0 w'
  size : w.heap.size ≤ w'.heap.size
  heap : ∀ (b : Nat) (cs : Array Value) (t : TypeId), w.heap[b]? = some (.cells cs t (0, 0)) → Else t → w'.heap[b]? = some (.cells cs t (0, 0))
theorem Aside.of_no {base : Nat} {w w' : World} (k : Keep No w w') : Aside base w w' := ⟨fun _w0 _ k0 => k0.then k, k.size, fun _b _cs _t h _ => k.heap h (fun e => e)⟩
theorem Aside.trans {base : Nat} {a b c : World} (h : Aside base a b) (k : Aside base b c) : Aside base a c := ⟨fun w0 h0 k0 => k.keep w0 h0 (h.keep w0 h0 k0), Nat.le_trans h.size k.size, fun x cs t hx ht => k.heap x cs t (h.heap x cs t hx ht) ht⟩
theorem LReady.aside [bn : Inhabited Ban] {base : Nat} {w w' : World} {q g m p n s width : Nat} {lv wv sgv rlv : Value} {size : Int} {ss : List SegL} {ts : List LRec} {d : DiskS} {L : LedS} (h : LReady base w q g m lv p n s wv sgv rlv width size ss ts d L)
    (k : Keep (lrfoot q g m lv p n s wv sgv rlv) w w') : Aside base w w' :=
  ⟨fun _w0 h0 k0 => k0.absorb k (fun x hx => Nat.le_trans h0 (h.foot x hx).1), k.size, fun _b _cs _t hz ht => k.heap hz (h.notCells hz ht)⟩
theorem ItsAt.aside [bn : Inhabited Ban] {base B : Nat} {w w' : World} {v : Value} {l : List ItemS} {q g m p n s width : Nat} {lv wv sgv rlv : Value} {size : Int} {ss : List SegL} {ts : List LRec} {d : DiskS} {L : LedS} (h : ItsAt base w B v l) (hr : LReady base w q g m lv p n s wv sgv rlv width size ss ts d L)
    (k : Keep (lrfoot q g m lv p n s wv sgv rlv) w w') : ItsAt base w' B v l :=
  h.keep hr.foot k (fun b hb hf => by obtain ⟨_, cur, hc⟩ := h.kind b hb; exact hr.notCells hc (by decide) hf)
theorem putR_len {L : LedS} {a b : Nat} {l : List ItemS} {r : LRec} (h : L.putR a b l = some r) (ha : a < 16) (hr : rightB b l = true) {M : Nat} (hl8 : l.length ≤ 8) (_hM : M ≤ 40) (hbl : ∀ x ∈ l, x.s.body.length ≤ M) : r.bytes.length ≤ 31 + l.length * (M + 21) := by
  unfold LedS.putR at h
  split at h
  · cases h
  · cases h
    obtain ⟨hright, hb61⟩ := (rightB_iff b l).1 hr
    have s1 := (pick_sub ((L.win a).skip b) l).length_le
    have s2 := fun x hx => (pick_sub ((L.win a).skip b) l).subset (a := x) hx
    generalize pick ((L.win a).skip b) l = t at *
    have h1 := itemsB_le (l := t) (N := M) (fun x hx => ⟨hright x (s2 x hx), hbl x (s2 x hx)⟩)
    have h2 := numB_len64 (n := a) (by omega)
    have h3 := numB_len64 (n := b) (by omega)
    have h4 := numB_len64 (n := t.length) (by omega)
    have h5 : t.length * (M + 21) ≤ l.length * (M + 21) := Nat.mul_le_mul_right _ s1
    simp only [LRec.bytes, List.length_cons, List.length_append]
    generalize t.length * (M + 21) = y at *
    generalize l.length * (M + 21) = z at *
    omega
/-- What a Put leaves. -/
def PutLed [bn : Inhabited Ban] (base : Nat) (w' : World) (q p width : Nat) (size : Int) (ts : List LRec) (d : DiskS) (L : LedS) (k0 N : Nat) : Option LRec → Prop
  | none => Led base w' q p width size ts d L k0
  | some r => ∃ d', Led base w' q p width size (ts ++ [r]) d' (L.step r) (k0 + 1) ∧ msum d'.now ≤ msum d.now + (N + 20) ∧ d'.room = d.room
theorem wrote_room {d : DiskS} {size : Int} {ss : List SegL} {r : LRec} {N : Nat} (h : r.bytes.length ≤ N) : msum (d.wrote size ss r).now ≤ msum d.now + (N + 20) ∧ (d.wrote size ss r).room = d.room := by
  refine ⟨?_, rfl⟩
  have h1 := (appB_length (logD size ss) r.bytes).1
  have h2 : msum (d.wrote size ss r).now = msum d.now + (appB (logD size ss) r.bytes).length := msum_put _ _ _
  omega
theorem put_led [bn : Inhabited Ban] {base B0 : Nat} {w : World} {q p width k0 a b : Nat} {iv : Value} {size : Int} {ts : List LRec} {d : DiskS} {L : LedS} {l : List ItemS} {M N : Nat}
    (h : Led base w q p width size ts d L k0) (ha : a < 16) (hits : ItsAt base w B0 iv l) (hr : rightB b l = true) (hl8 : l.length ≤ 8) (hM : M ≤ 40) (hbl : ∀ x ∈ l, x.s.body.length ≤ M) (hN : 31 + l.length * (M + 21) ≤ N) (hts : ts.length ≤ 1000) (hrec : L.recs.length ≤ 1073741824)
    (hb : base ≤ w.heap.size) (hT : ban.top ≤ w.heap.size) (hroom : (msum d.now : Int) + N + 20 ≤ d.room) :
    Calls Tryz.prog 24 #[.pointer (some ⟨q, 0, none⟩), .int .i64 a, .int .u64 b, iv] w fun e w' =>
      ∃ tv, e = .returned (.tuple #[tv, .int .i64 0]) ∧ OwnN w' w.heap.size tv ((pick ((L.win a).skip b) l).map (·.n)) ∧ ItsAt base w' B0 iv l ∧ PutLed base w' q p width size ts d L k0 N (L.putR a b l) ∧ Aside base w w' := by
  obtain ⟨g, m, lv, n, s, wv, sgv, rlv, ss, h, hk⟩ := h
  refine (gPut_spec h ha hits hr hl8 (fun x hx => Nat.le_trans (hbl x hx) hM) hts hrec hb hT (fun r hp => by
    have h1 := Nat.le_trans (putR_len hp ha hr hl8 hM hbl) hN
    have h2 := (appB_length (logD size ss) r.bytes).1
    omega)).mono ?_
  rintro e w' ⟨tv, rfl, hown, hpost⟩
  refine ⟨tv, rfl, hown, ?_⟩
  have hlen := fun r hp => Nat.le_trans (putR_len (L := L) (a := a) (b := b) (l := l) (r := r) hp ha hr hl8 hM hbl) hN
  generalize L.putR a b l = o at *
  cases o with
  | none => exact ⟨hits.no hpost, ⟨g, m, lv, n, s, wv, sgv, rlv, ss, h.no hpost, hk⟩, Aside.of_no hpost⟩
  | some r =>
    obtain ⟨lv', n', s', wv', sgv', rlv', ss', h', hss, k, _⟩ := hpost
    have hw := wrote_room (d := d) (size := size) (ss := ss) (hlen r rfl)
    exact ⟨hits.aside h k, ⟨_, ⟨g, m, lv', n', s', wv', sgv', rlv', ss', h', by omega⟩, hw.1, hw.2⟩, h.aside k⟩
/-- Open on a disk just laid. -/
theorem open_led [bn : Inhabited Ban] {base : Nat} {w : World} {p n s width : Nat} {wv : Value} {d : DiskS} {size : Int} (hd : DiskAt base w p n s wv d) (hnow : d.now = []) (hfull : d.full = false) (hr0 : 100 ≤ d.room) (hr1 : d.room ≤ 1000000) (hwait : d.wait.length ≤ 2)
    (hw : 1 ≤ width ∧ width ≤ 1024) (hz : 1 ≤ size) (hb : base ≤ w.heap.size) (hT : ban.top ≤ w.heap.size) :
    Calls Tryz.prog 20 #[.pointer (some ⟨p, 0, none⟩), .agg #[.int .u64 width, .int .i64 size]] w fun e w' => ∃ q d', e = .returned (.tuple #[.pointer (some ⟨q, 0, none⟩), .int .i64 0]) ∧ Led base w' q p width size [.inc 1] d' (((LedS.start width).step (.inc 1)).sync) 1 ∧ d'.room = d.room ∧ msum d'.now ≤ 22 ∧
      (∀ w0 : World, w0.heap.size ≤ base → Keep No w0 w → Keep No w0 w') ∧ w.heap.size ≤ w'.heap.size ∧ Keep (foot p n s wv) w w' := by
  refine (gOpen_new hd hnow hfull hr0 hr1 hwait hw hz hb hT).mono ?_
  rintro e w' ⟨q, rfl, g, m, ⟨lv, n', s', wv', sgv, rlv, ss, hR, hss, k, ho⟩, hq⟩
  refine ⟨q, _, rfl, ⟨g, m, lv, n', s', wv', sgv, rlv, ss, hR, hss⟩, rfl, ?_, fun w0 h0 k0 => k0.absorb k (fun x hx => Nat.le_trans h0 (hd.foot_ok x hx).1), k.size, k⟩
  have h1 := (appB_length (logD size []) (LRec.inc 1).bytes).1
  have h2 : msum ((d.wrote size [] (.inc 1)).sync).now = msum d.now + (appB (logD size []) (LRec.inc 1).bytes).length := msum_put _ _ _
  have h3 : (LRec.inc 1).bytes.length = 2 := by rw [incB, numB_lt (by decide)]; rfl
  rw [h2, hnow]
  show 0 + _ ≤ 22
  omega
end Go.Proofs.YtfdmbomlkpkegaaGreat

/-! ## LedK -/
namespace Go.Proofs.YtfdmbomlkpkegaaGreat

/-- The ledger behind a Put. -/
def LedS.putL (L : LedS) (a b : Nat) (l : List ItemS) : LedS := match L.putR a b l with
  | none => L
  | some r => L.step r
structure PutIs (L : LedS) (a b : Nat) (l : List ItemS) (M : LedS) : Prop where
  here : M.win a = ((L.win a).skip b).putAll (pick ((L.win a).skip b) l)
  other : ∀ c, c ≠ a → M.win c = L.win c
  recs : M.recs = L.recs ++ (pick ((L.win a).skip b) l).map (fun x => ⟨a, x.n, x.s⟩)
  floor : ∀ c, M.floor c = L.floor c
theorem putL_is {width a b : Nat} {L : LedS} {l : List ItemS} (h : L.Ok width) (ha : a < 16) : PutIs L a b l (L.putL a b l) := by
  obtain ⟨g, hg, _, hgw, _⟩ := h.at ha
  unfold LedS.putL LedS.putR
  by_cases hc : pick ((L.win a).skip b) l = [] ∧ (L.win a).skip b = L.win a
  · rw [if_pos hc]
    refine ⟨?_, fun _ _ => rfl, ?_, fun _ => rfl⟩
    · rw [hc.1, hc.2]; rfl
    · rw [hc.1]; simp
  · rw [if_neg hc]
    have hw : ∀ c, (L.step (.put a b (pick ((L.win a).skip b) l))).win c = if a = c then (g.now.skip b).putAll (pick ((L.win a).skip b) l) else L.win c := fun c => by
      unfold LedS.step
      simp only
      unfold LedS.win
      simp only [List.getElem?_modify]
      by_cases hb : a = c
      · subst hb; simp [hg]
      · simp [hb]
    refine ⟨?_, fun c hn => ?_, rfl, fun c => ?_⟩
    · show LedS.win (L.step _) a = _
      rw [hw, if_pos rfl, hgw]
    · show LedS.win (L.step _) c = _
      rw [hw, if_neg (fun e => hn e.symm)]
    · show LedS.floor (L.step _) c = _
      unfold LedS.step
      simp only
      unfold LedS.floor
      simp only [List.getElem?_modify]
      by_cases hb : a = c
      · subst hb; simp [hg]
      · simp [hb]
theorem LedS.Ok.fine {width a : Nat} {L : LedS} (h : L.Ok width) (ha : a < 16) : (L.win a).Fine width := by
  obtain ⟨g, _, hgo, hgw, _⟩ := h.at ha
  rw [hgw]
  exact hgo.fine
/-- Who is above the window's end isn't had. -/
theorem WinS.Ok.not_low {w : WinS} (h : w.Ok) : ¬ w.Had (w.low + 1) := by
  rintro (a | a)
  · omega
  · have := (h.above _ a).1; omega
theorem WinS.Ok.skip_low {w : WinS} (h : w.Ok) {b : Nat} (hb : b ≤ 4611686018427387904) : b ≤ (w.skip b).low + 1 := by
  obtain ⟨h1, _, _, h4⟩ := h.skip hb
  rcases Nat.lt_or_ge ((w.skip b).low + 1) b with hlt | hge
  · exact (h1.not_low ((h4 _).2 (.inr hlt))).elim
  · exact hge
theorem skip_id {w : WinS} {b : Nat} (h : b ≤ w.low + 1) : w.skip b = w := by unfold WinS.skip; rw [if_pos h]
theorem putAll_low {width : Nat} : ∀ {l : List ItemS} {w : WinS}, w.Fine width → (∀ x ∈ l, x.n < 2305843009213693952) → w.low ≤ (w.putAll l).low
  | [], _, _, _ => Nat.le_refl _
  | x :: l, w, h, hl => Nat.le_trans (h.ok.put (n := x.n) (by have := hl x (by simp); omega)).2.2.1 (putAll_low (l := l) (w := w.put x.n) (h.put (hl x (by simp))) (fun y hy => hl y (by simp [hy])))

/-! ### LedgerWindows -/
/-- Of who was skipped: all that are done above that are kept. -/
structure KeptAll (L : LedS) (sk : Nat → Nat) : Prop where
  low : ∀ a, a < 16 → sk a ≤ (L.win a).low + 1
  kept : ∀ a, a < 16 → ∀ n, 1 ≤ n → sk a ≤ n → (L.win a).Had n → ∃ r ∈ L.recs, r.who = a ∧ r.n = n
theorem KeptAll.start {width : Nat} (k : Nat) : KeptAll (((LedS.start width).step (.inc k)).sync) (fun _ => 0) := by
  refine ⟨fun _ _ => Nat.zero_le _, fun a ha n h1 _ hh => ?_⟩
  have e : (((LedS.start width).step (.inc k)).sync).win a = WinS.new width := by
    have hg : (((LedS.start width).step (.inc k)).sync).ag[a]? = some ⟨0, WinS.new width, WinS.new width⟩ := by
      show (List.map _ (List.replicate 16 _))[a]? = _
      rw [List.getElem?_map, List.getElem?_replicate, if_pos ha]
      rfl
    unfold LedS.win
    rw [hg]
  rw [e] at hh
  rcases hh with hh | hh
  · have : n ≤ 0 := hh
    omega
  · exact (HasR.nil _ hh).elim
def raised (sk : Nat → Nat) (a b : Nat) : Nat → Nat := fun c => if c = a then max (sk a) b else sk c
theorem KeptAll.put {width a b : Nat} {L : LedS} {l : List ItemS} {sk : Nat → Nat} (h : KeptAll L sk) (hok : L.Ok width) (ha : a < 16) (hr : rightB b l = true) : KeptAll (L.putL a b l) (raised sk a b) := by
  have hp := putL_is (b := b) (l := l) hok ha
  obtain ⟨hright, hb61⟩ := (rightB_iff b l).1 hr
  have hf := hok.fine ha
  have hsk := hf.skip (b := b) (by omega)
  have hln : ∀ x ∈ pick ((L.win a).skip b) l, x.n < 2305843009213693952 := fun x hx => (hright x ((pick_sub _ _).subset hx)).1
  have hhad := putAll_had hsk hln (pick_allIn _ _)
  have hs := hf.ok.skip (b := b) (by omega)
  have hlow := putAll_low hsk hln
  have hbl := hf.ok.skip_low (b := b) (by omega)
  refine ⟨fun c hc => ?_, fun c hc n h1 hn hh => ?_⟩
  · unfold raised
    by_cases he : c = a
    · subst he
      rw [if_pos rfl, hp.here]
      have := h.low c hc
      omega
    · rw [if_neg he, hp.other c he]
      exact h.low c hc
  · unfold raised at hn
    rw [hp.recs]
    by_cases he : c = a
    · subst he
      rw [if_pos rfl] at hn
      rw [hp.here, hhad, hs.2.2.2] at hh
      rcases hh with (hh | hh) | ⟨x, hx, hxn⟩
      · obtain ⟨r, hr1, hr2⟩ := h.kept c hc n h1 (by omega) hh
        exact ⟨r, List.mem_append_left _ hr1, hr2⟩
      · omega
      · exact ⟨_, List.mem_append_right _ (List.mem_map.2 ⟨x, hx, rfl⟩), rfl, hxn⟩
    · rw [if_neg he] at hn
      rw [hp.other c he] at hh
      obtain ⟨r, hr1, hr2⟩ := h.kept c hc n h1 hn hh
      exact ⟨r, List.mem_append_left _ hr1, hr2⟩
theorem KeptAll.at {L : LedS} {sk : Nat → Nat} (h : KeptAll L sk) {a n : Nat} (ha : a < 16) (h1 : 1 ≤ n) (hn : sk a ≤ n) (hh : (L.win a).Had n) : ∃ j r, posR L.recs (a : Int) n = some j ∧ L.recs[j]? = some r := by
  obtain ⟨r, hr, e1, e2⟩ := h.kept a ha n h1 hn hh
  obtain ⟨j, hj⟩ := posR_mem hr
  rw [e1, e2] at hj
  obtain ⟨r', hr', _⟩ := posR_some hj
  exact ⟨j, r', hj, hr'⟩
theorem sizeR_le : ∀ {l : List RunN} {a N : Nat}, RSet l → (∀ r ∈ l, a ≤ r.1 ∧ r.2 < a + N) → sizeR l ≤ N
  | [], a, N, _, _ => Nat.zero_le _
  | r :: l, a, N, h, hb => by
    have hr := hb r (by simp)
    have h1 := (h.run r (by simp)).1
    have := sizeR_le (l := l) (a := r.2 + 2) (N := a + N - (r.2 + 2)) h.tail (fun x hx => by
      have h2 := h.head x hx
      have h3 := hb x (by simp [hx])
      have h4 := (h.run x (by simp [hx])).1
      omega)
    show r.2 - r.1 + 1 + sizeR l ≤ N
    rcases l with _ | ⟨y, l⟩
    · show r.2 - r.1 + 1 + 0 ≤ N
      omega
    · have h2 := h.head y (by simp)
      have h3 := hb y (by simp)
      have h4 := (h.run y (by simp)).1
      omega
theorem WinS.Ok.size {w : WinS} (h : w.Ok) : sizeR w.set < w.width := by
  have hw := h.width
  have := sizeR_le (a := w.low + 2) (N := w.width - 1) h.set (fun r hr => by
    have h1 := h.above _ (h.set.first hr)
    have h2 := h.above _ (h.set.last hr)
    omega)
  omega

/-! ### LedgerParts -/
end Go.Proofs.YtfdmbomlkpkegaaGreat

/-! ## LedH -/
namespace Go.Proofs.YtfdmbomlkpkegaaGreat
open Go Go.RowKit Go.Dr Go.Shelf

def LedFt [bn : Inhabited Ban] (base : Nat) (w : World) (q p width : Nat) (size : Int) (ts : List LRec) (d : DiskS) (L : LedS) (k0 : Nat) (F : Nat → Prop) : Prop :=
  ∃ g m lv n s wv sgv rlv ss, LReady base w q g m lv p n s wv sgv rlv width size ss ts d L ∧ ss.length ≤ k0 ∧ F = lrfoot q g m lv p n s wv sgv rlv
section
variable [bn : Inhabited Ban] {base : Nat} {w w' : World} {q p width k0 : Nat} {size : Int} {ts : List LRec} {d : DiskS} {L : LedS} {F : Nat → Prop}
theorem LedFt.foot (h : LedFt base w q p width size ts d L k0 F) : Foot base w F := by
  obtain ⟨g, m, lv, n, s, wv, sgv, rlv, ss, h, hk, rfl⟩ := h
  exact h.foot
theorem LedFt.footR (h : LedFt base w q p width size ts d L k0 F) : FootR w F := by
  obtain ⟨g, m, lv, n, s, wv, sgv, rlv, ss, h, hk, rfl⟩ := h
  exact h.footR
theorem LedFt.not (h : LedFt base w q p width size ts d L k0 F) {b : Nat} {cs : Array Value} {t : TypeId} (hz : w.heap[b]? = some (.cells cs t (0, 0))) (ht : Else t) : ¬ F b := by
  obtain ⟨g, m, lv, n, s, wv, sgv, rlv, ss, h, hk, rfl⟩ := h
  exact h.notCells hz ht
theorem LedFt.keep {G : Nat → Prop} (h : LedFt base w q p width size ts d L k0 F) (hG : Foot base w G) (hR : FootR w G) (k : Keep G w w') (hn : ∀ b, F b → ¬ G b) : LedFt base w' q p width size ts d L k0 F := by
  obtain ⟨g, m, lv, n, s, wv, sgv, rlv, ss, h, hk, rfl⟩ := h
  exact ⟨g, m, lv, n, s, wv, sgv, rlv, ss, h.keep hG hR k hn, hk, rfl⟩
theorem LedFt.no (h : LedFt base w q p width size ts d L k0 F) (k : Keep No w w') : LedFt base w' q p width size ts d L k0 F := h.keep (Foot.no _ _) (FootR.no _) k (fun _ _ e => e)
theorem LedFt.at (h : LedFt base w q p width size ts d L k0 F) : ∃ g m lv, LedAt base w q g m lv L := by
  obtain ⟨g, m, lv, n, s, wv, sgv, rlv, ss, h, hk, _⟩ := h
  exact ⟨g, m, lv, h.led⟩
theorem LedFt.ok (h : LedFt base w q p width size ts d L k0 F) : L.Ok width := by
  obtain ⟨g, m, lv, n, s, wv, sgv, rlv, ss, h, hk, _⟩ := h
  exact h.ok
/-- One block of another type is written. -/
theorem LedFt.one (h : LedFt base w q p width size ts d L k0 F) {c : Nat} {cs : Array Value} {t : TypeId} (hz : w.heap[c]? = some (.cells cs t (0, 0))) (hb : base ≤ c) (ht : Else t) (hr : t ≠ 96) (h8 : t ≠ 5) (k : Keep (· = c) w w') : LedFt base w' q p width size ts d L k0 F :=
  h.keep (fun b hb' => by have e : b = c := hb'; subst e; exact ⟨hb, heap_lt hz, fun cs fr e => by rw [hz] at e; simp at e; exact h8 e.2.1⟩) (FootR.block hz hr) k (fun b hf e => by have e : b = c := e; subst e; exact h.not hz ht hf)
end
/-- What a Put leaves. -/
structure PutFt [bn : Inhabited Ban] (base : Nat) (w w' : World) (q p width : Nat) (size : Int) (nts : Nat) (d : DiskS) (M : LedS) (k0 N : Nat) (F : Nat → Prop) : Prop where
  led : ∃ ts d' F', LedFt base w' q p width size ts d' M (k0 + 1) F' ∧ (∀ b, F' b → F b ∨ w.heap.size ≤ b) ∧ ts.length ≤ nts + 1 ∧ msum d'.now ≤ msum d.now + (N + 20) ∧ d'.room = d.room
  keep : Keep F w w'
/-- Open on a disk just laid. -/
theorem open_ft [bn : Inhabited Ban] {base : Nat} {w : World} {p n s width : Nat} {wv : Value} {d : DiskS} {size : Int} (hd : DiskAt base w p n s wv d) (hnow : d.now = []) (hfull : d.full = false) (hr0 : 100 ≤ d.room) (hr1 : d.room ≤ 1000000) (hwait : d.wait.length ≤ 2)
    (hw : 1 ≤ width ∧ width ≤ 1024) (hz : 1 ≤ size) (hb : base ≤ w.heap.size) (hT : ban.top ≤ w.heap.size) :
    Calls Tryz.prog 20 #[.pointer (some ⟨p, 0, none⟩), .agg #[.int .u64 width, .int .i64 size]] w fun e w' => ∃ q d' F, e = .returned (.tuple #[.pointer (some ⟨q, 0, none⟩), .int .i64 0]) ∧ LedFt base w' q p width size [.inc 1] d' (((LedS.start width).step (.inc 1)).sync) 1 F ∧ d'.room = d.room ∧ msum d'.now ≤ 22 ∧
      (∀ b, F b → foot p n s wv b ∨ w.heap.size ≤ b) ∧ Keep (foot p n s wv) w w' ∧ d'.wait = [] ∧ d'.safe = d'.now := by
  refine (gOpen_new hd hnow hfull hr0 hr1 hwait hw hz hb hT).mono ?_
  rintro e w' ⟨q, rfl, g, m, ⟨lv, n', s', wv', sgv, rlv, ss, hR, hss, k, ho⟩, hq⟩
  refine ⟨q, _, _, rfl, ⟨g, m, lv, n', s', wv', sgv, rlv, ss, hR, hss, rfl⟩, rfl, ?_, ho, k, rfl, rfl⟩
  have h1 := (appB_length (logD size []) (LRec.inc 1).bytes).1
  have h2 : msum ((d.wrote size [] (.inc 1)).sync).now = msum d.now + (appB (logD size []) (LRec.inc 1).bytes).length := msum_put _ _ _
  have h3 : (LRec.inc 1).bytes.length = 2 := by rw [incB, numB_lt (by decide)]; rfl
  rw [h2, hnow]
  show 0 + _ ≤ 22
  omega
end Go.Proofs.YtfdmbomlkpkegaaGreat
