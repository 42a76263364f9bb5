/- The ledger with its log and disk, all that it holds out of sight; what the rows do with it. -/
import Derived.Test.YtgogfnafbeahoaaGreatLedE
namespace Go.Proofs.YtgogfnafbeahoaaGreat
open Go Go.RowKit Go.Dr Go.Shelf

def Led [bn : Inhabited Ban] (base : Nat) (w : World) (q p width : Nat) (size : Int) (ts : List LRec) (d : DiskS) (L : LedS) (k0 : Nat) : Prop :=
  ∃ g m lv n s wv sgv rlv ss, LReady base w q g m lv p n s wv sgv rlv width size ss ts d L ∧ ss.length ≤ k0
section
variable [bn : Inhabited Ban] {base : Nat} {w w' : World} {q p width k0 : Nat} {size : Int} {ts : List LRec} {d : DiskS} {L : LedS}
theorem Led.no (h : Led base w q p width size ts d L k0) (k : Keep No w w') : Led base w' q p width size ts d L k0 := by
  obtain ⟨g, m, lv, n, s, wv, sgv, rlv, ss, h, hk⟩ := h
  exact ⟨g, m, lv, n, s, wv, sgv, rlv, ss, h.no k, hk⟩
theorem Led.at (h : Led base w q p width size ts d L k0) : ∃ g m lv, LedAt base w q g m lv L := by
  obtain ⟨g, m, lv, n, s, wv, sgv, rlv, ss, h, hk⟩ := h
  exact ⟨g, m, lv, h.led⟩
theorem Led.ok (h : Led base w q p width size ts d L k0) : L.Ok width := by
  obtain ⟨g, m, lv, n, s, wv, sgv, rlv, ss, h, hk⟩ := h
  exact h.ok
end
/-- A type none of whose blocks a ledger holds. -/
def Else (t : TypeId) : Prop := t ≠ 110 ∧ t ≠ 84 ∧ t ≠ 127 ∧ t ≠ 129 ∧ t ≠ 122 ∧ t ≠ 213 ∧ t ≠ 49
instance (t : TypeId) : Decidable (Else t) := by unfold Else; infer_instance
/-- What a step of a ledger leaves: all that lay there ahead of the base, and the blocks of other types. -/
structure Aside (base : Nat) (w w' : World) : Prop where
  keep : ∀ w0 : World, w0.heap.size ≤ base → Keep No w0 w → Keep No w0 w'
  size : w.heap.size ≤ w'.heap.size
  heap : ∀ (b : Nat) (cs : Array Value) (t : TypeId), w.heap[b]? = some (.cells cs t (0, 0)) → Else t → w'.heap[b]? = some (.cells cs t (0, 0))
theorem Aside.of_no {base : Nat} {w w' : World} (k : Keep No w w') : Aside base w w' := ⟨fun _w0 _ k0 => k0.then k, k.size, fun _b _cs _t h _ => k.heap h (fun e => e)⟩
theorem Aside.trans {base : Nat} {a b c : World} (h : Aside base a b) (k : Aside base b c) : Aside base a c := ⟨fun w0 h0 k0 => k.keep w0 h0 (h.keep w0 h0 k0), Nat.le_trans h.size k.size, fun x cs t hx ht => k.heap x cs t (h.heap x cs t hx ht) ht⟩
theorem LReady.aside [bn : Inhabited Ban] {base : Nat} {w w' : World} {q g m p n s width : Nat} {lv wv sgv rlv : Value} {size : Int} {ss : List SegL} {ts : List LRec} {d : DiskS} {L : LedS} (h : LReady base w q g m lv p n s wv sgv rlv width size ss ts d L)
    (k : Keep (lrfoot q g m lv p n s wv sgv rlv) w w') : Aside base w w' :=
  ⟨fun _w0 h0 k0 => k0.absorb k (fun x hx => Nat.le_trans h0 (h.foot x hx).1), k.size, fun _b _cs _t hz ht => k.heap hz (h.notCells hz ht)⟩
theorem ItsAt.aside [bn : Inhabited Ban] {base B : Nat} {w w' : World} {v : Value} {l : List ItemS} {q g m p n s width : Nat} {lv wv sgv rlv : Value} {size : Int} {ss : List SegL} {ts : List LRec} {d : DiskS} {L : LedS} (h : ItsAt base w B v l) (hr : LReady base w q g m lv p n s wv sgv rlv width size ss ts d L)
    (k : Keep (lrfoot q g m lv p n s wv sgv rlv) w w') : ItsAt base w' B v l :=
  h.keep hr.foot k (fun b hb hf => by obtain ⟨_, cur, hc⟩ := h.kind b hb; exact hr.notCells hc (by decide) hf)
theorem putR_len {L : LedS} {a b : Nat} {l : List ItemS} {r : LRec} (h : L.putR a b l = some r) (ha : a < 16) (hr : rightB b l = true) {M : Nat} (hl8 : l.length ≤ 8) (_hM : M ≤ 40) (hbl : ∀ x ∈ l, x.s.body.length ≤ M) : r.bytes.length ≤ 31 + l.length * (M + 21) := by
  unfold LedS.putR at h
  split at h
  · cases h
  · cases h
    obtain ⟨hright, hb61⟩ := (rightB_iff b l).1 hr
    have s1 := (pick_sub ((L.win a).skip b) l).length_le
    have s2 := fun x hx => (pick_sub ((L.win a).skip b) l).subset (a := x) hx
    generalize pick ((L.win a).skip b) l = t at *
    have h1 := itemsB_le (l := t) (N := M) (fun x hx => ⟨hright x (s2 x hx), hbl x (s2 x hx)⟩)
    have h2 := numB_len64 (n := a) (by omega)
    have h3 := numB_len64 (n := b) (by omega)
    have h4 := numB_len64 (n := t.length) (by omega)
    have h5 : t.length * (M + 21) ≤ l.length * (M + 21) := Nat.mul_le_mul_right _ s1
    simp only [LRec.bytes, List.length_cons, List.length_append]
    generalize t.length * (M + 21) = y at *
    generalize l.length * (M + 21) = z at *
    omega
/-- What a Put leaves. -/
def PutLed [bn : Inhabited Ban] (base : Nat) (w' : World) (q p width : Nat) (size : Int) (ts : List LRec) (d : DiskS) (L : LedS) (k0 N : Nat) : Option LRec → Prop
  | none => Led base w' q p width size ts d L k0
  | some r => ∃ d', Led base w' q p width size (ts ++ [r]) d' (L.step r) (k0 + 1) ∧ msum d'.now ≤ msum d.now + (N + 20) ∧ d'.room = d.room
theorem wrote_room {d : DiskS} {size : Int} {ss : List SegL} {r : LRec} {N : Nat} (h : r.bytes.length ≤ N) : msum (d.wrote size ss r).now ≤ msum d.now + (N + 20) ∧ (d.wrote size ss r).room = d.room := by
  refine ⟨?_, rfl⟩
  have h1 := (appB_length (logD size ss) r.bytes).1
  have h2 : msum (d.wrote size ss r).now = msum d.now + (appB (logD size ss) r.bytes).length := msum_put _ _ _
  omega
theorem put_led [bn : Inhabited Ban] {base B0 : Nat} {w : World} {q p width k0 a b : Nat} {iv : Value} {size : Int} {ts : List LRec} {d : DiskS} {L : LedS} {l : List ItemS} {M N : Nat}
    (h : Led base w q p width size ts d L k0) (ha : a < 16) (hits : ItsAt base w B0 iv l) (hr : rightB b l = true) (hl8 : l.length ≤ 8) (hM : M ≤ 40) (hbl : ∀ x ∈ l, x.s.body.length ≤ M) (hN : 31 + l.length * (M + 21) ≤ N) (hts : ts.length ≤ 1000) (hrec : L.recs.length ≤ 1073741824)
    (hb : base ≤ w.heap.size) (hT : ban.top ≤ w.heap.size) (hroom : (msum d.now : Int) + N + 20 ≤ d.room) :
    Calls Tryz.prog 13 #[.pointer (some ⟨q, 0, none⟩), .int .i64 a, .int .u64 b, iv] w fun e w' =>
      ∃ tv, e = .returned (.tuple #[tv, .int .i64 0]) ∧ OwnN w' w.heap.size tv ((pick ((L.win a).skip b) l).map (·.n)) ∧ ItsAt base w' B0 iv l ∧ PutLed base w' q p width size ts d L k0 N (L.putR a b l) ∧ Aside base w w' := by
  obtain ⟨g, m, lv, n, s, wv, sgv, rlv, ss, h, hk⟩ := h
  refine (gPut_spec h ha hits hr hl8 (fun x hx => Nat.le_trans (hbl x hx) hM) hts hrec hb hT (fun r hp => by
    have h1 := Nat.le_trans (putR_len hp ha hr hl8 hM hbl) hN
    have h2 := (appB_length (logD size ss) r.bytes).1
    omega)).mono ?_
  rintro e w' ⟨tv, rfl, hown, hpost⟩
  refine ⟨tv, rfl, hown, ?_⟩
  have hlen := fun r hp => Nat.le_trans (putR_len (L := L) (a := a) (b := b) (l := l) (r := r) hp ha hr hl8 hM hbl) hN
  generalize L.putR a b l = o at *
  cases o with
  | none => exact ⟨hits.no hpost, ⟨g, m, lv, n, s, wv, sgv, rlv, ss, h.no hpost, hk⟩, Aside.of_no hpost⟩
  | some r =>
    obtain ⟨lv', n', s', wv', sgv', rlv', ss', h', hss, k, _⟩ := hpost
    have hw := wrote_room (d := d) (size := size) (ss := ss) (hlen r rfl)
    exact ⟨hits.aside h k, ⟨_, ⟨g, m, lv', n', s', wv', sgv', rlv', ss', h', by omega⟩, hw.1, hw.2⟩, h.aside k⟩
/-- Open on a disk just laid. -/
theorem open_led [bn : Inhabited Ban] {base : Nat} {w : World} {p n s width : Nat} {wv : Value} {d : DiskS} {size : Int} (hd : DiskAt base w p n s wv d) (hnow : d.now = []) (hfull : d.full = false) (hr0 : 100 ≤ d.room) (hr1 : d.room ≤ 1000000) (hwait : d.wait.length ≤ 2)
    (hw : 1 ≤ width ∧ width ≤ 1024) (hz : 1 ≤ size) (hb : base ≤ w.heap.size) (hT : ban.top ≤ w.heap.size) :
    Calls Tryz.prog 31 #[.pointer (some ⟨p, 0, none⟩), .agg #[.int .u64 width, .int .i64 size]] w fun e w' => ∃ q d', e = .returned (.tuple #[.pointer (some ⟨q, 0, none⟩), .int .i64 0]) ∧ Led base w' q p width size [.inc 1] d' (((LedS.start width).step (.inc 1)).sync) 1 ∧ d'.room = d.room ∧ msum d'.now ≤ 22 ∧
      (∀ w0 : World, w0.heap.size ≤ base → Keep No w0 w → Keep No w0 w') ∧ w.heap.size ≤ w'.heap.size ∧ Keep (foot p n s wv) w w' := by
  refine (gOpen_new hd hnow hfull hr0 hr1 hwait hw hz hb hT).mono ?_
  rintro e w' ⟨q, rfl, g, m, ⟨lv, n', s', wv', sgv, rlv, ss, hR, hss, k, ho⟩, hq⟩
  refine ⟨q, _, rfl, ⟨g, m, lv, n', s', wv', sgv, rlv, ss, hR, hss⟩, rfl, ?_, fun w0 h0 k0 => k0.absorb k (fun x hx => Nat.le_trans h0 (hd.foot_ok x hx).1), k.size, k⟩
  have h1 := (appB_length (logD size []) (LRec.inc 1).bytes).1
  have h2 : msum ((d.wrote size [] (.inc 1)).sync).now = msum d.now + (appB (logD size []) (LRec.inc 1).bytes).length := msum_put _ _ _
  have h3 : (LRec.inc 1).bytes.length = 2 := by rw [incB, numB_lt (by decide)]; rfl
  rw [h2, hnow]
  show 0 + _ ≤ 22
  omega
end Go.Proofs.YtgogfnafbeahoaaGreat
