/- The ledger over its log and its disk; write. -/
import Derived.Test.YtgogfnafbeahoaaGreatLedV
namespace Go.Proofs.YtgogfnafbeahoaaGreat
open Go Go.RowKit Go.Dr

/-! ### What records tell -/
def told (width : Nat) (ts : List LRec) : LedS := ts.foldl LedS.step (LedS.start width)
def LedS.now (L : LedS) : List (Nat × WinS) := L.ag.map (fun g => (g.floor, g.now))
structure Tells (width : Nat) (ts : List LRec) (L : LedS) : Prop where
  inc : L.inc = (told width ts).inc
  recs : L.recs = (told width ts).recs
  now : L.now = (told width ts).now
  can : ∀ (k : Nat) r, ts[k]? = some r → (told width (ts.take k)).can r
theorem LedS.win_now (L : LedS) (a : Nat) : L.win a = ((L.now[a]?).map (·.2)).getD ⟨0, 0, []⟩ := by
  unfold LedS.win LedS.now
  rw [List.getElem?_map]
  cases L.ag[a]? <;> rfl
theorem LedS.floor_now (L : LedS) (a : Nat) : L.floor a = ((L.now[a]?).map (·.1)).getD 0 := by
  unfold LedS.floor LedS.now
  rw [List.getElem?_map]
  cases L.ag[a]? <;> rfl
theorem LedS.can_of {L T : LedS} (h1 : L.inc = T.inc) (h2 : L.now = T.now) {r : LRec} (h : L.can r) : T.can r := by
  cases r with
  | inc n => exact ⟨by rw [← h1]; exact h.1, h.2⟩
  | floor a n => exact ⟨h.1, by rw [LedS.floor_now, ← h2, ← LedS.floor_now]; exact h.2.1, h.2.2⟩
  | put a b l => exact ⟨h.1, h.2.1, h.2.2.1, h.2.2.2.1, by rw [LedS.win_now, ← h2, ← LedS.win_now]; exact h.2.2.2.2⟩
theorem map_modify {α β : Type} (f : α → β) (g : α → α) (g' : β → β) (h : ∀ x, f (g x) = g' (f x)) (l : List α) (i : Nat) : (l.modify i g).map f = (l.map f).modify i g' := by
  apply List.ext_getElem?
  intro j
  rw [List.getElem?_map, List.getElem?_modify, List.getElem?_modify, List.getElem?_map]
  by_cases e : i = j
  · simp only [if_pos e]
    cases l[j]? with
    | none => rfl
    | some x => simp [h]
  · simp only [if_neg e]
    cases l[j]? <;> simp
theorem LedS.now_step (L : LedS) (r : LRec) : (L.step r).now = match r with
    | .inc _ => L.now
    | .floor a n => L.now.modify a (fun x => (n, x.2))
    | .put a b l => L.now.modify a (fun x => (x.1, (x.2.skip b).putAll l)) := by
  cases r with
  | inc n => rfl
  | floor a n => exact map_modify (fun g : AgS => (g.floor, g.now)) (fun g => { g with floor := n }) (fun x => (n, x.2)) (fun _ => rfl) L.ag a
  | put a b l => exact map_modify (fun g : AgS => (g.floor, g.now)) (fun g => { g with now := (g.now.skip b).putAll l }) (fun x => (x.1, (x.2.skip b).putAll l)) (fun _ => rfl) L.ag a
theorem told_snoc (width : Nat) (ts : List LRec) (r : LRec) : told width (ts ++ [r]) = (told width ts).step r := by simp [told]
theorem Tells.push {width : Nat} {ts : List LRec} {L : LedS} (h : Tells width ts L) {r : LRec} (hc : L.can r) : Tells width (ts ++ [r]) (L.step r) := by
  refine ⟨?_, ?_, ?_, fun k x hx => ?_⟩
  · rw [told_snoc]
    cases r <;> simp [LedS.step, h.inc]
  · rw [told_snoc]
    cases r <;> simp [LedS.step, h.recs]
  · rw [told_snoc, LedS.now_step, LedS.now_step, h.now]
  · by_cases hk : k < ts.length
    · rw [List.getElem?_append_left hk] at hx
      rw [List.take_append_of_le_length (by omega)]
      exact h.can k x hx
    · rw [List.getElem?_append_right (by omega)] at hx
      have h0 := (List.getElem?_eq_some_iff.1 hx).1
      simp at h0
      have hk0 : k - ts.length = 0 := by omega
      rw [hk0] at hx
      simp at hx
      subst hx
      rw [List.take_append_of_le_length (by omega), List.take_of_length_le (by omega)]
      exact LedS.can_of h.inc h.now hc
theorem Tells.sync {width : Nat} {ts : List LRec} {L : LedS} (h : Tells width ts L) : Tells width ts L.sync :=
  ⟨h.inc, h.recs, by rw [← h.now]; simp [LedS.now, LedS.sync], h.can⟩
theorem Tells.start (width : Nat) : Tells width [] (LedS.start width) := ⟨rfl, rfl, rfl, fun k r h => by simp at h⟩
def recsB7 (ts : List LRec) : List Bytes := ts.map LRec.bytes

theorem Ready.footR [bn : Inhabited Ban] {base : Nat} {w : World} {g p n s : Nat} {wv sv lv : Value} {size : Int} {ss : List SegL} {rs : List Bytes} {d : DiskS} (h : Ready base w g p n s wv sv lv size ss rs d) : FootR w (rfoot g p n s wv sv lv) := by
  rintro b (hb | hb) ⟨cs, fr, e⟩
  · rcases hb with rfl | rfl | rfl | hb
    · rw [h.dk.blk] at e; simp at e
    · obtain ⟨es, cl, hz, _⟩ := h.dk.now; rw [hz] at e; cases e
    · obtain ⟨es, cl, hz, _⟩ := h.dk.safe; rw [hz] at e; cases e
    · obtain ⟨_, cur, hz⟩ := h.dk.wait.kind b hb
      rw [hz] at e; simp at e
  · obtain ⟨_, cs', t, hz, ht⟩ := h.lg.kind hb
    rw [hz] at e; simp at e; obtain ⟨_, rfl, _⟩ := e
    rcases ht with ht | ht | ht <;> simp at ht
structure LReady [bn : Inhabited Ban] (base : Nat) (w : World) (q g m : Nat) (lv : Value) (p n s : Nat) (wv sgv rlv : Value) (width : Nat) (size : Int) (ss : List SegL) (ts : List LRec) (d : DiskS) (L : LedS) : Prop where
  led : LedAt base w q g m lv L
  rdy : Ready base w g p n s wv sgv rlv size ss (recsB7 ts) d
  ok : L.Ok width
  tl : Tells width ts L
  mn : m ≠ n
  ms : m ≠ s
section
variable [bn : Inhabited Ban] {base : Nat} {w w' : World} {q g m p n s width : Nat} {lv wv sgv rlv : Value} {size : Int} {ss : List SegL} {ts : List LRec} {rs : List Bytes} {d : DiskS} {L : LedS}
theorem apart16 (hl : LedAt base w q g m lv L) (hr : Ready base w g p n s wv sgv rlv size ss rs d) (hmn : m ≠ n) (hms : m ≠ s) : ∀ b, gfoot q m lv b → ¬ rfoot g p n s wv sgv rlv b := by
  intro b hb hf
  obtain ⟨_, h3⟩ := hl.kind hb
  rcases h3 with ⟨cs, t, hz, ht⟩ | ⟨es, clock, hz⟩
  · rcases hf with hf | hf
    · rcases hf with rfl | rfl | rfl | hf
      · rw [hr.dk.blk] at hz; simp at hz; obtain ⟨_, rfl⟩ := hz; rcases ht with ht | ht <;> simp at ht
      · obtain ⟨_, _, e, _⟩ := hr.dk.now; rw [hz] at e; cases e
      · obtain ⟨_, _, e, _⟩ := hr.dk.safe; rw [hz] at e; cases e
      · obtain ⟨_, cur, e⟩ := hr.dk.wait.kind b hf
        rw [hz] at e; simp at e; obtain ⟨_, rfl⟩ := e; rcases ht with ht | ht <;> simp at ht
    · obtain ⟨_, cs', t', e, ht'⟩ := hr.lg.kind hf
      rw [hz] at e; simp at e; obtain ⟨_, rfl⟩ := e
      rcases ht with rfl | rfl <;> rcases ht' with ht' | ht' | ht' <;> simp at ht'
  · have hbm : b = m := by
      rcases hb with rfl | hb | hb
      · obtain ⟨_, e, _⟩ := hl.blk; rw [hz] at e; cases e
      · exact hb
      · obtain ⟨_, cur, e⟩ := hl.recs.kind b hb; rw [hz] at e; cases e
    subst hbm
    rcases hf with hf | hf
    · rcases hf with rfl | hf | hf | hf
      · rw [hr.dk.blk] at hz; cases hz
      · exact hmn hf
      · exact hms hf
      · obtain ⟨_, cur, e⟩ := hr.dk.wait.kind b hf
        rw [hz] at e; cases e
    · obtain ⟨_, cs', t', e, ht'⟩ := hr.lg.kind hf
      rw [hz] at e; cases e
theorem Ready.keepF {F : Nat → Prop} (h : Ready base w g p n s wv sgv rlv size ss rs d) (hF : Foot base w F) (k : Keep F w w') (hn : ∀ b, rfoot g p n s wv sgv rlv b → ¬ F b) : Ready base w' g p n s wv sgv rlv size ss rs d :=
  ⟨h.lg.keep hF k (fun b hb => hn b (.inr hb)), h.dk.keep hF k (fun b hb => hn b (.inl hb)), h.on, h.few, h.full, h.room0, h.room1, h.used, h.wait⟩
def lrfoot (q g m : Nat) (lv : Value) (p n s : Nat) (wv sgv rlv : Value) : Nat → Prop := fun b => gfoot q m lv b ∨ rfoot g p n s wv sgv rlv b
theorem LReady.no (h : LReady base w q g m lv p n s wv sgv rlv width size ss ts d L) (k : Keep No w w') : LReady base w' q g m lv p n s wv sgv rlv width size ss ts d L := ⟨h.led.no k, h.rdy.no k, h.ok, h.tl, h.mn, h.ms⟩
theorem LReady.foot (h : LReady base w q g m lv p n s wv sgv rlv width size ss ts d L) : Foot base w (lrfoot q g m lv p n s wv sgv rlv) := fun b hb => hb.elim (h.led.foot b) (h.rdy.foot b)
theorem LReady.footR (h : LReady base w q g m lv p n s wv sgv rlv width size ss ts d L) : FootR w (lrfoot q g m lv p n s wv sgv rlv) := fun b hb => hb.elim (h.led.footR b) (h.rdy.footR b)
theorem LReady.keep {F : Nat → Prop} (h : LReady base w q g m lv p n s wv sgv rlv width size ss ts d L) (hF : Foot base w F) (hR : FootR w F) (k : Keep F w w') (hn : ∀ b, lrfoot q g m lv p n s wv sgv rlv b → ¬ F b) : LReady base w' q g m lv p n s wv sgv rlv width size ss ts d L :=
  ⟨h.led.keep hF hR k (fun b hb => hn b (.inl hb)), h.rdy.keepF hF k (fun b hb => hn b (.inr hb)), h.ok, h.tl, h.mn, h.ms⟩
end
/-- What a write leaves: the ledger over its log, in blocks of its own or new ones. -/
def LPost [bn : Inhabited Ban] (base : Nat) (w : World) (q g m : Nat) (p width : Nat) (size : Int) (ts : List LRec) (d : DiskS) (L : LedS) (k0 : Nat) (F : Nat → Prop) (w' : World) : Prop :=
  ∃ lv n s wv sgv rlv ss, LReady base w' q g m lv p n s wv sgv rlv width size ss ts d L ∧ ss.length ≤ k0 ∧ Keep F w w' ∧ ∀ b, lrfoot q g m lv p n s wv sgv rlv b → F b ∨ w.heap.size ≤ b
def DiskS.wrote (d : DiskS) (size : Int) (ss : List SegL) (r : LRec) : DiskS := d.put ⟨(appS (logD size ss)).n, appB (logD size ss) r.bytes, false⟩
set_option maxRecDepth 100000 in
set_option maxHeartbeats 2000000 in
theorem gWrite_spec [bn : Inhabited Ban] {base : Nat} {w : World} {q g m p n s width : Nat} {lv wv sgv rlv pv : Value} {size : Int} {ss : List SegL} {ts : List LRec} {d : DiskS} {L : LedS} {r : LRec}
    (h : LReady base w q g m lv p n s wv sgv rlv width size ss ts d L) (hp : BytesAt base w pv r.bytes) (hc : L.can r) (hlen : r.bytes.length ≤ 1000) (hts : ts.length ≤ 1000) (hrec : L.recs.length ≤ 1073741824) (hb : base ≤ w.heap.size) (hT : ban.top ≤ w.heap.size)
    (hroom : (msum d.now : Int) + (appB (logD size ss) r.bytes).length ≤ d.room) :
    Calls Tryz.prog 44 #[.pointer (some ⟨q, 0, none⟩), pv] w fun e w' => e = .returned (.int .i64 0) ∧ LPost base w q g m p width size (ts ++ [r]) (d.wrote size ss r) (L.step r) (ss.length + 1) (lrfoot q g m lv p n s wv sgv rlv) w' := by
  obtain ⟨po, pc, rfl⟩ := hp.form
  obtain ⟨_, c0, _⟩ := h.led.incCell
  have happ := ready_append h.rdy hb hT hp hlen (by simpa [recsB7] using hts) hroom
  obtain ⟨rl, hrl⟩ : ∃ rl, rl = r.bytes.length := ⟨_, rfl⟩
  rw [← hrl] at happ ⊢
  have HH := Lib.hid (And.intro h (And.intro hp (And.intro hc (And.intro hlen (And.intro hrec (And.intro hb (And.intro hT hrl)))))))
  clear h hp hc hlen hts hrec hb hT hroom hrl
  go_enter Tryz.func44, Tryz.ntmps44
  go_wp2_with fail
  refine happ.mono ?_
  rintro e w1 ⟨rfl, n', s', wv', sv', lv', ss', hr', hss, k1, ho1⟩
  clear happ
  have hapart := apart16 HH.out.1.led HH.out.1.rdy HH.out.1.mn HH.out.1.ms
  have hled1 := HH.out.1.led.keep HH.out.1.rdy.foot HH.out.1.rdy.footR k1 hapart
  have hp1 := HH.out.2.1.keep HH.out.1.rdy.foot k1
  rw [← HH.out.2.2.2.2.2.2.2] at hp1
  have hd := gDone_spec (r := r) hled1 HH.out.1.ok hp1 HH.out.2.2.1 (by have := HH.out.2.2.2.1; omega) HH.out.2.2.2.2.1 (Nat.le_trans HH.out.2.2.2.2.2.1 k1.size) (Nat.le_trans HH.out.2.2.2.2.2.2.1 k1.size)
  have H1 := Lib.hid (And.intro hr' (And.intro hss (And.intro k1 (And.intro ho1 (And.intro hled1 hapart)))))
  clear hr' hss k1 ho1 hled1 hapart hp1
  go_wp2_with fail
  refine hd.mono ?_
  rintro e w2 ⟨rfl, lv2, hl2, k2, ho2⟩
  clear hd
  go_wp2_with fail
  go_ret
  obtain ⟨hr', hss, k1, ho1, hled1, hapart⟩ := H1.out
  have hmlt := HH.out.1.led.lt m (.inr (.inl rfl))
  have hmn : m ≠ n' := fun e => by
    rcases ho1 n' (.inl (.inr (.inl rfl))) with e2 | e2
    · exact hapart m (.inr (.inl rfl)) (by rw [e]; exact e2)
    · omega
  have hms : m ≠ s' := fun e => by
    rcases ho1 s' (.inl (.inr (.inr (.inl rfl)))) with e2 | e2
    · exact hapart m (.inr (.inl rfl)) (by rw [e]; exact e2)
    · omega
  have hr2 := hr'.keepF hled1.foot k2 (fun b hb hg => apart16 hled1 hr' hmn hms b hg hb)
  have e1 : recsB7 (ts ++ [r]) = recsB7 ts ++ [r.bytes] := by simp [recsB7]
  refine ⟨rfl, lv2, n', s', wv', sv', lv', ss', ⟨hl2, by rw [e1]; exact hr2, HH.out.1.ok.step HH.out.2.2.1, HH.out.1.tl.push HH.out.2.2.1, hmn, hms⟩, hss, (k1.mono (fun b _ e => .inr e)).trans k2 (fun b _ e => .inl e), fun b hb => ?_⟩
  rcases hb with hb | hb
  · rcases hb with rfl | rfl | hb
    · exact .inl (.inl (.inl rfl))
    · exact .inl (.inl (.inr (.inl rfl)))
    · rcases ho2 b hb with e | e
      · exact .inl (.inl (.inr (.inr e)))
      · exact .inr (Nat.le_trans k1.size e)
  · rcases ho1 b hb with e | e
    · exact .inl (.inr e)
    · exact .inr e
end Go.Proofs.YtgogfnafbeahoaaGreat
