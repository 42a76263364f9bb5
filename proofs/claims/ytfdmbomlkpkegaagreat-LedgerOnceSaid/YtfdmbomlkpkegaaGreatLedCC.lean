/- The ledger over its log and its disk; write. The ledger: right; rows of numbers. The ledger: Put. -/
import Derived.Test.YtfdmbomlkpkegaaGreatLedBB

/-! ## LedW -/
namespace Go.Proofs.YtfdmbomlkpkegaaGreat
open Go Go.RowKit Go.Dr

/-! ### What records tell -/
def told (width : Nat) (ts : List LRec) : LedS := ts.foldl LedS.step (LedS.start width)
def LedS.now (L : LedS) : List (Nat × WinS) := L.ag.map (fun g => (g.floor, g.now))
structure Tells (width : Nat) (ts : List LRec) (L : LedS) : Prop where
  inc : L.inc = (told width ts).inc
  recs : L.recs = (told width ts).recs
  now : L.now = (told width ts).now
  can : ∀ (k : Nat) r, ts[k]? = some r → (told width (ts.take k)).can r
theorem LedS.win_now (L : LedS) (a : Nat) : L.win a = ((L.now[a]?).map (·.2)).getD ⟨0, 0, []⟩ := by
  unfold LedS.win LedS.now
  rw [List.getElem?_map]
  cases L.ag[a]? <;> rfl
theorem LedS.floor_now (L : LedS) (a : Nat) : L.floor a = ((L.now[a]?).map (·.1)).getD 0 := by
  unfold LedS.floor LedS.now
  rw [List.getElem?_map]
  cases L.ag[a]? <;> rfl
theorem LedS.can_of {L T : LedS} (h1 : L.inc = T.inc) (h2 : L.now = T.now) {r : LRec} (h : L.can r) : T.can r := by
  cases r with
  | inc n => exact ⟨by rw [← h1]; exact h.1, h.2⟩
  | floor a n => exact ⟨h.1, by rw [LedS.floor_now, ← h2, ← LedS.floor_now]; exact h.2.1, h.2.2⟩
  | put a b l => exact ⟨h.1, h.2.1, h.2.2.1, h.2.2.2.1, by rw [LedS.win_now, ← h2, ← LedS.win_now]; exact h.2.2.2.2⟩
theorem map_modify {α β : Type} (f : α → β) (g : α → α) (g' : β → β) (h : ∀ x, f (g x) = g' (f x)) (l : List α) (i : Nat) : (l.modify i g).map f = (l.map f).modify i g' := by
  apply List.ext_getElem?
  intro j
  rw [List.getElem?_map, List.getElem?_modify, List.getElem?_modify, List.getElem?_map]
  by_cases e : i = j
  · simp only [if_pos e]
    cases l[j]? with
    | none => rfl
    | some x => simp [h]
  · simp only [if_neg e]
    cases l[j]? <;> simp
theorem LedS.now_step (L : LedS) (r : LRec) : (L.step r).now = match r with
    | .inc _ => L.now
    | .floor a n => L.now.modify a (fun x => (n, x.2))
    | .put a b l => L.now.modify a (fun x => (x.1, (x.2.skip b).putAll l)) := by
  cases r with
  | inc n => rfl
  | floor a n => exact map_modify (fun g : AgS => (g.floor, g.now)) (fun g => { g with floor := n }) (fun x => (n, x.2)) (fun _ => rfl) L.ag a
  | put a b l => exact map_modify (fun g : AgS => (g.floor, g.now)) (fun g => { g with now := (g.now.skip b).putAll l }) (fun x => (x.1, (x.2.skip b).putAll l)) (fun _ => rfl) L.ag a
theorem told_snoc (width : Nat) (ts : List LRec) (r : LRec) : told width (ts ++ [r]) = (told width ts).step r := by simp [told]
theorem Tells.push {width : Nat} {ts : List LRec} {L : LedS} (h : Tells width ts L) {r : LRec} (hc : L.can r) : Tells width (ts ++ [r]) (L.step r) := by
  refine ⟨?_, ?_, ?_, fun k x hx => ?_⟩
  · rw [told_snoc]
    cases r <;> simp [LedS.step, h.inc]
  · rw [told_snoc]
    cases r <;> simp [LedS.step, h.recs]
  · rw [told_snoc, LedS.now_step, LedS.now_step, h.now]
  · by_cases hk : k < ts.length
    · rw [List.getElem?_append_left hk] at hx
      rw [List.take_append_of_le_length (by omega)]
      exact h.can k x hx
    · rw [List.getElem?_append_right (by omega)] at hx
      have h0 := (List.getElem?_eq_some_iff.1 hx).1
      simp at h0
      have hk0 : k - ts.length = 0 := by omega
      rw [hk0] at hx
      simp at hx
      subst hx
      rw [List.take_append_of_le_length (by omega), List.take_of_length_le (by omega)]
      exact LedS.can_of h.inc h.now hc
theorem Tells.sync {width : Nat} {ts : List LRec} {L : LedS} (h : Tells width ts L) : Tells width ts L.sync :=
  ⟨h.inc, h.recs, by rw [← h.now]; simp [LedS.now, LedS.sync], h.can⟩
theorem Tells.start (width : Nat) : Tells width [] (LedS.start width) := ⟨rfl, rfl, rfl, fun k r h => by simp at h⟩
def recsB7 (ts : List LRec) : List Bytes := ts.map LRec.bytes

theorem Ready.footR [bn : Inhabited Ban] {base : Nat} {w : World} {g p n s : Nat} {wv sv lv : Value} {size : Int} {ss : List SegL} {rs : List Bytes} {d : DiskS} (h : Ready base w g p n s wv sv lv size ss rs d) : FootR w (rfoot g p n s wv sv lv) := by
  rintro b (hb | hb) ⟨cs, fr, e⟩
  · rcases hb with rfl | rfl | rfl | hb
    · rw [h.dk.blk] at e; simp at e
    · obtain ⟨es, cl, hz, _⟩ := h.dk.now; rw [hz] at e; cases e
    · obtain ⟨es, cl, hz, _⟩ := h.dk.safe; rw [hz] at e; cases e
    · obtain ⟨_, cur, hz⟩ := h.dk.wait.kind b hb
      rw [hz] at e; simp at e
  · obtain ⟨_, cs', t, hz, ht⟩ := h.lg.kind hb
    rw [hz] at e; simp at e; obtain ⟨_, rfl, _⟩ := e
    rcases ht with ht | ht | ht <;> simp at ht
structure LReady [bn : Inhabited Ban] (base : Nat) (w : World) (q g m : Nat) (lv : Value) (p n s : Nat) (wv sgv rlv : Value) (width : Nat) (size : Int) (ss : List SegL) (ts : List LRec) (d : DiskS) (L : LedS) : Prop where
  led : LedAt base w q g m lv L
  rdy : Ready base w g p n s wv sgv rlv size ss (recsB7 ts) d
  ok : L.Ok width
  tl : Tells width ts L
  mn : m ≠ n
  ms : m ≠ s
section
variable [bn : Inhabited Ban] {base : Nat} {w w' : World} {q g m p n s width : Nat} {lv wv sgv rlv : Value} {size : Int} {ss : List SegL} {ts : List LRec} {rs : List Bytes} {d : DiskS} {L : LedS}
theorem apart16 (hl : LedAt base w q g m lv L) (hr : Ready base w g p n s wv sgv rlv size ss rs d) (hmn : m ≠ n) (hms : m ≠ s) : ∀ b, gfoot q m lv b → ¬ rfoot g p n s wv sgv rlv b := by
  intro b hb hf
  obtain ⟨_, h3⟩ := hl.kind hb
  rcases h3 with ⟨cs, t, hz, ht⟩ | ⟨es, clock, hz⟩
  · rcases hf with hf | hf
    · rcases hf with rfl | rfl | rfl | hf
      · rw [hr.dk.blk] at hz; simp at hz; obtain ⟨_, rfl⟩ := hz; rcases ht with ht | ht <;> simp at ht
      · obtain ⟨_, _, e, _⟩ := hr.dk.now; rw [hz] at e; cases e
      · obtain ⟨_, _, e, _⟩ := hr.dk.safe; rw [hz] at e; cases e
      · obtain ⟨_, cur, e⟩ := hr.dk.wait.kind b hf
        rw [hz] at e; simp at e; obtain ⟨_, rfl⟩ := e; rcases ht with ht | ht <;> simp at ht
    · obtain ⟨_, cs', t', e, ht'⟩ := hr.lg.kind hf
      rw [hz] at e; simp at e; obtain ⟨_, rfl⟩ := e
      rcases ht with rfl | rfl <;> rcases ht' with ht' | ht' | ht' <;> simp at ht'
  · have hbm : b = m := by
      rcases hb with rfl | hb | hb
      · obtain ⟨_, e, _⟩ := hl.blk; rw [hz] at e; cases e
      · exact hb
      · obtain ⟨_, cur, e⟩ := hl.recs.kind b hb; rw [hz] at e; cases e
    subst hbm
    rcases hf with hf | hf
    · rcases hf with rfl | hf | hf | hf
      · rw [hr.dk.blk] at hz; cases hz
      · exact hmn hf
      · exact hms hf
      · obtain ⟨_, cur, e⟩ := hr.dk.wait.kind b hf
        rw [hz] at e; cases e
    · obtain ⟨_, cs', t', e, ht'⟩ := hr.lg.kind hf
      rw [hz] at e; cases e
theorem Ready.keepF {F : Nat → Prop} (h : Ready base w g p n s wv sgv rlv size ss rs d) (hF : Foot base w F) (k : Keep F w w') (hn : ∀ b, rfoot g p n s wv sgv rlv b → ¬ F b) : Ready base w' g p n s wv sgv rlv size ss rs d :=
  ⟨h.lg.keep hF k (fun b hb => hn b (.inr hb)), h.dk.keep hF k (fun b hb => hn b (.inl hb)), h.on, h.few, h.full, h.room0, h.room1, h.used, h.wait⟩
def lrfoot (q g m : Nat) (lv : Value) (p n s : Nat) (wv sgv rlv : Value) : Nat → Prop := fun b => gfoot q m lv b ∨ rfoot g p n s wv sgv rlv b
theorem LReady.no (h : LReady base w q g m lv p n s wv sgv rlv width size ss ts d L) (k : Keep No w w') : LReady base w' q g m lv p n s wv sgv rlv width size ss ts d L := ⟨h.led.no k, h.rdy.no k, h.ok, h.tl, h.mn, h.ms⟩
theorem LReady.foot (h : LReady base w q g m lv p n s wv sgv rlv width size ss ts d L) : Foot base w (lrfoot q g m lv p n s wv sgv rlv) := fun b hb => hb.elim (h.led.foot b) (h.rdy.foot b)
theorem LReady.footR (h : LReady base w q g m lv p n s wv sgv rlv width size ss ts d L) : FootR w (lrfoot q g m lv p n s wv sgv rlv) := fun b hb => hb.elim (h.led.footR b) (h.rdy.footR b)
theorem LReady.keep {F : Nat → Prop} (h : LReady base w q g m lv p n s wv sgv rlv width size ss ts d L) (hF : Foot base w F) (hR : FootR w F) (k : Keep F w w') (hn : ∀ b, lrfoot q g m lv p n s wv sgv rlv b → ¬ F b) : LReady base w' q g m lv p n s wv sgv rlv width size ss ts d L :=
  ⟨h.led.keep hF hR k (fun b hb => hn b (.inl hb)), h.rdy.keepF hF k (fun b hb => hn b (.inr hb)), h.ok, h.tl, h.mn, h.ms⟩
end
/-- What a write leaves: the ledger over its log, in blocks of its own or new ones. -/
def LPost [bn : Inhabited Ban] (base : Nat) (w : World) (q g m : Nat) (p width : Nat) (size : Int) (ts : List LRec) (d : DiskS) (L : LedS) (k0 : Nat) (F : Nat → Prop) (w' : World) : Prop :=
  ∃ lv n s wv sgv rlv ss, LReady base w' q g m lv p n s wv sgv rlv width size ss ts d L ∧ ss.length ≤ k0 ∧ Keep F w w' ∧ ∀ b, lrfoot q g m lv p n s wv sgv rlv b → F b ∨ w.heap.size ≤ b
def DiskS.wrote (d : DiskS) (size : Int) (ss : List SegL) (r : LRec) : DiskS := d.put ⟨(appS (logD size ss)).n, appB (logD size ss) r.bytes, false⟩
set_option maxRecDepth 100000 in
set_option maxHeartbeats 2000000 in
theorem gWrite_spec [bn : Inhabited Ban] {base : Nat} {w : World} {q g m p n s width : Nat} {lv wv sgv rlv pv : Value} {size : Int} {ss : List SegL} {ts : List LRec} {d : DiskS} {L : LedS} {r : LRec}
    (h : LReady base w q g m lv p n s wv sgv rlv width size ss ts d L) (hp : BytesAt base w pv r.bytes) (hc : L.can r) (hlen : r.bytes.length ≤ 1000) (hts : ts.length ≤ 1000) (hrec : L.recs.length ≤ 1073741824) (hb : base ≤ w.heap.size) (hT : ban.top ≤ w.heap.size)
    (hroom : (msum d.now : Int) + (appB (logD size ss) r.bytes).length ≤ d.room) :
    Calls Tryz.prog 58 #[.pointer (some ⟨q, 0, none⟩), pv] w fun e w' => e = .returned (.int .i64 0) ∧ LPost base w q g m p width size (ts ++ [r]) (d.wrote size ss r) (L.step r) (ss.length + 1) (lrfoot q g m lv p n s wv sgv rlv) w' := by
  obtain ⟨po, pc, rfl⟩ := hp.form
  obtain ⟨_, c0, _⟩ := h.led.incCell
  have happ := ready_append h.rdy hb hT hp hlen (by simpa [recsB7] using hts) hroom
  obtain ⟨rl, hrl⟩ : ∃ rl, rl = r.bytes.length := ⟨_, rfl⟩
  rw [← hrl] at happ ⊢
  have HH := Lib.hid (And.intro h (And.intro hp (And.intro hc (And.intro hlen (And.intro hrec (And.intro hb (And.intro hT hrl)))))))
  clear h hp hc hlen hts hrec hb hT hroom hrl
  go_enter Tryz.func58, Tryz.ntmps58
  go_wp2_with fail
  refine happ.mono ?_
  rintro e w1 ⟨rfl, n', s', wv', sv', lv', ss', hr', hss, k1, ho1⟩
  clear happ
  have hapart := apart16 HH.out.1.led HH.out.1.rdy HH.out.1.mn HH.out.1.ms
  have hled1 := HH.out.1.led.keep HH.out.1.rdy.foot HH.out.1.rdy.footR k1 hapart
  have hp1 := HH.out.2.1.keep HH.out.1.rdy.foot k1
  rw [← HH.out.2.2.2.2.2.2.2] at hp1
  have hd := gDone_spec (r := r) hled1 HH.out.1.ok hp1 HH.out.2.2.1 (by have := HH.out.2.2.2.1; omega) HH.out.2.2.2.2.1 (Nat.le_trans HH.out.2.2.2.2.2.1 k1.size) (Nat.le_trans HH.out.2.2.2.2.2.2.1 k1.size)
  have H1 := Lib.hid (And.intro hr' (And.intro hss (And.intro k1 (And.intro ho1 (And.intro hled1 hapart)))))
  clear hr' hss k1 ho1 hled1 hapart hp1
  go_wp2_with fail
  refine hd.mono ?_
  rintro e w2 ⟨rfl, lv2, hl2, k2, ho2⟩
  clear hd
  go_wp2_with fail
  go_ret
  obtain ⟨hr', hss, k1, ho1, hled1, hapart⟩ := H1.out
  have hmlt := HH.out.1.led.lt m (.inr (.inl rfl))
  have hmn : m ≠ n' := fun e => by
    rcases ho1 n' (.inl (.inr (.inl rfl))) with e2 | e2
    · exact hapart m (.inr (.inl rfl)) (by rw [e]; exact e2)
    · omega
  have hms : m ≠ s' := fun e => by
    rcases ho1 s' (.inl (.inr (.inr (.inl rfl)))) with e2 | e2
    · exact hapart m (.inr (.inl rfl)) (by rw [e]; exact e2)
    · omega
  have hr2 := hr'.keepF hled1.foot k2 (fun b hb hg => apart16 hled1 hr' hmn hms b hg hb)
  have e1 : recsB7 (ts ++ [r]) = recsB7 ts ++ [r.bytes] := by simp [recsB7]
  refine ⟨rfl, lv2, n', s', wv', sv', lv', ss', ⟨hl2, by rw [e1]; exact hr2, HH.out.1.ok.step HH.out.2.2.1, HH.out.1.tl.push HH.out.2.2.1, hmn, hms⟩, hss, (k1.mono (fun b _ e => .inr e)).trans k2 (fun b _ e => .inl e), fun b hb => ?_⟩
  rcases hb with hb | hb
  · rcases hb with rfl | rfl | hb
    · exact .inl (.inl (.inl rfl))
    · exact .inl (.inl (.inr (.inl rfl)))
    · rcases ho2 b hb with e | e
      · exact .inl (.inl (.inr (.inr e)))
      · exact .inr (Nat.le_trans k1.size e)
  · rcases ho1 b hb with e | e
    · exact .inl (.inr e)
    · exact .inr e
end Go.Proofs.YtfdmbomlkpkegaaGreat

/-! ## LedX -/
namespace Go.Proofs.YtfdmbomlkpkegaaGreat
open Go Go.RowKit Go.Dr

def ItemS.rightB (x : ItemS) : Bool := decide (x.n < 2305843009213693952) && x.s.right
theorem ItemS.rightB_iff (x : ItemS) : x.rightB = true ↔ x.Right := by
  unfold ItemS.rightB ItemS.Right SpanS.right SpanS.Right
  simp
def rightB (b : Nat) (l : List ItemS) : Bool := l.all ItemS.rightB && decide (b < 2305843009213693952)
theorem rightB_iff (b : Nat) (l : List ItemS) : rightB b l = true ↔ (∀ x ∈ l, x.Right) ∧ b < 2305843009213693952 := by
  unfold rightB
  rw [Bool.and_eq_true, List.all_eq_true, decide_eq_true_eq]
  simp only [ItemS.rightB_iff]
set_option maxRecDepth 100000 in
set_option maxHeartbeats 2000000 in
theorem gRight_spec [bn : Inhabited Ban] {base B : Nat} {w : World} {v : Value} {l : List ItemS} (b : Nat) (h : ItsAt base w B v l) (hl : l.length ≤ 1048576) (hbl : ∀ x ∈ l, x.s.body.length ≤ 1073741824) :
    Calls Tryz.prog 63 #[.int .u64 b, v] w fun e w' => e = .returned (.bool (rightB b l)) ∧ Keep No w w' := by
  obtain ⟨vo, vc, rfl, _, _⟩ := h.form
  obtain ⟨rb, hrb⟩ : ∃ rb, rb = rightB b l := ⟨_, rfl⟩
  rw [← hrb]
  have HH := Lib.hid (And.intro h (And.intro hbl hrb))
  have hli : (l.length : Int) ≤ 1048576 := by omega
  clear h hl hbl hrb
  go_enter Tryz.func63, Tryz.ntmps63
  go_wp2_with fail
  go_loopw [9] (fun v9 wr => ∃ k, v9 = .int .i64 (k : Nat) ∧ k ≤ l.length ∧ (∀ x ∈ l.take k, x.rightB = true) ∧ Keep No w wr) (fun v9 _ => l.length - (intOf v9).toNat)
  case atStart => exact ⟨0, rfl, Nat.zero_le _, fun x hx => by simp at hx, Keep.refl _ _⟩
  case round =>
    obtain ⟨k, rfl, hk, hall, kr⟩ := hrel
    by_cases hlt : k < l.length
    · have hx : l[k]? = some l[k] := List.getElem?_eq_getElem hlt
      have htake : l.take (k + 1) = l.take k ++ [l[k]] := List.take_succ_eq_append_getElem hlt
      generalize l[k] = z at hx htake
      obtain ⟨gi, ui, hgi, hub, e0, e1, e2⟩ := (HH.out.1.no kr).cell hx
      obtain ⟨uo, uc, rfl⟩ := hub.form
      subst hgi
      have hki : (k : Int) < (l.length : Int) := by omega
      have hzb := HH.out.2.1 z (List.mem_of_getElem? hx)
      have hmem := List.mem_of_getElem? hx
      have hsr := fun (w' : World) => sRight_spec (w := w') (s := z.s) (ao := uo) (cap := uc) (by omega)
      have kA := (Keep.refl No wr).alloc (.cells #[.int .u64 z.n, .int .i64 z.s.c, .slice uo z.s.body.length uc] 111)
      by_cases hn : z.n < 2305843009213693952
      · have hni : ¬ (2305843009213693952 : Int) ≤ (z.n : Int) := by omega
        cases hzs : z.s.right
        · rw [hzs] at hsr
          have hf : rightB b l = false := by
            unfold rightB
            have : l.all ItemS.rightB = false := by
              rw [List.all_eq_false]
              exact ⟨z, hmem, by unfold ItemS.rightB; simp [hzs]⟩
            rw [this]; rfl
          obtain rfl : rb = false := HH.out.2.2.trans hf
          have HR := Lib.hid (kr.then kA)
          clear hall hlt hx htake hub hzb hmem kA hzs hf kr hk hn
          go_wp2_with (go_at_call 115; refine (hsr _).mono ?_; rintro e w2 ⟨rfl, k2⟩)
          go_ret
          exact ⟨rfl, HR.out.then k2⟩
        · rw [hzs] at hsr
          have hz1 : z.rightB = true := by unfold ItemS.rightB; simp [hn, hzs]
          have HR := Lib.hid (And.intro (kr.then kA) (And.intro hlt (show ∀ x ∈ l.take (k + 1), x.rightB = true by
            rw [htake]
            intro x hx
            rcases List.mem_append.1 hx with hx | hx
            · exact hall x hx
            · rw [List.mem_singleton.1 hx]; exact hz1)))
          clear hall hlt hx htake hub hzb hmem kA hzs hz1 kr hk hn
          go_wp2_with (go_at_call 115; refine (hsr _).mono ?_; rintro e w2 ⟨rfl, k2⟩)
          go_roundw
          case rel => exact ⟨k + 1, by congr 1, by have := HR.out.2.1; omega, HR.out.2.2, HR.out.1.then k2⟩
          case measure => have := HR.out.2.1; simp [intOf]; omega
      · have hni : (2305843009213693952 : Int) ≤ (z.n : Int) := by omega
        have hf : rightB b l = false := by
          unfold rightB
          have : l.all ItemS.rightB = false := by
            rw [List.all_eq_false]
            exact ⟨z, hmem, by unfold ItemS.rightB; simp [hn]⟩
          rw [this]; rfl
        obtain rfl : rb = false := HH.out.2.2.trans hf
        have HR := Lib.hid (kr.then kA)
        clear hall hlt hx htake hub hzb hmem kA hf kr hk hn hsr
        go_wp2_with fail
        go_ret
        exact ⟨rfl, HR.out⟩
    · have hke : k = l.length := by omega
      have hki : ¬ (k : Int) < (l.length : Int) := by omega
      rw [hke, List.take_of_length_le (Nat.le_refl _)] at hall
      have hf : rightB b l = decide (b < 2305843009213693952) := by
        unfold rightB
        rw [List.all_eq_true.2 hall]
        rfl
      have HR := Lib.hid kr
      have hf3 : rb = decide (b < 2305843009213693952) := HH.out.2.2.trans hf
      clear kr hall hk hlt hke hf
      by_cases hbl : b < 2305843009213693952
      · have hbi : (b : Int) < 2305843009213693952 := by omega
        obtain rfl : rb = true := hf3.trans (decide_eq_true hbl)
        clear hf3 hbl
        go_wp2_with fail
        go_ret
        exact ⟨rfl, HR.out⟩
      · have hbi : ¬ (b : Int) < 2305843009213693952 := by omega
        obtain rfl : rb = false := hf3.trans (decide_eq_false hbl)
        clear hf3 hbl
        go_wp2_with fail
        go_ret
        exact ⟨rfl, HR.out⟩
def u64v (n : Nat) : Value := .int .u64 (n : Int)
def OwnN (w : World) (B : Nat) (v : Value) (l : List Nat) : Prop := w.ownsRow B 27 1 v l.length (l.map u64v)
theorem OwnN.nil (w : World) (B : Nat) : OwnN w B (.slice none 0 0) [] := World.ownsRow_nil _ _ _ _
theorem OwnN.form {w : World} {B : Nat} {v : Value} {l : List Nat} (h : OwnN w B v l) : ∃ ao cap, v = .slice ao l.length cap ∧ l.length ≤ cap ∧ cap ≤ maxLen := row_form h
theorem OwnN.keep {w w' : World} {B : Nat} {v : Value} {l : List Nat} {F : Nat → Prop} (h : OwnN w B v l) (k : Keep F w w') (hF : ∀ b, v.ownBlock = some b → ¬ F b) : OwnN w' B v l := row_keep h k hF
theorem OwnN.kind {w : World} {B : Nat} {v : Value} {l : List Nat} (h : OwnN w B v l) : ∀ b, v.ownBlock = some b → B ≤ b ∧ ∃ cur, w.heap[b]? = some (.cells cur 27 (0, 0)) := row_kind h
theorem info_u64n : (Tryz.prog.info? 27).map (fun i => (i.zero, i.size, i.bytes)) = some (some (.int .u64 0), 1, 8) := by kernel_rfl
theorem wpList_append_num {w : World} {ops : Array Oper} {rest : List Oper} {o : Oper} {a : Act} {Q : Exit → Act → World → Prop} (hg : o.guard = none) (s x : Operand)
    (ho : o.op = .call { callee := .builtin .append, args := #[s, x], argTypes := #[52, 52] }) {B : Nat} {v : Value} {l : List Nat} (h : OwnN w B v l) (hs : a.eval s = v) {D n : Nat}
    (hD : w.heap[D]? = some (.cells #[.int .u64 n] 27 (0, 0))) (hx : a.eval x = .slice (some ⟨D, 0, none⟩) 1 1) (hl : l.length ≤ 1099511627776) (hb : B ≤ w.heap.size)
    (hK : ∀ vo vc w', OwnN w' B (.slice vo (l.length + 1) vc) (l ++ [n]) → Keep (fun b => v.ownBlock = some b) w w' → wpList Tryz.prog ops Q rest (a.put o.dst (.slice vo (l.length + 1) vc)) w') : wpList Tryz.prog ops Q (o :: rest) a w := by
  obtain ⟨i0, hi0, hz0, hz1, hz2⟩ := info_parts info_u64n
  refine wpList_plain hg fun K hK' => ?_
  refine wp_append_lies w s x 52 ho B 27 i0 _ 1 8 Tryz.underlying52 hi0 hz0 hz1 hz2 rfl (by omega) v l.length (l.map u64v) hs h
    ⟨D, 0, none⟩ 1 1 [.int .u64 n] hx rfl (World.news_of_block (cs := #[.int .u64 n]) (t := 27) (fr := (0, 0)) hD) (by simp [Value.oneCell']) (by omega) (by unfold maxLen; omega) (by omega) hb w.heap.size rfl ?_
  intro g cap w' hown hgr hat hlt
  refine hK' _ _ (hK _ _ _ ?_ (own_grown hgr))
  unfold OwnN
  rw [List.length_append, List.map_append]
  exact hown
end Go.Proofs.YtfdmbomlkpkegaaGreat

/-! ## LedY -/
namespace Go.Proofs.YtfdmbomlkpkegaaGreat
open Go Go.RowKit Go.Dr

/-- Who is taken. -/
def pick : WinS → List ItemS → List ItemS
  | _, [] => []
  | w, x :: l => if w.takes x.n = true then x :: pick (w.put x.n) l else pick w l
theorem putAll_append (w : WinS) (a b : List ItemS) : w.putAll (a ++ b) = (w.putAll a).putAll b := by unfold WinS.putAll; rw [List.foldl_append]
theorem pick_snoc : ∀ (w : WinS) (l : List ItemS) (z : ItemS), pick w (l ++ [z]) = pick w l ++ (if (w.putAll (pick w l)).takes z.n = true then [z] else [])
  | w, [], z => by
    show (if w.takes z.n = true then [z] else []) = [] ++ _
    rfl
  | w, x :: l, z => by
    show (if w.takes x.n = true then x :: pick (w.put x.n) (l ++ [z]) else pick w (l ++ [z])) = (if w.takes x.n = true then x :: pick (w.put x.n) l else pick w l) ++ _
    by_cases h : w.takes x.n = true
    · rw [if_pos h, if_pos h, pick_snoc (w.put x.n) l z]
      have e : w.putAll (pick w (x :: l)) = (w.put x.n).putAll (pick (w.put x.n) l) := by
        show w.putAll (if w.takes x.n = true then x :: pick (w.put x.n) l else pick w l) = _
        rw [if_pos h]; rfl
      rw [e]; rfl
    · rw [if_neg h, if_neg h, pick_snoc w l z]
      have e : pick w (x :: l) = pick w l := by
        show (if w.takes x.n = true then x :: pick (w.put x.n) l else pick w l) = _
        rw [if_neg h]
      rw [e]
theorem pick_allIn : ∀ (w : WinS) (l : List ItemS), w.allIn (pick w l)
  | _, [] => trivial
  | w, x :: l => by
    show w.allIn (if w.takes x.n = true then x :: pick (w.put x.n) l else pick w l)
    by_cases h : w.takes x.n = true
    · rw [if_pos h]; exact ⟨h, pick_allIn _ l⟩
    · rw [if_neg h]; exact pick_allIn w l
theorem pick_sub : ∀ (w : WinS) (l : List ItemS), (pick w l).Sublist l
  | _, [] => List.Sublist.refl _
  | w, x :: l => by
    show (if w.takes x.n = true then x :: pick (w.put x.n) l else pick w l).Sublist _
    by_cases h : w.takes x.n = true
    · rw [if_pos h]; exact (pick_sub _ l).cons_cons x
    · rw [if_neg h]; exact (pick_sub w l).cons x
def LedS.putR (L : LedS) (a b : Nat) (l : List ItemS) : Option LRec := if pick ((L.win a).skip b) l = [] ∧ (L.win a).skip b = L.win a then none else some (.put a b (pick ((L.win a).skip b) l))
theorem itemsB_le {l : List ItemS} {N : Nat} (h : ∀ x ∈ l, x.Right ∧ x.s.body.length ≤ N) : (itemsB l).length ≤ l.length * (N + 21) := by
  induction l with
  | nil => simp [itemsB]
  | cons x l ih =>
    have h1 := ih (fun y hy => h y (by simp [hy]))
    obtain ⟨hx1, hx2⟩ := h x (by simp)
    have a1 := numB_len64 (n := x.n) (by have := hx1.1; omega)
    have a2 := numB_len64 (n := x.s.body.length) (by have := hx1.2.2.2; omega)
    have e : itemsB (x :: l) = x.bytes ++ itemsB l := by simp [itemsB]
    rw [e, List.length_append]
    have e2 : x.bytes.length ≤ N + 21 := by
      unfold ItemS.bytes SpanS.bytes
      simp only [List.length_append, List.length_cons]
      omega
    rw [List.length_cons, Nat.add_mul]
    omega
theorem LedS.putR_can {a b : Nat} {L : LedS} {l : List ItemS} {r : LRec} (ha : a < 16) (hr : rightB b l = true) (hl : l.length ≤ 64) (h : L.putR a b l = some r) : L.can r := by
  unfold LedS.putR at h
  split at h
  · cases h
  · simp only [Option.some.injEq] at h
    subst h
    obtain ⟨h1, h2⟩ := (rightB_iff b l).1 hr
    exact ⟨ha, h2, Nat.le_trans (pick_sub _ _).length_le hl, fun x hx => h1 x ((pick_sub _ _).subset hx), pick_allIn _ _⟩
theorem LReady.lt [bn : Inhabited Ban] {base : Nat} {w : World} {q g m p n s width : Nat} {lv wv sgv rlv : Value} {size : Int} {ss : List SegL} {ts : List LRec} {d : DiskS} {L : LedS} (h : LReady base w q g m lv p n s wv sgv rlv width size ss ts d L) : ∀ b, lrfoot q g m lv p n s wv sgv rlv b → b < w.heap.size := fun b hb => (h.foot b hb).2.1
/-- Behind the loop: who is taken, their bytes, the window. -/
structure Taken [bn : Inhabited Ban] (w wr : World) (b11 : Nat) (tv pv : Value) (y : WinS) (t : List ItemS) : Prop where
  nums : OwnN wr w.heap.size tv (t.map (·.n))
  bytes : OwnB wr w.heap.size pv (itemsB t)
  box : WinBox wr b11 (y.putAll t)
  k : Keep No w wr
  new : w.heap.size ≤ b11
theorem Taken.no [bn : Inhabited Ban] {w wr w' : World} {b11 : Nat} {tv pv : Value} {y : WinS} {t : List ItemS} (h : Taken w wr b11 tv pv y t) (k : Keep No wr w') : Taken w w' b11 tv pv y t :=
  ⟨h.nums.keep k (fun _ _ e => e), h.bytes.keep k (fun _ _ e => e), h.box.keep (FootR.no _) k (fun e => e), h.k.then k, h.new⟩
/-- One more. -/
theorem Taken.box2 [bn : Inhabited Ban] {w wr w' : World} {b11 : Nat} {tv pv : Value} {y y' : WinS} {t : List ItemS} (h : Taken w wr b11 tv pv y t) (_hb : WinBox w' b11 y') (k : Keep (· = b11) wr w') :
    OwnN w' w.heap.size tv (t.map (·.n)) ∧ OwnB w' w.heap.size pv (itemsB t) ∧ Keep No w w' := by
  obtain ⟨_, _, hz, _⟩ := h.box
  refine ⟨h.nums.keep k (fun b hb e => ?_), h.bytes.keep k (fun b hb e => ?_), h.k.trans k (fun b hb e => ?_)⟩
  · obtain ⟨_, cur, e2⟩ := h.nums.kind b hb
    rw [show b = b11 from e, hz] at e2; simp at e2
  · obtain ⟨_, cur, e2⟩ := row_kind h.bytes b hb
    rw [show b = b11 from e, hz] at e2; simp at e2
  · have e : b = b11 := e
    have := h.new
    omega
end Go.Proofs.YtfdmbomlkpkegaaGreat
