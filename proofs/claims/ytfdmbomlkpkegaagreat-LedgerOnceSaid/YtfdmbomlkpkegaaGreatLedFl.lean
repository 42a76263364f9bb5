/- The ledger: Raise. -/
import Derived.Test.YtfdmbomlkpkegaaGreatLedDD
import Derived.Test.YtfdmbomlkpkegaaGreatLedCr
namespace Go.Proofs.YtfdmbomlkpkegaaGreat
open Go Go.RowKit Go.Dr Go.Shelf

theorem floorB_len (a n : Nat) (ha : a < 16) (hn : n < 2305843009213693952) : (LRec.floor a n).bytes.length ≤ 11 := by
  have h1 : (numB a).length = 1 := by rw [numB_lt (by omega)]; rfl
  have h2 := numB_len 8 n (by omega)
  simp [LRec.bytes]
  omega
set_option maxRecDepth 100000 in
theorem gRaise_big {w : World} {q : Nat} (a e : Nat) (ha : a < 16) (he : 2305843009213693952 ≤ e) : Calls Tryz.prog 22 #[.pointer (some ⟨q, 0, none⟩), .int .i64 a, .int .u64 e] w fun r w' => r = .returned (.int .i64 1) ∧ w' = w := by
  have hg := gAgent_in (w := w) q a ha
  have hei : (2305843009213693952 : Int) ≤ (e : Int) := by omega
  clear he ha
  go_enter Tryz.func22, Tryz.ntmps22
  go_wp2_with (go_at_call 61; refine hg.mono ?_; rintro r w' ⟨rfl, rfl⟩)
  go_ret
  exact ⟨rfl, rfl⟩
section
variable [bn : Inhabited Ban] {base : Nat} {w : World} {q g m p n s width : Nat} {lv wv sgv rlv : Value} {size : Int} {ss : List SegL} {ts : List LRec} {d : DiskS} {L : LedS}
set_option maxRecDepth 100000 in
theorem gRaise_old (h : LedAt base w q g m lv L) (hok : L.Ok width) (a e : Nat) (ha : a < 16) (he : e < 2305843009213693952) (hf : e ≤ L.floor a) : Calls Tryz.prog 22 #[.pointer (some ⟨q, 0, none⟩), .int .i64 a, .int .u64 e] w fun r w' => r = .returned (.int .i64 9) ∧ w' = w := by
  obtain ⟨x, hx, _, _, hfl⟩ := hok.at ha
  obtain ⟨_, _, _, _, c0, _⟩ := h.agCell hx
  have hg := gAgent_in (w := w) q a ha
  have hei : ((2305843009213693952 : Int) ≤ (e : Int)) = False := eq_false (by omega)
  have hle : (e ≤ x.floor) = True := eq_true (by rw [hfl] at hf; omega)
  clear he hf h hok hx hfl ha
  go_enter Tryz.func22, Tryz.ntmps22
  go_wp2_with (go_at_call 61; refine hg.mono ?_; rintro r w' ⟨rfl, rfl⟩)
  go_ret
  exact ⟨rfl, rfl⟩
set_option maxRecDepth 100000 in
set_option maxHeartbeats 4000000 in
theorem gRaise_spec (h : LReady base w q g m lv p n s wv sgv rlv width size ss ts d L) (a e : Nat) (ha : a < 16) (hf : L.floor a < e) (he : e < 2305843009213693952) (hts : ts.length ≤ 1000) (hrec : L.recs.length ≤ 1073741824) (hb : base ≤ w.heap.size) (hT : ban.top ≤ w.heap.size)
    (hroom : (msum d.now : Int) + (appB (logD size ss) (LRec.floor a e).bytes).length ≤ d.room) :
    Calls Tryz.prog 22 #[.pointer (some ⟨q, 0, none⟩), .int .i64 a, .int .u64 e] w fun r w' => r = .returned (.int .i64 0) ∧ LPost base w q g m p width size (ts ++ [.floor a e]) (d.wrote size ss (.floor a e)) (L.step (.floor a e)) (ss.length + 1) (lrfoot q g m lv p n s wv sgv rlv) w' := by
  obtain ⟨x, hx, _, _, hfl⟩ := h.ok.at ha
  obtain ⟨_, _, _, _, c0, _⟩ := h.led.agCell hx
  have hg := gAgent_in (w := w) q a ha
  have hei : ((2305843009213693952 : Int) ≤ (e : Int)) = False := eq_false (by omega)
  have hle : (e ≤ x.floor) = False := eq_false (by rw [hfl] at hf; omega)
  have haw : IntKind.u64.wrap (a : Int) = (a : Int) := by rw [IntKind.wrap_u64]; omega
  have hlen := floorB_len a e ha he
  have hcan : L.can (.floor a e) := ⟨ha, hf, he⟩
  have HH := Lib.hid (And.intro h (And.intro hts (And.intro hrec (And.intro hb (And.intro hT (And.intro hroom (And.intro hlen (And.intro hcan (And.intro ha he)))))))))
  clear h hx hfl hf he hts hrec hb hT hroom hlen hcan ha
  go_enter Tryz.func22, Tryz.ntmps22
  go_upto_region 8 with (go_at_call 61; refine hg.mono ?_; rintro r w' ⟨rfl, rfl⟩)
  obtain ⟨W0, hW0⟩ : ∃ W0, W0 = w'.alloc (.cells #[.int .u8 2] 5) := ⟨_, rfl⟩
  have hn1 : Calls Tryz.prog 59 #[.slice (some ⟨w'.heap.size, 0, none⟩) 1 1, .int .u64 a] W0 fun e w'' => ∃ v', e = .returned v' ∧ OwnB w'' W0.heap.size v' ([UInt8.ofNat 2] ++ numB a) ∧ Keep No W0 w'' := by
    rw [hW0]
    exact pnum_spec (bn := noBan) (byte_lit w' 2 (by decide)) a (by have := HH.out.2.2.2.2.2.2.2.2.1; omega) (by simp)
  have kA : Keep No w' W0 := by rw [hW0]; exact (Keep.refl _ _).alloc _
  have HA := Lib.hid (And.intro hW0 kA)
  have hn2 := fun (W1 : World) (v1 : Value) (own1 : OwnB W1 W0.heap.size v1 ([UInt8.ofNat 2] ++ numB a)) => pnum_spec (bn := noBan) (own1.bytes (bn := noBan) (base := 0) (fun _ => Nat.zero_le _)) e (by have := HH.out.2.2.2.2.2.2.2.2.2; omega) (by rw [List.length_append, numB_lt (by have := HH.out.2.2.2.2.2.2.2.2.1; omega)]; simp)
  clear hW0 kA c0 hei hle hg
  go_wp2_with (first
    | (rw [← HA.out.1]; go_at_call 59; refine hn1.mono ?_; rintro r W1 ⟨v1, rfl, own1, k1⟩)
    | (go_at_call 59; refine (hn2 _ _ own1).mono ?_; rintro r W2 ⟨v2, rfl, own2, k2⟩))
  have hrb : ([UInt8.ofNat 2] ++ numB a) ++ numB e = (LRec.floor a e).bytes := rfl
  have kW : Keep No w' W2 := (HA.out.2.then k1).then k2
  have hb2 := Nat.le_trans HH.out.2.2.2.1 kW.size
  have hT2 := Nat.le_trans HH.out.2.2.2.2.1 kW.size
  have own2 := own2.bytes (base := base) (fun _ => Nat.le_trans HH.out.2.2.2.2.1 (HA.out.2.then k1).size)
  rw [hrb] at own2
  refine (gWrite_spec (r := .floor a e) (HH.out.1.no kW) own2 HH.out.2.2.2.2.2.2.2.1 (by have := HH.out.2.2.2.2.2.2.1; omega) HH.out.2.1 HH.out.2.2.1 hb2 hT2 HH.out.2.2.2.2.2.1).mono ?_
  rintro r W3 ⟨rfl, lv', n', s', wv', sgv', rlv', ss', hR', hss, kF, hoF⟩
  have HX := Lib.hid (And.intro hR' (And.intro hss (And.intro (kW.no.trans kF (fun _ _ e => e)) (fun b hb => (hoF b hb).imp id (fun h => Nat.le_trans kW.size h)))))
  clear hR' hss kF hoF own2 own1 k1 k2 kW hb2 hT2 hrb hn1 hn2
  go_wp2_with fail
  go_ret
  exact ⟨rfl, lv', n', s', wv', sgv', rlv', ss', HX.out⟩
end
/-- What a step of a ledger leaves, with its record and its disk. -/
structure StepFt [bn : Inhabited Ban] (base : Nat) (w w' : World) (q p width : Nat) (size : Int) (ts : List LRec) (d : DiskS) (L M : LedS) (k0 N : Nat) (F : Nat → Prop) (ts' : List LRec) (d' : DiskS) (F' : Nat → Prop) : Prop where
  led : LedFt base w' q p width size ts' d' M (k0 + 1) F'
  new : ∀ b, F' b → F b ∨ w.heap.size ≤ b
  keep : Keep F w w'
  how : (ts' = ts ∧ d' = d ∧ M = L) ∨ ∃ r ss, ss.length ≤ k0 ∧ OnDisk ss (recsB7 ts) d.now ∧ L.can r ∧ ts' = ts ++ [r] ∧ d' = d.wrote size ss r ∧ M = L.step r ∧ r.bytes.length ≤ N ∧ ∀ T : LedS, (T.step r).inc = T.inc
section
variable [bn : Inhabited Ban] {base B0 : Nat} {w : World} {q p width k0 : Nat} {size : Int} {ts : List LRec} {d : DiskS} {L : LedS} {F : Nat → Prop}
theorem StepFt.still {w' : World} {N : Nat} (h : LedFt base w q p width size ts d L k0 F) (k : Keep No w w') : StepFt base w w' q p width size ts d L L k0 N F ts d F :=
  ⟨by obtain ⟨g, m, lv, n, s, wv, sgv, rlv, ss, h1, h2, h3⟩ := h.no k; exact ⟨g, m, lv, n, s, wv, sgv, rlv, ss, h1, by omega, h3⟩, fun _ e => .inl e, k.no, .inl ⟨rfl, rfl, rfl⟩⟩
/-- Raise, whatever it is handed. -/
theorem raise_any (h : LedFt base w q p width size ts d L k0 F) (a : Int) (e : Nat) (hts : ts.length ≤ 1000) (hrec : L.recs.length ≤ 1073741824)
    (hb : base ≤ w.heap.size) (hT : ban.top ≤ w.heap.size) (hroom : (msum d.now : Int) + 31 ≤ d.room) :
    Calls Tryz.prog 22 #[.pointer (some ⟨q, 0, none⟩), .int .i64 a, .int .u64 e] w fun r w' => ∃ c M ts' d' F', r = .returned (.int .i64 c) ∧ M.recs = L.recs ∧ M.safe = L.safe ∧ StepFt base w w' q p width size ts d L M k0 11 F ts' d' F' := by
  by_cases ho : a < 0 ∨ 16 ≤ a
  · refine (gRaise_out w q a e ho).mono ?_
    rintro r w' ⟨rfl, rfl⟩
    exact ⟨_, _, _, _, _, rfl, rfl, rfl, StepFt.still h (Keep.refl _ _)⟩
  · obtain ⟨n, rfl⟩ : ∃ n : Nat, a = n := ⟨a.toNat, by omega⟩
    have hn : n < 16 := by omega
    by_cases hbig : 2305843009213693952 ≤ e
    · refine (gRaise_big n e hn hbig).mono ?_
      rintro r w' ⟨rfl, rfl⟩
      exact ⟨_, _, _, _, _, rfl, rfl, rfl, StepFt.still h (Keep.refl _ _)⟩
    · by_cases hf : e ≤ L.floor n
      · obtain ⟨g, m, lv, hat⟩ := h.at
        refine (gRaise_old hat h.ok n e hn (by omega) hf).mono ?_
        rintro r w' ⟨rfl, rfl⟩
        exact ⟨_, _, _, _, _, rfl, rfl, rfl, StepFt.still h (Keep.refl _ _)⟩
      · obtain ⟨g, m, lv, n2, s, wv, sgv, rlv, ss, h, hk, rfl⟩ := h
        have hlen := floorB_len n e hn (by omega)
        refine (gRaise_spec h n e hn (by omega) (by omega) hts hrec hb hT (by have := (appB_length (logD size ss) (LRec.floor n e).bytes).1; omega)).mono ?_
        rintro r w' ⟨rfl, lv', n', s', wv', sgv', rlv', ss', h', hss, k, ho⟩
        exact ⟨_, L.step (.floor n e), _, _, _, rfl, rfl, rfl, ⟨g, m, lv', n', s', wv', sgv', rlv', ss', h', by omega, rfl⟩, ho, k, .inr ⟨.floor n e, ss, hk, h.rdy.on, (show n < 16 ∧ L.floor n < e ∧ e < 2305843009213693952 from ⟨hn, by omega, by omega⟩), rfl, rfl, rfl, hlen, fun _ => rfl⟩⟩
/-- Put, whatever it is handed, with its record. -/
theorem put_step {b : Nat} {a : Int} {iv : Value} {l : List ItemS} (h : LedFt base w q p width size ts d L k0 F) (hits : ItsAt base w B0 iv l) (hl8 : l.length ≤ 8) (hbl : ∀ x ∈ l, x.s.body.length ≤ 40) (hts : ts.length ≤ 1000) (hrec : L.recs.length ≤ 1073741824)
    (hb : base ≤ w.heap.size) (hT : ban.top ≤ w.heap.size) (hroom : (msum d.now : Int) + 539 ≤ d.room) :
    Calls Tryz.prog 24 #[.pointer (some ⟨q, 0, none⟩), .int .i64 a, .int .u64 b, iv] w fun e w' => ∃ v M ts' d' F', e = .returned v ∧ L.recs <+: M.recs ∧ M.recs.length ≤ L.recs.length + 8 ∧ M.safe = L.safe ∧ StepFt base w w' q p width size ts d L M k0 519 F ts' d' F' := by
  by_cases ho : a < 0 ∨ 16 ≤ a
  · refine (gPut_out w q a b iv ho).mono ?_
    rintro e w' ⟨rfl, rfl⟩
    exact ⟨_, _, _, _, _, rfl, List.prefix_refl _, by omega, rfl, StepFt.still h (Keep.refl _ _)⟩
  · obtain ⟨n, rfl⟩ : ∃ n : Nat, a = n := ⟨a.toNat, by omega⟩
    have hn : n < 16 := by omega
    cases hr : rightB b l with
    | false =>
      refine (gPut_wrong q n b hn hits (by omega) (fun x hx => by have := hbl x hx; omega) hr).mono ?_
      rintro e w' ⟨rfl, k⟩
      exact ⟨_, _, _, _, _, rfl, List.prefix_refl _, by omega, rfl, StepFt.still h k⟩
    | true =>
      have hisL := putL_is (b := b) (l := l) h.ok hn
      have hrr := (rightB_iff b l).1 hr
      have hokL := h.ok
      obtain ⟨g, m, lv, n2, s, wv, sgv, rlv, ss, h, hk, rfl⟩ := h
      have hlen := fun r hp => Nat.le_trans (putR_len (L := L) (a := n) (b := b) (l := l) (r := r) (M := 40) hp hn hr hl8 (by decide) hbl) (show 31 + l.length * (40 + 21) ≤ 519 by omega)
      refine (gPut_spec h hn hits hr hl8 hbl hts hrec hb hT (fun r hp => by
        have h1 := hlen r hp
        have h2 := (appB_length (logD size ss) r.bytes).1
        omega)).mono ?_
      rintro e w' ⟨tv, rfl, hown, hpost⟩
      have hpl := (pick_sub ((L.win n).skip b) l).length_le
      have hpre : L.recs <+: (L.putL n b l).recs ∧ (L.putL n b l).recs.length ≤ L.recs.length + 8 := by
        rw [hisL.recs]
        exact ⟨List.prefix_append _ _, by rw [List.length_append, List.length_map]; omega⟩
      have hcan := fun r (hp : L.putR n b l = some r) => LedS.putR_can hn hr (Nat.le_trans hl8 (by decide)) hp
      unfold LedS.putL at hpre
      generalize hpr : L.putR n b l = o at *
      cases o with
      | none => exact ⟨_, _, _, _, _, rfl, hpre.1, hpre.2, rfl, StepFt.still ⟨g, m, lv, n2, s, wv, sgv, rlv, ss, h, hk, rfl⟩ hpost⟩
      | some r =>
        obtain ⟨lv', n', s', wv', sgv', rlv', ss', h', hss, k, ho⟩ := hpost
        have hput : ∃ a0 b0 l0, r = .put a0 b0 l0 := by
          unfold LedS.putR at hpr
          split at hpr
          · cases hpr
          · cases hpr; exact ⟨_, _, _, rfl⟩
        obtain ⟨a0, b0, l0, rfl⟩ := hput
        exact ⟨_, _, _, _, _, rfl, hpre.1, hpre.2, rfl, ⟨g, m, lv', n', s', wv', sgv', rlv', ss', h', by omega, rfl⟩, ho, k, .inr ⟨_, ss, hk, h.rdy.on, hcan _ rfl, rfl, rfl, rfl, hlen _ rfl, fun _ => rfl⟩⟩
end
end Go.Proofs.YtfdmbomlkpkegaaGreat
