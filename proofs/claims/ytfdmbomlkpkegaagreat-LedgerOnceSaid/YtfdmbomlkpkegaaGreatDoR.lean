/- The law's 'do': both disks in memory; Drop. The document's Append. -/
import Derived.Test.YtfdmbomlkpkegaaGreatRef6
import Derived.Test.YtfdmbomlkpkegaaGreatPure6
import Derived.Test.YtfdmbomlkpkegaaGreatFound
import Derived.OwnWalk
import Derived.Test.YtfdmbomlkpkegaaGreatRefQS

/-! ## Do -/
namespace Go.Proofs.YtfdmbomlkpkegaaGreat
open Go Go.RowKit Go.Dr

def bfoot (p n s : Nat) (wv : Value) (q : Nat) (lv : Value) : Nat → Prop := fun b => foot p n s wv b ∨ b = q ∨ lv.ownBlock = some b
/-- Both disks in memory; G: the blocks that are theirs. -/
def Both [bn : Inhabited Ban] (base : Nat) (w : World) (p q : Nat) (d : DiskS) (x : RDiskS) (G : Nat → Prop) : Prop :=
  ∃ n s wv lv, DiskAt base w p n s wv d ∧ RDiskAt base w q lv x ∧ G = bfoot p n s wv q lv
section
variable [bn : Inhabited Ban] {base : Nat} {w w' : World} {p n s q : Nat} {wv lv : Value} {d : DiskS} {x : RDiskS}
theorem RDiskAt.kind (h : RDiskAt base w q lv x) {b : Nat} (hb : b = q ∨ lv.ownBlock = some b) : base ≤ b ∧ ∃ cs t, w.heap[b]? = some (.cells cs t (0, 0)) ∧ (t = 119 ∨ t = 244) := by
  rcases hb with rfl | hb
  · exact ⟨h.qb, _, _, h.blk, .inl rfl⟩
  · obtain ⟨h1, cur, hz⟩ := h.calls.kind b hb
    exact ⟨h1, _, _, hz, .inr rfl⟩
theorem RDiskAt.foot (h : RDiskAt base w q lv x) : Foot base w (fun b => b = q ∨ lv.ownBlock = some b) := by
  intro b hb
  obtain ⟨h1, cs, t, hz, ht⟩ := h.kind hb
  exact ⟨h1, heap_lt hz, fun cs fr e => by rw [hz] at e; simp at e; obtain ⟨_, rfl, _⟩ := e; rcases ht with ht | ht <;> simp at ht⟩
theorem DiskAt.apart (h : DiskAt base w p n s wv d) (hx : RDiskAt base w q lv x) {b : Nat} (hb : b = q ∨ lv.ownBlock = some b) : ¬ Go.Proofs.YtfdmbomlkpkegaaGreat.foot p n s wv b := fun hf => by
  obtain ⟨_, cs, t, hz, ht⟩ := hx.kind hb
  rcases h.foot_kind hf hz with rfl | rfl <;> rcases ht with ht | ht <;> simp at ht
theorem RDiskAt.byD (hx : RDiskAt base w q lv x) (h : DiskAt base w p n s wv d) (k : Keep (Go.Proofs.YtfdmbomlkpkegaaGreat.foot p n s wv) w w') : RDiskAt base w' q lv x :=
  ⟨k.heap hx.blk (h.apart hx (.inl rfl)), hx.calls.keep h.foot_ok k (fun _ hb => h.apart hx (.inr hb)), hx.qb⟩
theorem DiskAt.byX (h : DiskAt base w p n s wv d) (hx : RDiskAt base w q lv x) (k : Keep (· = q) w w') : DiskAt base w' p n s wv d :=
  h.keep (F := (· = q)) (fun b hb => hx.foot b (.inl hb)) k (fun _ hb e => h.apart hx (.inl e) hb)
theorem RDiskAt.keep {F : Nat → Prop} (hx : RDiskAt base w q lv x) (hF : Foot base w F) (k : Keep F w w') (hn : ∀ b, b = q ∨ lv.ownBlock = some b → ¬ F b) : RDiskAt base w' q lv x :=
  ⟨k.heap hx.blk (hn _ (.inl rfl)), hx.calls.keep hF k (fun b hb => hn b (.inr hb)), hx.qb⟩
theorem Both.foot {G : Nat → Prop} (h : Both base w p q d x G) : Foot base w G := by
  obtain ⟨n, s, wv, lv, h1, h2, rfl⟩ := h
  rintro b (hb | hb)
  · exact h1.foot_ok b hb
  · exact h2.foot b hb
theorem Both.keep {G F : Nat → Prop} (h : Both base w p q d x G) (hF : Foot base w F) (k : Keep F w w') (hn : ∀ b, G b → ¬ F b) : Both base w' p q d x G := by
  obtain ⟨n, s, wv, lv, h1, h2, rfl⟩ := h
  exact ⟨n, s, wv, lv, h1.keep hF k (fun b hb => hn b (.inl hb)), h2.keep hF k (fun b hb => hn b (.inr hb)), rfl⟩
theorem Both.no {G : Nat → Prop} (h : Both base w p q d x G) (k : Keep No w w') : Both base w' p q d x G := h.keep (Foot.no _ _) k (fun _ _ h => h)
end
def ActS.value (a : ActS) (u : Value) : Value := .agg #[.int .u8 a.dop, .int .u64 a.seg, u, .bool a.on, .int .i64 a.keep, .int .i64 a.torn]

end Go.Proofs.YtfdmbomlkpkegaaGreat

/-! ## RefR -/
namespace Go.Proofs.YtfdmbomlkpkegaaGreat
open Go Go.RowKit Go.Dr

theorem R7.byX [bn : Inhabited Ban] {base : Nat} {w w' : World} {q : Nat} {v lv : Value} {ss : List SegL} {x : RDiskS} (h : R7 base w v ss) (hx : RDiskAt base w q lv x) (k0 : Keep (· = q) w w') : R7 base w' v ss := by
  have k : Keep (fun b => b = q ∨ lv.ownBlock = some b) w w' := k0.mono (fun _ _ e => .inl e)
  obtain ⟨ps, h1, h2⟩ := h
  refine ⟨ps, h1, ⟨fun y hy => (h2.recs y hy).keep hx.foot k (fun b e1 e2 => ?_), row_keep h2.row k (fun b e1 e2 => ?_)⟩⟩
  · obtain ⟨us, _, _, hrr⟩ := h2.recs y hy
    obtain ⟨_, cur, hz⟩ := row_kind hrr b e1
    obtain ⟨_, cs, t, hz', ht⟩ := hx.kind e2
    rw [hz] at hz'; simp at hz'; obtain ⟨_, rfl⟩ := hz'; rcases ht with ht | ht <;> simp at ht
  · obtain ⟨_, cur, hz⟩ := row_kind h2.row b e1
    obtain ⟨_, cs, t, hz', ht⟩ := hx.kind e2
    rw [hz] at hz'; simp at hz'; obtain ⟨_, rfl⟩ := hz'; rcases ht with ht | ht <;> simp at ht
/-- What the document's Append leaves. -/
def R7App [bn : Inhabited Ban] (base : Nat) (w : World) (q : Nat) (lv : Value) (next : Nat) (X : RDiskS × Int) (e : Ending) (w' : World) : Prop :=
  ∃ lv', e = .returned (.tuple #[.int .u64 (if X.2 = 0 then (next : Int) else 0), .int .i64 X.2]) ∧ RDiskAt base w' q lv' X.1 ∧ Keep (· = q) w w' ∧ ∀ b, lv'.ownBlock = some b → lv.ownBlock = some b ∨ w.heap.size ≤ b
theorem x_append_cases (x : RDiskS) (n : Int) (B : Bytes) : ((x.append n B).1 = x ∧ (x.append n B).2 = 5) ∨ (x.append n B).2 = 0 := by
  unfold RDiskS.append
  split
  · exact .inl ⟨rfl, rfl⟩
  · split
    · exact .inl ⟨rfl, rfl⟩
    · exact .inr rfl

set_option maxRecDepth 100000 in
set_option maxHeartbeats 4000000 in
theorem rAppend7_spec [bn : Inhabited Ban] {base : Nat} {w : World} {q : Nat} {lv pv : Value} {x : RDiskS} {ss : List SegL} {p : Bytes} (h : RDiskAt base w q lv x) (hb : base ≤ w.heap.size) (hT : ban.top ≤ w.heap.size) (hl : x.l.length ≤ 1000) (hs : wsum x.l ≤ 1099511627776)
    (hm : segs6 x.l = segMap ss) (ho : SegsOk ss) (hn : ∀ s ∈ ss, 0 ≤ s.n ∧ s.n ≤ 1000000) (size : Int) (hp : BytesAt base w pv p) (hpl : p.length ≤ 1048576) (hnx : max (nextOf 0 ss) 1 ≤ 4611686018427387904) :
    Calls Tryz.prog 96 #[.pointer (some ⟨q, 0, none⟩), .int .i64 size, pv] w (R7App base w q lv (max (nextOf 0 ss) 1) (x.append (appS (logD size ss)).n (appB (logD size ss) p))) := by
  obtain ⟨po, pc, rfl⟩ := hp.form
  have hpi : ¬ ((1048576 : Int) < (p.length : Int)) := by omega
  have hrd := rRead_spec h hb hT hl hs hm ho
  have hrec := fun (w' : World) (k : Keep No w w') => rRecord_spec (hp.no k) (Nat.le_trans hT k.size) (by omega)
  have hbeg := fun (w' : World) (v : Value) (h7 : R7 base w' v ss) => rbegins_spec h7 (by have := ho.few; omega) size hn
  have hnext := fun (w' : World) (v : Value) (h7 : R7 base w' v ss) => rNext_spec h7 ho
  have happ := fun (w' : World) (u : Value) (B : Bytes) (k : Keep No w w') (hu : BytesAt base w' u B) (hB : B.length ≤ 1099511627776) => rappend_spec (h.no k) (Nat.le_trans hb k.size) hl hs (appS (logD size ss)).n hu hB
  obtain ⟨fb, hfb⟩ : ∃ fb, freshD size ss = fb := ⟨_, rfl⟩
  rw [hfb] at hbeg
  have hB : appB (logD size ss) p = if fb then headB (max (nextOf 0 ss) 1) ++ recB p else recB p := by
    unfold appB
    rw [show freshB (logD size ss) (lastN (logD size ss)) = fb from hfb]
    rfl
  rw [hB]
  generalize (appS (logD size ss)).n = sn at *
  generalize max (nextOf 0 ss) 1 = nx at *
  have hhead := fun (w' : World) (k : Keep No w w') => rHead_spec (w := w') (Nat.le_trans hT k.size) nx (by omega)
  have HP := Lib.hid (And.intro h (And.intro hp (And.intro hpl (And.intro hb hT))))
  have HC := Lib.hid (And.intro hrd (And.intro hrec (And.intro hbeg (And.intro hnext (And.intro happ hhead)))))
  clear h hp hb hT hl hs hm ho hn hrd hrec hbeg hnext happ hhead hpl hfb hB hnx
  cases fb with
  | false =>
    simp only [Bool.false_eq_true, if_false]
    have hcase := x_append_cases x sn (recB p)
    generalize hX : x.append sn (recB p) = X at hcase ⊢
    obtain ⟨x', c⟩ := X
    dsimp only at hcase
    have HX := Lib.hid hX
    clear hX
    unfold R7App
    dsimp only
    rcases hcase with ⟨rfl, rfl⟩ | rfl
    all_goals
      go_enter Tryz.func96, Tryz.ntmps96
      go_upto_region 8 with (first
        | (go_at_call 148; refine (HC.out.2.2.1 _ _ h71).mono ?_; rintro e w3 ⟨rfl, k3⟩)
        | (go_at_call 147; refine (HC.out.2.1 _ k1).mono ?_; rintro e w2 ⟨v2, rfl, own2, k2⟩; have h71 := h7.no k2)
        | (go_at_call 125; refine HC.out.1.mono ?_; rintro e w1 ⟨v1, rfl, h7, _, k1⟩))
      have hb2 := own2.bytes (base := base) (fun _ => Nat.le_trans HP.out.2.2.2.2 k1.size)
      have kk := (k1.then k2).then k3
      have ha := HC.out.2.2.2.2.1 _ _ _ kk (hb2.no k3) (by rw [recB_length]; have := HP.out.2.2.1; omega)
      have h7k := h71.no k3
      clear own2 hb2 h71 h7
      rw [HX.out] at ha
      dsimp only at ha
    · go_wp2_with (go_at_call 151; refine ha.mono ?_; rintro e w7 ⟨rfl, lv', hx7, k7, o7⟩)
      go_ret2
      exact ⟨rfl, lv', hx7, kk.no.trans k7 (fun _ _ e => e), fun b hb => (o7 b hb).imp (fun h => h) (fun h => Nat.le_trans kk.size h)⟩
    · go_upto_region 11 with (go_at_call 151; refine ha.mono ?_; rintro e w7 ⟨rfl, lv', hx7, k7, o7⟩)
      have h77 := h7k.byX (HP.out.1.no kk) k7
      go_wp2_with (go_at_call 150; refine (HC.out.2.2.2.1 _ _ h77).mono ?_; rintro e w8 ⟨rfl, k8⟩)
      go_ret2
      exact ⟨rfl, lv', hx7.no k8, (kk.no.trans k7 (fun _ _ e => e)).then k8, fun b hb => (o7 b hb).imp (fun h => h) (fun h => Nat.le_trans kk.size h)⟩
  | true =>
    simp only [if_true]
    have hcase := x_append_cases x sn (headB nx ++ recB p)
    generalize hX : x.append sn (headB nx ++ recB p) = X at hcase ⊢
    obtain ⟨x', c⟩ := X
    dsimp only at hcase
    have HX := Lib.hid hX
    clear hX
    unfold R7App
    dsimp only
    rcases hcase with ⟨rfl, rfl⟩ | rfl
    all_goals
      go_enter Tryz.func96, Tryz.ntmps96
      go_upto_region 8 with (first
        | (go_at_call 97; refine (join_spec (slices2 b5 b2k) (by rw [List.flatten_cons, List.flatten_cons, List.flatten_nil, List.append_nil, List.length_append, headB_length, recB_length]; have := HP.out.2.2.1; omega)).mono ?_; rintro e w6 ⟨v6, rfl, own6, k6⟩)
        | (go_at_call 149; refine (HC.out.2.2.2.2.2 _ (((k1.then k2).then k3).then k4)).mono ?_; rintro e w5 ⟨v5, rfl, own5, k5⟩; obtain ⟨o5, c5, rfl⟩ := own5.form; have b5 := own5.bytes (base := base) (fun _ => Nat.le_trans HP.out.2.2.2.2 (((k1.then k2).then k3).then k4).size); have b2k := b2.no ((k3.then k4).then k5))
        | (go_at_call 150; refine (HC.out.2.2.2.1 _ _ h72).mono ?_; rintro e w4 ⟨rfl, k4⟩)
        | (go_at_call 148; refine (HC.out.2.2.1 _ _ h71).mono ?_; rintro e w3 ⟨rfl, k3⟩; have h72 := h71.no k3)
        | (go_at_call 147; refine (HC.out.2.1 _ k1).mono ?_; rintro e w2 ⟨v2, rfl, own2, k2⟩; have h71 := h7.no k2; obtain ⟨o2, c2, rfl⟩ := own2.form; have b2 := own2.bytes (base := base) (fun _ => Nat.le_trans HP.out.2.2.2.2 k1.size))
        | (go_at_call 125; refine HC.out.1.mono ?_; rintro e w1 ⟨v1, rfl, h7, _, k1⟩))
      have e6 : [headB nx, recB p].flatten = headB nx ++ recB p := by simp
      rw [e6] at own6
      have kA := (Keep.refl No w5).alloc (.cells #[.slice o5 (headB nx).length c5, .slice o2 (recB p).length c2] 59)
      have k05 := ((((k1.then k2).then k3).then k4).then k5).then kA
      have kk := k05.then k6
      have hb6 := own6.bytes (base := base) (fun _ => Nat.le_trans HP.out.2.2.2.2 k05.size)
      have ha := HC.out.2.2.2.2.1 _ _ _ kk hb6 (by rw [List.length_append, headB_length, recB_length]; have := HP.out.2.2.1; omega)
      have h7k := h72.no (((k4.then k5).then kA).then k6)
      clear own6 own5 own2 b5 b2k b2 h71 h7 h72 hb6 e6 k05
      rw [HX.out] at ha
      dsimp only at ha
    · go_wp2_with (go_at_call 151; refine ha.mono ?_; rintro e w7 ⟨rfl, lv', hx7, k7, o7⟩)
      go_ret2
      exact ⟨rfl, lv', hx7, kk.no.trans k7 (fun _ _ e => e), fun b hb => (o7 b hb).imp (fun h => h) (fun h => Nat.le_trans kk.size h)⟩
    · go_upto_region 11 with (go_at_call 151; refine ha.mono ?_; rintro e w7 ⟨rfl, lv', hx7, k7, o7⟩)
      have h77 := h7k.byX (HP.out.1.no kk) k7
      go_wp2_with (go_at_call 150; refine (HC.out.2.2.2.1 _ _ h77).mono ?_; rintro e w8 ⟨rfl, k8⟩)
      go_ret2
      exact ⟨rfl, lv', hx7.no k8, (kk.no.trans k7 (fun _ _ e => e)).then k8, fun b hb => (o7 b hb).imp (fun h => h) (fun h => Nat.le_trans kk.size h)⟩
end Go.Proofs.YtfdmbomlkpkegaaGreat
