/- The document's Append. -/
import Derived.Test.YtpjggnfiocplmaaRefQ
import Derived.Test.YtpjggnfiocplmaaDo
namespace Go.Proofs.Ytpjggnfiocplmaa
open Go Go.RowKit Go.Dr

theorem R7.byX [bn : Inhabited Ban] {base : Nat} {w w' : World} {q : Nat} {v lv : Value} {ss : List SegL} {x : RDiskS} (h : R7 base w v ss) (hx : RDiskAt base w q lv x) (k0 : Keep (· = q) w w') : R7 base w' v ss := by
  have k : Keep (fun b => b = q ∨ lv.ownBlock = some b) w w' := k0.mono (fun _ _ e => .inl e)
  obtain ⟨ps, h1, h2⟩ := h
  refine ⟨ps, h1, ⟨fun y hy => (h2.recs y hy).keep hx.foot k (fun b e1 e2 => ?_), row_keep h2.row k (fun b e1 e2 => ?_)⟩⟩
  · obtain ⟨us, _, _, hrr⟩ := h2.recs y hy
    obtain ⟨_, cur, hz⟩ := row_kind hrr b e1
    obtain ⟨_, cs, t, hz', ht⟩ := hx.kind e2
    rw [hz] at hz'; simp at hz'; obtain ⟨_, rfl⟩ := hz'; rcases ht with ht | ht <;> simp at ht
  · obtain ⟨_, cur, hz⟩ := row_kind h2.row b e1
    obtain ⟨_, cs, t, hz', ht⟩ := hx.kind e2
    rw [hz] at hz'; simp at hz'; obtain ⟨_, rfl⟩ := hz'; rcases ht with ht | ht <;> simp at ht
/-- What the document's Append leaves. -/
def R7App [bn : Inhabited Ban] (base : Nat) (w : World) (q : Nat) (lv : Value) (next : Nat) (X : RDiskS × Int) (e : Ending) (w' : World) : Prop :=
  ∃ lv', e = .returned (.tuple #[.int .u64 (if X.2 = 0 then (next : Int) else 0), .int .i64 X.2]) ∧ RDiskAt base w' q lv' X.1 ∧ Keep (· = q) w w' ∧ ∀ b, lv'.ownBlock = some b → lv.ownBlock = some b ∨ w.heap.size ≤ b
theorem x_append_cases (x : RDiskS) (n : Int) (B : Bytes) : ((x.append n B).1 = x ∧ (x.append n B).2 = 5) ∨ (x.append n B).2 = 0 := by
  unfold RDiskS.append
  split
  · exact .inl ⟨rfl, rfl⟩
  · split
    · exact .inl ⟨rfl, rfl⟩
    · exact .inr rfl

set_option maxRecDepth 100000 in
set_option maxHeartbeats 4000000 in
theorem rAppend7_spec [bn : Inhabited Ban] {base : Nat} {w : World} {q : Nat} {lv pv : Value} {x : RDiskS} {ss : List SegL} {p : Bytes} (h : RDiskAt base w q lv x) (hb : base ≤ w.heap.size) (hT : ban.top ≤ w.heap.size) (hl : x.l.length ≤ 1000) (hs : wsum x.l ≤ 1099511627776)
    (hm : segs6 x.l = segMap ss) (ho : SegsOk ss) (hn : ∀ s ∈ ss, 0 ≤ s.n ∧ s.n ≤ 1000000) (size : Int) (hp : BytesAt base w pv p) (hpl : p.length ≤ 1048576) (hnx : max (nextOf 0 ss) 1 ≤ 4611686018427387904) :
    Calls Try.prog 74 #[.pointer (some ⟨q, 0, none⟩), .int .i64 size, pv] w (R7App base w q lv (max (nextOf 0 ss) 1) (x.append (appS (logD size ss)).n (appB (logD size ss) p))) := by
  obtain ⟨po, pc, rfl⟩ := hp.form
  have hpi : ¬ ((1048576 : Int) < (p.length : Int)) := by omega
  have hrd := rRead_spec h hb hT hl hs hm ho
  have hrec := fun (w' : World) (k : Keep No w w') => rRecord_spec (hp.no k) (Nat.le_trans hT k.size) (by omega)
  have hbeg := fun (w' : World) (v : Value) (h7 : R7 base w' v ss) => rbegins_spec h7 (by have := ho.few; omega) size hn
  have hnext := fun (w' : World) (v : Value) (h7 : R7 base w' v ss) => rNext_spec h7 ho
  have happ := fun (w' : World) (u : Value) (B : Bytes) (k : Keep No w w') (hu : BytesAt base w' u B) (hB : B.length ≤ 1099511627776) => rappend_spec (h.no k) (Nat.le_trans hb k.size) hl hs (appS (logD size ss)).n hu hB
  obtain ⟨fb, hfb⟩ : ∃ fb, freshD size ss = fb := ⟨_, rfl⟩
  rw [hfb] at hbeg
  have hB : appB (logD size ss) p = if fb then headB (max (nextOf 0 ss) 1) ++ recB p else recB p := by
    unfold appB
    rw [show freshB (logD size ss) (lastN (logD size ss)) = fb from hfb]
    rfl
  rw [hB]
  generalize (appS (logD size ss)).n = sn at *
  generalize max (nextOf 0 ss) 1 = nx at *
  have hhead := fun (w' : World) (k : Keep No w w') => rHead_spec (w := w') (Nat.le_trans hT k.size) nx (by omega)
  have HP := Lib.hid (And.intro h (And.intro hp (And.intro hpl (And.intro hb hT))))
  have HC := Lib.hid (And.intro hrd (And.intro hrec (And.intro hbeg (And.intro hnext (And.intro happ hhead)))))
  clear h hp hb hT hl hs hm ho hn hrd hrec hbeg hnext happ hhead hpl hfb hB hnx
  cases fb with
  | false =>
    simp only [Bool.false_eq_true, if_false]
    have hcase := x_append_cases x sn (recB p)
    generalize hX : x.append sn (recB p) = X at hcase ⊢
    obtain ⟨x', c⟩ := X
    dsimp only at hcase
    have HX := Lib.hid hX
    clear hX
    unfold R7App
    dsimp only
    rcases hcase with ⟨rfl, rfl⟩ | rfl
    all_goals
      go_enter Try.func74, Try.ntmps74
      go_upto_region 8 with (first
        | (go_at_call 97; refine (HC.out.2.2.1 _ _ h71).mono ?_; rintro e w3 ⟨rfl, k3⟩)
        | (go_at_call 53; refine (HC.out.2.1 _ k1).mono ?_; rintro e w2 ⟨v2, rfl, own2, k2⟩; have h71 := h7.no k2)
        | (go_at_call 75; refine HC.out.1.mono ?_; rintro e w1 ⟨v1, rfl, h7, _, k1⟩))
      have hb2 := own2.bytes (base := base) (fun _ => Nat.le_trans HP.out.2.2.2.2 k1.size)
      have kk := (k1.then k2).then k3
      have ha := HC.out.2.2.2.2.1 _ _ _ kk (hb2.no k3) (by rw [recB_length]; have := HP.out.2.2.1; omega)
      have h7k := h71.no k3
      clear own2 hb2 h71 h7
      rw [HX.out] at ha
      dsimp only at ha
    · go_wp2_with (go_at_call 65; refine ha.mono ?_; rintro e w7 ⟨rfl, lv', hx7, k7, o7⟩)
      go_ret2
      exact ⟨rfl, lv', hx7, kk.no.trans k7 (fun _ _ e => e), fun b hb => (o7 b hb).imp (fun h => h) (fun h => Nat.le_trans kk.size h)⟩
    · go_upto_region 11 with (go_at_call 65; refine ha.mono ?_; rintro e w7 ⟨rfl, lv', hx7, k7, o7⟩)
      have h77 := h7k.byX (HP.out.1.no kk) k7
      go_wp2_with (go_at_call 77; refine (HC.out.2.2.2.1 _ _ h77).mono ?_; rintro e w8 ⟨rfl, k8⟩)
      go_ret2
      exact ⟨rfl, lv', hx7.no k8, (kk.no.trans k7 (fun _ _ e => e)).then k8, fun b hb => (o7 b hb).imp (fun h => h) (fun h => Nat.le_trans kk.size h)⟩
  | true =>
    simp only [if_true]
    have hcase := x_append_cases x sn (headB nx ++ recB p)
    generalize hX : x.append sn (headB nx ++ recB p) = X at hcase ⊢
    obtain ⟨x', c⟩ := X
    dsimp only at hcase
    have HX := Lib.hid hX
    clear hX
    unfold R7App
    dsimp only
    rcases hcase with ⟨rfl, rfl⟩ | rfl
    all_goals
      go_enter Try.func74, Try.ntmps74
      go_upto_region 8 with (first
        | (go_at_call 32; refine (join_spec (slices2 b5 b2k) (by rw [List.flatten_cons, List.flatten_cons, List.flatten_nil, List.append_nil, List.length_append, headB_length, recB_length]; have := HP.out.2.2.1; omega)).mono ?_; rintro e w6 ⟨v6, rfl, own6, k6⟩)
        | (go_at_call 55; refine (HC.out.2.2.2.2.2 _ (((k1.then k2).then k3).then k4)).mono ?_; rintro e w5 ⟨v5, rfl, own5, k5⟩; obtain ⟨o5, c5, rfl⟩ := own5.form; have b5 := own5.bytes (base := base) (fun _ => Nat.le_trans HP.out.2.2.2.2 (((k1.then k2).then k3).then k4).size); have b2k := b2.no ((k3.then k4).then k5))
        | (go_at_call 77; refine (HC.out.2.2.2.1 _ _ h72).mono ?_; rintro e w4 ⟨rfl, k4⟩)
        | (go_at_call 97; refine (HC.out.2.2.1 _ _ h71).mono ?_; rintro e w3 ⟨rfl, k3⟩; have h72 := h71.no k3)
        | (go_at_call 53; refine (HC.out.2.1 _ k1).mono ?_; rintro e w2 ⟨v2, rfl, own2, k2⟩; have h71 := h7.no k2; obtain ⟨o2, c2, rfl⟩ := own2.form; have b2 := own2.bytes (base := base) (fun _ => Nat.le_trans HP.out.2.2.2.2 k1.size))
        | (go_at_call 75; refine HC.out.1.mono ?_; rintro e w1 ⟨v1, rfl, h7, _, k1⟩))
      have e6 : [headB nx, recB p].flatten = headB nx ++ recB p := by simp
      rw [e6] at own6
      have kA := (Keep.refl No w5).alloc (.cells #[.slice o5 (headB nx).length c5, .slice o2 (recB p).length c2] 27)
      have k05 := ((((k1.then k2).then k3).then k4).then k5).then kA
      have kk := k05.then k6
      have hb6 := own6.bytes (base := base) (fun _ => Nat.le_trans HP.out.2.2.2.2 k05.size)
      have ha := HC.out.2.2.2.2.1 _ _ _ kk hb6 (by rw [List.length_append, headB_length, recB_length]; have := HP.out.2.2.1; omega)
      have h7k := h72.no (((k4.then k5).then kA).then k6)
      clear own6 own5 own2 b5 b2k b2 h71 h7 h72 hb6 e6 k05
      rw [HX.out] at ha
      dsimp only at ha
    · go_wp2_with (go_at_call 65; refine ha.mono ?_; rintro e w7 ⟨rfl, lv', hx7, k7, o7⟩)
      go_ret2
      exact ⟨rfl, lv', hx7, kk.no.trans k7 (fun _ _ e => e), fun b hb => (o7 b hb).imp (fun h => h) (fun h => Nat.le_trans kk.size h)⟩
    · go_upto_region 11 with (go_at_call 65; refine ha.mono ?_; rintro e w7 ⟨rfl, lv', hx7, k7, o7⟩)
      have h77 := h7k.byX (HP.out.1.no kk) k7
      go_wp2_with (go_at_call 77; refine (HC.out.2.2.2.1 _ _ h77).mono ?_; rintro e w8 ⟨rfl, k8⟩)
      go_ret2
      exact ⟨rfl, lv', hx7.no k8, (kk.no.trans k7 (fun _ _ e => e)).then k8, fun b hb => (o7 b hb).imp (fun h => h) (fun h => Nat.le_trans kk.size h)⟩
end Go.Proofs.Ytpjggnfiocplmaa
