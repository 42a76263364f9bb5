/- The document's Num. The document's count, Sync, Open on an empty disk. -/
import Derived.Test.YtfdmbomlkpkegaaGreatPack
import Derived.Test.YtfdmbomlkpkegaaGreatLedRt
import Derived.Test.YtfdmbomlkpkegaaGreatDoR
import Derived.Test.YtfdmbomlkpkegaaGreatGood

/-! ## LedRn -/
namespace Go.Proofs.YtfdmbomlkpkegaaGreat
open Go Go.RowKit

theorem byte_own (w : World) (m : Nat) (hm : m < 256) : OwnB (w.alloc (.cells #[.int .u8 m] 5)) w.heap.size (.slice (some ⟨w.heap.size, 0, none⟩) 1 1) [UInt8.ofNat m] := by
  have hb : (((UInt8.ofNat m).toNat : Nat) : Int) = (m : Int) := by simp; omega
  exact ⟨rfl, .inr ⟨w.heap.size, 1, _, rfl, Nat.le_refl _, heap_new _ _, Nat.le_refl _, by decide, rfl, by
      show [Value.int .u8 (m : Int)] = [u8v (UInt8.ofNat m)]
      unfold u8v
      rw [hb]⟩⟩
set_option maxHeartbeats 1000000 in
theorem r2Num_spec : ∀ (k n : Nat), n < 128 ^ (k + 1) → n < 18446744073709551616 → ∀ w : World, Calls Tryz.prog 98 #[.int .u64 n] w fun e w' => ∃ v, e = .returned v ∧ OwnB w' w.heap.size v (numB n) ∧ Keep No w w' := by
  intro k
  induction k with
  | zero =>
    intro n hn h64 w
    have hn : n < 128 := by simpa using hn
    have h1 : (n : Int) < 128 := by omega
    have hw := byte_own w n (by omega)
    have kw := (Keep.refl No w).alloc (.cells #[.int .u8 n] 5)
    have hc : IntKind.u8.wrap (n : Int) = (n : Int) := by rw [IntKind.wrap_u8]; omega
    rw [numB_lt hn]
    have HH := Lib.hid (And.intro hw kw)
    clear hn hw kw
    go_enter Tryz.func98, Tryz.ntmps98
    go_wp2_with fail
    go_ret
    exact ⟨_, rfl, HH.out.1, HH.out.2⟩
  | succ k ih =>
    intro n hn h64 w
    by_cases h : n < 128
    · have h1 : (n : Int) < 128 := by omega
      have hw := byte_own w n (by omega)
      have kw := (Keep.refl No w).alloc (.cells #[.int .u8 n] 5)
      have hc : IntKind.u8.wrap (n : Int) = (n : Int) := by rw [IntKind.wrap_u8]; omega
      rw [numB_lt h]
      have HH := Lib.hid (And.intro hw kw)
      clear hn hw kw h ih
      go_enter Tryz.func98, Tryz.ntmps98
      go_wp2_with fail
      go_ret
      exact ⟨_, rfl, HH.out.1, HH.out.2⟩
    · have h1 : ¬ (n : Int) < 128 := by omega
      have h2 : n / 128 < 128 ^ (k + 1) := by
        rw [Nat.div_lt_iff_lt_mul (by decide)]
        rw [Nat.pow_succ] at hn
        exact hn
      have hih := ih (n / 128) h2 (by omega)
      rw [numB_ge (by omega)]
      have hlen := numB_len k (n / 128) h2
      have hw := byte_own w (n % 128 + 128) (by omega)
      have e1 : ((n % 128 + 128 : Nat) : Int) = (n : Int) % 128 + 128 := by omega
      rw [e1] at hw
      have kw := (Keep.refl No w).alloc (.cells #[.int .u8 ((n : Int) % 128 + 128)] 5)
      have hq : IntKind.u64.wrap ((n : Int) / 128) = (n : Int) / 128 := by rw [IntKind.wrap_u64]; omega
      have hk : (numB (n / 128)).length ≤ 100 := Nat.le_trans (numB_len64 (by omega)) (by decide)
      have hcall := hih (w.alloc (.cells #[.int .u8 ((n : Int) % 128 + 128)] 5))
      have HH := Lib.hid (And.intro hw (And.intro kw hk))
      clear hn hw kw h hih e1 h2 hlen hk h64 ih
      go_enter Tryz.func98, Tryz.ntmps98
      go_wp2_with fail
      refine hcall.mono ?_
      rintro e w2 ⟨v2, rfl, own2, k2⟩
      have hw2 := HH.out.1.keep k2 (fun _ _ e => e)
      have kk := HH.out.2.1.then k2
      have hb2 := own2.bytes (bn := noBan) (base := 0) (fun _ => Nat.zero_le _)
      go_wp2_with (at_builtin; refine wpList_append_bytes (bn := noBan) rfl _ _ rfl w.heap.size hw2 hb2 rfl rfl (by have := HH.out.2.2; simp; omega) kk.size ?_; intro v3 w3 own3 k3)
      go_ret
      exact ⟨_, rfl, own3, kk.trans k3 (fun c hc e => by have := (hw2.lt c e).1; omega)⟩
end Go.Proofs.YtfdmbomlkpkegaaGreat

/-! ## LedRo -/
namespace Go.Proofs.YtfdmbomlkpkegaaGreat
open Go Go.RowKit Go.Dr

set_option maxRecDepth 100000 in
set_option maxHeartbeats 2000000 in
theorem r16count_spec [bn : Inhabited Ban] {base : Nat} {w : World} {q : Nat} {lv : Value} {x : RDiskS} {ss : List SegL} (h : RDiskAt base w q lv x) (hb : base ≤ w.heap.size) (hT : ban.top ≤ w.heap.size)
    (hl : x.l.length ≤ 1000) (hs : wsum x.l ≤ 1099511627776) (hm : segs6 x.l = segMap ss) (ho : SegsOk ss) (hrec : (recsOf ss).length ≤ 400000) :
    Calls Tryz.prog 119 #[.pointer (some ⟨q, 0, none⟩)] w fun e w' => e = .returned (.int .i64 (recsOf ss).length) ∧ Keep No w w' := by
  have hrd := rRead_spec h hb hT hl hs hm ho
  have hall := fun (w1 : World) (v1 : Value) (h7 : R7 base w1 v1 ss) (hb1 : base ≤ w1.heap.size) => rAll_spec h7 hb1 ho.few hrec
  have HH := Lib.hid hb
  clear h hb hT hl hs hm ho hrec
  go_enter Tryz.func119, Tryz.ntmps119
  go_wp2_with (first
    | (go_at_call 126; refine hal.mono ?_; rintro e w2 ⟨v2, rfl, h2, k2⟩; obtain ⟨o2, c2, rfl, _, _⟩ := h2.form)
    | (go_at_call 125; refine hrd.mono ?_; rintro e w1 ⟨v1, rfl, h71, _, k1⟩; have hal := hall w1 v1 h71 (Nat.le_trans HH.out k1.size)))
  go_ret
  exact ⟨rfl, k1.then k2⟩
theorem R16At.lt [bn : Inhabited Ban] {base : Nat} {w : World} {p q : Nat} {lv : Value} {x : RDiskS} {width : Nat} {size safe : Int} (h : R16At base w p q lv x width size safe) : p < w.heap.size := heap_lt h.blk
theorem R16At.ne [bn : Inhabited Ban] {base : Nat} {w : World} {p q : Nat} {lv : Value} {x : RDiskS} {width : Nat} {size safe : Int} (h : R16At base w p q lv x width size safe) : ¬ q = p := fun e => by
  have h1 := h.blk
  rw [← e, h.rdisk.blk] at h1
  simp at h1
set_option maxRecDepth 100000 in
set_option maxHeartbeats 4000000 in
theorem r16Sync_spec [bn : Inhabited Ban] {base : Nat} {w : World} {p q : Nat} {lv : Value} {x : RDiskS} {width : Nat} {size safe : Int} {ss : List SegL} (h : R16At base w p q lv x width size safe) (hb : base ≤ w.heap.size) (hT : ban.top ≤ w.heap.size)
    (hl : x.l.length ≤ 1000) (hs : wsum x.l ≤ 1099511627776) (hm : segs6 x.l = segMap ss) (ho : SegsOk ss) (hrec : (recsOf ss).length ≤ 400000) :
    Calls Tryz.prog 70 #[.pointer (some ⟨p, 0, none⟩)] w fun e w' => (∃ v, e = .returned v) ∧ R16At base w' p q lv x.sync width size (recsOf ss).length ∧ Keep (fun b => b = p ∨ b = q) w w' := by
  have cp := cell_of h.blk 0
  simp at cp
  obtain ⟨lo, lc, rfl, _, _⟩ := h.rdisk.calls.form
  have cq := fun i => cell_of h.rdisk.blk i
  have c2 := cq 2
  have c3 := cq 3
  have f3 := frozen_of h.rdisk.blk 3
  simp at c2 c3
  have HH := Lib.hid (And.intro h (And.intro hb (And.intro hT (And.intro hl (And.intro hs (And.intro hm (And.intro ho hrec)))))))
  clear h hb hT hl hs hm ho hrec cq
  go_enter Tryz.func70, Tryz.ntmps70
  go_upto_region 0 with fail
  have kd : Keep No w w.drew := (Keep.refl _ _).drew
  refine wp_drawN (fun w' => Keep No w w') [0, 1, 2, 3, 4, 5, 6, 7, 8, 9, 10, 11] [] [12, 13, 14] (by kernel_rfl) (by kernel_rfl) (fun _ _ _ _ _ h => h) kd ?_
  iterate 12 (refine earlyN_cons (v := ?_) rfl rfl rfl ?_ ?_; rotate_left; focus (
    intro w' hS
    have f0 := hS.cell cp (fun e => e)
    have f1 := hS.cell c2 (fun e => e)
    go_simp
    try with_reducible rfl))
  refine earlyN_nil (midN_nil (tailN_cons rfl (tailN_cons rfl (tailN_cons rfl (tailN_nil ?_)))))
  have hbk := kd.heap HH.out.1.rdisk.blk (fun e => e)
  have c3 := kd.cell c3 (fun e => e)
  have f3 := frozen_of hbk 3
  have hs1 := heap_setCell_same (i := 3) (u := .int .i64 (x.l.length : Nat)) hbk
  have k1 : Keep (· = q) w.drew (w.drew.setCell ⟨q, 3, none⟩ (.int .i64 (x.l.length : Nat))) := keep_cell _ _
  have hne := HH.out.1.ne
  have hFq : Foot base w.drew (· = q) := fun b e => by
    have e : b = q := e
    subst e
    exact ⟨HH.out.1.rdisk.qb, heap_lt hbk, fun cs fr e => by rw [hbk] at e; simp at e⟩
  have hx1 : RDiskAt base (w.drew.setCell ⟨q, 3, none⟩ (.int .i64 (x.l.length : Nat))) q (.slice lo x.l.length lc) x.sync :=
    ⟨by simpa [RDiskS.sync] using hs1, ((HH.out.1.rdisk.no kd).calls).keep hFq k1 (fun b hb e => by
      have e : b = q := e
      obtain ⟨_, cur, hz⟩ := HH.out.1.rdisk.calls.kind b hb
      rw [e, HH.out.1.rdisk.blk] at hz
      simp at hz), HH.out.1.rdisk.qb⟩
  have hR1 : R16At base (w.drew.setCell ⟨q, 3, none⟩ (.int .i64 (x.l.length : Nat))) p q (.slice lo x.l.length lc) x.sync width size safe := ⟨k1.heap (kd.heap HH.out.1.blk (fun e => e)) (fun e => hne e.symm), hx1, HH.out.1.pb⟩
  have hcnt := r16count_spec hx1 (Nat.le_trans HH.out.2.1 (Nat.le_trans kd.size k1.size)) (Nat.le_trans HH.out.2.2.1 (Nat.le_trans kd.size k1.size)) HH.out.2.2.2.1 HH.out.2.2.2.2.1 HH.out.2.2.2.2.2.1 HH.out.2.2.2.2.2.2.1 HH.out.2.2.2.2.2.2.2
  have k01 : Keep (· = q) w (w.drew.setCell ⟨q, 3, none⟩ (.int .i64 (x.l.length : Nat))) := kd.no.trans k1 (fun _ _ e => e)
  obtain ⟨W1, hW1⟩ : ∃ W1, w.drew.setCell ⟨q, 3, none⟩ (.int .i64 (x.l.length : Nat)) = W1 := ⟨_, rfl⟩
  rw [hW1] at hR1 k01 hcnt
  have cp1 := cell_of hR1.blk 0
  simp at cp1
  have HB := Lib.hid (And.intro hR1 (And.intro k01 hne))
  clear hR1 k01 hx1 hFq hs1 k1 hbk kd hne cp c2
  go_upto_region 1 with fail
  try rw [hW1]
  clear hW1
  go_wp2_with fail
  refine hcnt.mono ?_
  rintro e w2 ⟨rfl, k2⟩
  have hR2 := HB.out.1.no k2
  have hb2 := hR2.blk
  have d3 := cell_of hb2 3
  have fd3 := frozen_of hb2 3
  simp at d3
  have hs2 := heap_setCell_same (i := 3) (u := .int .i64 ((recsOf ss).length : Nat)) hb2
  have k3 : Keep (· = p) w2 (w2.setCell ⟨p, 3, none⟩ (.int .i64 ((recsOf ss).length : Nat))) := keep_cell _ _
  have hFp : Foot base w2 (· = p) := fun b e => by
    have e : b = p := e
    subst e
    exact ⟨HH.out.1.pb, heap_lt hb2, fun cs fr e => by rw [hb2] at e; simp at e⟩
  have hD2 : RDiskAt base (w2.setCell ⟨p, 3, none⟩ (.int .i64 ((recsOf ss).length : Nat))) q (.slice lo x.l.length lc) x.sync :=
    ⟨k3.heap hR2.rdisk.blk HB.out.2.2, hR2.rdisk.calls.keep hFp k3 (fun b hb e => by
      have e : b = p := e
      obtain ⟨_, cur, hz⟩ := hR2.rdisk.calls.kind b hb
      rw [e, hb2] at hz
      simp at hz), hR2.rdisk.qb⟩
  have hR3 : R16At base (w2.setCell ⟨p, 3, none⟩ (.int .i64 ((recsOf ss).length : Nat))) p q (.slice lo x.l.length lc) x.sync width size (recsOf ss).length := ⟨by simpa using hs2, hD2, HH.out.1.pb⟩
  have kk : Keep (fun b => b = p ∨ b = q) w (w2.setCell ⟨p, 3, none⟩ (.int .i64 ((recsOf ss).length : Nat))) := ((HB.out.2.1.then k2).mono (fun _ _ e => .inr e)).trans (k3.mono (fun _ _ e => .inl e)) (fun _ _ e => e)
  have HC := Lib.hid (And.intro hR3 kk)
  clear hR2 hb2 hs2 k3 hFp hD2 hR3 kk
  go_wp2_with fail
  go_end0
  exact ⟨⟨_, rfl⟩, HC.out.1, HC.out.2⟩
/-- The first record that Open writes. -/
def incOne : Bytes := [1, 1]
theorem r16_first {room : Int} {size : Int} (hr : 100 ≤ room) : ∃ c : CallS, (({ room := room, full := false, l := [], safe := 0 } : RDiskS).append (appS (logD size [])).n (appB (logD size []) incOne)) = ({ room := room, full := false, l := [c], safe := 0 }, 0) ∧ ∃ ss, Good 1 [c] ss ∧ (logD size []).append incOne = logD size ss ∧ recsOf ss = [incOne] := by
  have h1 := (appB_length (logD size []) incOne).1
  have hl : incOne.length = 2 := rfl
  obtain ⟨ss, hg, ha, hr2, _⟩ := Good.nil.append size incOne (by decide) (by decide)
  refine ⟨⟨(appS (logD size [])).n, appB (logD size []) incOne, false⟩, ?_, ss, hg, ha, hr2⟩
  unfold RDiskS.append
  rw [if_neg (by simp), if_neg (by
    show ¬ room < (msum (segs6 []) : Int) + _
    have : msum (segs6 []) = 0 := rfl
    omega)]
  rfl
set_option maxRecDepth 100000 in
set_option maxHeartbeats 8000000 in
theorem r16Open_new [bn : Inhabited Ban] {base : Nat} {w : World} {q width : Nat} {lv : Value} {room size : Int} (h : RDiskAt base w q lv { room := room, full := false, l := [], safe := 0 }) (hr : 100 ≤ room) (hw : 1 ≤ width ∧ width ≤ 1024) (hz : 1 ≤ size) (hb : base ≤ w.heap.size) (hT : ban.top ≤ w.heap.size) :
    Calls Tryz.prog 50 #[.pointer (some ⟨q, 0, none⟩), .int .u64 width, .int .i64 size] w fun e w' => ∃ p lv' c ss, e = .returned (.tuple #[.pointer (some ⟨p, 0, none⟩), .int .i64 0]) ∧ R16At base w' p q lv' { room := room, full := false, l := [c], safe := 1 } width size 1 ∧ Good 1 [c] ss ∧
      recsOf ss = [incOne] ∧ logD size ss = (logD size []).append incOne ∧ Keep (· = q) w w' ∧ w.heap.size ≤ p := by
  have hw1 : ¬ (width : Int) < 1 := by omega
  have hw2 : ¬ (1024 : Int) < (width : Int) := by omega
  have hz1 : ¬ size < 1 := by omega
  obtain ⟨c, hfc, ss, hgood, hlog, hrec⟩ := r16_first (size := size) hr
  have HH := Lib.hid (And.intro h (And.intro hb (And.intro hT (And.intro hw (And.intro hgood (And.intro hlog (And.intro hrec hfc)))))))
  clear h hb hT hw hgood hlog hrec hfc hr hz
  go_enter Tryz.func50, Tryz.ntmps50
  go_upto_region 3 with fail
  obtain ⟨W1, hW1⟩ : ∃ W1, W1 = w.alloc (.cells #[.pointer (some ⟨q, 0, none⟩), .int .u64 width, .int .i64 size, .int .i64 0] 157) := ⟨_, rfl⟩
  have hp1 : W1.heap[w.heap.size]? = some (.cells #[.pointer (some ⟨q, 0, none⟩), .int .u64 width, .int .i64 size, .int .i64 0] 157 (0, 0)) := by rw [hW1]; exact heap_new _ _
  have k1 : Keep No w W1 := by rw [hW1]; exact (Keep.refl _ _).alloc _
  have hR1 : R16At base W1 w.heap.size q lv { room := room, full := false, l := [], safe := 0 } width size 0 := ⟨hp1, HH.out.1.no k1, HH.out.2.1⟩
  have hb1 := Nat.le_trans HH.out.2.1 k1.size
  have hT1 := Nat.le_trans HH.out.2.2.1 k1.size
  have htold := r16Told_spec (ss := []) (St := fun k w cs => cs = (stStart width 16).toArray) hR1 hb1 hT1 (by show (0 : Nat) ≤ 1000; decide) (by show (0 : Nat) ≤ _; decide) rfl (Good.nil.segsOk (by decide)) (by show (0 : Nat) ≤ _; decide) (-1) (by decide) ⟨fun k w cs e => by subst e; exact ⟨by have := stStart_size width 16 (by decide); simpa using this, stStart_one width 16⟩, fun _ _ _ _ _ h _ _ => h⟩ (fun _ _ => rfl) (fun k r w' cs pv hk => by simp [recsOf] at hk)
  have htold : Calls Tryz.prog 74 #[.pointer (some ⟨w.heap.size, 0, none⟩), .int .i64 (-1)] W1 fun e w' => ∃ cs, e = .returned (.tuple #[.agg cs, .int .i64 0]) ∧ (cs.size = 66 ∧ cs.all (·.oneCell') = true ∧ (Tryz.prog.info? 168).map (·.size) = some cs.size ∧ cs[0]? = some (.int .u64 0)) ∧ Keep No W1 w' := by
    refine htold.mono ?_
    rintro e w' ⟨cs, rfl, rfl, k⟩
    have hsz : (stStart width 16).toArray.size = 66 := by have := stStart_size width 16 (by decide); simpa using this
    exact ⟨_, rfl, ⟨hsz, stStart_one width 16, by rw [hsz]; exact info_state, rfl⟩, k⟩
  have HA := Lib.hid (And.intro hR1 (And.intro k1 (And.intro hb1 hT1)))
  clear hR1 hp1 k1 hb1 hT1
  go_upto_region 4 with fail
  rw [← hW1]
  clear hW1
  go_upto_region 5 with (first
    | (go_at_call 74; refine htold.mono ?_; rintro e w2 ⟨cs, rfl, ⟨hsz, hone, hinf, hc0⟩, k2⟩)
    | (refine wpList_store_row rfl 168 _ _ rfl w2.heap.size cs rfl rfl 168 Tryz.zeroCells168 (heap_new _ _) hinf (by rw [hsz]; rfl) hone ?_))
  have hz9 := setRow_heap _ w2.heap.size _ cs _ _ (heap_new w2 (.cells Tryz.zeroCells168 168))
  have k3 : Keep No w2 ((w2.alloc (.cells Tryz.zeroCells168 168)).setRow w2.heap.size cs) := ((Keep.refl No w2).alloc _).trans (keep_setRow _ w2.heap.size cs) (fun c hc e => by have e : c = w2.heap.size := e; omega)
  generalize (w2.alloc (.cells Tryz.zeroCells168 168)).setRow w2.heap.size cs = W3 at *
  have d0 := cell_of hz9 0
  rw [hc0] at d0
  have k13 := k2.then k3
  clear hz9 hc0 hinf hone hsz htold k2 k3
  have hb3 := Nat.le_trans HA.out.2.2.1 k13.size
  have hT3 := Nat.le_trans HA.out.2.2.2 k13.size
  have hby := byte_own W3 1 (by decide)
  have kby := (Keep.refl No W3).alloc (.cells #[.int .u8 1] 5)
  have hnum : Calls Tryz.prog 98 #[.int .u64 1] (W3.alloc (.cells #[.int .u8 1] 5)) _ := r2Num_spec 0 1 (by decide) (by decide) (W3.alloc (.cells #[.int .u8 1] 5))
  have d0 := kby.cell d0 (fun e => e)
  have HB := Lib.hid (And.intro hby (And.intro kby (And.intro hb3 (And.intro hT3 k13))))
  clear hby kby hb3 hT3 k13
  go_upto_region 7 with fail
  go_wp2_with fail
  refine hnum.mono ?_
  rintro e w4 ⟨v4, rfl, own4, k4⟩
  obtain ⟨o4, c4, rfl⟩ := own4.form
  have hb4 := own4.bytes (base := base) (fun _ => Nat.le_trans HB.out.2.2.2.1 HB.out.2.1.size)
  have hby4 := (HB.out.1.keep k4 (fun _ _ e => e)).bytes (base := base) (fun _ => HB.out.2.2.2.1)
  have hsl := slices2 hby4 hb4
  have hjn := join_spec hsl (by rw [numB_lt (by decide)]; decide)
  have he : [[UInt8.ofNat 1], numB 1].flatten = incOne := by rw [numB_lt (by decide)]; rfl
  rw [he] at hjn
  have hn1 : (numB 1).length = 1 := by rw [numB_lt (by decide)]; rfl
  rw [hn1] at hjn
  have kA := (Keep.refl No w4).alloc (.cells #[.slice (some ⟨W3.heap.size, 0, none⟩) 1 1, .slice o4 1 c4] 59)
  have k34 := (HB.out.2.1.then k4).then kA
  have HC := Lib.hid k34
  clear hnum own4 k4 hb4 hby4 hsl he kA k34
  go_wp2_with fail
  refine hjn.mono ?_
  rintro e w5 ⟨v5, rfl, own5, k5⟩
  obtain ⟨o5, c5, rfl⟩ := own5.form
  have k15 := (HB.out.2.2.2.2.then HC.out).then k5
  have hb5 := Nat.le_trans HA.out.2.2.1 k15.size
  have hT5 := Nat.le_trans HA.out.2.2.2 k15.size
  have hv5 := own5.bytes (base := base) (fun _ => Nat.le_trans HB.out.2.2.2.1 HC.out.size)
  have hR5 := HA.out.1.no k15
  have happ := rAppend7_spec (ss := []) hR5.rdisk hb5 hT5 (by show (0 : Nat) ≤ 1000; decide) (by show (0 : Nat) ≤ _; decide) rfl (Good.nil.segsOk (by decide)) (fun s hs => by cases hs) size hv5 (by decide) (by decide)
  rw [HH.out.2.2.2.2.2.2.2] at happ
  have HD := Lib.hid (And.intro hR5 (And.intro hb5 (And.intro hT5 k15)))
  clear hjn own5 k5 k15 hb5 hT5 hv5 hR5 hn1 d0
  go_upto_region 10 with (go_at_call 96; refine happ.mono ?_; rintro e w6 ⟨lv6, rfl, hx6, k6, o6⟩)
  have hne := HD.out.1.ne
  have hR6 : R16At base w6 w.heap.size q lv6 { room := room, full := false, l := [c], safe := 0 } width size 0 := ⟨k6.heap HD.out.1.blk (fun e => hne e.symm), hx6, HH.out.2.1⟩
  have hb6 := Nat.le_trans HD.out.2.1 k6.size
  have hT6 := Nat.le_trans HD.out.2.2.1 k6.size
  have hg := HH.out.2.2.2.2.1
  have hsy := r16Sync_spec hR6 hb6 hT6 (by show (1 : Nat) ≤ 1000; decide) (Nat.le_trans hg.sum (by decide)) hg.map (hg.segsOk (by decide)) (by rw [HH.out.2.2.2.2.2.2.1]; decide)
  rw [HH.out.2.2.2.2.2.2.1] at hsy
  have HE := Lib.hid (And.intro k6 (And.intro hR6 hne))
  clear hR6 hb6 hT6 hg k6 hne hx6 o6 happ
  go_wp2_with (go_at_call 70; refine hsy.mono ?_; rintro e w7 ⟨⟨v7, rfl⟩, hR7, k7⟩)
  go_ret2
  have k1 : Keep (· = q) w w6 := (HA.out.2.1.then HD.out.2.2.2).no.trans HE.out.1 (fun _ _ e => e)
  refine ⟨w.heap.size, lv6, c, ss, rfl, hR7, HH.out.2.2.2.2.1, HH.out.2.2.2.2.2.2.1, HH.out.2.2.2.2.2.1.symm, k1.trans k7 (fun b hb e => ?_), Nat.le_refl _⟩
  rcases e with e | e
  · omega
  · exact e
end Go.Proofs.YtfdmbomlkpkegaaGreat
