/- SeglogFits: the walk. -/
import Derived.Test.YtpjggnfiocplmaaFitA
import Derived.Test.YtpjggnfiocplmaaHoldsW
namespace Go.Proofs.Ytpjggnfiocplmaa
open Go Go.RowKit Go.Dr

/-- In the loop of the acts. -/
def ActsI [bn : Inhabited Ban] (w : World) (P : Nat) (size : Int) (j : Nat) (wr : World) : Prop :=
  ∃ (ss : List SegL) (d : DiskS) (x : RDiskS) (G : Nat → Prop), Pair w.heap.size wr P size ss d x G ∧ St7 j RT ss d x ∧ Keep No w wr ∧ ∀ b, G b → w.heap.size ≤ b

/-- In the last loops: the log. -/
def FitI [bn : Inhabited Ban] (w : World) (P g p : Nat) (K : Int) (j : Nat) (ss : List SegL) (d : DiskS) (wr : World) : Prop :=
  ∃ (x : RDiskS) (q n s : Nat) (wv sv lv : Value), wr.heap[P]? = some (.cells #[.pointer (some ⟨g, 0, none⟩), .pointer (some ⟨q, 0, none⟩), .int .i64 K] 81 (0, 0)) ∧ LogAt w.heap.size wr g p sv lv (logD K ss) ∧ DiskAt w.heap.size wr p n s wv d ∧
    St7 j RT ss d x ∧ d.full = false ∧ Keep No w wr ∧ ∀ b, rfoot g p n s wv sv lv b → w.heap.size ≤ b
theorem FitI.no [bn : Inhabited Ban] {w wr wr' : World} {P g p : Nat} {K : Int} {j : Nat} {ss : List SegL} {d : DiskS} (h : FitI w P g p K j ss d wr) (k : Keep No wr wr') : FitI w P g p K j ss d wr' := by
  obtain ⟨x, q, n, s, wv, sv, lv, h1, h2, h3, h4, h5, h6, h7⟩ := h
  exact ⟨x, q, n, s, wv, sv, lv, k.heap h1 (fun e => e), h2.no k, h3.no k, h4, h5, h6.then k, h7⟩
def natsOf (l : Bytes) : List Nat := l.map UInt8.toNat
theorem wpList_append_int {base : Nat} {w : World} {ops : Array Oper} {rest : List Oper} {o : Oper} {a : Act} {Q : Exit → Act → World → Prop} (hg : o.guard = none) (s x : Operand)
    (ho : o.op = .call { callee := .builtin .append, args := #[s, x], argTypes := #[82, 82] }) {v : Value} {l : List Nat} (h : IntsAt base w v l) (hs : a.eval s = v) {B n : Nat} (hB : w.heap[B]? = some (.cells #[.int .i64 (n : Int)] 3 (0, 0)))
    (hx : a.eval x = .slice (some ⟨B, 0, none⟩) 1 1) (hl : l.length ≤ 1099511627776) (hb : base ≤ w.heap.size)
    (hK : ∀ v' w', IntsAt base w' v' (l ++ [n]) → Keep (fun b => v.ownBlock = some b) w w' → (∀ b, v'.ownBlock = some b → v.ownBlock = some b ∨ w.heap.size ≤ b) → wpList Try.prog ops Q rest (a.put o.dst v') w') : wpList Try.prog ops Q (o :: rest) a w :=
  wpList_plain hg fun _ hK' => wp_append_int s x ho h hs hB hx hl hb fun v' w' h1 h2 h3 => hK' _ _ (hK v' w' h1 h2 h3)

theorem IntsAt.base {b b' : Nat} {w : World} {v : Value} {l : List Nat} (h : IntsAt b w v l) (hb : b' ≤ b) : IntsAt b' w v l := by
  refine ⟨h.1, ?_⟩
  rcases h.2 with h | ⟨g, cap, cur, rfl, h1, r⟩
  · exact .inl h
  · exact .inr ⟨g, cap, cur, rfl, Nat.le_trans hb h1, r⟩
theorem rfoot_other [bn : Inhabited Ban] {base : Nat} {w : World} {g p n s : Nat} {wv sv lv : Value} {L : LogS} {d : DiskS} (hl : LogAt base w g p sv lv L) (hd : DiskAt base w p n s wv d) {b : Nat} {cs : Array Value} {t : TypeId} (hz : w.heap[b]? = some (.cells cs t (0, 0)))
    (ht : t = 3 ∨ t = 81) : ¬ rfoot g p n s wv sv lv b := by
  rintro (hf | hf)
  · rcases hd.foot_kind hf hz with e | e <;> rcases ht with rfl | rfl <;> simp at e
  · obtain ⟨_, cs', t', hz', ht'⟩ := hl.kind hf
    rw [hz] at hz'; simp at hz'; obtain ⟨_, rfl⟩ := hz'; rcases ht with rfl | rfl <;> rcases ht' with ht' | ht' | ht' <;> simp at ht'
theorem St7.used {j : Nat} {R : Nat → List SegL → Prop} {ss : List SegL} {d : DiskS} {x : RDiskS} (h : St7 j R ss d x) : msum d.now ≤ 300 * j := by
  have h1 := h.rel.sum
  have h2 := segs6_sum x.l
  have h3 := h.good.sum
  omega
theorem St7.last {j : Nat} {R : Nat → List SegL → Prop} {ss : List SegL} {d : DiskS} {x : RDiskS} (h : St7 j R ss d x) (K : Int) : lastN (logD K ss) ≤ 300 * j := by
  have h2 := segs6_sum x.l
  have h3 := h.good.sum
  rw [h.good.map] at h2
  unfold lastN
  cases hl : (logD K ss).segs.getLast? with
  | none => simp
  | some v =>
    have hm : v ∈ ss.map SegL.view := List.mem_of_getLast? (show (ss.map SegL.view).getLast? = some v from hl)
    obtain ⟨sl, hsl, rfl⟩ := List.mem_map.1 hm
    have h4 : (sl.n, sl.bytes) ∈ segMap ss := List.mem_map.2 ⟨sl, hsl, rfl⟩
    obtain ⟨i, hi, e⟩ := List.getElem_of_mem h4
    have h5 := msum_mem (m := segMap ss) (a := i) (e := (sl.n, sl.bytes)) (by rw [List.getElem?_eq_getElem hi, e])
    show sl.bytes.length ≤ _
    dsimp only at h5
    omega
/-- What the log's append leaves. -/
theorem FitI.append [bn : Inhabited Ban] {w wr : World} {P g p : Nat} {K : Int} {j : Nat} {ss : List SegL} {d : DiskS} (h : FitI w P g p K j ss d wr) (hT : ban.top ≤ w.heap.size) (hj : j ≤ 100) {pv iv : Value} {k : Nat} (hk : k ≤ 255) {l nl : List Nat} {fits : Bool}
    (hp : BytesAt w.heap.size wr pv (List.replicate k 0)) (hI : IntsAt w.heap.size wr iv nl) (hf : fitsF K (d.room - (msum d.now : Int)) (lastN (logD K ss)) (freshB (logD K ss) (lastN (logD K ss))) (k :: l) = fits) :
    ∃ F : Nat → Prop, ¬ F P ∧ (∀ b, iv.ownBlock = some b → ¬ F b) ∧ Calls Try.prog 36 #[.pointer (some ⟨g, 0, none⟩), pv] wr fun e w' => Keep F wr w' ∧ ((∃ n : Nat, e = .returned (.tuple #[.int .u64 n, .int .i64 5]) ∧ fits = false ∧ Keep No w w') ∨
      (∃ n : Nat, e = .returned (.tuple #[.int .u64 n, .int .i64 0]) ∧ ∃ ss' d', FitI w P g p K (j + 1) ss' d' w' ∧ IntsAt w.heap.size w' iv nl ∧ fitsF K (d'.room - (msum d'.now : Int)) (lastN (logD K ss')) (freshB (logD K ss') (lastN (logD K ss'))) l = fits)) := by
  obtain ⟨x, q, n, s, wv, sv, lv, h1, h2, h3, h4, h5, h6, h7⟩ := h
  have hnP := rfoot_other h2 h3 h1 (.inr rfl)
  have hnI : ∀ b, iv.ownBlock = some b → ¬ rfoot g p n s wv sv lv b := fun b hb => by
    obtain ⟨_, cur, hz⟩ := row_kind hI b hb
    exact rfoot_other h2 h3 hz (.inl rfl)
  refine ⟨_, hnP, hnI, ?_⟩
  have hlen : (List.replicate k (0 : UInt8)).length = k := List.length_replicate
  obtain ⟨f1, f2⟩ := fits_step (d := d) (logD K ss) (List.replicate k 0) l h5
  rw [hlen] at f1 f2
  rcases h4.append hj K (List.replicate k 0) (by rw [hlen]; exact hk) with ⟨e5, _⟩ | ⟨e0, ss', happ, hst'⟩
  · refine (lAppend_fullgood h2 h3 h6.size (Nat.le_trans hT h6.size) hp (by rw [hlen]; omega) h4.good hj (h4.small hj) e5).mono ?_
    rintro e w' ⟨rfl, n', s', wv', sv', lv', _, _, k', o'⟩
    exact ⟨k', .inl ⟨0, rfl, by rw [← hf]; exact f1 e5, h6.absorb k' h7⟩⟩
  · refine (lAppend_good h2 h3 h6.size (Nat.le_trans hT h6.size) hp (by rw [hlen]; omega) h4.good hj (h4.small hj) e0).mono ?_
    rintro e w' ⟨rfl, n', s', wv', sv', lv', hl', hd', k', o'⟩
    rw [happ] at hl'
    obtain ⟨g1, g2⟩ := f2 e0
    refine ⟨k', .inr ⟨_, rfl, ss', _, ⟨_, q, n', s', wv', sv', lv', k'.heap h1 hnP, hl', hd', hst', g1, h6.absorb k' h7, fun b hb => ?_⟩, row_keep hI k' hnI, ?_⟩⟩
    · rcases o' b hb with h | h
      · exact h7 b h
      · exact Nat.le_trans h6.size h
    · rw [← hf]
      show fitsF (logD K ss).size _ _ _ l = _
      rw [← happ]
      exact g2.symm

set_option maxRecDepth 100000 in
set_option maxHeartbeats 8000000 in
theorem fits_walk [bn : Inhabited Ban] {w : World} (hT : ban.top ≤ w.heap.size) (r z : Int) (hr0 : 0 ≤ r) (hr1 : r ≤ 65535) (hz0 : 0 ≤ z) (hz1 : z ≤ 65535) {v : Value} {acts : List Act7S} (hA : Acts7At w.heap.size w v acts) (hok : ∀ a ∈ acts, a.Ok) {sv : Value} {sz : Bytes} (hS : BytesAt w.heap.size w sv sz) :
    Calls Try.prog 9 #[.int .u16 r, .int .u16 z, v, sv] w fun e w' => e = .returned (.bool true) ∧ Keep No w w' := by
  obtain ⟨ao, cap, rfl, hlc, hcm, hacts⟩ := hA
  obtain ⟨zo, zcap, rfl⟩ := hS.form
  have hzc : sz.length ≤ zcap ∧ zcap ≤ maxLen := by obtain ⟨_, _, hq, h1, h2, _⟩ := hS; simp at hq; omega
  unfold maxLen at hcm hzc
  obtain ⟨hzc1, hzc2⟩ := hzc
  have hlen1 : (acts.length : Int) ≤ 9223372036854775807 := by omega
  have hop := fun (w' : World) (k : Keep No w w') => open7_spec (base := w.heap.size) (w := w') k.size (Nat.le_trans hT k.size) (r % 2000) (z % 200) (by omega) (by omega) (by omega) (by omega)
  have HP := Lib.hid (And.intro hT (And.intro hacts (And.intro hok hS)))
  have haw := awake7_spec hT
  have hrm : 0 ≤ r % 2000 ∧ r % 2000 ≤ 1000000 := by omega
  have HZC := Lib.hid (And.intro hzc1 hzc2)
  clear hT hacts hok hlc hcm hS hzc1 hzc2
  go_enter Try.func9, Try.ntmps9
  go_upto_block 0 with (first
    | (go_at_call 41; refine (hop _ k1).mono ?_; rintro e w2 ⟨P, G, rfl, hP, k2, hG⟩)
    | (go_at_call 34; refine haw.mono ?_; rintro e w1 ⟨rfl, k1⟩))
  have hI0 : ActsI w P (1 + z % 200) 0 w2 := ⟨[], _, _, G, hP, St7.start (r % 2000) hrm.1 hrm.2, k1.then k2, fun b hb => Nat.le_trans k1.size (hG b hb)⟩
  have hK1 : 1 ≤ 1 + z % 200 := by omega
  clear hop haw hP hG k1 k2
  generalize 1 + z % 200 = K at *
  clear hz0 hz1 hr0 hr1 hrm
  go_cut [] (fun wx => ∃ j : Nat, j ≤ 20 ∧ ActsI w P K j wx)
  case first =>
    go_wp2_with fail
    go_loopw [31] (fun i wr => ∃ j : Nat, j ≤ acts.length ∧ i = .int .i64 j ∧ ActsI w P K (min j 20) wr) (fun i _ => acts.length - (intOf i).toNat)
    case atStart => exact ⟨0, Nat.zero_le _, rfl, hI0⟩
    case round =>
      clear hI0
      obtain ⟨j, hj, rfl, ss, d, x, G, hPr, hH, hk, hG⟩ := hrel
      by_cases hlt : j < acts.length
      · have hacts := HP.out.2.1
        rcases hacts with rfl | ⟨ga, oa, hga, rfl, hacts⟩
        · simp at hlt
        · have haj : acts[j]? = some acts[j] := List.getElem?_eq_getElem hlt
          obtain ⟨u, hu, e0, e1, e2, e3, e4, e5⟩ := hacts j _ haj
          have hoj := HP.out.2.2.1 _ (List.getElem_mem hlt)
          generalize acts[j] = a at *
          obtain ⟨uo, uc, rfl⟩ := hu.form
          have e0 := hk.cell e0 (fun e => e)
          have e1 := hk.cell e1 (fun e => e)
          have e2 := hk.cell e2 (fun e => e)
          have e3 := hk.cell e3 (fun e => e)
          have e4 := hk.cell e4 (fun e => e)
          have e5 := hk.cell e5 (fun e => e)
          have hu := hu.no hk
          have hji : (j : Int) < (acts.length : Int) := by omega
          have kA : Keep No wr (wr.alloc (.cells #[.int .u8 a.dop, .slice uo a.p.length uc, .int .u16 a.n, .bool a.on, .int .i64 a.keep, .int .i64 a.torn] 78)) := (Keep.refl _ _).alloc _
          clear haj hacts
          by_cases hj30 : j < 20
          · have hj30i : (j : Int) < 20 := by omega
            have hH2 : St7 j RT ss d x := by rw [Nat.min_eq_left (by omega)] at hH; exact hH
            have hdc := do7_every (hPr.no kA) hH2 (by omega) (Nat.le_trans hk.size kA.size) (Nat.le_trans HP.out.1 (Nat.le_trans hk.size kA.size)) hK1 (hu.no kA) hoj
            have HL := Lib.hid (And.intro hPr (And.intro hk (And.intro hG (And.intro hlt (And.intro hj30 kA)))))
            clear hPr hH hH2 hk hG hlt hj30 kA hu hoj hj
            go_wp2_with (go_at_call 42; refine hdc.mono ?_; rintro e w4 ⟨rfl, ss', d', x', G4, hP4, hH4, k4, hG4⟩)
            have hk4 : Keep No w w4 := (HL.out.2.1.then HL.out.2.2.2.2.2).absorb k4 HL.out.2.2.1
            have HZ := Lib.hid (And.intro hP4 (And.intro hH4 (And.intro hk4 hG4)))
            clear hP4 hH4 hk4 hG4 k4 hdc
            go_roundw
            case rel =>
              refine ⟨j + 1, HL.out.2.2.2.1, by go_num, ss', d', x', G4, HZ.out.1, by have := HL.out.2.2.2.2.1; rw [Nat.min_eq_left (by omega)]; exact HZ.out.2.1, HZ.out.2.2.1, fun b hb => ?_⟩
              rcases HZ.out.2.2.2 b hb with h | h
              · exact HL.out.2.2.1 b h
              · have h1 := HL.out.2.1.size; simp at h; omega
            case measure => have := HL.out.2.2.2.1; simp [intOf]; omega
          · have HZ := Lib.hid (⟨ss, d, x, G, hPr.no kA, hH.mono (k := min (j + 1) 20) (by omega), hk.then kA, hG⟩ : ActsI w P K (min (j + 1) 20) _)
            have HLT := Lib.hid hlt
            have hj30i : ¬ (j : Int) < 20 := by omega
            clear hPr hH hk hG hu hoj kA hlt hj hj30
            go_wp2_with fail
            go_roundw
            case rel => exact ⟨j + 1, HLT.out, by go_num, HZ.out⟩
            case measure => have := HLT.out; simp [intOf]; omega
      · have hji : ¬ (j : Int) < (acts.length : Int) := by omega
        have HE := Lib.hid (⟨ss, d, x, G, hPr, hH, hk, hG⟩ : ActsI w P K (min j 20) _)
        clear hPr hH hk hG
        go_wp2
        go_meet
        exact ⟨min j 20, by omega, HE.out⟩
  case rest =>
    clear hI0
    obtain ⟨j, hj, ss, d, x, G, hPr, hH, hk, hG⟩ := hcut
    generalize wc = w4 at *
    obtain ⟨g, q, p, n, s, wv, sgv, lv, xv, hA4, rfl⟩ := hPr
    have b0 := cell_of hA4.blk 0
    simp at b0
    have hPL := hA4.PL
    have hDk := fun (h : LogAt w.heap.size w4 g p sgv lv (logD K ss)) => lDisk_spec h
    have hld := lDisk_spec hA4.lg
    have hfu := full_spec hA4.dk false
    have HR := Lib.hid (And.intro hA4 (And.intro hH (And.intro hk (And.intro hG hj))))
    clear hA4 hH hk hG hj hDk
    go_upto_region 13 with (first
      | (go_at_call 24; refine hfu.mono ?_; rintro e w6 ⟨rfl, n6, s6, wv6, hd6, k6, o6⟩)
      | (go_at_call 39; refine hld.mono ?_; rintro e w5 ⟨rfl, e5⟩; have e5 := e5.symm; subst e5))
    obtain ⟨hA4, hH, hk, hG, hj⟩ := HR.out
    have hF0 : FitI w P g p K j ss { d with full := false } w6 := ⟨{ x with full := false }, q, n6, s6, wv6, sgv, lv, k6.heap hA4.blk (fun e => hPL (.inl e)), hA4.lg.keep hA4.dk.foot_ok k6 (fun b hb e => hA4.lg.apart hA4.dk hb e), hd6, hH.full false, rfl, hk.absorb k6 (fun b hb => hG b (.inr (.inl (.inl hb)))), fun b hb => by
      rcases hb with hb | hb
      · rcases o6 b hb with h | h
        · exact hG b (.inr (.inl (.inl h)))
        · exact Nat.le_trans hk.size h
      · exact hG b (.inr (.inl (.inr hb)))⟩
    have hF20 : FitI w P g p K 20 ss { d with full := false } w6 := by
      obtain ⟨x, q, n, s, wv, sv, lv, h1, h2, h3, h4, h5, h6, h7⟩ := hF0
      exact ⟨x, q, n, s, wv, sv, lv, h1, h2, h3, h4.mono hj, h5, h6, h7⟩
    clear hF0 hA4 hH hk hG hj hd6 k6 o6 hPL hld hfu e5 b0 HR
    generalize ({ d with full := false } : DiskS) = d6 at *
    have hk6 : Keep No w w6 := by obtain ⟨_, _, _, _, _, _, _, _, _, _, _, _, h, _⟩ := hF20; exact h
    have hcut : ∃ v20, BytesAt w.heap.size w v20 (sz.take 20) ∧ v20 = .slice zo (sz.take 20).length zcap := by
      refine ⟨_, ?_, rfl⟩
      rw [List.length_take]
      have := HP.out.2.2.2.take (min 20 sz.length) (Nat.min_le_right _ _)
      rw [show sz.take (min 20 sz.length) = sz.take 20 by
        rcases Nat.le_total 20 sz.length with h | h
        · rw [Nat.min_eq_left h]
        · rw [Nat.min_eq_right h, List.take_of_length_le (Nat.le_refl _), List.take_of_length_le h]] at this
      exact this
    obtain ⟨v20, hb20, rfl⟩ := hcut
    have hm20 : (sz.take 20).length ≤ 20 := by rw [List.length_take]; omega
    have hmin : min (sz.length : Int) 20 = ((sz.take 20).length : Int) := by rw [List.length_take]; omega
    have hmc : ((sz.take 20).length : Int) ≤ (zcap : Int) := by have := HZC.out.1; rw [List.length_take]; omega
    have hzci : (zcap : Int) ≤ 9223372036854775807 := by have := HZC.out.2; omega
    generalize sz.take 20 = z20 at *
    go_upto_block 2 with fail
    have HW := Lib.hid (And.intro hF20 (And.intro hk6 (And.intro hb20 hm20)))
    have hz20i : (z20.length : Int) ≤ 1099511627776 := by omega
    clear hF20 hk6 hb20 hm20 hmin hmc hzci
    go_wp2_with fail
    go_loopw [12, 55] (fun iv ix wr => ∃ j : Nat, j ≤ z20.length ∧ ix = .int .i64 j ∧ IntsAt w6.heap.size wr iv (natsOf (z20.take j)) ∧ Keep No w6 wr) (fun _ ix _ => z20.length - (intOf ix).toNat)
    case atStart => exact ⟨0, Nat.zero_le _, rfl, by rw [List.take_zero]; exact World.ownsRow_nil _ _ _ _, Keep.refl _ _⟩
    case round =>
      obtain ⟨j, hj, rfl, hI, hK⟩ := hrel
      obtain ⟨io, ic, rfl, _, _⟩ := hI.form
      by_cases hlt : j < z20.length
      · have hxj : z20[j]? = some z20[j] := List.getElem?_eq_getElem hlt
        obtain ⟨zo', zc', hq, _, _, _, hcell⟩ := HW.out.2.2.1.no (HW.out.2.1.then hK)
        simp only [Value.slice.injEq, true_and] at hq
        obtain ⟨rfl, rfl⟩ := hq
        obtain ⟨ad, rfl, _, hcl⟩ := hcell j _ hxj
        have hst : natsOf (z20.take (j + 1)) = natsOf (z20.take j) ++ [z20[j].toNat] := by
          rw [List.take_add_one, hxj]; simp only [natsOf, Option.toList_some, List.map_append, List.map_cons, List.map_nil]
        have hlen : (natsOf (z20.take j)).length = j := by unfold natsOf; rw [List.length_map, List.length_take]; omega
        rw [hlen] at hI ⊢
        have hx := z20[j].toNat_lt
        generalize z20[j] = xb at *
        unfold u8v at hcl
        have hwx : IntKind.i64.wrap (xb.toNat : Int) = (xb.toNat : Int) := IntWalk.i64_in _ (by omega)
        have hji : (j : Int) < (z20.length : Int) := by omega
        have kA : Keep No wr (wr.alloc (.cells #[.int .i64 (xb.toNat : Int)] 3)) := (Keep.refl _ _).alloc _
        have hIA := hI.no kA
        have hBA := heap_new wr (.cells #[.int .i64 (xb.toNat : Int)] 3)
        have hsA := (hK.then kA).size
        have hlA : (natsOf (z20.take j)).length ≤ 1099511627776 := by have := HW.out.2.2.2; omega
        have HJ := Lib.hid (And.intro hst (And.intro hlt (And.intro (hK.then kA) hI)))
        clear hst hlt hK hI hx hxj hcell hj kA hlen
        go_wp2_with (at_builtin; refine wpList_append_int rfl _ _ rfl hIA rfl hBA rfl hlA hsA ?_; intro v7 w7 hI7 k7 o7)
        go_roundw
        case rel => exact ⟨j + 1, HJ.out.2.1, by go_num, by rw [HJ.out.1]; exact hI7, HJ.out.2.2.1.absorb k7 (fun b hb => by obtain ⟨h1, _⟩ := row_kind HJ.out.2.2.2 b hb; exact h1)⟩
        case measure => have := HJ.out.2.1; simp [intOf]; omega
      · obtain rfl : j = z20.length := by omega
        have hji : ¬ ((z20.length : Int) < (z20.length : Int)) := by omega
        rw [List.take_length] at hI ⊢
        clear hlt hj
        have hF7 := HW.out.1.no hK
        have hnl : (natsOf z20).length ≤ 20 := by unfold natsOf; rw [List.length_map]; exact HW.out.2.2.2
        have h255 : ∀ k ∈ natsOf z20, k ≤ 255 := fun k hk => by
          obtain ⟨b, _, rfl⟩ := List.mem_map.1 hk
          have := b.toNat_lt
          omega
        have hI := hI.base HW.out.2.1.size
        have hkr := HW.out.2.1.then hK
        generalize natsOf z20 = nl at *
        clear hK
        obtain ⟨fits, hfits⟩ : ∃ fits, fitsF K (d6.room - (msum d6.now : Int)) (lastN (logD K ss)) (freshB (logD K ss) (lastN (logD K ss))) nl = fits := ⟨_, rfl⟩
        have hcall : Calls Try.prog 43 #[.pointer (some ⟨g, 0, none⟩), .slice io nl.length ic] wr fun e w' => e = .returned (.bool fits) ∧ Keep No wr w' := by
          obtain ⟨x, q, n, s, wv, sv, lv, h1, h2, h3, h4, h5, h6, h7⟩ := hF7
          rw [← hfits]
          exact lFits_spec h2 h3 h6.size h4.room0 h4.room1 (by have := h4.used; omega) (by have := h4.last K; omega) hI hnl h255
        have b0 : wr.cell? ⟨P, 0, none⟩ = some (.pointer (some ⟨g, 0, none⟩)) := by
          obtain ⟨x, q, n, s, wv, sv, lv, h1, _⟩ := hF7
          have := cell_of h1 0
          simpa using this
        have HF := Lib.hid (And.intro hF7 (And.intro hI (And.intro hkr (And.intro hnl (And.intro h255 hfits)))))
        have hnli : (nl.length : Int) ≤ 1099511627776 := by omega
        clear hF7 hI hkr hnl h255 hfits hz20i HW
        go_upto_block 4 with (go_at_call 43; refine hcall.mono ?_; rintro e w7 ⟨rfl, k7⟩)
        have hst : FitI w P g p K 20 ss d6 w7 ∧ IntsAt w.heap.size w7 (.slice io nl.length ic) nl := ⟨HF.out.1.no k7, HF.out.2.1.no k7⟩
        clear hcall k7 b0
        go_wp2_with fail
        go_loopw [73] (fun ix wr => ∃ j : Nat, j ≤ nl.length ∧ ix = .int .i64 j ∧ ∃ ss' d', FitI w P g p K (20 + j) ss' d' wr ∧ IntsAt w.heap.size wr (.slice io nl.length ic) nl ∧ fitsF K (d'.room - (msum d'.now : Int)) (lastN (logD K ss')) (freshB (logD K ss') (lastN (logD K ss'))) (nl.drop j) = fits) (fun ix _ => nl.length - (intOf ix).toNat)
        case atStart => exact ⟨0, Nat.zero_le _, rfl, ss, d6, hst.1, hst.2, by rw [List.drop_zero]; exact HF.out.2.2.2.2.2⟩
        case round =>
          clear hst
          obtain ⟨j, hj, rfl, s2, d2, hF2, hI2, hf2⟩ := hrel
          by_cases hlt : j < nl.length
          · have hlj : nl[j]? = some nl[j] := List.getElem?_eq_getElem hlt
            have hd : nl.drop j = nl[j] :: nl.drop (j + 1) := List.drop_eq_getElem_cons hlt
            have h255 := HF.out.2.2.2.2.1 _ (List.getElem_mem hlt)
            have hl20 := HF.out.2.2.2.1
            rw [hd] at hf2
            generalize nl[j] = k at *
            obtain ⟨ga, rfl, cj⟩ := hI2.cell hlj
            have hji : (j : Int) < (nl.length : Int) := by omega
            have hw8 := World.drew
            have kd : Keep No wr wr.drew := (Keep.refl _ _).drew
            obtain ⟨w8, hmk, own8, g8⟩ := make_bytes wr.drew w.heap.size k (by omega) (Nat.le_trans (by obtain ⟨_, _, _, _, _, _, _, _, _, _, _, _, h, _⟩ := hF2; exact h.size) kd.size)
            have k8 : Keep No wr w8 := kd.grown g8 (fun _ e => by cases e)
            have b0 : wr.cell? ⟨P, 0, none⟩ = some (.pointer (some ⟨g, 0, none⟩)) := by
              obtain ⟨x, q, n, s, wv, sv, lv, h1, _⟩ := hF2
              have := cell_of h1 0
              simpa using this
            have hb8 := own8.bytes (base := w.heap.size) (fun _ => HP.out.1)
            obtain ⟨F, hFP, hFI, hap⟩ := (hF2.no k8).append HP.out.1 (by omega) h255 hb8 (hI2.no k8) hf2
            have HJ := Lib.hid hlt
            clear hlt hj hF2 hI2 hf2 hlj hd h255 hl20 hw8 own8 g8 hb8 hFI
            go_upto_region 24 with fail
            refine wp_drawS (fun w' => Keep F wr w') [([0, 1, 2, 3, 4], [5, 6, 7]), ([8, 9], [10, 11])] (by kernel_rfl) (by kernel_rfl) (fun _ _ _ _ _ h => h) (Keep.refl _ _).drew ?_
            iterate 5 (refine earlyN_cons (v := ?_) rfl rfl rfl ?_ ?_; rotate_left; focus (
              intro w' hq
              have b0' := hq.cell b0 hFP
              go_simp
              try with_reducible rfl))
            refine earlyN_nil ?_
            refine midN_cons rfl rfl (fun K hK => ?_)
            go_simp
            refine hK _ _ k8.no ?_
            clear hK K
            refine midN_cons rfl rfl (fun K hK => ?_)
            go_simp
            refine hap.mono ?_
            rintro e w9 ⟨k9, hcase⟩
            rcases hcase with ⟨m, rfl, hfl, hk9⟩ | ⟨m, rfl, s3, d3, hF3, hI3, hf3⟩
            · have HE := Lib.hid (And.intro hfl hk9)
              clear hap
              have kR : Keep F wr w9 := k8.no.trans k9 (fun _ _ e => e)
              refine hK _ _ kR ?_
              clear hK K
              refine midN_cons rfl rfl (fun K hK => ?_)
              go_simp
              refine hK _ _ kR ?_
              clear hK K
              refine midN_nil ?_
              iterate 2 (refine earlyN_cons (v := ?_) rfl rfl rfl ?_ ?_; rotate_left; focus (
                intro w' hq
                go_simp
                try with_reducible rfl))
              refine earlyN_nil ?_
              iterate 2 (refine midN_cons rfl rfl (fun K hK => ?_); go_simp; refine hK _ _ kR ?_; clear hK K)
              refine midN_nil ?_
              unfold stagesN
              subst hfl
              clear b0 hmk kR k9 k8 hk9
              go_wp2_with fail
              go_ret
              exact ⟨rfl, HE.out.2⟩
            · have HE := Lib.hid (And.intro hF3 (And.intro hI3 hf3))
              clear hap hF3 hI3 hf3
              have kR : Keep F wr w9 := k8.no.trans k9 (fun _ _ e => e)
              refine hK _ _ kR ?_
              clear hK K
              refine midN_cons rfl rfl (fun K hK => ?_)
              go_simp
              refine hK _ _ kR ?_
              clear hK K
              refine midN_nil ?_
              iterate 2 (refine earlyN_cons (v := ?_) rfl rfl rfl ?_ ?_; rotate_left; focus (
                intro w' hq
                go_simp
                try with_reducible rfl))
              refine earlyN_nil ?_
              iterate 2 (refine midN_cons rfl rfl (fun K hK => ?_); go_simp; refine hK _ _ kR ?_; clear hK K)
              refine midN_nil ?_
              unfold stagesN
              clear b0 hmk kR k9 k8
              go_wp2_with fail
              go_roundw
              case rel => exact ⟨j + 1, HJ.out, by go_num, s3, d3, HE.out.1, HE.out.2.1, HE.out.2.2⟩
              case measure => have := HJ.out; simp [intOf]; omega
          · obtain rfl : j = nl.length := by omega
            have hji : ¬ ((nl.length : Int) < (nl.length : Int)) := by omega
            rw [List.drop_length] at hf2
            have hf3 : fits = true := hf2.symm
            have hk9 : Keep No w wr := by obtain ⟨_, _, _, _, _, _, _, _, _, _, _, _, h, _⟩ := hF2; exact h
            have HE := Lib.hid (And.intro hf3 hk9)
            clear hlt hj hF2 hI2 hf2 hf3 hk9
            go_wp2_with fail
            go_ret
            exact ⟨by rw [HE.out.1]; rfl, HE.out.2⟩
end Go.Proofs.Ytpjggnfiocplmaa
