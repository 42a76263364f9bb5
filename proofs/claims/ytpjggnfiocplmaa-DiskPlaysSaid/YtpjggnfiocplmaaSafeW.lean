/- DiskSafe: the walk. -/
import Derived.Test.YtpjggnfiocplmaaSafe
namespace Go.Proofs.Ytpjggnfiocplmaa
open Go Go.RowKit Go.Dr

theorem Safe1.mono {room : Int} {j k : Nat} {d : DiskS} {x : RDiskS} (h : Safe1 room j d x) (hk : j ≤ k) : Safe1 room k d x := ⟨h.rel, h.room, by have := h.xl; omega, by have := h.xs; omega⟩
theorem Safe2.mono {D0 : AMap} {S : List Int} {j k : Nat} {d : DiskS} {x : RDiskS} (h : Safe2 D0 S j d x) (hk : j ≤ k) : Safe2 D0 S k d x :=
  ⟨h.room, h.safe, h.now, h.keys, h.sum, by have := h.wl; omega, by have := h.ws; omega, by have := h.xl; omega, by have := h.xs; omega, h.s0, h.s1, h.drops⟩
theorem Safe1.new : Safe1 1000 0 { room := 1000, full := false, now := [], safe := [], wait := [] } { room := 1000, full := false, l := [], safe := 0 } :=
  ⟨⟨rfl, rfl, fun _ => rfl, fun _ => rfl, Int.le_refl _, Int.le_refl _, rfl, Keys.nil, Keys.nil⟩, rfl, Nat.le_refl _, Nat.le_refl _⟩
theorem Both.segs [bn : Inhabited Ban] {base : Nat} {w w' : World} {p q : Nat} {d : DiskS} {x : RDiskS} {G : Nat → Prop} {v : Value} {m : AMap} (h : Both base w p q d x G) (hs : SegsAt base w v m) (k : Keep G w w') : SegsAt base w' v m := by
  refine hs.keep h.foot k (fun b hb hg => ?_)
  obtain ⟨_, cur, hz⟩ := hs.kind b hb
  obtain ⟨n, s, wv, lv, h1, h2, rfl⟩ := h
  rcases hg with hg | hg
  · rcases h1.foot_kind hg hz with e | e <;> simp at e
  · obtain ⟨_, cs, t, hz', ht⟩ := h2.kind hg
    rw [hz] at hz'
    simp at hz'
    obtain ⟨_, rfl⟩ := hz'
    rcases ht with e | e <;> simp at e
theorem SetAt.foot {base : Nat} {w : World} {r : Nat} {S : List Int} (h : SetAt w r S) (hb : base ≤ r) : Foot base w (· = r) := by
  obtain ⟨es, clock, hr, _⟩ := h
  rintro b rfl
  exact ⟨hb, heap_lt hr, fun cs fr e => by rw [hr] at e; cases e⟩
theorem SegsAt.set' [bn : Inhabited Ban] {base : Nat} {w w' : World} {v : Value} {m : AMap} {r : Nat} {S : List Int} (hs : SegsAt base w v m) (h : SetAt w r S) (hb : base ≤ r) (k : Keep (· = r) w w') : SegsAt base w' v m := by
  refine hs.keep (h.foot hb) k (fun b hq e => ?_)
  obtain ⟨_, cur, hz⟩ := hs.kind b hq
  obtain ⟨es, clock, hr, _⟩ := h
  rw [e, hr] at hz
  cases hz
theorem crash_sum (d : DiskS) (keep torn : Int) : msum (d.crash keep torn).now ≤ msum d.safe + wsum d.wait := by
  simp only [DiskS.crash]
  unfold crashMap
  have h1 := msum_doneAll d.wait d.safe (keepNum d keep)
  cases hc : d.wait[keepNum d keep]? with
  | none => have := wsum_take_le d.wait (keepNum d keep); simp only []; omega
  | some c =>
    have h2 := wsum_take_le d.wait (keepNum d keep + 1)
    rw [wsum_take hc] at h2
    simp only []
    split
    · have h3 := msum_done ⟨c.seg, c.p.take (min torn ((c.p.length : Int) - 1)).toNat, false⟩ (doneAll (d.wait.take (keepNum d keep)) d.safe)
      simp only [List.length_take] at h3
      omega
    · omega
theorem midN_skip {P : Program} {ops : Array Oper} {Q : Exit → Act → World → Prop} {S : World → Prop} {K : Act → World → Prop} {i : Nat} {r : List Nat} {a : Act} {w : World} {o : Oper} (hi : ops.toList[i]? = some o) (hg : Region.wanted o (yielded ops a.tmps) = false)
    (hS : S w) (h : midN P ops Q S K r (a.put o.dst undef) w) : midN P ops Q S K (i :: r) a w := by
  unfold midN
  refine ⟨o, hi, ?_⟩
  rw [if_neg (by rw [hg]; simp)]
  exact ⟨hS, h⟩
/-- In the first loop: both disks, alike. -/
def S1 [bn : Inhabited Ban] (w : World) (room : Int) (j : Nat) (pv qv : Value) (wr : World) : Prop :=
  ∃ p q d x G, pv = .pointer (some ⟨p, 0, none⟩) ∧ qv = .pointer (some ⟨q, 0, none⟩) ∧ Both w.heap.size wr p q d x G ∧ Safe1 room j d x ∧ Keep No w wr ∧ ∀ b, G b → w.heap.size ≤ b
def S1R [bn : Inhabited Ban] (w : World) (room : Int) (most : Nat) (acts : List ActS) (pv qv i : Value) (wr : World) : Prop :=
  ∃ j : Nat, j ≤ acts.length ∧ i = .int .i64 j ∧ S1 w room (min j most) pv qv wr
/-- In the second loop. -/
def S2 [bn : Inhabited Ban] (w : World) (D0 m0 : AMap) (sv : Value) (gm j : Nat) (pv qv : Value) (wr : World) : Prop :=
  ∃ p q d x G S, pv = .pointer (some ⟨p, 0, none⟩) ∧ qv = .pointer (some ⟨q, 0, none⟩) ∧ Both w.heap.size wr p q d x G ∧ Safe2 D0 S j d x ∧ SetAt wr gm S ∧ Keep No w wr ∧ (∀ b, G b → w.heap.size ≤ b ∧ b ≠ gm) ∧ SegsAt w.heap.size wr sv m0
def S2R [bn : Inhabited Ban] (w : World) (D0 m0 : AMap) (sv : Value) (gm : Nat) (acts : List ActS) (pv qv i : Value) (wr : World) : Prop :=
  ∃ j : Nat, j ≤ acts.length ∧ i = .int .i64 j ∧ S2 w D0 m0 sv gm (min j 20) pv qv wr

set_option maxRecDepth 100000 in
set_option maxHeartbeats 4000000 in
theorem safe_walk [bn : Inhabited Ban] {w : World} (hT : ban.top ≤ w.heap.size) (room : Int) {v1 v2 : Value} {acts1 acts2 : List ActS} (hA1 : ActsAt w.heap.size w v1 acts1) (hok1 : ∀ a ∈ acts1, a.Ok)
    (hA2 : ActsAt w.heap.size w v2 acts2) (hok2 : ∀ a ∈ acts2, a.Ok) (keep torn : Int) (htorn : (Lit.int .i64 torn).wf = true) :
    Calls Try.prog 4 #[.int .u8 room, v1, v2, .int .i64 keep, .int .i64 torn] w fun e w' => e = .returned (.bool true) ∧ Keep No w w' := by
  obtain ⟨ao, cap, rfl, hlc, hcm, hacts1⟩ := hA1
  obtain ⟨bo, cap2, rfl, hlc2, hcm2, hacts2⟩ := hA2
  unfold maxLen at hcm hcm2
  have hlen1 : (acts1.length : Int) ≤ 9223372036854775807 := by omega
  have hlen2 : (acts2.length : Int) ≤ 9223372036854775807 := by omega
  go_enter Try.func4, Try.ntmps4
  go_wp2_with fail
  refine (awake6_spec hT).mono ?_
  rintro e w1 ⟨rfl, k1⟩
  go_wp2_with fail
  refine (new_spec w.heap.size 1000 k1.size).mono ?_
  rintro e w2 ⟨p, n, s, wv, rfl, h2, k2, f2⟩
  have k2 := k1.then k2
  have f2 : ∀ b, foot p n s wv b → w.heap.size ≤ b := fun b hb => Nat.le_trans k1.size (f2 b hb)
  change DiskAt w.heap.size w2 p n s wv { room := 1000, full := false, now := [], safe := [], wait := [] } at h2
  go_upto_block 0 with fail
  have kx : Keep No w2 (w2.alloc (.cells #[.int .i64 1000, .bool false, .slice none 0 0, .int .i64 0] 40)) := (Keep.refl _ _).alloc _
  have hx2 : RDiskAt w.heap.size (w2.alloc (.cells #[.int .i64 1000, .bool false, .slice none 0 0, .int .i64 0] 40)) w2.heap.size (.slice none 0 0) { room := 1000, full := false, l := [], safe := 0 } :=
    ⟨heap_new w2 _, LAt.nil _ _, k2.size⟩
  have hS1 : S1 w 1000 0 (.pointer (some ⟨p, 0, none⟩)) (.pointer (some ⟨w2.heap.size, 0, none⟩)) (w2.alloc (.cells #[.int .i64 1000, .bool false, .slice none 0 0, .int .i64 0] 40)) :=
    ⟨p, w2.heap.size, _, _, _, rfl, rfl, ⟨n, s, wv, _, h2.no kx, hx2, rfl⟩, Safe1.new, k2.then kx, fun b hb => by
      rcases hb with hb | hb | hb
      · exact f2 b hb
      · rw [hb]; exact k2.size
      · simp [Value.ownBlock] at hb⟩
  clear h2 f2 kx hx2
  go_cut [11, 12] (fun pv qv wx => S1 w 1000 20 pv qv wx)
  case first =>
    go_wp2_with fail
    go_loopw [11, 12, 31] (fun pv qv i wr => S1R w 1000 20 acts1 pv qv i wr) (fun _ _ i _ => acts1.length - (intOf i).toNat)
    case atStart => exact ⟨0, Nat.zero_le _, rfl, hS1⟩
    case round =>
      clear hS1 k2 k1
      obtain ⟨j, hj, rfl, p, q, d, x, G, rfl, rfl, hB, hS, hkp, hG⟩ := hrel
      by_cases hlt : j < acts1.length
      · rcases hacts1 with rfl | ⟨g, o, hg, rfl, hacts1⟩
        · simp at hlt
        · have hji : (j : Int) < (acts1.length : Int) := by omega
          have haj : acts1[j]? = some acts1[j] := List.getElem?_eq_getElem hlt
          obtain ⟨u, hu, e0, e1, e2, e3, e4, e5⟩ := hacts1 j _ haj
          have hoj := hok1 _ (List.getElem_mem hlt)
          generalize acts1[j] = a at *
          obtain ⟨uo, uc, rfl⟩ := hu.form
          have e0 := hkp.cell e0 (fun e => e)
          have e1 := hkp.cell e1 (fun e => e)
          have e2 := hkp.cell e2 (fun e => e)
          have e3 := hkp.cell e3 (fun e => e)
          have e4 := hkp.cell e4 (fun e => e)
          have e5 := hkp.cell e5 (fun e => e)
          have hu := hu.no hkp
          have kA : Keep No wr (wr.alloc (.cells #[.int .u8 a.dop, .int .u64 a.seg, .slice uo a.p.length uc, .bool a.on, .int .i64 a.keep, .int .i64 a.torn] 29)) := (Keep.refl _ _).alloc _
          have HL := Lib.hid (And.intro hlt (And.intro hoj hG))
          clear haj hacts1 hok1 hlt hoj hG
          by_cases h20 : j < 20
          · have hji20 : (j : Int) < 20 := by omega
            go_wp2_with fail
            refine (do6_spec (hB.no kA) (Nat.le_trans hkp.size kA.size) (a := a) (hu.no kA) (hS.ok (by decide) (by decide) (by omega) HL.out.2.1)).mono ?_
            rintro e w3 ⟨p', q', G', rfl, hB3, k3, hG3⟩
            have k3' := hkp.then kA |>.absorb k3 (HL.out.2.2)
            clear e0 e1 e2 e3 e4 e5 hu
            go_wp2
            go_roundw
            case rel =>
              refine ⟨j + 1, by have := HL.out.1; omega, by go_num, p', q', _, _, G', rfl, rfl, hB3, (hS.act a).mono (by omega), k3', fun b hb => ?_⟩
              rcases hG3 b hb with h | h
              · exact HL.out.2.2 b h
              · have := hkp.size; have := kA.size; omega
            case measure => have := HL.out.1; simp [intOf]; omega
          · have hji20 : ¬ (j : Int) < 20 := by omega
            go_wp2
            go_roundw
            case rel => exact ⟨j + 1, by have := HL.out.1; omega, by go_num, p, q, d, x, G, rfl, rfl, hB.no kA, hS.mono (by omega), hkp.then kA, HL.out.2.2⟩
            case measure => have := HL.out.1; simp [intOf]; omega
      · have hji : ¬ (j : Int) < (acts1.length : Int) := by omega
        clear hlt
        go_wp2
        go_meet
        exact ⟨p, q, d, x, G, rfl, rfl, hB, hS.mono (by omega), hkp, hG⟩
  case rest =>
    clear hS1 k1 k2
    obtain ⟨p, q, d, x, G, rfl, rfl, hB, hS, hk0, hG⟩ := hcut
    obtain ⟨n, s, wv, lv, hD, hX, rfl⟩ := hB
    generalize wc = w3 at *
    obtain ⟨lo, lc, rfl, _, _⟩ := hX.calls.form
    have hmm := @run_makeMap Try.prog
    have hB3 := hk0.size
    have hxl := hS.xl
    have hxs := hS.xs
    go_wp2_with (go_at_call 22; refine (sync_spec hD hB3).mono ?_; rintro e w4 ⟨rfl, n4, s4, wv4, hD4, k4, f4⟩; have hX4 := hX.byD hD k4; have z2 := cell_of hX4.blk 2; have z3 := cell_of hX4.blk 3; have f3 := frozen_of hX4.blk 3; simp at z2 z3)
    obtain ⟨hX5, k5⟩ := hX4.setSafe (x.l.length : Int)
    have hD5 := hD4.byX hX4 k5
    have hk4 : Keep No w w4 := hk0.absorb k4 (fun b hb => hG b (.inl hb))
    have hk5 : Keep No w (w4.setCell ⟨q, 3, none⟩ (.int .i64 x.l.length)) := hk4.absorb k5 (fun b e => by rw [e]; exact hX4.qb)
    have hG5 : ∀ b, bfoot p n4 s4 wv4 q (.slice lo x.l.length lc) b → w.heap.size ≤ b := fun b hb => by
      rcases hb with hb | hb
      · rcases f4 b hb with h | h
        · exact hG b (.inl h)
        · omega
      · exact hG b (.inr hb)
    generalize w4.setCell ⟨q, 3, none⟩ (.int .i64 x.l.length) = w5 at *
    refine (segs_spec hX5.calls hk5.size (by show x.l.length ≤ 1000; omega) (by show wsum x.l ≤ 1099511627776; omega)).mono ?_
    rintro e w6 ⟨sv, rfl, hSv, k6, n6⟩
    obtain ⟨so, sc, rfl, hsl, hsm⟩ := hSv.form
    unfold maxLen at hsm
    have hD6 := hD5.no k6
    have hX6 := hX5.no k6
    have hk6 := hk5.then k6
    generalize hm0 : segs6 x.l = m0 at *
    have HS := Lib.hid (And.intro hS hm0)
    clear hD hX hD4 hX4 hD5 hX5 k4 k5 hk4 hk5 z2 z3 f3 k6 hS hG hxl hxs f4 hm0
    go_upto_block 2 with (go_at_call 24; refine (full_spec hD6 false).mono ?_; rintro e w7 ⟨rfl, n7, s7, wv7, hD7, k7, f7⟩)
    have hX7 := hX6.byD hD6 k7
    have hSv7 := Both.segs ⟨n4, s4, wv4, _, hD6, hX6, rfl⟩ hSv (k7.mono (fun _ _ e => .inl e))
    have hk7 : Keep No w w7 := hk6.absorb k7 (fun b hb => hG5 b (.inl hb))
    have kM : Keep No w7 (w7.alloc (.map #[] 0)) := (Keep.refl _ _).alloc _
    have hG7 : ∀ b, bfoot p n7 s7 wv7 q (.slice lo x.l.length lc) b → w.heap.size ≤ b ∧ b ≠ w7.heap.size := fun b hb => by
      rcases hb with hb | hb
      · have h1 := hD7.foot_lt b hb
        rcases f7 b hb with h | h
        · exact ⟨hG5 b (.inl h), by omega⟩
        · have := hk6.size; exact ⟨by omega, by omega⟩
      · have h1 := (hX7.foot b hb).2.1
        exact ⟨hG5 b (.inr hb), by omega⟩
    have hS2 : S2 w d.now m0 (.slice so m0.length sc) w7.heap.size 0 (.pointer (some ⟨p, 0, none⟩)) (.pointer (some ⟨q, 0, none⟩)) (w7.alloc (.map #[] 0)) :=
      ⟨p, q, _, _, _, [], rfl, rfl, ⟨n7, s7, wv7, _, hD7.no kM, hX7.no kM, rfl⟩, Safe2.start HS.out.1, ⟨#[], 0, heap_new _ _, rfl, by simp⟩, hk7.then kM, hG7, hSv7.no kM⟩
    have hgm : w.heap.size ≤ w7.heap.size := hk7.size
    generalize w7.heap.size = gm at *
    generalize w7.alloc (.map #[] 0) = w8 at *
    obtain ⟨sv, hsv⟩ : ∃ sv, sv = Value.slice so m0.length sc := ⟨_, rfl⟩
    rw [← hsv] at hS2
    clear hG7 kM hk7 hSv7 hX7 f7 hD7 k7 hD6 hX6 hk6 hSv hG5 hmm
    go_cut [11, 12] (fun pv qv wx => S2 w d.now m0 sv gm 20 pv qv wx)
    case first =>
      go_wp2_with fail
      go_loopw [11, 12, 67] (fun pv qv i wr => S2R w d.now m0 sv gm acts2 pv qv i wr) (fun _ _ i _ => acts2.length - (intOf i).toNat)
      case atStart => exact ⟨0, Nat.zero_le _, rfl, hS2⟩
      case round =>
        clear hS2 hsv
        obtain ⟨j, hj, rfl, p, q, d2, x2, G, S, rfl, rfl, hB, hS, hSet, hkp, hG, hSv⟩ := hrel
        by_cases hlt : j < acts2.length
        · rcases hacts2 with rfl | ⟨g, o, hg, rfl, hacts2⟩
          · simp at hlt
          · have hji : (j : Int) < (acts2.length : Int) := by omega
            have haj : acts2[j]? = some acts2[j] := List.getElem?_eq_getElem hlt
            obtain ⟨u, hu, e0, e1, e2, e3, e4, e5⟩ := hacts2 j _ haj
            have hoj := hok2 _ (List.getElem_mem hlt)
            generalize acts2[j] = a at *
            obtain ⟨uo, uc, rfl⟩ := hu.form
            have e0 := hkp.cell e0 (fun e => e)
            have e1 := hkp.cell e1 (fun e => e)
            have e2 := hkp.cell e2 (fun e => e)
            have e3 := hkp.cell e3 (fun e => e)
            have e4 := hkp.cell e4 (fun e => e)
            have e5 := hkp.cell e5 (fun e => e)
            have hu := hu.no hkp
            have hd0 := hoj.dop0
            have hd1 := hoj.dop1
            have kA : Keep No wr (wr.alloc (.cells #[.int .u8 a.dop, .int .u64 a.seg, .slice uo a.p.length uc, .bool a.on, .int .i64 a.keep, .int .i64 a.torn] 29)) := (Keep.refl _ _).alloc _
            have HL := Lib.hid (And.intro hlt (And.intro hoj (And.intro hG (And.intro hB (And.intro hS (And.intro hSet (And.intro hkp hSv)))))))
            have hskip : Hid (S2R w d.now m0 sv gm acts2 (.pointer (some ⟨p, 0, none⟩)) (.pointer (some ⟨q, 0, none⟩)) (.int .i64 ((j + 1 : Nat) : Int)) (wr.alloc (.cells #[.int .u8 a.dop, .int .u64 a.seg, .slice uo a.p.length uc, .bool a.on, .int .i64 a.keep, .int .i64 a.torn] 29))) :=
              ⟨j + 1, by omega, rfl, p, q, d2, x2, G, S, rfl, rfl, hB.no kA, hS.mono (by omega), hSet.keep kA (fun e => e), hkp.then kA, hG, hSv.no kA⟩
            clear haj hacts2 hok2 hlt hoj hG hB hS hSet hkp hSv hcm hcm2 hlc hlc2
            by_cases h20 : j < 20
            · have hji20 : ¬ (20 : Int) ≤ (j : Int) := by omega
              by_cases h4 : a.dop % 8 = 4
              · go_wp2
                go_roundw
                case rel =>
                  have hq := hskip.out
                  rw [show ((j + 1 : Nat) : Int) = (j : Int) + 1 by omega] at hq
                  exact hq
                case measure => have := HL.out.1; simp [intOf]; omega
              · by_cases h6 : a.dop % 8 = 6
                · go_wp2
                  go_roundw
                  case rel =>
                    have hq := hskip.out
                    rw [show ((j + 1 : Nat) : Int) = (j : Int) + 1 by omega] at hq
                    exact hq
                  case measure => have := HL.out.1; simp [intOf]; omega
                · have fin : ∀ (wM w5 : World) (S' : List Int), SetAt wM gm S' → Keep No w wM → Both w.heap.size wM p q d2 x2 G → SegsAt w.heap.size wM sv m0 → wr.heap.size ≤ wM.heap.size → (∀ k ∈ S, k ∈ S') → (a.dop % 8 = 3 → a.seg ∈ S') →
                      ∀ p' q' G', Both w.heap.size w5 p' q' (doD d2 a) (doX x2 a) G' → Keep G wM w5 → (∀ b, G' b → G b ∨ wM.heap.size ≤ b) →
                      S2R w d.now m0 sv gm acts2 (.pointer (some ⟨p', 0, none⟩)) (.pointer (some ⟨q', 0, none⟩)) (.int .i64 ((j : Int) + 1)) w5 := by
                    intro wM w5 S' hSe hkM hBM hSvM hsz hsub hin p' q' G' hB5 k5 hG5
                    obtain ⟨z1, z2, z3, z4, z5, z6, z7, z8⟩ := HL.out
                    have hgl : gm < wr.heap.size := by obtain ⟨es, c, hz, _⟩ := z6; exact heap_lt hz
                    refine ⟨j + 1, by omega, by go_num, p', q', _, _, G', S', rfl, rfl, hB5, (z5.act a hsub hin h4 h6).mono (by omega), hSe.keep k5 (fun e => (z3 _ e).2 rfl), hkM.absorb k5 (fun b hb => (z3 b hb).1), fun b hb => ?_, hBM.segs hSvM k5⟩
                    rcases hG5 b hb with h | h
                    · exact z3 b h
                    · have := hkM.size; exact ⟨by omega, by omega⟩
                  have FIN := Lib.hid fin
                  clear fin
                  by_cases h3 : a.dop % 8 = 3
                  · obtain ⟨wM, S', hrun, hSe2, kM2, hin, hsub⟩ := set_store (HL.out.2.2.2.2.2.1.keep kA (fun e => e)) a.seg
                    have hFt : Foot w.heap.size _ (· = gm) := (HL.out.2.2.2.2.2.1.keep kA (fun e => e)).foot hgm
                    have hBM : Both w.heap.size wM p q d2 x2 G := (HL.out.2.2.2.1.no kA).keep hFt kM2 (fun b hb e => (HL.out.2.2.1 b hb).2 e)
                    have hSvM := (HL.out.2.2.2.2.2.2.2.no kA).set' (HL.out.2.2.2.2.2.1.keep kA (fun e => e)) hgm kM2
                    have huM := (hu.no kA).keep hFt kM2
                    have hkM : Keep No w wM := (HL.out.2.2.2.2.2.2.1.then kA).absorb kM2 (fun b e => by rw [e]; exact hgm)
                    have hszM : wr.heap.size ≤ wM.heap.size := Nat.le_trans kA.size kM2.size
                    have hgA : wr.heap.size ≠ gm := fun e => by
                      obtain ⟨es, c, hz, _⟩ := HL.out.2.2.2.2.2.1
                      have := heap_lt hz
                      omega
                    have hbx := kM2.heap (heap_new wr (.cells #[.int .u8 a.dop, .int .u64 a.seg, .slice uo a.p.length uc, .bool a.on, .int .i64 a.keep, .int .i64 a.torn] 29)) hgA
                    have c0 := cell_of hbx 0
                    have c1 := cell_of hbx 1
                    have c2 := cell_of hbx 2
                    have c3 := cell_of hbx 3
                    have c4 := cell_of hbx 4
                    have c5 := cell_of hbx 5
                    simp at c0 c1 c2 c3 c4 c5
                    have HM := Lib.hid (And.intro hSe2 (And.intro hkM (And.intro hBM (And.intro hSvM (And.intro hszM (And.intro hsub hin))))))
                    clear hSe2 kM2 hin hsub hFt hSvM hszM hgA hbx hskip
                    go_wp2_with fail
                    refine (do6_spec hBM hkM.size (a := a) huM (HL.out.2.2.2.2.1.ok (by omega) HL.out.2.1)).mono ?_
                    rintro e w5 ⟨p', q', G', rfl, hB5, k5, hG5⟩
                    obtain ⟨y1, y2, y3, y4, y5, y6, y7⟩ := HM.out
                    have hq := FIN.out wM w5 S' y1 y2 y3 y4 y5 y6 (fun _ => y7) p' q' G' hB5 k5 hG5
                    have HQ := Lib.hid hq
                    clear hq c0 c1 c2 c3 c4 c5 e0 e1 e2 e3 e4 e5 hu huM hrun y1 y2 y3 y4 y5 y6 y7 hB5 k5 hG5 hBM hkM
                    go_wp2
                    go_roundw
                    case rel => exact HQ.out
                    case measure => have := HL.out.1; simp [intOf]; omega
                  · clear hskip
                    have b4 : (a.dop % 8 == 4) = false := by simpa using h4
                    have b6 : (a.dop % 8 == 6) = false := by simpa using h6
                    have b3 : (a.dop % 8 == 3) = false := by simpa using h3
                    go_wp2_with fail
                    refine (do6_spec (HL.out.2.2.2.1.no kA) (HL.out.2.2.2.2.2.2.1.then kA).size (a := a) (hu.no kA) (HL.out.2.2.2.2.1.ok (by omega) HL.out.2.1)).mono ?_
                    rintro e w5 ⟨p', q', G', rfl, hB5, k5, hG5⟩
                    have hq := FIN.out _ w5 S (HL.out.2.2.2.2.2.1.keep kA (fun e => e)) (HL.out.2.2.2.2.2.2.1.then kA) (HL.out.2.2.2.1.no kA) (HL.out.2.2.2.2.2.2.2.no kA) kA.size (fun _ h => h) (fun h => absurd h h3) p' q' G' hB5 k5 hG5
                    have HQ := Lib.hid hq
                    clear hq e0 e1 e2 e3 e4 e5 hu hB5 k5 hG5
                    go_wp2
                    go_roundw
                    case rel => exact HQ.out
                    case measure => have := HL.out.1; simp [intOf]; omega
            · have hji20 : (20 : Int) ≤ (j : Int) := by omega
              go_wp2
              go_roundw
              case rel =>
                  have hq := hskip.out
                  rw [show ((j + 1 : Nat) : Int) = (j : Int) + 1 by omega] at hq
                  exact hq
              case measure => have := HL.out.1; simp [intOf]; omega
        · have hji : ¬ (j : Int) < (acts2.length : Int) := by omega
          clear hlt
          go_wp2
          go_meet
          exact ⟨p, q, d2, x2, G, S, rfl, rfl, hB, hS.mono (by omega), hSet, hkp, hG, hSv⟩
    case rest =>
      clear hS2
      obtain ⟨p, q, d2, x2, G, S, rfl, rfl, hB, hS, hSet, hkp, hG, hSv⟩ := hcut
      subst hsv
      generalize wc = w9 at *
      obtain ⟨n9, s9, wv9, lv9, hD, hX, rfl⟩ := hB
      have hk9 := hkp.size
      have hu2 := hS.used
      have hs1 := hS.sum
      have hw1 := hS.wl
      have hw2 := hS.ws
      have hcr := fun w' (k : Keep No w9 w') (kp tn : Int) (ht : (Lit.int .i64 tn).wf = true) => crash_spec (hD.no k) (Nat.le_trans hk9 k.size) (by rw [hS.safe]; omega) (by omega) kp tn ht
      go_upto_block 4 with (go_at_call 20; refine (hcr _ (Keep.refl _ _) keep torn htorn).mono ?_; rintro e w10 ⟨pc, nc, scc, wvc, rfl, hC, k10, fC⟩)
      have hcnow : msum (d2.crash keep torn).now ≤ 1099511627776 := by have := crash_sum d2 keep torn; rw [hS.safe] at this; omega
      go_cut [] (fun wx => Keep No w10 wx)
      clear hok1 hok2 hacts1 hacts2 hcm hcm2 hlc hlc2 hlen1 hlen2 hB3 hk0 hT
      case first =>
        clear hG hkp hX hu2 hs1 hw1 hw2 hk9
        go_wp2_with fail
        go_loopw [108] (fun i wr => ∃ j : Nat, j ≤ m0.length ∧ i = .int .i64 j ∧ Keep No w10 wr) (fun i _ => m0.length - (intOf i).toNat)
        case atStart => exact ⟨0, Nat.zero_le _, rfl, Keep.refl _ _⟩
        case round =>
          obtain ⟨j, hj, rfl, kr⟩ := hrel
          by_cases hlt : j < m0.length
          · obtain ⟨g, rfl, hbg, hcells⟩ := hSv.cells (by omega)
            have hej : m0[j]? = some m0[j] := List.getElem?_eq_getElem hlt
            obtain ⟨u, hu, e0, e1⟩ := hcells j _ hej
            have hmem : m0[j] ∈ m0 := List.getElem_mem hlt
            generalize m0[j] = e at *
            obtain ⟨uo, uc, rfl⟩ := hu.form
            have k9r := k10.then kr
            have e0 := k9r.cell e0 (fun e => e)
            have e1 := k9r.cell e1 (fun e => e)
            have hu := hu.no k9r
            have hji : (j : Int) < (m0.length : Int) := by omega
            have kA : Keep No wr (wr.alloc (.cells #[.int .u64 e.1, .slice uo e.2.length uc] 49)) := (Keep.refl _ _).alloc _
            have hrd := read_spec ((hC.no kr).no kA) hcnow e.1
            have hlook := set_lookup (hSet.keep (k9r.then kA) (fun e => e)) e.1
            have hHB := (k9r.then kA).size
            have HL := Lib.hid hlt
            clear hcells hej hcr hlt
            by_cases hin : e.1 ∈ S
            · have hd : decide (e.1 ∈ S) = true := by simpa using hin
              rw [hd] at hlook
              have HM := Lib.hid (And.intro hin hmem)
              clear hin hd hmem
              go_wp2_with (go_at_call 25; refine hrd.mono ?_; rintro ee w11 ⟨v11, rfl, hv11, _, k11⟩)
              obtain ⟨o11, c11, rfl⟩ := hv11.form
              have hbx := k11.heap (heap_new wr (.cells #[.int .u64 e.1, .slice uo e.2.length uc] 49)) (fun e => e)
              have b0 := cell_of hbx 0
              have b1 := cell_of hbx 1
              simp at b0 b1
              have hglt : gm < (wr.alloc (.cells #[.int .u64 e.1, .slice uo e.2.length uc] 49)).heap.size := by
                obtain ⟨es, c, hz, _⟩ := hSet.keep (k9r.then kA) (fun e => e)
                exact heap_lt hz
              have kr11 := (kr.then kA).then k11
              refine wp_drawN (fun w' => Keep No w11 w') [0, 1, 2, 3, 4, 5, 6, 7, 8, 9, 10, 11, 12, 13, 14, 15, 16, 17, 18, 19, 20, 21, 22, 23] [24, 25, 26, 27] [] (by kernel_rfl) (by kernel_rfl) (fun _ _ _ _ _ h => h) (Keep.refl _ _).drew ?_
              iterate 6 (refine earlyN_cons (v := ?_) rfl rfl rfl ?_ ?_; rotate_left; focus (
                intro w' hq
                have b0' := hq.cell b0 (fun e => e)
                have b1' := hq.cell b1 (fun e => e)
                have hl := hlook w' ((k11.then hq).block gm hglt (fun e => e))
                go_simp
                try with_reducible rfl))
              iterate 18 (refine earlyN_skip rfl rfl (by first | kernel_rfl | simp [Region.wanted, yielded, Act.put, undef]) ?_)
              refine earlyN_nil ?_
              have kd : Keep No w11 w11.drew := (Keep.refl _ _).drew
              iterate 3 (refine midN_skip rfl (by first | kernel_rfl | simp [Region.wanted, yielded, Act.put, undef]) kd ?_)
              refine midN_cons rfl rfl (fun K hK => ?_)
              go_simp
              refine hK _ _ kd ?_
              clear hK K
              refine midN_nil (tailN_nil ?_)
              clear hlook hrd hv11 hbx b0 b1 e0 e1 hu
              go_wp2
              go_roundw
              case rel => exact ⟨j + 1, by have := HL.out; omega, by go_num, kr11.then kd⟩
              case measure => have := HL.out; simp [intOf]; omega
            · have hd : decide (e.1 ∈ S) = false := by simpa using hin
              rw [hd] at hlook
              obtain ⟨t, ht⟩ : ∃ t, (d2.crash keep torn).read e.1 = (e.2 ++ t, 0) := by
                have hge : mget d.now e.1 = some e.2 := by
                  have h1 := HS.out.1.rel.now e.1
                  rw [HS.out.2, mget_mem (by rw [← HS.out.2]; exact (segs6_sorted _).keys) hmem] at h1
                  exact h1.symm
                obtain ⟨t, ht⟩ := crash_stays (d := d2) (by rw [hS.safe]; exact hS.keys) hS.drops hin (by rw [hS.safe]; exact hge) keep torn
                exact ⟨t, by simp [DiskS.read, ht]⟩
              rw [ht] at hrd
              obtain ⟨L, hL⟩ : ∃ L, L = e.2 ++ t := ⟨_, rfl⟩
              rw [← hL] at hrd
              have hle2 : (e.2.length : Int) ≤ (L.length : Int) := by rw [hL]; simp; omega
              have hdl : decide (L.length < e.2.length) = false := by rw [hL]; simp
              have hlt2 : ¬ (L.length : Int) < (e.2.length : Int) := by omega
              have htk : L.take e.2.length = e.2 := by rw [hL]; exact List.take_left
              clear hin hd hmem ht hL
              go_wp2_with (go_at_call 25; refine hrd.mono ?_; rintro ee w11 ⟨v11, rfl, hv11, _, k11⟩)
              obtain ⟨o11, c11, rfl⟩ := hv11.form
              have hbx := k11.heap (heap_new wr (.cells #[.int .u64 e.1, .slice uo e.2.length uc] 49)) (fun e => e)
              have b0 := cell_of hbx 0
              have b1 := cell_of hbx 1
              simp at b0 b1
              have hglt : gm < (wr.alloc (.cells #[.int .u64 e.1, .slice uo e.2.length uc] 49)).heap.size := by
                obtain ⟨es, c, hz, _⟩ := hSet.keep (k9r.then kA) (fun e => e)
                exact heap_lt hz
              have kr11 := (kr.then kA).then k11
              refine wp_drawN (fun w' => Keep No w11 w') [0, 1, 2, 3, 4, 5, 6, 7, 8, 9, 10, 11, 12, 13, 14, 15, 16, 17, 18, 19, 20, 21, 22, 23] [24, 25, 26, 27] [] (by kernel_rfl) (by kernel_rfl) (fun _ _ _ _ _ h => h) (Keep.refl _ _).drew ?_
              iterate 6 (refine earlyN_cons (v := ?_) rfl rfl rfl ?_ ?_; rotate_left; focus (
                intro w' hq
                have b0' := hq.cell b0 (fun e => e)
                have b1' := hq.cell b1 (fun e => e)
                have hl := hlook w' ((k11.then hq).block gm hglt (fun e => e))
                go_simp
                try with_reducible rfl))
              have hc11 : L.length ≤ c11 ∧ c11 ≤ maxLen := by obtain ⟨_, _, hq, h1, h2, _⟩ := hv11; simp at hq; omega
              unfold maxLen at hc11
              have hei : ((e.2.length : Nat) : Int) ≤ (c11 : Int) := by have := hc11.1; omega
              have hsame := fun w' (k : Keep No w11 w') => r1same_spec ((hv11.no k).take e.2.length (by omega)) (((hu.no kA).no k11).no k)
              rw [htk, beq_self_eq_true] at hsame
              clear htk hc11
              iterate 18 (refine earlyN_guarded (v := ?_) rfl rfl (by first | kernel_rfl | simp [Region.wanted, yielded, Act.put, undef]) ?_ ?_; rotate_left; focus (
                intro w' hq
                have b0' := hq.cell b0 (fun e => e)
                have b1' := hq.cell b1 (fun e => e)
                go_simp
                try with_reducible rfl))
              refine earlyN_nil ?_
              have kd : Keep No w11 w11.drew := (Keep.refl _ _).drew
              refine midN_guarded rfl (by first | kernel_rfl | simp [Region.wanted, yielded, Act.put, undef]) (fun K hK => ?_)
              go_simp
              refine (hsame _ kd).mono ?_
              rintro e' w12 ⟨rfl, k12⟩
              have kd := kd.then k12
              refine hK _ _ kd ?_
              clear hK K
              iterate 2 (refine midN_guarded rfl (by first | kernel_rfl | simp [Region.wanted, yielded, Act.put, undef]) (fun K hK => ?_); go_simp; refine hK _ _ kd ?_; clear hK K)
              refine midN_cons rfl rfl (fun K hK => ?_)
              go_simp
              refine hK _ _ kd ?_
              clear hK K
              refine midN_nil (tailN_nil ?_)
              clear hlook hrd hv11 hbx b0 b1 e0 e1 hu hsame
              go_wp2
              go_roundw
              case rel => exact ⟨j + 1, by have := HL.out; omega, by go_num, kr11.then kd⟩
              case measure => have := HL.out; simp [intOf]; omega
          · have hji : ¬ (j : Int) < (m0.length : Int) := by omega
            clear hlt hcr
            go_wp2
            go_meet
            exact kr
      case rest =>
        have kr := hcut
        generalize wc = wr at *
        have hD := hD.no (k10.then kr)
        have hC := hC.no kr
        have hkr := hkp.then (k10.then kr)
        have hkn : Keys d2.now := by rw [hS.now]; exact hS.keys.doneAll _
        have hks : Keys d2.safe := by rw [hS.safe]; exact hS.keys
        have hall := crash_all (d := d2) (by rw [hS.safe]; exact hS.now) hkn
        have hcc := crash_crash (d := d2) hks keep torn
        have hcw : (d2.crash keep torn).wait = [] := rfl
        have hcs := crash_sum d2 keep torn
        rw [hS.safe] at hcs
        have hcsafe : (d2.crash keep torn).safe = (d2.crash keep torn).now := rfl
        have q1 : msum d2.safe + wsum d2.wait ≤ 1099511627776 := by rw [hS.safe]; omega
        have q2 : d2.wait.length ≤ 1000000 := by omega
        generalize hcd : d2.crash keep torn = cd at *
        have q3 : msum cd.safe + wsum cd.wait ≤ 1099511627776 := by rw [hcw, hcsafe]; simp only [wsum]; omega
        have q4 : cd.wait.length ≤ 1000000 := by rw [hcw]; simp
        have hwl : ((cd.wait.length : Nat) : Int) = 0 := by rw [hcw]; rfl
        have hBr := hkr.size
        clear hcr hcnow hG hkp hX hu2 hs1 hw1 hw2 hk9 hSet hSv hS HS hcs hcut k10 fC
        go_wp2_with (first
          | (go_at_call 19; refine hsm2.mono ?_; rintro e6 w17 ⟨rfl, k17⟩)
          | (go_at_call 20; refine (crash_spec hC14 (Nat.le_trans hBr k14.size) q3 q4 keep torn htorn).mono ?_; rintro e5 w16 ⟨py, ny, sy, wvy, rfl, hCy, k16, fy⟩; have hsm2 := same_spec hCy (hC14.no k16) (Nat.le_trans hBr (k14.then k16).size); rw [hcc] at hsm2)
          | (go_at_call 27; refine hwt.mono ?_; rintro e4 w15 ⟨rfl, rfl⟩)
          | (go_at_call 19; refine hsm.mono ?_; rintro e3 w14 ⟨rfl, k14⟩; have hC14 := (hC.no k13).no k14; have k14 := k13.then k14; have hwt := waiting_spec hC14; rw [hwl] at hwt)
          | (go_at_call 20; refine (crash_spec hD hBr q1 q2 d2.wait.length 0 (by decide)).mono ?_; rintro e2 w13 ⟨px, nx, sx, wvx, rfl, hCx, k13, fx⟩; have hsm := same_spec hCx (hD.no k13) (Nat.le_trans hBr k13.size); rw [hall] at hsm)
          | (go_at_call 27; refine (waiting_spec hD).mono ?_; rintro e1 w12 ⟨rfl, rfl⟩))
        go_ret
        exact ⟨rfl, ((hkr.then k14).then k16).then k17⟩
end Go.Proofs.Ytpjggnfiocplmaa
