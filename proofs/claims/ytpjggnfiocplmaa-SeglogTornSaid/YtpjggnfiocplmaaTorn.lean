/- SeglogTorn: the walk. -/
import Derived.Test.YtpjggnfiocplmaaLogZ
import Derived.Test.YtpjggnfiocplmaaSeqY
import Derived.Test.YtpjggnfiocplmaaDisk
namespace Go.Proofs.Ytpjggnfiocplmaa
open Go Go.RowKit

theorem wpList_append_rec [bn : Inhabited Ban] {base : Nat} {w : World} {ops : Array Oper} {rest : List Oper} {o : Oper} {a : Act} {Q : Exit → Act → World → Prop} (hg : o.guard = none) (s x : Operand)
    (ho : o.op = .call { callee := .builtin .append, args := #[s, x], argTypes := #[64, 64] }) {v : Value} {rs : List Bytes} (h : LRecsAt base w v rs) (hs : a.eval s = v) {B : Nat} {u : Value} (hB : w.heap[B]? = some (.cells #[u] 27 (0, 0)))
    (hx : a.eval x = .slice (some ⟨B, 0, none⟩) 1 1) {b : Bytes} (hu : BytesAt base w u b) (hl : rs.length ≤ 1099511627776) (hb : base ≤ w.heap.size)
    (hK : ∀ v' w', LRecsAt base w' v' (rs ++ [b]) → Keep (fun b => v.ownBlock = some b) w w' → (∀ b, v'.ownBlock = some b → v.ownBlock = some b ∨ w.heap.size ≤ b) → wpList Try.prog ops Q rest (a.put o.dst v') w') : wpList Try.prog ops Q (o :: rest) a w :=
  wpList_plain hg fun _ hK' => wp_append_rec s x ho h hs hB hx hu hl hb fun v' w' h1 h2 h3 => hK' _ _ (hK v' w' h1 h2 h3)
theorem LRecsAt.slices [bn : Inhabited Ban] {base : Nat} {w : World} {v : Value} {l : List Bytes} (h : LRecsAt base w v l) : SlicesAt base w v l := by
  obtain ⟨us, h1, h2, h3⟩ := h
  refine ⟨us, h1, h2, ?_⟩
  rcases h3.2 with ⟨rfl, h0⟩ | ⟨g, cap, cur, rfl, _, hz, h4, h5, h6, h7⟩
  · have : l = [] := List.eq_nil_of_length_eq_zero h0
    subst this
    exact ⟨none, 0, rfl, Nat.le_refl _, by decide, .inl rfl⟩
  · refine ⟨_, cap, rfl, h4, h5, .inr ⟨g, 0, rfl, fun i u hu => ?_⟩⟩
    rw [cell_of hz, Nat.zero_add]
    rw [← h7, List.getElem?_take] at hu
    split at hu
    · simpa using hu
    · cases hu
theorem LRecsAt.nil [bn : Inhabited Ban] (base : Nat) (w : World) : LRecsAt base w (.slice none 0 0) [] := ⟨[], rfl, fun i u b h => by simp at h, World.ownsRow_nil _ _ _ _⟩

theorem Ready.keep [bn : Inhabited Ban] {base : Nat} {w w' : World} {g p n s : Nat} {wv sv lv : Value} {size : Int} {ss : List SegL} {rs : List Bytes} {d : DiskS} {F : Nat → Prop} (h : Ready base w g p n s wv sv lv size ss rs d) (hF : Foot base w F) (k : Keep F w w') (hn : ∀ b, rfoot g p n s wv sv lv b → ¬ F b) : Ready base w' g p n s wv sv lv size ss rs d :=
  ⟨h.lg.keep hF k (fun b hb => hn b (.inr hb)), h.dk.keep hF k (fun b hb => hn b (.inl hb)), h.on, h.few, h.full, h.room0, h.room1, h.used, h.wait⟩
theorem put_sum (d : DiskS) (n : Int) (l : Bytes) : msum (d.put ⟨n, l, false⟩).now = msum d.now + l.length := by
  show msum (mset d.now n ((mget d.now n).getD [] ++ l)) = _
  exact msum_put _ _ _
def cutd (ls : List Bytes) (j : Nat) : List Bytes := (ls.take (min j 12)).map (·.take 40)
theorem cutd_length (ls : List Bytes) (j : Nat) : (cutd ls j).length ≤ 12 := by simp [cutd]; omega
theorem cutd_succ {ls : List Bytes} {j : Nat} {b : Bytes} (h : ls[j]? = some b) (hj : j < 12) : cutd ls (j + 1) = cutd ls j ++ [b.take 40] := by
  unfold cutd
  rw [Nat.min_eq_left (by omega), Nat.min_eq_left (by omega), List.take_add_one, h]
  simp
theorem cutd_late {ls : List Bytes} {j : Nat} (hj : ¬ j < 12) : cutd ls (j + 1) = cutd ls j := by
  unfold cutd
  rw [Nat.min_eq_right (by omega), Nat.min_eq_right (by omega)]
/-- In the loop. -/
def TornI [bn : Inhabited Ban] (w : World) (g p : Nat) (K : Int) (rs : List Bytes) (av : Value) (wr : World) : Prop :=
  ∃ n s wv sv lv ss d, Ready w.heap.size wr g p n s wv sv lv K ss rs d ∧ LRecsAt w.heap.size wr av rs ∧ (∀ b, av.ownBlock = some b → ¬ rfoot g p n s wv sv lv b) ∧ d.room = 60000 ∧ (msum d.now ≤ 60 * rs.length ∧ ss.length ≤ rs.length) ∧ Keep No w wr ∧ ∀ b, rfoot g p n s wv sv lv b → w.heap.size ≤ b

set_option maxRecDepth 100000 in
set_option maxHeartbeats 8000000 in
theorem torn_walk [bn : Inhabited Ban] {w : World} (hT : ban.top ≤ w.heap.size) (z : Int) (hz0 : 0 ≤ z) (hz1 : z ≤ 65535) {v pv : Value} {ls : List Bytes} {q : Bytes} (hl : SlicesAt w.heap.size w v ls) (hp : BytesAt w.heap.size w pv q) (t : Int) (ht0 : 0 ≤ t) (ht1 : t ≤ 255) :
    Calls Try.prog 8 #[.int .u16 z, v, pv, .int .u8 t] w fun e w' => e = .returned (.bool true) ∧ Keep No w w' := by
  obtain ⟨us, hus, hbs, ao, cap, rfl, hlc, hcm, hcells⟩ := hl
  obtain ⟨po, pc, rfl⟩ := hp.form
  unfold maxLen at hcm
  have hlen1 : (ls.length : Int) ≤ 9223372036854775807 := by omega
  have HP := Lib.hid (And.intro hp (And.intro hT (And.intro hus (And.intro hbs hcells))))
  clear hp hus hbs hcells hlc hcm
  go_enter Try.func8, Try.ntmps8
  go_wp2_with fail
  refine (awake7_spec hT).mono ?_
  rintro e w1 ⟨rfl, k1⟩
  clear hT
  go_wp2_with fail
  refine (new_spec w.heap.size 60000 k1.size).mono ?_
  rintro e w2 ⟨p, n, s, wv, rfl, h2, k2, f2⟩
  have hm : max (60000 : Int) 0 = 60000 := rfl
  rw [hm] at h2
  clear hm
  have hop := ready_open (size := 1 + z % 200) (ss := []) (rs := []) h2 OnDisk.nil (k1.then k2).size (Nat.le_trans HP.out.2.1 (k1.then k2).size) (by omega) (by simp) (by simp) rfl (by decide) (by decide) (by decide) (by simp)
  have HK2 := Lib.hid (And.intro (k1.then k2) (And.intro f2 k1))
  clear h2 k1 k2 f2
  go_upto_block 0 with (go_at_call 35; refine hop.mono ?_; rintro e w3 ⟨g, sv, lv, rfl, hR, k3, f3⟩)
  have hI0 : TornI w g p (1 + z % 200) (cutd ls 0) (.slice none 0 0) w3 := ⟨n, s, wv, sv, lv, [], _, hR, LRecsAt.nil _ _, fun b hb => by simp [Value.ownBlock] at hb, rfl, ⟨Nat.zero_le _, Nat.zero_le _⟩, HK2.out.1.then k3, fun b hb => by
    have h1 := HK2.out.2.2.size
    have h2 := HK2.out.1.size
    rcases hb with hb | hb
    · exact Nat.le_trans h1 (HK2.out.2.1 b hb)
    · exact Nat.le_trans h2 (f3 b hb)⟩
  clear hR k3 f3 hop HK2
  have hK1 : 1 ≤ 1 + z % 200 := by omega
  generalize 1 + z % 200 = K at *
  clear hz0 hz1
  go_cut [13] (fun av wx => TornI w g p K (cutd ls ls.length) av wx)
  case first =>
    go_wp2_with fail
    go_loopw [13, 41] (fun av i wr => ∃ j : Nat, j ≤ ls.length ∧ i = .int .i64 j ∧ TornI w g p K (cutd ls j) av wr) (fun _ i _ => ls.length - (intOf i).toNat)
    case atStart => exact ⟨0, Nat.zero_le _, rfl, hI0⟩
    case round =>
      clear hI0
      obtain ⟨j, hj, rfl, n, s, wv, sv, lv, ss, d, hR, hA, hAn, hroom, hused, hk, hG⟩ := hrel
      by_cases hlt : j < ls.length
      · have hcells := HP.out.2.2.2.2
        rcases hcells with rfl | ⟨r, o, rfl, hcells⟩
        · simp at hlt
        · have huj : j < us.length := by have := HP.out.2.2.1; omega
          have hu : us[j]? = some us[j] := List.getElem?_eq_getElem huj
          have hb : ls[j]? = some ls[j] := List.getElem?_eq_getElem hlt
          have c0 := hk.cell (hcells j _ hu) (fun e => e)
          have hB := (HP.out.2.2.2.1 j _ _ hu hb).no hk
          generalize us[j] = u at *
          obtain ⟨b, hbe⟩ : ∃ b, ls[j] = b := ⟨_, rfl⟩
          rw [hbe] at hB hb
          obtain ⟨uo, uc, rfl⟩ := hB.form
          have hji : (j : Int) < (ls.length : Int) := by omega
          by_cases h12 : j < 12
          · have hj12 : (j : Int) < 12 := by omega
            have hsucc := cutd_succ hb h12
            have hcl := cutd_length ls j
            have hcut := cut_spec hB 40 (by decide)
            have hbl : (b.take 40).length ≤ 40 := by rw [List.length_take]; omega
            generalize hbt : b.take 40 = bt at *
            clear hbt
            have hapl := appB_length (logD K ss) bt
            have hap := fun (w' : World) (k : Keep No wr w') (v' : Value) (hv : BytesAt w.heap.size w' v' bt) => ready_append (hR.no k) (Nat.le_trans hk.size k.size) (Nat.le_trans HP.out.2.1 (Nat.le_trans hk.size k.size)) hv (by omega) (by omega) (by rw [hroom]; have := hused.1; omega)
            have HL := Lib.hid (And.intro hlt (And.intro hR (And.intro hA (And.intro hAn (And.intro hroom (And.intro hused (And.intro hk (And.intro hG (And.intro hsucc (And.intro hcl (And.intro hap (And.intro hbl hapl))))))))))))
            clear hlt hR hAn hroom hused hk hG hsucc hcl hap hcells hu hb hB h12 hbe hbl hapl hj
            obtain ⟨ao', ac', rfl, _, _⟩ := hA.form
            clear hA
            go_upto_region 13 with (first
              | (go_at_call 36; refine (HL.out.2.2.2.2.2.2.2.2.2.2.1 _ k4 _ hq4).mono ?_; rintro e w5 ⟨rfl, n5, s5, wv5, sv5, lv5, ss5, hR5, hs55, k5, f5⟩)
              | (go_at_call 16; refine hcut.mono ?_; rintro e w4 ⟨v4, rfl, own4, k4⟩; have hq4 := own4.bytes (base := w.heap.size) (fun _ => Nat.le_trans HP.out.2.1 HL.out.2.2.2.2.2.2.1.size); obtain ⟨o4, c4, rfl⟩ := own4.form))
            obtain ⟨hlt, hR, hA, hAn, hroom, hused, hk, hG, hsucc, hcl, _, hbl, hapl⟩ := HL.out
            have hR4 := hR.no k4
            have hA4 := hA.keep (Foot.no _ _) k4 (fun _ _ e => e)
            have hA5 := hA4.keep hR4.foot k5 hAn
            have hq5 := hq4.keep hR4.foot k5
            have kA : Keep No w5 (w5.alloc (.cells #[.slice o4 bt.length c4] 27)) := (Keep.refl _ _).alloc _
            have hk5 : Keep No w w5 := (hk.then k4).absorb k5 hG
            have hA6 := hA5.keep (Foot.no _ _) kA (fun _ _ e => e)
            have hq6 := hq5.no kA
            have hb6 := heap_new w5 (.cells #[.slice o4 bt.length c4] 27)
            have hfew : (cutd ls j).length ≤ 1099511627776 := by omega
            have HM := Lib.hid (And.intro hR4 (And.intro hA5 (And.intro hR5 (And.intro k5 (And.intro f5 (And.intro k4 (And.intro hk5 hfew)))))))
            have hsz6 : w.heap.size ≤ (w5.alloc (.cells #[.slice o4 bt.length c4] 27)).heap.size := (hk5.then kA).size
            clear hR4 hA4 hA5 hR5 k5 f5 k4 hq5 hq4 own4 hfew hlt hR hA hAn hroom hused hk hG hsucc hcl hbl hapl hk5
            generalize hcn : (cutd ls j).length = cn at *
            have HCN := Lib.hid hcn
            clear hcn
            go_wp2_with (at_builtin; refine wpList_append_rec rfl _ _ rfl hA6 rfl hb6 rfl hq6 (by have := HM.out.2.2.2.2.2.2.2; have := HCN.out; omega) hsz6 ?_; intro v7 w7 hA7 k7 own7)
            go_roundw
            case rel =>
              obtain ⟨hR4, hA5, hR5, k5, f5, k4, hk5, _⟩ := HM.out
              obtain ⟨hlt, hR, hA, hAn, hroom, hused, hk, hG, hsucc, hcl, _, hbl, hapl⟩ := HL.out
              have hn5 : ∀ b, (Value.slice ao' cn ac').ownBlock = some b → ¬ rfoot g p n5 s5 wv5 sv5 lv5 b := fun b hb hr => by
                rcases f5 b hr with h | h
                · exact hAn b hb h
                · have := (hA.foot b hb).2.1
                  have := k4.size
                  omega
              have hR7 := (hR5.no kA).keep hA6.foot k7 (fun b hb hr => hn5 b hr hb)
              refine ⟨j + 1, by omega, by go_num, n5, s5, wv5, sv5, lv5, ss5, d.put ⟨(appS (logD K ss)).n, appB (logD K ss) bt, false⟩, by rw [hsucc]; exact hR7, by rw [hsucc]; exact hA7, fun b hb hr => ?_, hroom, ?_, (hk5.then kA).absorb k7 (fun b hb => ?_), fun b hb => ?_⟩
              · rcases own7 b hb with h | h
                · exact hn5 b h hr
                · have := (hR5.foot b hr).2.1
                  have := kA.size
                  omega
              · rw [put_sum, hsucc, List.length_append, List.length_singleton]
                have := HCN.out
                have := hused.1
                have := hused.2
                constructor <;> omega
              · exact (hA6.foot b hb).1
              · rcases f5 b hb with h | h
                · exact hG b h
                · exact Nat.le_trans (hk.then k4).size h
            case measure => have := HL.out.1; simp [intOf]; omega
          · have hj12 : ¬ (j : Int) < 12 := by omega
            have hlate := cutd_late (ls := ls) h12
            go_wp2
            go_roundw
            case rel => exact ⟨j + 1, by omega, by go_num, n, s, wv, sv, lv, ss, d, by rw [hlate]; exact hR, by rw [hlate]; exact hA, hAn, hroom, by rw [hlate]; exact hused, hk, hG⟩
            case measure => simp [intOf]; omega
      · have hji : ¬ (j : Int) < (ls.length : Int) := by omega
        obtain rfl : j = ls.length := by omega
        clear hlt
        go_wp2
        go_meet
        exact ⟨n, s, wv, sv, lv, ss, d, hR, hA, hAn, hroom, hused, hk, hG⟩
  case rest =>
    clear hI0
    obtain ⟨n, s, wv, sv, lv, ss, d, hR, hA, hAn, hroom, hused, hk, hG⟩ := hcut
    generalize wc = w4 at *
    have hcl := cutd_length ls ls.length
    have HRL := Lib.hid (show ∀ b ∈ cutd ls ls.length, b.length ≤ 40 from fun b hb => by
      obtain ⟨c, _, rfl⟩ := List.mem_map.1 hb
      rw [List.length_take]; omega)
    generalize cutd ls ls.length = rs at *
    obtain ⟨ao', ac', rfl, _, _⟩ := hA.form
    have hsync := lSync_spec hR.lg hR.dk hk.size
    -- synced
    go_upto_region 16 with (go_at_call 37; refine hsync.mono ?_; rintro e w5 ⟨rfl, n5, s5, wv5, hD5, k5, f5⟩)
    have hk5 : Keep No w w5 := hk.absorb k5 (fun b hb => hG b (.inl hb))
    have hL5 := hR.lg.byD hR.dk k5
    have hF0 : Foot w.heap.size w4 (foot p n s wv) := hR.dk.foot_ok
    have hA5 := hA.keep hF0 k5 (fun b hb hf => hAn b hb (.inl hf))
    have hR5 : Ready w.heap.size w5 g p n5 s5 wv5 sv lv K ss rs d.sync := ⟨hL5, hD5, hR.on, hR.few, hR.full, hR.room0, hR.room1, hR.used, by simp [DiskS.sync]⟩
    have hn5 : ∀ b, (Value.slice ao' rs.length ac').ownBlock = some b → ¬ rfoot g p n5 s5 wv5 sv lv b := fun b hb hr => by
      rcases hr with hr | hr
      · rcases f5 b hr with h | h
        · exact hAn b hb (.inl h)
        · have := (hA.foot b hb).2.1; omega
      · exact hAn b hb (.inr hr)
    have hG5 : ∀ b, rfoot g p n5 s5 wv5 sv lv b → w.heap.size ≤ b := fun b hb => by
      rcases hb with hb | hb
      · rcases f5 b hb with h | h
        · exact hG b (.inl h)
        · exact Nat.le_trans hk.size h
      · exact hG b (.inr hb)
    have hcut := cut_spec (HP.out.1.no hk5) 40 (by decide)
    have hbl : (q.take 40).length ≤ 40 := by rw [List.length_take]; omega
    generalize q.take 40 = q4 at *
    have hroom5 : d.sync.room = 60000 := hroom
    have hused5 : msum d.sync.now ≤ 60 * rs.length ∧ ss.length ≤ rs.length := hused
    have hwait5 : d.sync.wait = [] := rfl
    have hsafe5 : d.sync.safe = d.sync.now := rfl
    generalize d.sync = d1 at *
    have hap := fun (w' : World) (k : Keep No w5 w') (v' : Value) (hv : BytesAt w.heap.size w' v' q4) => ready_append (hR5.no k) (Nat.le_trans hk5.size k.size) (Nat.le_trans HP.out.2.1 (Nat.le_trans hk5.size k.size)) hv (by omega) (by omega) (by rw [hroom5]; have := appB_length (logD K ss) q4; have := hused5.1; omega)
    have H5 := Lib.hid (And.intro hR5 (And.intro hA5 (And.intro hn5 (And.intro hG5 (And.intro hk5 (And.intro hap (And.intro hbl (And.intro hcl (And.intro hroom5 (And.intro hused5 (And.intro hwait5 hsafe5)))))))))))
    clear hR hA hAn hroom hused hk hG hsync hD5 k5 f5 hL5 hF0 hA5 hR5 hn5 hG5 hk5 hap hbl hcl hroom5 hused5 hwait5 hsafe5
    generalize hrn : rs.length = rn at *
    have HRN := Lib.hid hrn
    clear hrn
    go_upto_region 20 with (first
      | (go_at_call 36; refine (H5.out.2.2.2.2.2.1 _ k6 _ hq6).mono ?_; rintro e w7 ⟨rfl, n7, s7, wv7, sv7, lv7, ss7, hR7, _, k7, f7⟩)
      | (go_at_call 16; refine hcut.mono ?_; rintro e w6 ⟨v6, rfl, own6, k6⟩; have hq6 := own6.bytes (base := w.heap.size) (fun _ => Nat.le_trans HP.out.2.1 H5.out.2.2.2.2.1.size); obtain ⟨o6, c6, rfl⟩ := own6.form))
    -- the crash
    obtain ⟨hR5, hA5, hn5, hG5, hk5, _, hbl, hcl, hroom5, hused5, hwait5, hsafe5⟩ := H5.out
    have hR6 := hR5.no k6
    have hk7 := (hk5.then k6).absorb k7 hG5
    have hA6 := hA5.keep (Foot.no _ _) k6 (fun _ _ e => e)
    have hA7 := hA6.keep hR6.foot k7 hn5
    have hq7 := hq6.keep hR6.foot k7
    have happ := hR5.on.append K q4 (by omega) (by have := HRN.out; omega)
    have hapl := appB_length (logD K ss) q4
    have hnow := put_sum d1 (appS (logD K ss)).n (appB (logD K ss) q4)
    have hG7 : ∀ b, rfoot g p n7 s7 wv7 sv7 lv7 b → w.heap.size ≤ b := fun b hb => by
      rcases f7 b hb with h | h
      · exact hG5 b h
      · exact Nat.le_trans (hk5.then k6).size h
    obtain ⟨B, hBB⟩ : ∃ B, appB (logD K ss) q4 = B := ⟨_, rfl⟩
    obtain ⟨nn, hnn⟩ : ∃ nn, (appS (logD K ss)).n = nn := ⟨_, rfl⟩
    rw [hBB] at hR7 happ hapl hnow
    rw [hnn] at hR7 happ hnow
    have hw1 : (d1.put ⟨nn, B, false⟩).wait = [⟨nn, B, false⟩] := by simp [DiskS.put, hwait5]
    have hs1 : (d1.put ⟨nn, B, false⟩).safe = d1.now := hsafe5
    have hcrash : ∃ ss2, OnDisk ss2 rs ((d1.put ⟨nn, B, false⟩).crash 0 t).now ∧ ss2.length ≤ ss.length + 1 ∧ msum ((d1.put ⟨nn, B, false⟩).crash 0 t).now ≤ msum d1.now + B.length := by
      have e : ((d1.put ⟨nn, B, false⟩).crash 0 t).now = if 0 < min t ((B.length : Int) - 1) then CallS.done ⟨nn, B.take (min t ((B.length : Int) - 1)).toNat, false⟩ d1.now else d1.now := by
        show crashMap (d1.put ⟨nn, B, false⟩) (keepNum (d1.put ⟨nn, B, false⟩) 0) t = _
        have ek : keepNum (d1.put ⟨nn, B, false⟩) 0 = 0 := by unfold keepNum; rw [hw1]; rfl
        rw [ek]
        unfold crashMap
        rw [hw1, hs1]
        simp [doneAll]
      rw [e]
      split
      · rename_i h0
        obtain ⟨ss', h1, h2, h3, h4⟩ := happ
        obtain ⟨s2, h5, h6⟩ := h4 (min t ((B.length : Int) - 1)).toNat (by omega) (by omega)
        refine ⟨s2, h5, h6, ?_⟩
        show msum (mset d1.now nn ((mget d1.now nn).getD [] ++ B.take (min t ((B.length : Int) - 1)).toNat)) ≤ _
        rw [msum_put, List.length_take]
        omega
      · exact ⟨ss, hR5.on, by omega, by omega⟩
    obtain ⟨ss2, ho2, hl2, hms2⟩ := hcrash
    have hroom3 : ((d1.put ⟨nn, B, false⟩).crash 0 t).room = 60000 := hroom5
    have hcr := crash_spec hR7.dk hk7.size (by rw [hw1, hs1]; simp [wsum]; omega) (by rw [hw1]; simp) 0 t (by simp [Lit.wf, IntKind.min, IntKind.max, IntKind.bits, IntKind.signed]; omega)
    have hful : ((d1.put ⟨nn, B, false⟩).crash 0 t).full = false := hR5.full
    have hwt : ((d1.put ⟨nn, B, false⟩).crash 0 t).wait.length ≤ rs.length + 2 := by simp [DiskS.crash]
    generalize (d1.put ⟨nn, B, false⟩).crash 0 t = d3 at *
    have hused3 : msum d3.now ≤ 1000 := by have := hused5.1; omega
    have hss2 : ss2.length ≤ rs.length + 2 := by have := hused5.2; have := HRN.out; omega
    have hon3 := hR5.few
    have hLn : (logD K ss2).next = rs.length + 1 := ho2.next
    have hLr : (logD K ss2).recs = rs := ho2.recs
    have hrl40 : ∀ b ∈ rs, b.length ≤ 1099511627776 := fun b hb => by have := HRL.out b hb; omega
    have HX := Lib.hid (And.intro hk7 (And.intro hA7 (And.intro hq7 (And.intro hG7 (And.intro ho2 (And.intro hroom3 (And.intro hful (And.intro hwt (And.intro hused3 (And.intro hss2 (And.intro hLn (And.intro hLr (And.intro hrl40 (And.intro hbl hcl))))))))))))))
    have hn7 : ∀ b, (Value.slice ao' rn ac').ownBlock = some b → ¬ rfoot g p n7 s7 wv7 sv7 lv7 b := fun b hb hr => by
      rcases f7 b hr with h | h
      · exact hn5 b hb h
      · have := (hA6.foot b hb).2.1; omega
    clear hR5 hA5 hn5 hG5 hk5 hbl hroom5 hused5 hwait5 hsafe5 hR6 hk7 hA6 hA7 hq7 happ hapl hnow hG7 hBB hnn hw1 hs1 ho2 hl2 hms2 hroom3 hful hwt hused3 hon3 hLn hLr hrl40 hR7 k7 f7 hq6 own6 k6 H5 hcl
    have hrs10 : rs.length ≤ 1000 := by have := HX.out.2.2.2.2.2.2.2.2.2.2.2.2.2.2; have := HRN.out; omega
    have hfew8 := HX.out.2.2.2.2.2.2.2.2.2.1
    have hroom80 : 0 ≤ d3.room := by have := HX.out.2.2.2.2.2.1; omega
    have hroom81 : d3.room ≤ 1000000 := by have := HX.out.2.2.2.2.2.1; omega
    have hused8 : (msum d3.now : Int) ≤ d3.room := by have := HX.out.2.2.2.2.2.1; have := HX.out.2.2.2.2.2.2.2.2.1; omega
    have hn9 : (logD K ss2).next ≤ 4611686018427387904 := by rw [HX.out.2.2.2.2.2.2.2.2.2.2.1]; omega
    have hm9 : (logD K ss2).recs.length + 1 ≤ (logD K ss2).next := by rw [HX.out.2.2.2.2.2.2.2.2.2.2.1, HX.out.2.2.2.2.2.2.2.2.2.2.2.1]; omega
    have hl9 : ∀ b ∈ (logD K ss2).recs, b.length ≤ 1099511627776 := by rw [HX.out.2.2.2.2.2.2.2.2.2.2.2.1]; exact HX.out.2.2.2.2.2.2.2.2.2.2.2.2.1
    have hf9 : (logD K ss2).recs.length ≤ 1000000 := by rw [HX.out.2.2.2.2.2.2.2.2.2.2.2.1]; omega
    have hq4l : q4.length ≤ 1000 := by have := HX.out.2.2.2.2.2.2.2.2.2.2.2.2.2.1; omega
    have hroom10 : (msum d3.now : Int) + (appB (logD K ss2) q4).length ≤ d3.room := by have := HX.out.2.2.2.2.2.1; have := HX.out.2.2.2.2.2.2.2.2.1; have := appB_length (logD K ss2) q4; omega
    have HY := Lib.hid (And.intro hrs10 (And.intro hfew8 (And.intro hroom80 (And.intro hroom81 (And.intro hused8 (And.intro hn9 (And.intro hm9 (And.intro hl9 (And.intro hf9 (And.intro hq4l hroom10))))))))))
    clear hrs10 hfew8 hroom80 hroom81 hused8 hn9 hm9 hl9 hf9 hq4l hroom10
    go_upto_region 26 with (first
      | (go_at_call 35; refine (ready_open (size := K) hR11.dk hR11.on hb11 hT11 hK1 hR11.few hrs11 hR11.full hR11.room0 hR11.room1 hR11.used hR11.wait).mono ?_; rintro e w12 ⟨g12, sv12, lv12, rfl, hR12, k12, f12⟩)
      | (go_at_call 39; refine (lDisk_spec hR11.lg).mono ?_; rintro e wD ⟨rfl, rfl⟩)
      | (go_at_call 36; refine (ready_append (hR9.no k10) hb10 hT10 hq10 HY.out.2.2.2.2.2.2.2.2.2.1 HY.out.1 HY.out.2.2.2.2.2.2.2.2.2.2).mono ?_; rintro e w11 ⟨rfl, n11, s11, wv11, sv11, lv11, ss11, hR11, _, k11, f11⟩; have hb11 := Nat.le_trans hb10 k11.size; have hT11 := Nat.le_trans hT10 k11.size; have hrs11 : (rs ++ [q4]).length ≤ 1000 := by rw [List.length_append]; simp; have := HX.out.2.2.2.2.2.2.2.2.2.2.2.2.2.2; have := HRN.out; omega)
      | (go_at_call 38; refine (records_spec hR9.lg hb9 hT9 HY.out.2.2.2.2.2.1 HY.out.2.2.2.2.2.2.1 HY.out.2.2.2.2.2.2.2.1 HY.out.2.2.2.2.2.2.2.2.1).mono ?_; rintro e w10 ⟨v10, rfl, hS10', hO10, k10⟩; have hS10 : LRecsAt w.heap.size w10 v10 rs := (by rw [HX.out.2.2.2.2.2.2.2.2.2.2.2.1] at hS10'; exact hS10'); clear hS10'; obtain ⟨o10, c10, rfl, _, _⟩ := hS10.form; have hb10 := Nat.le_trans hb9 k10.size; have hT10 := Nat.le_trans hT9 k10.size; have hq10 := ((HX.out.2.2.1.no k8).no k9).no k10)
      | (go_at_call 35; refine (ready_open (size := K) hD8 HX.out.2.2.2.2.1 hb8 hT8 hK1 HY.out.2.1 HY.out.1 HX.out.2.2.2.2.2.2.1 HY.out.2.2.1 HY.out.2.2.2.1 HY.out.2.2.2.2.1 HX.out.2.2.2.2.2.2.2.1).mono ?_; rintro e w9 ⟨g9, sv9, lv9, rfl, hR9, k9, f9⟩; have hb9 := Nat.le_trans hb8 k9.size; have hT9 := Nat.le_trans hT8 k9.size)
      | (go_at_call 20; refine hcr.mono ?_; rintro e w8 ⟨p8, n8, s8, wv8, rfl, hD8, k8, f8⟩; have hb8 := Nat.le_trans HX.out.1.size k8.size; have hT8 := Nat.le_trans HP.out.2.1 hb8))
    have hrn := HRN.out
    subst hrn
    have hA7 := HX.out.2.1
    have hlt7 : ∀ b, (Value.slice ao' rs.length ac').ownBlock = some b → b < w7.heap.size := fun b hb => (hA7.foot b hb).2.1
    have hA10 := ((hA7.keep (Foot.no _ _) k8 (fun _ _ e => e)).keep (Foot.no _ _) k9 (fun _ _ e => e)).keep (Foot.no _ _) k10 (fun _ _ e => e)
    have hR10 := hR9.no k10
    have hA11 := hA10.keep hR10.foot k11 (fun b hb hr => by
      have h1 := hlt7 b hb
      rcases hr with hr | hr
      · have := f8 b hr; omega
      · have := f9 b hr; have := k8.size; omega)
    have hS11 := hS10.keep hR10.foot k11 (fun b hb hr => by
      have h1 := hO10 b hb
      have h2 := (hR9.foot b hr).2.1
      omega)
    have hq11 := hq10.keep hR10.foot k11
    have hA12 := hA11.keep (Foot.no _ _) k12 (fun _ _ e => e)
    have hS12 := hS11.keep (Foot.no _ _) k12 (fun _ _ e => e)
    have hq12 := hq11.no k12
    have hk9 : Keep No w w9 := ((HX.out.1.then k8).then k9)
    have hk12 : Keep No w w12 := ((hk9.then k10).absorb k11 (fun b hb => (hR9.foot b hb).1)).then k12
    have hsame := fun (w' : World) (k : Keep No w12 w') => same7_spec (hS12.keep (Foot.no _ _) k (fun _ _ e => e)).slices (hA12.keep (Foot.no _ _) k (fun _ _ e => e)).slices
    have hLn := hR12.on.next
    have hLr := hR12.on.recs
    have hn12 : (logD K ss11).next ≤ 4611686018427387904 := by show max (nextOf 0 ss11) 1 ≤ _; rw [hLn, List.length_append]; simp; have := HY.out.1; omega
    have hm12 : (logD K ss11).recs.length + 1 ≤ (logD K ss11).next := by show (recsOf ss11).length + 1 ≤ max (nextOf 0 ss11) 1; rw [hLn, hLr]; omega
    have hl12 : ∀ b ∈ (logD K ss11).recs, b.length ≤ 1099511627776 := by
      show ∀ b ∈ recsOf ss11, b.length ≤ 1099511627776
      rw [hLr]
      intro b hb
      rcases List.mem_append.1 hb with hb | hb
      · have := HRL.out b hb; omega
      · rw [List.mem_singleton.1 hb]; have := HY.out.2.2.2.2.2.2.2.2.2.1; omega
    have hf12 : (logD K ss11).recs.length ≤ 1000000 := by show (recsOf ss11).length ≤ _; rw [hLr, List.length_append]; simp; have := HY.out.1; omega
    have hrec := fun (w' : World) (k : Keep No w12 w') => records_spec (hR12.lg.no k) (hk12.then k).size (Nat.le_trans HP.out.2.1 (hk12.then k).size) hn12 hm12 hl12 hf12
    have hrn12 : rs.length ≤ 12 := by have := HX.out.2.2.2.2.2.2.2.2.2.2.2.2.2.2; omega
    have HZ := Lib.hid (And.intro hA12 (And.intro hq12 (And.intro hk12 (And.intro hsame (And.intro hrec hLr)))))
    have hrni : (rs.length : Int) ≤ 1099511627776 := by omega
    clear hA7 hlt7 hA10 hR10 hA11 hS11 hq11 hA12 hS12 hq12 hk9 hk12 hsame hLn hLr hn12 hm12 hl12 hf12 hrec hS10 hO10 k8 k9 k10 k11 k12 f8 f9 f11 f12 hR9 hR11 hR12 hD8 hq10 hb8 hT8 hb9 hT9 hb10 hT10 hb11 hT11 hrs11 hcr hn7 hrn12
    go_upto_region 29 with (first
      | (go_at_call 38; refine (HZ.out.2.2.2.2.1 _ k13).mono ?_; rintro e w14 ⟨v14, rfl, hS14', hO14, k14⟩; have hS14 : LRecsAt w.heap.size w14 v14 (rs ++ [q4]) := (by have h := hS14'; rw [show (logD K ss11).recs = rs ++ [q4] from HZ.out.2.2.2.2.2] at h; exact h); clear hS14'; obtain ⟨o14, c14, rfl, _, _⟩ := hS14.form)
      | (go_at_call 40; refine (HZ.out.2.2.2.1 _ (Keep.refl _ _)).mono ?_; rintro e w13 ⟨rfl, k13⟩))
    have kz := k13.then k14
    have hne14 : ∀ b, (Value.slice o14 (rs ++ [q4]).length c14).ownBlock = some b → ¬ (Value.slice ao' rs.length ac').ownBlock = some b := fun b h1 h2 => by
      have h3 := hO14 b h1
      have h4 := (HZ.out.1.foot b h2).2.1
      have h5 := k13.size
      omega
    clear hO14
    have hA14 := HZ.out.1.keep (Foot.no _ _) kz (fun _ _ e => e)
    have hq14 := HZ.out.2.1.no kz
    have hk14 := HZ.out.2.2.1.then kz
    have kA : Keep No w14 (w14.alloc (.cells #[.slice o6 q4.length c6] 27)) := (Keep.refl _ _).alloc _
    have hA15 := hA14.keep (Foot.no _ _) kA (fun _ _ e => e)
    have hq15 := hq14.no kA
    have hb15 := heap_new w14 (.cells #[.slice o6 q4.length c6] 27)
    have hS15 := hS14.keep (Foot.no _ _) kA (fun _ _ e => e)
    have hsz15 : w.heap.size ≤ (w14.alloc (.cells #[.slice o6 q4.length c6] 27)).heap.size := (hk14.then kA).size
    have hlr : rs.length ≤ 1099511627776 := by have := HY.out.1; omega
    have HV := Lib.hid (And.intro hk14 (And.intro kA (And.intro hS15 hlr)))
    clear hA14 hq14 hk14 kA hS15 hS14 kz k13 k14 hlr
    refine wp_region_lit ?_
    iterate 6 (refine Go.BigFrame.wpList_want rfl (fun K hK => ?_); go_simp; refine hK _ _ ?_; clear hK K)
    refine Go.BigFrame.wpList_want rfl (fun K hK => wp_append_rec _ _ rfl hA15 rfl hb15 rfl hq15 HV.out.2.2.2 hsz15 ?_)
    intro v16 w16 hA16 k16 own16
    obtain ⟨o16, c16, rfl, _, _⟩ := hA16.form
    refine hK _ _ ?_
    clear hK K
    have hS16 := HV.out.2.2.1.keep hA15.foot k16 hne14
    have e1 : (rs ++ [q4]).length = rs.length + 1 := by simp
    rw [e1] at hS16 hA16
    have hsm := same7_spec hS16.slices hA16.slices
    have hkf := (HV.out.1.then HV.out.2.1).absorb k16 (fun b hb => (hA15.foot b hb).1)
    have HKF := Lib.hid hkf
    clear hS16 hA16 hkf k16 own16 hA15 hq15 hb15 hsz15 hne14 e1
    go_wp2_with (go_at_call 40; refine hsm.mono ?_; rintro e w17 ⟨rfl, k17⟩)
    go_ret
    exact ⟨rfl, HKF.out.then k17⟩
end Go.Proofs.Ytpjggnfiocplmaa
