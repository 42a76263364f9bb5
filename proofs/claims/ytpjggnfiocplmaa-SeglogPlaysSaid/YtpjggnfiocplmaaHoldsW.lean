/- SeglogHolds: the walk. -/
import Derived.Test.YtpjggnfiocplmaaHold
import Derived.Test.YtpjggnfiocplmaaActs7
import Derived.Test.YtpjggnfiocplmaaHoldsA
namespace Go.Proofs.Ytpjggnfiocplmaa
open Go Go.RowKit Go.Dr

set_option maxRecDepth 100000 in
set_option maxHeartbeats 2000000 in
theorem open7_spec [bn : Inhabited Ban] {base : Nat} {w : World} (hb : base ≤ w.heap.size) (hT : ban.top ≤ w.heap.size) (room size : Int) (hr0 : 0 ≤ room) (hr1 : room ≤ 65535) (hz0 : 0 ≤ size) (hz1 : size ≤ 65535) :
    Calls Try.prog 41 #[.int .u16 room, .int .u16 size] w fun e w' => ∃ P G, e = .returned (.pointer (some ⟨P, 0, none⟩)) ∧
      Pair base w' P (1 + size) [] { room := room, full := false, now := [], safe := [], wait := [] } { room := room, full := false, l := [], safe := 0 } G ∧ Keep No w w' ∧ ∀ b, G b → w.heap.size ≤ b := by
  have hmax : max room 0 = room := by omega
  have hnew := new_spec (w := w) base room hb
  rw [hmax] at hnew
  have hop := fun (w' : World) (p n s : Nat) (wv : Value) (d : DiskS) (h : DiskAt base w' p n s wv d) (hn : d.now = []) (hk : w.heap.size ≤ w'.heap.size) => by
    have ho : OnDisk [] [] d.now := by rw [hn]; exact OnDisk.nil
    exact lOpen_spec (size := 1 + size) h (Nat.le_trans hb hk) (Nat.le_trans hT hk) (ho.diskL (by simp) (by simp) (by rw [hn]; decide)) (by omega)
  clear hmax
  go_enter Try.func41, Try.ntmps41
  go_upto_region 4 with (first
    | (go_at_call 35; refine (hop _ _ _ _ _ _ h2 rfl k2.size).mono ?_; rintro e w3 ⟨g, sv, lv, rfl, hlg, hdk, k3, o3⟩)
    | (go_at_call 15; refine hnew.mono ?_; rintro e w2 ⟨p, n, s, wv, rfl, h2, k2, o2⟩))
  have kq : Keep No w3 (w3.alloc (.cells #[.int .i64 room, .bool false, .slice none 0 0, .int .i64 0] 40)) := (Keep.refl _ _).alloc _
  have hx : RDiskAt base (w3.alloc (.cells #[.int .i64 room, .bool false, .slice none 0 0, .int .i64 0] 40)) w3.heap.size (.slice none 0 0) { room := room, full := false, l := [], safe := 0 } :=
    ⟨heap_new w3 _, LAt.nil _ _, Nat.le_trans hb (k2.then k3).size⟩
  clear hnew hop
  go_wp2
  go_ret
  have kP : Keep No (w3.alloc (.cells #[.int .i64 room, .bool false, .slice none 0 0, .int .i64 0] 40)) ((w3.alloc (.cells #[.int .i64 room, .bool false, .slice none 0 0, .int .i64 0] 40)).alloc (.cells #[.pointer (some ⟨g, 0, none⟩), .pointer (some ⟨w3.heap.size, 0, none⟩), .int .i64 (1 + size)] 81)) := (Keep.refl _ _).alloc _
  have hsz := (k2.then k3).size
  have hbP := heap_new (w3.alloc (.cells #[.int .i64 room, .bool false, .slice none 0 0, .int .i64 0] 40)) (.cells #[.pointer (some ⟨g, 0, none⟩), .pointer (some ⟨w3.heap.size, 0, none⟩), .int .i64 (1 + size)] 81)
  refine ⟨_, _, rfl, ⟨g, w3.heap.size, p, n, s, wv, sv, lv, .slice none 0 0, ⟨?_, hlg.no (kq.then kP), hdk.no (kq.then kP), hx.no kP, ?_⟩, rfl⟩, (k2.then k3).then (kq.then kP), fun b hb' => ?_⟩
  · simpa only [World.size_alloc] using hbP
  · omega
  · rcases hb' with hb' | (hb' | hb') | hb' | hb'
    · omega
    · exact o2 b hb'
    · exact Nat.le_trans k2.size (o3 b hb')
    · omega
    · simp [Value.ownBlock] at hb'

/-- In the loop. -/
def HoldI [bn : Inhabited Ban] (w : World) (P : Nat) (size : Int) (j : Nat) (av cv : Value) (wr : World) : Prop :=
  ∃ (cnt : Nat) (all : List Bytes) (ss : List SegL) (d : DiskS) (x : RDiskS) (G : Nat → Prop), cv = .int .i64 cnt ∧ Pair w.heap.size wr P size ss d x G ∧ Hold j cnt all ss d x ∧ LRecsAt w.heap.size wr av all ∧
    (∀ b, av.ownBlock = some b → ¬ G b) ∧ Keep No w wr ∧ ∀ b, G b → w.heap.size ≤ b

set_option maxRecDepth 100000 in
set_option maxHeartbeats 8000000 in
theorem holds_walk [bn : Inhabited Ban] {w : World} (hT : ban.top ≤ w.heap.size) (z : Int) (hz0 : 0 ≤ z) (hz1 : z ≤ 65535) {v : Value} {acts : List Act7S} (hA : Acts7At w.heap.size w v acts) (hok : ∀ a ∈ acts, a.Ok) :
    Calls Try.prog 10 #[.int .u16 z, v] w fun e w' => e = .returned (.bool true) ∧ Keep No w w' := by
  obtain ⟨ao, cap, rfl, hlc, hcm, hacts⟩ := hA
  unfold maxLen at hcm
  have hlen1 : (acts.length : Int) ≤ 9223372036854775807 := by omega
  have hop := fun (w' : World) (k : Keep No w w') => open7_spec (base := w.heap.size) (w := w') k.size (Nat.le_trans hT k.size) 60000 (z % 200) (by decide) (by decide) (by omega) (by omega)
  have HP := Lib.hid (And.intro hT (And.intro hacts hok))
  have haw := awake7_spec hT
  clear hT hacts hok hlc hcm
  go_enter Try.func10, Try.ntmps10
  go_upto_block 0 with (first
    | (go_at_call 41; refine (hop _ k1).mono ?_; rintro e w2 ⟨P, G, rfl, hP, k2, hG⟩)
    | (go_at_call 34; refine haw.mono ?_; rintro e w1 ⟨rfl, k1⟩))
  have hI0 : HoldI w P (1 + z % 200) 0 (.slice none 0 0) (.int .i64 0) w2 := ⟨0, [], [], _, _, G, rfl, hP, Hold.start, recs_nil _ _, fun b hb => by simp [Value.ownBlock] at hb, k1.then k2, fun b hb => Nat.le_trans k1.size (hG b hb)⟩
  have hK1 : 1 ≤ 1 + z % 200 := by omega
  clear hop haw hP hG k1 k2
  generalize 1 + z % 200 = K at *
  clear hz0 hz1
  go_cut [6, 7] (fun av cv wx => ∃ j : Nat, j ≤ 40 ∧ HoldI w P K j av cv wx)
  case first =>
    go_wp2_with fail
    go_loopw [6, 7, 23] (fun av cv i wr => ∃ j : Nat, j ≤ acts.length ∧ j ≤ 40 ∧ i = .int .i64 j ∧ HoldI w P K j av cv wr) (fun _ _ i _ => acts.length - (intOf i).toNat)
    case atStart => exact ⟨0, Nat.zero_le _, Nat.zero_le _, rfl, hI0⟩
    case round =>
      clear hI0
      obtain ⟨j, hj, hj40, rfl, cnt, all, ss, d, x, G, rfl, hPr, hH, hR, hRn, hk, hG⟩ := hrel
      by_cases hlt : j < acts.length
      · have hacts := HP.out.2.1
        rcases hacts with rfl | ⟨ga, oa, hga, rfl, hacts⟩
        · simp at hlt
        · have haj : acts[j]? = some acts[j] := List.getElem?_eq_getElem hlt
          obtain ⟨u, hu, e0, e1, e2, e3, e4, e5⟩ := hacts j _ haj
          have hoj := HP.out.2.2 _ (List.getElem_mem hlt)
          generalize acts[j] = a at *
          obtain ⟨uo, uc, rfl⟩ := hu.form
          have e0 := hk.cell e0 (fun e => e)
          have e1 := hk.cell e1 (fun e => e)
          have e2 := hk.cell e2 (fun e => e)
          have e3 := hk.cell e3 (fun e => e)
          have e4 := hk.cell e4 (fun e => e)
          have e5 := hk.cell e5 (fun e => e)
          have hu := hu.no hk
          have hji : (j : Int) < (acts.length : Int) := by omega
          clear haj hacts
          by_cases h40 : j < 40
          · have hj4 : ¬ (40 : Int) ≤ (j : Int) := by omega
            have hd0 := hoj.dop0
            have hd1 := hoj.dop1
            obtain ⟨ro, rc, rfl, _, _⟩ := hR.form
            have HL := Lib.hid (And.intro hPr (And.intro hH (And.intro hR (And.intro hRn (And.intro hk (And.intro hG (And.intro hoj (And.intro hlt (And.intro h40 hu)))))))))
            clear hPr hH hR hRn hk hG hoj hlt h40 hu hj hj40
            obtain ⟨dm, hdm⟩ : ∃ dm, a.dop % 7 = dm := ⟨_, rfl⟩
            have hm0 : 0 ≤ dm := by omega
            have hm1 : dm ≤ 6 := by omega
            have kA : Keep No wr (wr.alloc (.cells #[.int .u8 dm, .slice uo a.p.length uc, .int .u16 a.n, .bool a.on, .int .i64 a.keep, .int .i64 a.torn] 78)) := (Keep.refl _ _).alloc _
            have hbx := heap_new wr (.cells #[.int .u8 dm, .slice uo a.p.length uc, .int .u16 a.n, .bool a.on, .int .i64 a.keep, .int .i64 a.torn] 78)
            have hwr := HL.out.2.2.2.2.1.size
            have hgl : ∀ b, G b → b < wr.heap.size := fun b hb => (HL.out.1.foot b hb).2.1
            have hok' : Act7S.Ok { a with dop := dm } := ⟨hm0, by show dm ≤ 255; omega, HL.out.2.2.2.2.2.2.1.n0, HL.out.2.2.2.2.2.2.1.n1, HL.out.2.2.2.2.2.2.1.keep0, HL.out.2.2.2.2.2.2.1.torn0⟩
            have HA := Lib.hid (And.intro kA (And.intro hbx (And.intro hwr (And.intro hgl hok'))))
            clear kA hbx hwr hgl hok'
            go_upto_region 13 with fail
            rw [hdm]
            clear hdm hd0 hd1 e0 e1 e2 e3 e4 e5
            by_cases h45 : dm = 4 ∨ dm = 5
            · rcases h45 with rfl | rfl
              all_goals
                go_wp2
                go_roundw
                case rel =>
                  obtain ⟨hPr, hH, hR, hRn, hk, hG, hoj, hlt, h40, hu⟩ := HL.out
                  exact ⟨j + 1, hlt, h40, by go_num, cnt, all, ss, d, x, G, rfl, hPr.no HA.out.1, hH.mono (Nat.le_succ _), hR.keep (Foot.no _ _) HA.out.1 (fun _ _ e => e), hRn, hk.then HA.out.1, hG⟩
                case measure => have := HL.out.2.2.2.2.2.2.2.1; simp [intOf]; omega
            · have hn4 : ¬ dm = 4 := fun e => h45 (.inl e)
              have hn5 : ¬ dm = 5 := fun e => h45 (.inr e)
              have q4 : (dm == 4) = false := by simpa using hn4
              have q5 : (dm == 5) = false := by simpa using hn5
              by_cases h3 : dm = 3
              · subst h3
                have hPr1 := HL.out.1.no HA.out.1
                have hjx : j ≤ 39 := by have := HL.out.2.2.2.2.2.2.2.2.1; omega
                have hdo := do7_sync hPr1 (Nat.le_trans HA.out.2.2.1 HA.out.1.size) (a := { a with dop := 3 }) (HL.out.2.2.2.2.2.2.2.2.2.no HA.out.1) HA.out.2.2.2.2 rfl (by have := HL.out.2.1.st.good.len; omega)
                clear h45 hm0 hm1 hn4 hn5
                go_upto_region 16 with (go_at_call 42; refine hdo.mono ?_; rintro e w4 ⟨rfl, G4, hP4, k4, hG4⟩)
                have hgG : ¬ G wr.heap.size := fun e => by have := HA.out.2.2.2.1 _ e; omega
                have hbx4 := k4.heap HA.out.2.1 hgG
                have c0 := cell_of hbx4 0
                simp at c0
                have hR4 := (HL.out.2.2.1.keep (Foot.no _ _) HA.out.1 (fun _ _ e => e)).keep hPr1.foot k4 HL.out.2.2.2.1
                have hk4 : Keep No w w4 := (HL.out.2.2.2.2.1.then HA.out.1).absorb k4 HL.out.2.2.2.2.2.1
                have H4 := Lib.hid (And.intro hP4 (And.intro hG4 (And.intro hR4 hk4)))
                clear hP4 k4 hG4 hR4 hk4 hbx4 hPr1 hdo hjx
                go_wp2
                go_roundw
                case rel =>
                  refine ⟨j + 1, HL.out.2.2.2.2.2.2.2.1, HL.out.2.2.2.2.2.2.2.2.1, by go_num, all.length, all, ss, _, _, G4, rfl, H4.out.1, (HL.out.2.1.sync).mono (Nat.le_succ _), H4.out.2.2.1, fun b hb hg => ?_, H4.out.2.2.2, fun b hb => ?_⟩
                  · rcases H4.out.2.1 b hg with hg | hg
                    · exact HL.out.2.2.2.1 b hb hg
                    · have := (HL.out.2.2.1.foot b hb).2.1; simp at hg; omega
                  · rcases H4.out.2.1 b hb with h | h
                    · exact HL.out.2.2.2.2.2.1 b h
                    · have h1 := HA.out.2.2.1; have h2 := HA.out.1.size; omega
                case measure => have := HL.out.2.2.2.2.2.2.2.1; simp [intOf]; omega
              · by_cases h6 : dm = 6
                · subst h6
                  have hPr1 := HL.out.1.no HA.out.1
                  have hjx : j ≤ 39 := by have := HL.out.2.2.2.2.2.2.2.2.1; omega
                  obtain ⟨ss', m, g', m1, m2, hH'⟩ := HL.out.2.1.crash a.keep a.torn
                  have hdo := do7_crash hPr1 HL.out.2.1.st (by omega) (Nat.le_trans HA.out.2.2.1 HA.out.1.size) (Nat.le_trans HP.out.1 (Nat.le_trans HA.out.2.2.1 HA.out.1.size)) (a := { a with dop := 6 }) (HL.out.2.2.2.2.2.2.2.2.2.no HA.out.1) HA.out.2.2.2.2 rfl hK1 g'
                  have hml : (all.take m).length = m := by rw [List.length_take, Nat.min_eq_left m2]
                  have hrs : recsOf ss' = all.take m := hH'.recs
                  have hnx : max (nextOf 0 ss') 1 = m + 1 := by rw [hH'.next, hml]
                  have hsh := hH'.short
                  have hgn := g'.next
                  have hta : all.take m = all.take (all.take m).length := by rw [hml]
                  clear h45 hm0 hm1 hn4 hn5 h3
                  go_upto_region 16 with (go_at_call 42; refine hdo.mono ?_; rintro e w4 ⟨rfl, G4, hP4, k4, hG4⟩)
                  have hgG : ¬ G wr.heap.size := fun e => by have := HA.out.2.2.2.1 _ e; omega
                  have hbx4 := k4.heap HA.out.2.1 hgG
                  have c0 := cell_of hbx4 0
                  simp at c0
                  have hR4 := (HL.out.2.2.1.keep (Foot.no _ _) HA.out.1 (fun _ _ e => e)).keep hPr1.foot k4 HL.out.2.2.2.1
                  have hk4 : Keep No w w4 := (HL.out.2.2.2.2.1.then HA.out.1).absorb k4 HL.out.2.2.2.2.2.1
                  obtain ⟨g4, q4, p4, n4, s4, wv4, sv4, lv4, xv4, hA4, hGe⟩ := hP4
                  have hrec := records_spec hA4.lg hk4.size (Nat.le_trans HP.out.1 hk4.size) (by show max (nextOf 0 ss') 1 ≤ _; omega) (by show (recsOf ss').length + 1 ≤ max (nextOf 0 ss') 1; rw [hrs, hml, hnx]; exact Nat.le_refl _) (by show ∀ b ∈ recsOf ss', _; rw [hrs]; exact fun b hb => Nat.le_trans (hsh b hb) (by decide)) (by show (recsOf ss').length ≤ _; rw [hrs, hml]; omega)
                  rw [show (logD K ss').recs = all.take m from hrs] at hrec
                  have hfst := fun (w' : World) (k : Keep No w4 w') => lFirst_spec (hA4.lg.no k) (by show max (nextOf 0 ss') 1 ≤ _; omega) (by show (recsOf ss').length ≤ max (nextOf 0 ss') 1; rw [hrs, hml, hnx]; omega)
                  rw [show (logD K ss').next - (logD K ss').recs.length = 1 by show max (nextOf 0 ss') 1 - (recsOf ss').length = 1; rw [hrs, hml, hnx]; omega] at hfst
                  have b0 := cell_of hA4.blk 0
                  simp at b0
                  have i1 : ¬ ((m : Int) < (cnt : Int)) := by omega
                  have i2 : ¬ ((all.length : Int) < (m : Int)) := by omega
                  have i3 : (m : Int) ≤ (rc : Int) := by have h := hR4.form; obtain ⟨_, _, e, h1, _⟩ := h; simp at e; omega
                  rw [hml] at hta
                  generalize hrsv : all.take m = rs at *
                  have hslh := fun (w' : World) (k : Keep No w4 w') => slices_head (recs_slices (hR4.keep (Foot.no _ _) k (fun _ _ e => e))) m m2
                  rw [hrsv] at hslh
                  have H4 := Lib.hid (And.intro hA4 (And.intro hG4 (And.intro hR4 (And.intro hk4 (And.intro hH' (And.intro hGe (And.intro hfst (And.intro hslh (And.intro hml hjx)))))))))
                  clear hA4 k4 hG4 hR4 hk4 hbx4 hPr1 hdo hjx hH' hGe hfst hslh hsh hgn hta hrs hnx g' m1 m2 hrsv
                  go_upto_region 24 with (first
                    | (go_at_call 44; refine (H4.out.2.2.2.2.2.2.1 _ (k5.then k6)).mono ?_; rintro e w7 ⟨rfl, k7⟩)
                    | (go_at_call 40; refine (same7_spec (recs_slices hv5) (H4.out.2.2.2.2.2.2.2.1 _ k5)).mono ?_; rintro e w6 ⟨rfl, k6⟩; have b06 := (k5.then k6).cell b0 (fun e => e))
                    | (go_at_call 38; refine hrec.mono ?_; rintro e w5 ⟨v5, rfl, hv5, o5, k5⟩; obtain ⟨vo5, vc5, ev5, _, _⟩ := hv5.form; rw [H4.out.2.2.2.2.2.2.2.2.1] at ev5; subst ev5; have b05 := k5.cell b0 (fun e => e)))
                  have k47 := (k5.then k6).then k7
                  have kM : Keep No w7 (w7.alloc (.cells #[] 27)) := (Keep.refl _ _).alloc _
                  have hbs7 := (H4.out.2.2.2.1.then k47).size
                  have hmade := recs_made (w := w7) hbs7
                  have hv7 := hv5.keep (Foot.no _ _) ((k6.then k7).then kM) (fun _ _ e => e)
                  have hbs8 := Nat.le_trans hbs7 kM.size
                  have hln : ([] : List Bytes).length + rs.length ≤ 1000000 := by have h1 := H4.out.2.2.2.2.2.2.2.2.1; have h2 := H4.out.2.2.2.2.1.cnt; have h3 := H4.out.2.2.2.2.1.st.good.recs; have h4 := H4.out.2.2.2.2.1.st.good.next; have h5 := H4.out.2.2.2.2.1.recs; rw [h5] at h3; simp; omega
                  have H7 := Lib.hid (And.intro hmade (And.intro hv7 (And.intro hbs8 (And.intro hln k47))))
                  clear hmade hv7 hbs8 hln hv5 k47 k5 k6 k7 b0 b05 b06 hrec o5
                  go_upto_region 26 with (at_builtin; refine wpList_append_recs rfl _ _ rfl rfl rfl H7.out.1 H7.out.2.1 H7.out.2.2.2.1 H7.out.2.2.1 ?_; intro v9 w9 hR9 k9 o9; rw [List.nil_append] at hR9; obtain ⟨vo9, vc9, ev9, _, _⟩ := hR9.form; rw [H4.out.2.2.2.2.2.2.2.2.1] at ev9; subst ev9)
                  obtain ⟨hA4, hG4, _, hk4, hH', hGe, _, _, hml, hjx⟩ := H4.out
                  have k47 := H7.out.2.2.2.2
                  have z47 := k47.size
                  have hlt4 := hA4.lt
                  rw [← hGe] at hlt4
                  have hown0 : ∀ b, (Value.slice (some ⟨w7.heap.size, 0, none⟩) 0 0).ownBlock = some b → b = w7.heap.size := fun b hb => by simp [Value.ownBlock] at hb; exact hb.symm
                  have hA9 := (hA4.no (k47.then kM)).keep H7.out.1.foot k9 (fun b hb e => by have h1 := hA4.lt b hb; have h2 := hown0 b e; omega)
                  have hk9 : Keep No w w9 := (hk4.then (k47.then kM)).absorb k9 (fun b e => by have h2 := hown0 b e; omega)
                  have hn9 : ∀ b, (Value.slice vo9 m vc9).ownBlock = some b → ¬ G4 b := fun b hb hg => by
                    have h1 := hlt4 b hg
                    rcases o9 b hb with h | h
                    · have h2 := hown0 b h; omega
                    · have h2 := kM.size; omega
                  have HZ := Lib.hid (And.intro hA9 (And.intro hk9 (And.intro hn9 (And.intro hR9 (And.intro hH' (And.intro hGe hG4))))))
                  clear hA9 hk9 hn9 hR9 hH' hGe hG4 hA4 hk4 hlt4 hown0 k47 z47 kM k9 o9 H7 hjx hml
                  go_wp2
                  go_roundw
                  case rel =>
                    refine ⟨j + 1, HL.out.2.2.2.2.2.2.2.1, HL.out.2.2.2.2.2.2.2.2.1, by go_num, m, rs, ss', _, _, G4, rfl, ⟨g4, q4, p4, n4, s4, wv4, sv4, lv4, xv4, HZ.out.1, HZ.out.2.2.2.2.2.1⟩, HZ.out.2.2.2.2.1.mono (Nat.le_succ _), HZ.out.2.2.2.1, HZ.out.2.2.1, HZ.out.2.1, fun b hb => ?_⟩
                    rcases HZ.out.2.2.2.2.2.2 b hb with h | h
                    · exact HL.out.2.2.2.2.2.1 b h
                    · have h1 := HA.out.2.2.1; have h2 := HA.out.1.size; omega
                  case measure => have := HL.out.2.2.2.2.2.2.2.1; simp [intOf]; omega
                · have hlt3 : dm < 3 := by omega
                  have q3 : (dm == 3) = false := by simpa using h3
                  have q6 : (dm == 6) = false := by simpa using h6
                  obtain ⟨ss', hap, hss, hH'⟩ := HL.out.2.1.append (by have := HL.out.2.2.2.2.2.2.2.2.1; omega) K (a.p.take 40) (by rw [List.length_take]; omega)
                  have hdo := do7_append (HL.out.1.no HA.out.1) HL.out.2.1.st (by have := HL.out.2.2.2.2.2.2.2.2.1; omega) (Nat.le_trans HA.out.2.2.1 HA.out.1.size) (Nat.le_trans HP.out.1 (Nat.le_trans HA.out.2.2.1 HA.out.1.size)) (a := { a with dop := dm }) (HL.out.2.2.2.2.2.2.2.2.2.no HA.out.1) HA.out.2.2.2.2 (by show dm % 7 < 3; omega) hap hss
                  have HH := Lib.hid hH'
                  clear hap hss hH' h45 hm0 hm1
                  go_upto_region 16 with (go_at_call 42; refine hdo.mono ?_; rintro e w4 ⟨rfl, G4, hP4, k4, hG4⟩)
                  have hgG : ¬ G wr.heap.size := fun e => by have := HA.out.2.2.2.1 _ e; omega
                  have hPr1 := HL.out.1.no HA.out.1
                  have hbx4 := k4.heap HA.out.2.1 hgG
                  have c0 := cell_of hbx4 0
                  have c1 := cell_of hbx4 1
                  simp at c0 c1
                  have hu4 := (HL.out.2.2.2.2.2.2.2.2.2.no HA.out.1).keep hPr1.foot k4
                  have hR4 := (HL.out.2.2.1.keep (Foot.no _ _) HA.out.1 (fun _ _ e => e)).keep hPr1.foot k4 HL.out.2.2.2.1
                  have hk4 : Keep No w w4 := (HL.out.2.2.2.2.1.then HA.out.1).absorb k4 HL.out.2.2.2.2.2.1
                  have hcut := cut_spec hu4 40 (by decide)
                  obtain ⟨p40, hp40⟩ : ∃ p, a.p.take 40 = p := ⟨_, rfl⟩
                  rw [hp40] at hcut HH hP4
                  have H4 := Lib.hid (And.intro hP4 (And.intro k4 (And.intro hG4 (And.intro hR4 hk4))))
                  clear hdo hP4 k4 hG4 hR4 hk4 hu4 hbx4 hPr1 hp40
                  go_upto_region 26 with (first
                    | (at_builtin; refine wpList_append_rec rfl _ _ rfl hR6 rfl hb6 rfl hu6 hl6 hbs6 ?_; intro v7 w7 hR7 k7 o7; obtain ⟨ro7, rc7, ev, _, _⟩ := hR7.form; rw [List.length_append, List.length_singleton] at ev; subst ev)
                    | (go_at_call 16; refine hcut.mono ?_; rintro e w5 ⟨v5, rfl, own5, k5⟩; obtain ⟨o5, c5, rfl⟩ := own5.form; have kB : Keep No w5 (w5.alloc (.cells #[.slice o5 p40.length c5] 27)) := (Keep.refl _ _).alloc _; have hR6 := H4.out.2.2.2.1.keep (Foot.no _ _) (k5.then kB) (fun _ _ e => e); have hb6 := heap_new w5 (.cells #[.slice o5 p40.length c5] 27); have hu6 := (own5.bytes (base := w.heap.size) (fun _ => Nat.le_trans HP.out.1 H4.out.2.2.2.2.size)).no kB; have hl6 : all.length ≤ 1099511627776 := by { have h1 := HL.out.2.1.next; have h2 := HL.out.2.1.st.good.next; have h3 := HL.out.2.2.2.2.2.2.2.2.1; omega }; have hbs6 := (H4.out.2.2.2.2.then (k5.then kB)).size))
                  have hlo : ∀ b, (Value.slice ro all.length rc).ownBlock = some b → b < wr.heap.size := fun b hb => (HL.out.2.2.1.foot b hb).2.1
                  have hnG : ∀ b, (Value.slice ro all.length rc).ownBlock = some b → ¬ G4 b := fun b hb hg => by
                    rcases H4.out.2.2.1 b hg with hg | hg
                    · exact HL.out.2.2.2.1 b hb hg
                    · have := hlo b hb; simp at hg; omega
                  have k6 := k5.then kB
                  have hP6 := H4.out.1.no k6
                  have hP7 := hP6.keep hR6.foot k7 (fun b hg e => hnG b e hg)
                  have hk7 : Keep No w w7 := (H4.out.2.2.2.2.then k6).absorb k7 (fun b hb => (HL.out.2.2.1.foot b hb).1)
                  have hn7 : ∀ b, (Value.slice ro7 (all.length + 1) rc7).ownBlock = some b → ¬ G4 b := fun b hb hg => by
                    rcases o7 b hb with h | h
                    · exact hnG b h hg
                    · have := (hP6.foot b hg).2.1; omega
                  have HZ := Lib.hid (And.intro hP7 (And.intro hk7 (And.intro hn7 hR7)))
                  clear hlo hnG hP6 hP7 hk7 hn7 hR7 hR6 hb6 hu6 kB k6 k5 k7 o7 own5 c0 c1
                  go_wp2
                  go_roundw
                  case rel =>
                    refine ⟨j + 1, HL.out.2.2.2.2.2.2.2.1, HL.out.2.2.2.2.2.2.2.2.1, by go_num, cnt, all ++ [p40], ss', _, _, G4, rfl, HZ.out.1, HH.out, HZ.out.2.2.2, HZ.out.2.2.1, HZ.out.2.1, fun b hb => ?_⟩
                    rcases H4.out.2.2.1 b hb with h | h
                    · exact HL.out.2.2.2.2.2.1 b h
                    · have h1 := HA.out.2.2.1; have h2 := HA.out.1.size; omega
                  case measure => have := HL.out.2.2.2.2.2.2.2.1; simp [intOf]; omega
          · have hj4 : (40 : Int) ≤ (j : Int) := by omega
            have kA : Keep No wr (wr.alloc (.cells #[.int .u8 a.dop, .slice uo a.p.length uc, .int .u16 a.n, .bool a.on, .int .i64 a.keep, .int .i64 a.torn] 78)) := (Keep.refl _ _).alloc _
            have HE := Lib.hid (⟨cnt, all, ss, d, x, G, rfl, hPr.no kA, hH, hR.keep (Foot.no _ _) kA (fun _ _ e => e), hRn, hk.then kA, hG⟩ : HoldI w P K j _ _ _)
            clear hPr hH hR hRn hk hG kA hu
            go_wp2
            go_meet
            exact ⟨j, hj40, HE.out⟩
      · have hji : ¬ (j : Int) < (acts.length : Int) := by omega
        have HE := Lib.hid (⟨cnt, all, ss, d, x, G, rfl, hPr, hH, hR, hRn, hk, hG⟩ : HoldI w P K j _ _ _)
        clear hPr hH hR hRn hk hG
        go_wp2
        go_meet
        exact ⟨j, hj40, HE.out⟩
  case rest =>
    clear hI0
    obtain ⟨j, hj40, cnt, all, ss, d, x, G, rfl, hPr, hH, hR, hRn, hk, hG⟩ := hcut
    obtain ⟨g4, q4, p4, n4, s4, wv4, sv4, lv4, xv4, hA4, hGe⟩ := hPr
    obtain ⟨ro, rc, rfl, _, _⟩ := hR.form
    have hgn := hH.st.good.next
    have hnx := hH.next
    have hrec := records_spec hA4.lg hk.size (Nat.le_trans HP.out.1 hk.size) (by show max (nextOf 0 ss) 1 ≤ _; omega) (by show (recsOf ss).length + 1 ≤ max (nextOf 0 ss) 1; rw [hH.recs, hnx]; exact Nat.le_refl _) (by show ∀ b ∈ recsOf ss, _; rw [hH.recs]; exact fun b hb => Nat.le_trans (hH.short b hb) (by decide)) (by show (recsOf ss).length ≤ _; rw [hH.recs]; omega)
    rw [show (logD K ss).recs = all from hH.recs] at hrec
    have b0 := cell_of hA4.blk 0
    simp at b0
    have HZ := Lib.hid (And.intro hR hk)
    clear hA4 hGe hgn hnx hH hRn hG hR hk
    go_wp2_with (first
      | (go_at_call 40; refine (same7_spec (recs_slices hv5) (recs_slices (HZ.out.1.keep (Foot.no _ _) k5 (fun _ _ e => e)))).mono ?_; rintro e w6 ⟨rfl, k6⟩)
      | (go_at_call 38; refine hrec.mono ?_; rintro e w5 ⟨v5, rfl, hv5, o5, k5⟩))
    go_ret
    exact ⟨rfl, HZ.out.2.then (k5.then k6)⟩
end Go.Proofs.Ytpjggnfiocplmaa
