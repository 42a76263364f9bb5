/- The ledger: a row's first step. -/
import Derived.Test.YtgogfnafbeahoaaGreatLedF
namespace Go.Proofs.YtgogfnafbeahoaaGreat
open Go Go.RowKit Go.Dr Go.Shelf

def awIts : List ItemS := [⟨1, ⟨0, []⟩⟩, ⟨3, ⟨0, []⟩⟩]
def awL : LedS := ((LedS.start 9).step (.inc 1)).sync
theorem awp1 : (pick ((awL.win 0).skip 1) awIts).map (·.n) = [1, 3] ∧ awL.putR 0 1 awIts = some (.put 0 1 awIts) := by
  have h : pick ((awL.win 0).skip 1) awIts = awIts := by kernel_rfl
  refine ⟨by rw [h]; rfl, ?_⟩
  unfold LedS.putR
  rw [h, if_neg (fun h => by cases h.1)]
theorem awp2 : pick (((awL.step (.put 0 1 awIts)).win 0).skip 1) awIts = [] := by kernel_rfl
theorem awRight : rightB 1 awIts = true := by kernel_rfl
theorem awIts_at [bn : Inhabited Ban] {base : Nat} {w : World} {b : Nat} {t : TypeId} (ht : t = 53) (hb : w.heap[b]? = some (.cells #[.int .u64 1, .int .i64 0, .slice none 0 0, .int .u64 3, .int .i64 0, .slice none 0 0] t (0, 0))) (hB : base ≤ b) : ItsAt base w base (.slice (some ⟨b, 0, none⟩) 2 2) awIts := by
  subst ht
  refine ⟨[(⟨1, ⟨0, []⟩⟩, .slice none 0 0), (⟨3, ⟨0, []⟩⟩, .slice none 0 0)], rfl, fun x hx => ?_, rfl, .inr ⟨b, 2, _, rfl, hB, hb, Nat.le_refl _, by decide, rfl, rfl⟩⟩
  rcases List.mem_cons.1 hx with rfl | hx
  · exact BytesAt.nil _ _
  · obtain rfl : x = _ := List.mem_singleton.1 hx
    exact BytesAt.nil _ _
theorem OwnN.aside {base B : Nat} {w w' : World} {v : Value} {l : List Nat} (h : OwnN w B v l) (k : Aside base w w') : OwnN w' B v l := by
  refine ⟨h.1, ?_⟩
  rcases h.2 with h | ⟨g, cap, cur, rfl, h1, h2, r⟩
  · exact .inl h
  · exact .inr ⟨g, cap, cur, rfl, h1, k.heap _ _ _ h2 (by decide), r⟩
theorem usAt_two (w : World) (a b : Nat) : UsAt (w.alloc (.cells #[.int .u64 a, .int .u64 b] 27)) (.slice (some ⟨w.heap.size, 0, none⟩) 2 2) [a, b] := by
  have hz := heap_new w (.cells #[.int .u64 a, .int .u64 b] 27)
  refine ⟨_, _, rfl, fun _ => ⟨_, 0, rfl, fun k x hx => ?_⟩⟩
  rw [cell_of hz]
  match k, hx with
  | 0, hx => cases hx; rfl
  | 1, hx => cases hx; rfl
set_option maxRecDepth 100000 in
set_option maxHeartbeats 4000000 in
theorem awake16_spec [bn : Inhabited Ban] {w : World} (hT : ban.top ≤ w.heap.size) : Calls Tryz.prog 8 #[] w fun e w' => e = .returned (.bool true) ∧ Keep No w w' := by
  have hnew := new_spec (w := w) w.heap.size 1000 (Nat.le_refl _)
  have HT := Lib.hid hT
  clear hT
  go_enter Tryz.func8, Tryz.ntmps8
  go_upto_region 1 with fail
  go_upto_region 2 with (first
    | (go_at_call 31; refine hop.mono ?_; rintro e w2 ⟨q, d', rfl, hL, hroom, hnow, hkeep, hsz, _⟩)
    | (go_at_call 34; refine hnew.mono ?_; rintro e w1 ⟨p, n, s, wv, rfl, hD, k1, _⟩; have hop := open_led (width := 9) (size := 50) hD rfl rfl (by show (100 : Int) ≤ max 1000 0; decide) (by show max (1000 : Int) 0 ≤ _; decide) (by show (0 : Nat) ≤ 2; decide) (by decide) (by decide) k1.size (Nat.le_trans HT.out k1.size)))
  obtain ⟨g, m, lv, hat⟩ := hL.at
  have hinc : Calls Tryz.prog 26 #[.pointer (some ⟨q, 0, none⟩)] w2 fun e w' => e = .returned (.int .u64 1) ∧ w' = w2 := gInc_spec hat
  have hk0 := hkeep w (Nat.le_refl _) k1
  have hroom : d'.room = 1000 := hroom.trans (by show max (1000 : Int) 0 = 1000; decide)
  have HL := Lib.hid (And.intro hL (And.intro hk0 (And.intro hroom hnow)))
  clear hat hL hroom hnow hkeep hsz hD k1 hop hnew
  go_upto_region 4 with (go_at_call 26; refine hinc.mono ?_; rintro e w3 ⟨rfl, e3⟩; have e3 := e3.symm; subst e3)
  clear hinc
  go_upto_region 5 with fail
  obtain ⟨W, hW⟩ : ∃ W, W = w2.alloc (.cells #[.int .u64 1, .int .i64 0, .slice none 0 0, .int .u64 3, .int .i64 0, .slice none 0 0] 53) := ⟨_, rfl⟩
  have kW : Keep No w2 W := by rw [hW]; exact (Keep.refl _ _).alloc _
  have hB : W.heap[w2.heap.size]? = some (.cells #[.int .u64 1, .int .i64 0, .slice none 0 0, .int .u64 3, .int .i64 0, .slice none 0 0] 53 (0, 0)) := by rw [hW]; exact heap_new _ _
  rw [← hW]
  clear hW
  have hw2 : w.heap.size ≤ W.heap.size := Nat.le_trans HL.out.2.1.size kW.size
  have hits := awIts_at (base := w.heap.size) rfl hB HL.out.2.1.size
  have hrm : (msum d'.now : Int) + (80 : Nat) + 20 ≤ d'.room := by have h1 := HL.out.2.2.1; have h2 := HL.out.2.2.2; omega
  have hput := put_led (a := 0) (b := 1) (HL.out.1.no kW) (by decide) hits awRight (M := 0) (N := 80) (by decide) (by decide) (by decide) (by decide) (by decide) (by decide) hw2 (Nat.le_trans HT.out hw2) hrm
  change Calls _ _ _ _ (fun e w' => ∃ tv, e = .returned (.tuple #[tv, .int .i64 0]) ∧ OwnN w' W.heap.size tv ((pick ((awL.win 0).skip 1) awIts).map (·.n)) ∧ ItsAt w.heap.size w' w.heap.size (.slice (some ⟨w2.heap.size, 0, none⟩) 2 2) awIts ∧ PutLed w.heap.size w' q p 9 50 [.inc 1] d' awL 1 80 (awL.putR 0 1 awIts) ∧ Aside w.heap.size W w') at hput
  rw [awp1.1, awp1.2] at hput
  have HW := Lib.hid (And.intro (HL.out.2.1.then kW) hw2)
  clear kW hB hits hw2
  go_upto_region 6 with (go_at_call 13; refine hput.mono ?_; rintro e w4 ⟨tv, rfl, hown, hits4, ⟨d4, hL4, hn4, hr4⟩, ha4⟩)
  clear hput
  obtain ⟨ta, tc, rfl, _, _⟩ := hown.form
  have hw4 : w.heap.size ≤ w4.heap.size := Nat.le_trans HW.out.2 ha4.size
  have hrm2 : (msum d4.now : Int) + (80 : Nat) + 20 ≤ d4.room := by have h1 := HL.out.2.2.1; have h2 := HL.out.2.2.2; rw [hr4]; omega
  have hput2 := put_led (a := 0) (b := 1) hL4 (by decide) hits4 awRight (M := 0) (N := 80) (by decide) (by decide) (by decide) (by decide) (by decide) (by decide) hw4 (Nat.le_trans HT.out hw4) hrm2
  rw [awp2] at hput2
  have hput2 : Calls Tryz.prog 13 #[.pointer (some ⟨q, 0, none⟩), .int .i64 0, .int .u64 1, .slice (some ⟨w2.heap.size, 0, none⟩) 2 2] w4 (fun e w' => ∃ ao cap, e = .returned (.tuple #[.slice ao 0 cap, .int .i64 0]) ∧ Aside w.heap.size w4 w') := by
    refine hput2.mono ?_
    rintro e w' ⟨tv, rfl, ho, _, _, ha⟩
    obtain ⟨ao, cap, rfl, _, _⟩ := ho.form
    exact ⟨ao, cap, rfl, ha⟩
  have HX := Lib.hid (And.intro hown (And.intro ha4 hL4))
  clear hown hits4 hL4 hn4 hr4 ha4 hw4 hrm hrm2
  go_upto_region 7 with (go_at_call 13; refine hput2.mono ?_; rintro e w5 ⟨sa, sc, rfl, ha5⟩)
  clear hput2
  have k6 : Keep No w5 (w5.alloc (.cells #[.int .u64 (1 : Nat), .int .u64 (3 : Nat)] 27)) := (Keep.refl _ _).alloc _
  have heq := eq64_spec ((HX.out.1.aside ha5).nums.no k6) (usAt_two w5 1 3) (by decide) (by decide)
  have hke : Keep No w w5 := ha5.keep w (Nat.le_refl _) (HX.out.2.1.keep w (Nat.le_refl _) HW.out.1)
  have HK := Lib.hid (hke.then k6)
  clear hke k6 ha5
  go_wp2_with (go_at_call 14; refine heq.mono ?_; rintro e w7 ⟨rfl, k7⟩)
  go_ret
  exact ⟨rfl, HK.out.then k7⟩
end Go.Proofs.YtgogfnafbeahoaaGreat
