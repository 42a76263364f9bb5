/- SeglogPlays: the walk. -/
import Derived.Test.YtpjggnfiocplmaaPlayA
import Derived.Test.YtpjggnfiocplmaaHoldsW
namespace Go.Proofs.Ytpjggnfiocplmaa
open Go Go.RowKit Go.Dr

/-- In the loop of the acts. -/
def Plays7I [bn : Inhabited Ban] (w : World) (P : Nat) (size : Int) (j : Nat) (wr : World) : Prop :=
  ∃ (ss : List SegL) (d : DiskS) (x : RDiskS) (G : Nat → Prop), Pair w.heap.size wr P size ss d x G ∧ St7 j RT ss d x ∧ Keep No w wr ∧ ∀ b, G b → w.heap.size ≤ b

set_option maxRecDepth 100000 in
set_option maxHeartbeats 8000000 in
theorem plays7_walk [bn : Inhabited Ban] {w : World} (hT : ban.top ≤ w.heap.size) (r z : Int) (hr0 : 0 ≤ r) (hr1 : r ≤ 65535) (hz0 : 0 ≤ z) (hz1 : z ≤ 65535) {v : Value} {acts : List Act7S} (hA : Acts7At w.heap.size w v acts) (hok : ∀ a ∈ acts, a.Ok) :
    Calls Try.prog 11 #[.int .u16 r, .int .u16 z, v] w fun e w' => e = .returned (.bool true) ∧ Keep No w w' := by
  obtain ⟨ao, cap, rfl, hlc, hcm, hacts⟩ := hA
  unfold maxLen at hcm
  have hlen1 : (acts.length : Int) ≤ 9223372036854775807 := by omega
  have hop := fun (w' : World) (k : Keep No w w') => open7_spec (base := w.heap.size) (w := w') k.size (Nat.le_trans hT k.size) (r % 2000) (z % 200) (by omega) (by omega) (by omega) (by omega)
  have HP := Lib.hid (And.intro hT (And.intro hacts hok))
  have haw := awake7_spec hT
  have hrm : 0 ≤ r % 2000 ∧ r % 2000 ≤ 1000000 := by omega
  clear hT hacts hok hlc hcm
  go_enter Try.func11, Try.ntmps11
  go_upto_block 0 with (first
    | (go_at_call 41; refine (hop _ k1).mono ?_; rintro e w2 ⟨P, G, rfl, hP, k2, hG⟩)
    | (go_at_call 34; refine haw.mono ?_; rintro e w1 ⟨rfl, k1⟩))
  have hI0 : Plays7I w P (1 + z % 200) 0 w2 := ⟨[], _, _, G, hP, St7.start (r % 2000) hrm.1 hrm.2, k1.then k2, fun b hb => Nat.le_trans k1.size (hG b hb)⟩
  have hK1 : 1 ≤ 1 + z % 200 := by omega
  clear hop haw hP hG k1 k2
  generalize 1 + z % 200 = K at *
  clear hz0 hz1 hr0 hr1 hrm
  go_cut [] (fun wx => Keep No w wx)
  case first =>
    go_wp2_with fail
    go_loopw [21] (fun i wr => ∃ j : Nat, j ≤ acts.length ∧ i = .int .i64 j ∧ Plays7I w P K (min j 40) wr) (fun i _ => acts.length - (intOf i).toNat)
    case atStart => exact ⟨0, Nat.zero_le _, rfl, hI0⟩
    case round =>
      clear hI0
      obtain ⟨j, hj, rfl, ss, d, x, G, hPr, hH, hk, hG⟩ := hrel
      by_cases hlt : j < acts.length
      · have hacts := HP.out.2.1
        rcases hacts with rfl | ⟨ga, oa, hga, rfl, hacts⟩
        · simp at hlt
        · have haj : acts[j]? = some acts[j] := List.getElem?_eq_getElem hlt
          obtain ⟨u, hu, e0, e1, e2, e3, e4, e5⟩ := hacts j _ haj
          have hoj := HP.out.2.2 _ (List.getElem_mem hlt)
          generalize acts[j] = a at *
          obtain ⟨uo, uc, rfl⟩ := hu.form
          have e0 := hk.cell e0 (fun e => e)
          have e1 := hk.cell e1 (fun e => e)
          have e2 := hk.cell e2 (fun e => e)
          have e3 := hk.cell e3 (fun e => e)
          have e4 := hk.cell e4 (fun e => e)
          have e5 := hk.cell e5 (fun e => e)
          have hu := hu.no hk
          have hji : (j : Int) < (acts.length : Int) := by omega
          have kA : Keep No wr (wr.alloc (.cells #[.int .u8 a.dop, .slice uo a.p.length uc, .int .u16 a.n, .bool a.on, .int .i64 a.keep, .int .i64 a.torn] 78)) := (Keep.refl _ _).alloc _
          clear haj hacts
          by_cases hj40 : j < 40
          · have hj40i : ¬ (40 : Int) ≤ (j : Int) := by omega
            have hH2 : St7 j RT ss d x := by rw [Nat.min_eq_left (by omega)] at hH; exact hH
            have hdc := do7_every (hPr.no kA) hH2 (by omega) (Nat.le_trans hk.size kA.size) (Nat.le_trans HP.out.1 (Nat.le_trans hk.size kA.size)) hK1 (hu.no kA) hoj
            have HL := Lib.hid (And.intro hPr (And.intro hk (And.intro hG (And.intro hlt (And.intro hj40 kA)))))
            clear hPr hH hH2 hk hG hlt hj40 kA hu hoj hj
            have hlk := fun (w4 : World) ss' d' x' G4 (hP4 : Pair w.heap.size w4 P K ss' d' x' G4) (hH4 : St7 (j + 1) RT ss' d' x') (hk4 : Keep No w w4) => like7_spec hP4 hH4 (by have := HL.out.2.2.2.2.1; omega) hk4.size (Nat.le_trans HP.out.1 hk4.size)
            have HK := Lib.hid hlk
            clear hlk
            go_wp2_with (first
              | (go_at_call 45; refine (HK.out w4 ss' d' x' G4 hP4 hH4 hk4).mono ?_; rintro e w5 ⟨rfl, k5⟩)
              | (go_at_call 42; refine hdc.mono ?_; rintro e w4 ⟨rfl, ss', d', x', G4, hP4, hH4, k4, hG4⟩; have hk4 : Keep No w w4 := (HL.out.2.1.then HL.out.2.2.2.2.2).absorb k4 HL.out.2.2.1; clear k4))
            have HZ := Lib.hid (And.intro (hP4.no k5) (And.intro hH4 (And.intro (hk4.then k5) hG4)))
            clear hP4 hH4 hk4 hG4 hdc k5
            go_roundw
            case rel =>
              refine ⟨j + 1, HL.out.2.2.2.1, by go_num, ss', d', x', G4, HZ.out.1, by have := HL.out.2.2.2.2.1; rw [Nat.min_eq_left (by omega)]; exact HZ.out.2.1, HZ.out.2.2.1, fun b hb => ?_⟩
              rcases HZ.out.2.2.2 b hb with h | h
              · exact HL.out.2.2.1 b h
              · have h1 := HL.out.2.1.size; simp at h; omega
            case measure => have := HL.out.2.2.2.1; simp [intOf]; omega
          · have HE := Lib.hid (hk.then kA)
            have hj40i : (40 : Int) ≤ (j : Int) := by omega
            clear hPr hH hk hG hu hoj kA hlt hj hj40
            go_wp2_with fail
            go_meet
            exact HE.out
      · have hji : ¬ (j : Int) < (acts.length : Int) := by omega
        have HE := Lib.hid hk
        clear hPr hH hk hG
        go_wp2
        go_meet
        exact HE.out
  case rest =>
    clear hI0
    have HE := Lib.hid hcut
    clear hcut
    go_wp2
    go_ret
    exact ⟨rfl, HE.out⟩
end Go.Proofs.Ytpjggnfiocplmaa
