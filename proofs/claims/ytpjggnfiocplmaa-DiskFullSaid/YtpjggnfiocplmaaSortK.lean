/- Sorting numbers: pattern-defeating quicksort. -/
import Derived.Test.YtpjggnfiocplmaaSortH
import Derived.Test.YtpjggnfiocplmaaSortJ
import Derived.Sort.LotA
import Derived.Sort.LotB
namespace Go.Proofs.Ytpjggnfiocplmaa
open Go Go.RowKit Go.Sort

/-- What is left to do: whatever sorted permutation of [a, b) comes, the whole is one. -/
structure Rest (a0 b0 : Nat) (d0 : Array Int) (a b : Nat) (dk : Array Int) : Prop where
  size : dk.size = d0.size
  ab : a ≤ b
  bs : b ≤ d0.size
  below : Go.Sort.Below ltInt a b dk
  done : ∀ R, PermIn a b dk R → SortedIn ltInt a b R → PermIn a0 b0 d0 R ∧ SortedIn ltInt a0 b0 R
theorem Rest.perm {a0 b0 a b : Nat} {d0 dk dk' : Array Int} (h : Rest a0 b0 d0 a b dk) (p : PermIn a b dk dk') : Rest a0 b0 d0 a b dk' :=
  ⟨by rw [p.1, h.size], h.ab, h.bs, h.below.perm (by rw [h.size]; exact h.bs) p, fun R hR hS => h.done R (permIn_trans _ _ _ a b p hR) hS⟩
def PdqPost (w : World) (g off a b : Nat) (d : Array Int) (e : Ending) (w' : World) : Prop :=
  e = .returned (.tuple #[]) ∧ ∃ d', PermIn a b d d' ∧ SortedIn ltInt a b d' ∧ Row64 w' g off d' ∧ Keep (· = g) w w'

set_option maxRecDepth 100000 in
set_option maxHeartbeats 16000000 in
theorem pdq_spec {g off cap : Nat} : ∀ (N : Nat) (w : World) (d : Array Int) (a b l : Nat), b - a ≤ N → Row64 w g off d → a ≤ b → b ≤ d.size → Hid (d.size < 65536) → l ≤ 1000 → Go.Sort.Below ltInt a b d →
    Calls Try.prog 102 #[.slice (some ⟨g, off, none⟩) d.size cap, .int .i64 a, .int .i64 b, .int .i64 l] w (PdqPost w g off a b d) := by
  intro N
  induction N using Nat.strongRecOn with
  | _ N ih =>
  intro w d a b l hN h hab hb HSZ hl hB
  have ih' : ∀ (w : World) (d : Array Int) (a' b' l : Nat), b' - a' < b - a → Row64 w g off d → a' ≤ b' → b' ≤ d.size → Hid (d.size < 65536) → l ≤ 1000 → Go.Sort.Below ltInt a' b' d →
    Calls Try.prog 102 #[.slice (some ⟨g, off, none⟩) d.size cap, .int .i64 a', .int .i64 b', .int .i64 l] w (PdqPost w g off a' b' d) := fun w d a' b' l h1 => ih (b' - a') (by omega) w d a' b' l (Nat.le_refl _)
  have HIH := Lib.hid ih'
  clear ih' ih hN
  have hrest : Rest a b d a b d := ⟨rfl, hab, hb, hB, fun R h1 h2 => ⟨h1, h2⟩⟩
  have hsz : d.size ≤ 1099511627776 := by have := HSZ.out; omega
  have hli : (l : Int) ≤ 1099511627776 := by omega
  go_enter Try.func102, Try.ntmps102
  go_wp2
  go_loopw [1, 2, 3, 8, 9] (fun va vb vl vwb vwp wr => ∃ (A B L : Nat) (wb wp : Bool) (dk : Array Int), va = .int .i64 A ∧ vb = .int .i64 B ∧ vl = .int .i64 L ∧ L ≤ 1000 ∧ vwb = .bool wb ∧ vwp = .bool wp ∧ B - A ≤ b - a ∧ Row64 wr g off dk ∧ Keep (· = g) w wr ∧ Rest a b d A B dk) (fun va vb _ _ _ _ => (intOf vb - intOf va).toNat)
  case atStart => exact ⟨a, b, l, true, true, d, rfl, rfl, rfl, hl, rfl, rfl, Nat.le_refl _, h, Keep.refl _ _, hrest⟩
  case round =>
    clear h hrest hB hl hli
    obtain ⟨A, B, L, wb, wp, dk, rfl, rfl, rfl, hL, rfl, rfl, hAB, hR, hK, hRest⟩ := hrel
    obtain ⟨n, hn⟩ : ∃ n : Nat, B - A = n := ⟨_, rfl⟩
    have hle := hRest.ab
    have hbs := hRest.bs
    have hsk := hRest.size
    have e0 : (B : Int) - (A : Int) = (n : Int) := by omega
    have hLi : (L : Int) ≤ 1099511627776 := by omega
    have hAi : (A : Int) ≤ 1099511627776 := by omega
    have hBi : (B : Int) ≤ 1099511627776 := by omega
    have hni : (n : Int) ≤ 1099511627776 := by omega
    have swo : SWO ltInt := swo_ltInt
    by_cases h12 : n ≤ 12
    · have h12i : (n : Int) ≤ 12 := by omega
      have hins := ins_spec (cap := cap) hR hle (by omega) (by omega)
      rw [hsk] at hins
      have hp := insertionSort_holds swo dk A B hle (by omega)
      have hd := hRest.done _ hp.1 hp.2
      have HD := Lib.hid (And.intro hins (And.intro hd hK))
      clear hins hp hd hK hR hRest h12 HIH HSZ
      go_wp2_with (go_at_call 106; refine HD.out.1.mono ?_; rintro e w2 ⟨rfl, hR2, hK2⟩)
      refine bodyPost_ret (results_none rfl _ _ _) rfl ?_
      exact ⟨rfl, _, HD.out.2.1.1, HD.out.2.1.2, hR2, HD.out.2.2.trans hK2 (fun _ _ e => e)⟩
    · have h12i : ¬ (n : Int) ≤ 12 := by omega
      by_cases hL0 : L = 0
      · subst hL0
        have hheap := heap_spec (cap := cap) hR (a := A) (b := B) (by omega) (by omega) (by omega)
        rw [hsk] at hheap
        have hp := heapSort_holds swo dk A B hle (by omega)
        have hd := hRest.done _ hp.1 hp.2
        have HD := Lib.hid (And.intro hheap (And.intro hd hK))
        clear hheap hp hd hK hR hRest h12 HIH HSZ
        go_wp2_with (go_at_call 107; refine HD.out.1.mono ?_; rintro e w2 ⟨rfl, hR2, hK2⟩)
        refine bodyPost_ret (results_none rfl _ _ _) rfl ?_
        exact ⟨rfl, _, HD.out.2.1.1, HD.out.2.1.2, hR2, HD.out.2.2.trans hK2 (fun _ _ e => e)⟩
      · have hL0i : ((L : Int) == 0) = false := by simp; omega
        have HP := Lib.hid (And.intro hR (And.intro hK (And.intro hRest (And.intro hAB (And.intro hL (And.intro hL0 hn))))))
        have hn12 : 12 < B - A := by omega
        clear hR hK hRest hAB hL hL0 hn h12
        go_upto_if 35 with fail
        go_cut [3] (fun v wx => ∃ (L1 : Nat) (d1 : Array Int), v = .int .i64 L1 ∧ L1 ≤ 1000 ∧ Row64 wx g off d1 ∧ Keep (· = g) w wx ∧ Rest a b d A B d1)
        case first =>
          cases wb with
          | true =>
            go_wp2
            go_meet
            exact ⟨L, dk, rfl, HP.out.2.2.2.2.1, HP.out.1, HP.out.2.1, HP.out.2.2.1⟩
          | false =>
            have hbrk := brk_spec (cap := cap) HP.out.1 hn12 (by omega) (by rw [hsk]; exact HSZ.out)
            rw [hsk] at hbrk
            have hp := breakPatterns_holds dk A B hle (by omega)
            have HD := Lib.hid (And.intro hbrk hp)
            clear hbrk hp
            go_wp2_with (go_at_call 108; refine HD.out.1.mono ?_; rintro e w2 ⟨rfl, hR2, hK2⟩)
            go_meet
            exact ⟨L - 1, _, by have := HP.out.2.2.2.2.2.1; congr 1; omega, by have := HP.out.2.2.2.2.1; omega, hR2, HP.out.2.1.trans hK2 (fun _ _ e => e), HP.out.2.2.1.perm HD.out.2⟩
        case rest =>
          obtain ⟨L1, d1, rfl, hL1, hR1, hK1, hRest1⟩ := hcut
          generalize wc = w1 at *
          have hL1i : (L1 : Int) ≤ 1099511627776 := by omega
          have hs1 := hRest1.size
          have hpiv := piv_spec (cap := cap) hR1 hn12 (by omega) (by omega)
          rw [hs1] at hpiv
          have hc0 := choosePivot_holds ltInt d1 A B (by omega)
          generalize choosePivot ltInt d1 A B = c at *
          obtain ⟨c1, c2⟩ := c
          simp only [] at hpiv hc0
          have HP1 := Lib.hid (And.intro hR1 (And.intro hK1 (And.intro hRest1 (And.intro hL1 hc0))))
          have HPV := Lib.hid hpiv
          clear hR1 hK1 hRest1 hL1 hc0 hpiv hL0i
          have hc1i : (c1 : Int) ≤ 1099511627776 := by have := HP1.out.2.2.2.2; omega
          go_upto_if 50 with (go_at_call 109; refine HPV.out.mono ?_; rintro e w2 ⟨rfl, hR2, hK2⟩)
          go_cut [11, 12] (fun pv hv wx => ∃ (pivot : Nat) (hc : Int) (d2 : Array Int), pv = .int .i64 pivot ∧ hv = .int .i64 hc ∧ A ≤ pivot ∧ pivot < B ∧ Row64 wx g off d2 ∧ Keep (· = g) w wx ∧ Rest a b d A B d2)
          case first =>
            cases c2 with
            | decreasing =>
              have hrev := rev_spec (cap := cap) hR2 (a := A) (b := B) (by omega) (by omega) (by omega)
              rw [hs1] at hrev
              have hp := reverseRange_holds d1 A B hle (by omega)
              have HD := Lib.hid (And.intro hrev (And.intro hp hK2))
              clear hrev hp hR2 hK2
              have e2 : hintCode .decreasing = 2 := rfl
              rw [e2]
              go_wp2_with (go_at_call 110; refine HD.out.1.mono ?_; rintro e w3 ⟨rfl, hR3, hK3⟩)
              go_meet
              have hc0 := HP1.out.2.2.2.2
              exact ⟨(B - 1) - (c1 - A), 1, _, by congr 1; omega, rfl, by omega, by omega, hR3, (HP1.out.2.1.trans HD.out.2.2 (fun _ _ e => e.elim)).trans hK3 (fun _ _ e => e), HP1.out.2.2.1.perm HD.out.2.1⟩
            | increasing =>
              have e2 : hintCode .increasing = 1 := rfl
              rw [e2]
              have HD := Lib.hid (And.intro hR2 hK2)
              clear hR2 hK2
              go_wp2
              go_meet
              exact ⟨c1, 1, _, rfl, rfl, HP1.out.2.2.2.2.1, HP1.out.2.2.2.2.2, HD.out.1, HP1.out.2.1.trans HD.out.2 (fun _ _ e => e.elim), HP1.out.2.2.1⟩
            | unknown =>
              have e2 : hintCode .unknown = 0 := rfl
              rw [e2]
              have HD := Lib.hid (And.intro hR2 hK2)
              clear hR2 hK2
              go_wp2
              go_meet
              exact ⟨c1, 0, _, rfl, rfl, HP1.out.2.2.2.2.1, HP1.out.2.2.2.2.2, HD.out.1, HP1.out.2.1.trans HD.out.2 (fun _ _ e => e.elim), HP1.out.2.2.1⟩
          case rest =>
            clear hR2 hK2
            obtain ⟨pivot, hc, d2, rfl, rfl, hpA, hpB, hR2, hK2, hRest2⟩ := hcut
            generalize wc = w3 at *
            have hpi : (pivot : Int) ≤ 1099511627776 := by omega
            have hs2 := hRest2.size
            have HP2 := Lib.hid (And.intro hR2 (And.intro hK2 hRest2))
            clear hR2 hK2 hRest2
            go_upto_region 15 with fail
            go_cut [68] (fun v wx => ∃ pb : Bool, v = .bool pb ∧ wx = w3)
            case first =>
              have hcb : (hc == 1) = true ∨ (hc == 1) = false := by cases (hc == 1) <;> simp
              cases wb <;> cases wp <;> rcases hcb with hcb | hcb
              all_goals go_wp2
              all_goals go_meet
              all_goals first
                | exact ⟨true, rfl, rfl⟩
                | exact ⟨false, rfl, rfl⟩
            case rest =>
            obtain ⟨pb, rfl, hw3⟩ := hcut
            rw [hw3]
            clear hw3
            go_upto_if 68 with fail
            go_cut [] (fun wx => ∃ d3 : Array Int, Row64 wx g off d3 ∧ Keep (· = g) w wx ∧ Rest a b d A B d3)
            case first =>
              have hpins := pins_spec (cap := cap) HP2.out.1 (a := A) (b := B) (by omega) (by omega) (by omega)
              rw [hs2] at hpins
              have hp := partialInsertionSort_holds swo d2 A B (by omega) (by omega) HP2.out.2.2.below
              generalize partialInsertionSort ltInt d2 A B = r at *
              obtain ⟨d3, rb⟩ := r
              simp only [] at hpins hp
              have HD := Lib.hid (And.intro hpins hp)
              clear hpins hp
              cases pb with
              | true =>
                cases rb with
                | true =>
                  go_wp2_with (go_at_call 111; refine HD.out.1.mono ?_; rintro e w4 ⟨rfl, hR4, hK4⟩)
                  refine bodyPost_ret (results_none rfl _ _ _) rfl ?_
                  have hd := HP2.out.2.2.done _ HD.out.2.1 (HD.out.2.2 trivial)
                  exact ⟨rfl, _, hd.1, hd.2, hR4, HP2.out.2.1.trans hK4 (fun _ _ e => e)⟩
                | false =>
                  go_wp2_with (go_at_call 111; refine HD.out.1.mono ?_; rintro e w4 ⟨rfl, hR4, hK4⟩)
                  go_meet
                  exact ⟨_, hR4, HP2.out.2.1.trans hK4 (fun _ _ e => e), HP2.out.2.2.perm HD.out.2.1⟩
              | false =>
                go_wp2
                go_meet
                exact ⟨_, HP2.out⟩
            case rest =>
              obtain ⟨d3, hR3, hK3, hRest3⟩ := hcut
              generalize wc = w4 at *
              have hs3 := hRest3.size
              have hb3 := hRest3.bs
              obtain ⟨G, hG⟩ : ∃ G : Nat → Int, ∀ t, G t = d3[t]! := ⟨fun t => d3[t]!, fun _ => rfl⟩
              have hcw : ∀ t, t < d.size → w4.cell? ⟨g, off + t, none⟩ = some (.int .u64 (G t)) := fun t ht => by rw [hG]; exact hR3.cell (by omega)
              have HP3 := Lib.hid (And.intro hR3 (And.intro hK3 (And.intro hRest3 hG)))
              clear hR3 hK3 hRest3 hG
              go_upto_region 17 with fail
              go_cut [87] (fun v wx => ∃ tb : Bool, v = .bool tb ∧ (tb = true → 0 < A ∧ ltInt d3[A - 1]! d3[pivot]! = false) ∧ Keep No w4 wx)
              case first =>
                by_cases hA0 : 0 < A
                · have hA0i : (0 : Int) < (A : Int) := by omega
                  have hA1 : A - 1 < d.size := by omega
                  have hpd : pivot < d.size := by omega
                  go_quiet (first | (go_at_call 112; refine Calls.quiet_of_same (less_spec _ _ _)))
                  go_wp2
                  go_meet
                  refine ⟨!ltInt (G (A - 1)) (G pivot), by first | rfl | simp, fun ht => ⟨hA0, ?_⟩, (Keep.refl _ _).drewN _⟩
                  rw [← HP3.out.2.2.2, ← HP3.out.2.2.2]
                  simpa using ht
                · have hA0i : ¬ (0 : Int) < (A : Int) := by omega
                  go_quiet (first | (go_at_call 112; refine Calls.quiet_of_same (less_spec _ _ _)))
                  go_wp2
                  go_meet
                  exact ⟨false, rfl, fun ht => (by cases ht), (Keep.refl _ _).drewN _⟩
              case rest =>
                obtain ⟨tb, rfl, htb, k5⟩ := hcut
                generalize wc = w5 at *
                clear hcw
                have hR5 := HP3.out.1.keep k5 (fun e => e)
                have hK5 := HP3.out.2.1.trans k5 (fun _ _ e => e.elim)
                have hRest3 := HP3.out.2.2.1
                cases tb with
                | true =>
                  obtain ⟨hA0, hnl⟩ := htb rfl
                  have hpeq := peq_spec (cap := cap) hR5 hpA hpB (by omega) (by omega)
                  rw [hs3] at hpeq
                  rcases hr : partitionEqual ltInt d3 A B pivot with ⟨mid, d4⟩
                  rw [hr] at hpeq
                  simp only [] at hpeq
                  obtain ⟨m1, m2, m3, m4, m5⟩ := round_eq swo (partitionEqual_holds ltInt) hA0 hpA hpB (by omega) hRest3.below hnl hr
                  have hRest4 : Rest a b d mid B d4 := ⟨by rw [m3]; exact hs3, m2, hbs, m4, fun R h1 h2 => hRest3.done R (m5 R h1 h2).1 (m5 R h1 h2).2⟩
                  have HD := Lib.hid (And.intro hpeq (And.intro hK5 hRest4))
                  clear hpeq hK5 hR5 hRest4 hRest3 m3 m4 m5 hr hnl
                  go_wp2_with (go_at_call 113; refine HD.out.1.mono ?_; rintro e w6 ⟨rfl, hR6, hK6⟩)
                  go_roundw
                  case rel => exact ⟨mid, B, L1, wb, wp, d4, rfl, rfl, rfl, HP1.out.2.2.2.1, rfl, rfl, by have := HP.out.2.2.2.1; omega, hR6, HD.out.2.1.trans hK6 (fun _ _ e => e), HD.out.2.2⟩
                  case measure => simp [intOf]; omega
                | false =>
                  have hpart := part_spec (cap := cap) hR5 hpA hpB (by omega) (by omega)
                  rw [hs3] at hpart
                  rcases hr : partition ltInt d3 A B pivot with ⟨mid, ap, d4⟩
                  rw [hr] at hpart
                  simp only [] at hpart
                  obtain ⟨p1, p2, p3, p4, p5, p6, p7⟩ := round_part swo (partition_holds ltInt) hpA hpB (by omega) hRest3.below hr
                  have hs4 : d4.size = d.size := by rw [p3]; exact hs3
                  have hq8 : (n : Int).tdiv 8 = ((n / 8 : Nat) : Int) := rfl
                  have hmi : (mid : Int) ≤ 1099511627776 := by omega
                  have hABn := HP.out.2.2.2.1
                  by_cases hlr : mid - A < B - mid
                  · have hlri : (mid : Int) - (A : Int) < (B : Int) - (mid : Int) := by omega
                    have hih := fun (w6 : World) (h6 : Row64 w6 g off d4) => HIH.out w6 d4 A mid L1 (by omega) h6 p1 (by omega) (by rw [hs4]; exact HSZ) HP1.out.2.2.2.1 p4
                    simp only [hs4] at hih
                    have hfin : ∀ (w7 : World) (d5 : Array Int), PermIn A mid d4 d5 → SortedIn ltInt A mid d5 → Rest a b d (mid + 1) B d5 := fun w7 d5 q1 q2 =>
                      ⟨by rw [q1.1]; exact hs4, by omega, hbs, (p6 d5 q1 q2).1, fun R h1 h2 => hRest3.done R ((p6 d5 q1 q2).2 R h1 h2).1 ((p6 d5 q1 q2).2 R h1 h2).2⟩
                    have HD := Lib.hid (And.intro hpart (And.intro hih (And.intro hK5 hfin)))
                    clear hpart hih hK5 hR5 hRest3 hfin p3 p4 p5 p6 p7 hr
                    go_wp2_with (first
                      | (go_at_call 114; refine HD.out.1.mono ?_; rintro e w6 ⟨rfl, hR6, hK6⟩)
                      | (go_at_call 102; refine (HD.out.2.1 _ hR6).mono ?_; rintro e w7 ⟨rfl, d5, q1, q2, hR7, hK7⟩))
                    go_roundw
                    case rel => exact ⟨mid + 1, B, L1, _, ap, d5, by go_num, rfl, rfl, HP1.out.2.2.2.1, rfl, rfl, by omega, hR7, (HD.out.2.2.1.trans hK6 (fun _ _ e => e)).trans hK7 (fun _ _ e => e), HD.out.2.2.2 w7 d5 q1 q2⟩
                    case measure => simp [intOf]; omega
                  · have hlri : ¬ (mid : Int) - (A : Int) < (B : Int) - (mid : Int) := by omega
                    have hih := fun (w6 : World) (h6 : Row64 w6 g off d4) => HIH.out w6 d4 (mid + 1) B L1 (by omega) h6 (by omega) (by omega) (by rw [hs4]; exact HSZ) HP1.out.2.2.2.1 p5
                    simp only [hs4] at hih
                    have e1 : ((mid + 1 : Nat) : Int) = (mid : Int) + 1 := by omega
                    simp only [e1] at hih
                    have hfin : ∀ (w7 : World) (d5 : Array Int), PermIn (mid + 1) B d4 d5 → SortedIn ltInt (mid + 1) B d5 → Rest a b d A mid d5 := fun w7 d5 q1 q2 =>
                      ⟨by rw [q1.1]; exact hs4, p1, by omega, (p7 d5 q1 q2).1, fun R h1 h2 => hRest3.done R ((p7 d5 q1 q2).2 R h1 h2).1 ((p7 d5 q1 q2).2 R h1 h2).2⟩
                    have HD := Lib.hid (And.intro hpart (And.intro hih (And.intro hK5 hfin)))
                    clear hpart hih hK5 hR5 hRest3 hfin p3 p4 p5 p6 p7 hr e1
                    go_wp2_with (first
                      | (go_at_call 114; refine HD.out.1.mono ?_; rintro e w6 ⟨rfl, hR6, hK6⟩)
                      | (go_at_call 102; refine (HD.out.2.1 _ hR6).mono ?_; rintro e w7 ⟨rfl, d5, q1, q2, hR7, hK7⟩))
                    go_roundw
                    case rel => exact ⟨A, mid, L1, _, ap, d5, rfl, rfl, rfl, HP1.out.2.2.2.1, rfl, rfl, by omega, hR7, (HD.out.2.2.1.trans hK6 (fun _ _ e => e)).trans hK7 (fun _ _ e => e), HD.out.2.2.2 w7 d5 q1 q2⟩
                    case measure => simp [intOf]; omega
end Go.Proofs.Ytpjggnfiocplmaa
