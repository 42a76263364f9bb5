/- Package pack: In.Bytes. -/
import Derived.Test.YtgogfnafbeahoaaGreatPackD
namespace Go.Proofs.YtgogfnafbeahoaaGreat
open Go Go.RowKit

theorem numP_len : ∀ (l : List UInt8) (i acc n : Nat) (r : List UInt8), numP i acc l = .ok (n, r) → r.length < l.length
  | [], i, acc, n, r, h => by simp [numP] at h
  | b :: t, i, acc, n, r, h => by
    unfold numP at h
    split at h
    · cases h
    · split at h
      · cases h
      · split at h
        · simp only [Except.ok.injEq, Prod.mk.injEq] at h
          rw [← h.2]
          simp
        · have := numP_len t _ _ n r h
          simp
          omega
theorem num_len (s : InS) : s.num.2.l.length ≤ s.l.length := by
  unfold InS.num
  split
  · cases h : numP 0 0 s.l with
    | error c => exact Nat.le_refl _
    | ok q => exact Nat.le_of_lt (numP_len s.l 0 0 q.1 q.2 h)
  · exact Nat.le_refl _
def InS.some (s : InS) (most : Nat) : List UInt8 × InS := if s.e = 0 then (
  if s.num.2.e = 0 then (if most < s.num.1 then ([], { s with e := 6 }) else if s.num.2.l.length < s.num.1 then ([], { s with e := 2 })
    else (s.num.2.l.take s.num.1, { s.num.2 with l := s.num.2.l.drop s.num.1 })) else ([], { s with e := s.num.2.e })) else ([], s)
set_option maxRecDepth 100000 in
set_option maxHeartbeats 2000000 in
theorem iBytes_spec [bn : Inhabited Ban] {base g : Nat} {w : World} {s : InS} (h : InAt base w g s) (hlen : s.l.length ≤ 1099511627776) (most : Nat) (hmost : most ≤ 1099511627776) :
    Calls Tryz.prog 175 #[.pointer (some ⟨g, 0, none⟩), .int .i64 most] w fun e w' => ∃ v, e = .returned v ∧ OwnB w' w.heap.size v (s.some most).1 ∧ InAt base w' g (s.some most).2 ∧ Keep (· = g) w w' := by
  have he := iErr_spec h
  by_cases h0 : s.e = 0
  · obtain ⟨n, hn⟩ : ∃ n, n = s.num.1 := ⟨_, rfl⟩
    obtain ⟨s1, hs1⟩ : ∃ s1, s1 = s.num.2 := ⟨_, rfl⟩
    have hnum := iNum_spec h hlen
    rw [← hn, ← hs1] at hnum
    have hl1 : s1.l.length ≤ 1099511627776 := by rw [hs1]; exact Nat.le_trans (num_len s) hlen
    have hli1 : (s1.l.length : Int) ≤ 1099511627776 := by omega
    have hs : s.some most = (if s1.e = 0 then (if most < n then ([], { s with e := 6 }) else if s1.l.length < n then ([], { s with e := 2 })
      else (s1.l.take n, { s1 with l := s1.l.drop n })) else ([], { s with e := s1.e })) := by unfold InS.some; rw [if_pos h0, ← hn, ← hs1]
    rw [hs]
    obtain ⟨h1, v, h2, h3⟩ := id h
    obtain ⟨ao, cap, rfl⟩ := h3.form
    have c0 := cell_of h2 0
    simp at c0
    rw [h0] at he
    have hF := h.foot
    have hmi : (most : Int) ≤ 1099511627776 := by omega
    have HH := Lib.hid (And.intro h (And.intro h3 (And.intro hF h0)))
    have HL := Lib.hid hl1
    clear hl1 hn hs1 hs h h2 h3 hF h0 h1 hlen hmost
    by_cases e1 : s1.e = 0
    · by_cases hm : most < n
      · have hmn : (most : Int) < (n : Int) := by omega
        rw [if_pos e1, if_pos hm]
        have HE := Lib.hid (And.intro e1 hm)
        clear e1 hm
        go_enter Tryz.func175, Tryz.ntmps175
        go_wp2_with (first
          | (go_at_call 133; refine hf.mono ?_; rintro e w2 ⟨rfl, hi2, k2⟩; obtain ⟨_, v2, hh2, hv2⟩ := id hi2; obtain ⟨o2, cp2, rfl⟩ := hv2.form; have d1 := cell_of hh2 1; have d0 := cell_of hh2 0; have fd := frozen_of hh2; simp [InS.fail, HE.out.1] at d1 d0)
          | (go_at_call 137; refine hnum.mono ?_; rintro e w1 ⟨rfl, hi1, k1⟩; obtain ⟨_, v1, hh1, hv1⟩ := id hi1; obtain ⟨o1, cp1, rfl⟩ := hv1.form; have c1 := cell_of hh1 1; have c01 := cell_of hh1 0; simp at c1 c01; rw [HE.out.1] at c1; have hf := iFail_spec hi1 6)
          | (go_at_call 132; refine he.mono ?_; rintro e w0 ⟨rfl, rfl⟩))
        go_ret
        have k12 : Keep (· = g) w0 w2 := k1.trans k2 (fun _ _ e => e)
        have hset := hi2.setRest (HH.out.2.1.keep HH.out.2.2.1 k12)
        have e6 : (s1.fail 6).e = 6 := by simp [InS.fail, HE.out.1]
        refine ⟨_, rfl, OwnB.nil _ _, ?_, k12.trans (keep_cell _ _) (fun _ _ e => e)⟩
        simp only [e6] at hset
        exact hset
      · by_cases hl : s1.l.length < n
        · have hmn : ¬ (most : Int) < (n : Int) := by omega
          have hln : (s1.l.length : Int) < (n : Int) := by omega
          rw [if_pos e1, if_neg hm, if_pos hl]
          have HE := Lib.hid (And.intro e1 hm)
          clear e1 hm hl
          go_enter Tryz.func175, Tryz.ntmps175
          go_wp2_with (first
            | (go_at_call 133; refine hf.mono ?_; rintro e w2 ⟨rfl, hi2, k2⟩; obtain ⟨_, v2, hh2, hv2⟩ := id hi2; obtain ⟨o2, cp2, rfl⟩ := hv2.form; have d1 := cell_of hh2 1; have d0 := cell_of hh2 0; have fd := frozen_of hh2; simp [InS.fail, HE.out.1] at d1 d0)
            | (go_at_call 137; refine hnum.mono ?_; rintro e w1 ⟨rfl, hi1, k1⟩; obtain ⟨_, v1, hh1, hv1⟩ := id hi1; obtain ⟨o1, cp1, rfl⟩ := hv1.form; have c1 := cell_of hh1 1; have c01 := cell_of hh1 0; simp at c1 c01; rw [HE.out.1] at c1; have hf := iFail_spec hi1 2)
            | (go_at_call 132; refine he.mono ?_; rintro e w0 ⟨rfl, rfl⟩))
          go_ret
          have k12 : Keep (· = g) w0 w2 := k1.trans k2 (fun _ _ e => e)
          have hset := hi2.setRest (HH.out.2.1.keep HH.out.2.2.1 k12)
          have e6 : (s1.fail 2).e = 2 := by simp [InS.fail, HE.out.1]
          refine ⟨_, rfl, OwnB.nil _ _, ?_, k12.trans (keep_cell _ _) (fun _ _ e => e)⟩
          simp only [e6] at hset
          exact hset
        · have hmn : ¬ (most : Int) < (n : Int) := by omega
          have hln : ¬ (s1.l.length : Int) < (n : Int) := by omega
          rw [if_pos e1, if_neg hm, if_neg hl]
          have hnl : n ≤ s1.l.length := by omega
          have HE := Lib.hid (And.intro e1 (And.intro hm hnl))
          clear e1 hm hl hnl
          go_enter Tryz.func175, Tryz.ntmps175
          go_wp2_with (go_at_call 132; refine he.mono ?_; rintro e w0 ⟨rfl, rfl⟩)
          refine hnum.mono ?_
          rintro e w1 ⟨rfl, hi1, k1⟩
          obtain ⟨_, v1, hh1, hv1⟩ := id hi1
          obtain ⟨o1, cp1, rfl⟩ := hv1.form
          have c1 := cell_of hh1 1
          have c01 := cell_of hh1 0
          simp at c1 c01
          rw [HE.out.1] at c1
          have hcp : s1.l.length ≤ cp1 := by obtain ⟨_, _, hq, q1, q2, _⟩ := hv1; simp at hq; omega
          obtain ⟨o3, c3, hs3, hb3⟩ := slice_hu o1 s1.l.length cp1 n HE.out.2.2 hcp
          obtain ⟨o4, c4, hs4, hb4⟩ := slice_lu o1 s1.l.length cp1 n HE.out.2.2 hcp
          have hb3 := hb3 base w1 s1.l hv1
          have hb4 := hb4 base w1 s1.l hv1
          rw [List.take_length] at hb4
          have hlt : (s1.l.take n).length = n := by rw [List.length_take]; exact Nat.min_eq_left HE.out.2.2
          have hcl := clone_spec hb3 (by rw [hlt]; have := HE.out.2.1; omega)
          have HI := Lib.hid (And.intro hi1 (And.intro hb4 (And.intro hh1 (And.intro k1 hlt))))
          clear hi1 hv1 hh1 hb3 hb4 k1 hnum he hlt
          go_wp2_with fail
          refine hcl.mono ?_
          rintro e w2 ⟨v2, rfl, own2, k2⟩
          obtain ⟨o2, cp2, rfl⟩ := own2.form
          rw [HI.out.2.2.2.2] at own2 ⊢
          have d0 := k2.cell c01 (fun e => e)
          have fd := frozen_of (k2.heap HI.out.2.2.1 (fun e => e))
          go_wp2_with fail
          go_ret
          have hset := (HI.out.1.no k2).setRest (HI.out.2.1.no k2)
          refine ⟨_, rfl, ?_, hset, (HI.out.2.2.2.1.then k2).trans (keep_cell _ _) (fun _ _ e => e)⟩
          exact (own2.keep (keep_cell _ _) (fun b hb e => by have h1 := (own2.lt b hb).1; have h2 := heap_lt HI.out.2.2.1; have h3 : b = g := e; omega)).mono HI.out.2.2.2.1.size
    · have hq : (s1.e == 0) = false := by simpa using e1
      rw [if_neg e1]
      clear e1
      go_enter Tryz.func175, Tryz.ntmps175
      go_wp2_with (first
        | (go_at_call 137; refine hnum.mono ?_; rintro e w1 ⟨rfl, hi1, k1⟩; obtain ⟨_, v1, hh1, hv1⟩ := id hi1; obtain ⟨o1, cp1, rfl⟩ := hv1.form; have c1 := cell_of hh1 1; have c01 := cell_of hh1 0; have fd := frozen_of hh1; simp at c1 c01)
        | (go_at_call 132; refine he.mono ?_; rintro e w0 ⟨rfl, rfl⟩))
      go_ret
      exact ⟨_, rfl, OwnB.nil _ _, hi1.setRest (HH.out.2.1.keep HH.out.2.2.1 k1), k1.trans (keep_cell _ _) (fun _ _ e => e)⟩
  · have hs : s.some most = ([], s) := by unfold InS.some; rw [if_neg h0]
    have hq : (s.e == 0) = false := by simpa using h0
    have HH := Lib.hid h
    rw [hs]
    clear hs h
    go_enter Tryz.func175, Tryz.ntmps175
    go_wp2_with (go_at_call 132; refine he.mono ?_; rintro e w1 ⟨rfl, rfl⟩)
    go_ret
    exact ⟨_, rfl, OwnB.nil _ _, HH.out, Keep.refl _ _⟩
end Go.Proofs.YtgogfnafbeahoaaGreat
