/- Has, Gap, Same. -/
import Derived.Test.YtgogfnafbeahoaaGreatRunM
import Derived.Test.YtgogfnafbeahoaaGreatWinP
namespace Go.Proofs.YtgogfnafbeahoaaGreat
open Go Go.RowKit

theorem find_none {l : List RunN} {n : Nat} (h : l[findR l n]? = none) : findR l n = l.length := by
  have h1 := findR_le l n
  have h2 := List.getElem?_eq_none_iff.1 h
  omega
theorem find_some {l : List RunN} {n : Nat} {r : RunN} (h : l[findR l n]? = some r) : findR l n < l.length := (List.getElem?_eq_some_iff.1 h).1
set_option maxHeartbeats 1000000 in
theorem rHas_spec {w : World} {v : Value} {l : List RunN} (h : RunsAt w v l) (hs : RSet l) (n : Nat) (hl : l.length ≤ 1099511627776) :
    Calls Tryz.prog 86 #[.agg #[v], .int .u64 n] w fun e w' => e = .returned (.bool (hasB l n)) ∧ Keep No w w' := by
  obtain ⟨ao, cap, rfl, hc, hm⟩ := h.form
  obtain ⟨W, hW⟩ : ∃ W, W = w.alloc (.cells #[.slice ao l.length cap] 34) := ⟨_, rfl⟩
  have kW : Keep No w W := by rw [hW]; exact (Keep.refl _ _).alloc _
  have hA : W.heap[w.heap.size]? = some (.cells #[.slice ao l.length cap] 34 (0, 0)) := by rw [hW]; exact heap_new _ _
  have hf := rFind_spec (h.no kW) hs n hl
  have c0 := cell_of hA 0
  simp at c0
  cases hr : l[findR l n]? with
  | none =>
    have e : hasB l n = false := by unfold hasB; rw [hr]
    rw [find_none hr] at hf
    have HH := Lib.hid kW
    rw [e]
    clear hA kW h hs hl hc hm e hr
    go_enter Tryz.func86, Tryz.ntmps86
    go_wp2_with fail
    rw [← hW]
    go_wp2_with fail
    refine hf.mono ?_
    rintro e w' ⟨rfl, k2⟩
    have c1 := k2.cell c0 (fun e => e)
    go_wp2_with fail
    go_ret
    exact ⟨rfl, HH.out.then k2⟩
  | some r =>
    have e : hasB l n = decide (r.1 ≤ n) := by unfold hasB; rw [hr]
    have hk := find_some hr
    obtain ⟨g, o, rfl, hrow⟩ := h.row (fun e => by subst e; simp at hr)
    have hcell := kW.cell (hrow _ _ hr).1 (fun e => e)
    obtain ⟨k, hke⟩ : ∃ k, k = findR l n := ⟨_, rfl⟩
    rw [← hke] at hf hk hcell
    have hki : (k : Int) < (l.length : Int) := by omega
    have HH := Lib.hid kW
    rw [e]
    clear hA kW h hs hl hc hm e hr hrow hke hk
    go_enter Tryz.func86, Tryz.ntmps86
    go_wp2_with fail
    rw [← hW]
    go_wp2_with fail
    refine hf.mono ?_
    rintro e w' ⟨rfl, k2⟩
    have c1 := k2.cell c0 (fun e => e)
    have c2 := k2.cell hcell (fun e => e)
    go_wp2_with fail
    go_ret
    exact ⟨by simp, HH.out.then k2⟩
set_option maxHeartbeats 1000000 in
/-- Gap, where there is one. -/
theorem rGap_spec {w : World} {v : Value} {l : List RunN} (h : RunsAt w v l) (hs : RSet l) (n m : Nat) (hl : l.length ≤ 1099511627776) (hg : gapR l n = some m) :
    Calls Tryz.prog 84 #[.agg #[v], .int .u64 n] w fun e w' => e = .returned (.tuple #[.int .u64 m, .bool true]) ∧ Keep No w w' := by
  obtain ⟨ao, cap, rfl, hc, hm⟩ := h.form
  obtain ⟨W, hW⟩ : ∃ W, W = w.alloc (.cells #[.slice ao l.length cap] 34) := ⟨_, rfl⟩
  have kW : Keep No w W := by rw [hW]; exact (Keep.refl _ _).alloc _
  have hA : W.heap[w.heap.size]? = some (.cells #[.slice ao l.length cap] 34 (0, 0)) := by rw [hW]; exact heap_new _ _
  have hf := rFind_spec (h.no kW) hs n hl
  have c0 := cell_of hA 0
  simp at c0
  unfold gapR at hg
  cases hr : l[findR l n]? with
  | none =>
    rw [hr] at hg
    simp at hg
    subst hg
    rw [find_none hr] at hf
    have HH := Lib.hid kW
    clear hA kW h hs hl hc hm hr
    go_enter Tryz.func84, Tryz.ntmps84
    go_wp2_with fail
    rw [← hW]
    go_wp2_with fail
    refine hf.mono ?_
    rintro e w' ⟨rfl, k2⟩
    have c1 := k2.cell c0 (fun e => e)
    go_wp2_with fail
    go_ret2
    exact ⟨rfl, HH.out.then k2⟩
  | some r =>
    rw [hr] at hg
    simp only at hg
    have hk := find_some hr
    obtain ⟨g, o, rfl, hrow⟩ := h.row (fun e => by subst e; simp at hr)
    have hcell := kW.cell (hrow _ _ hr).1 (fun e => e)
    have hcell2 := kW.cell (hrow _ _ hr).2 (fun e => e)
    have hr2 := (hs.run r (findR_mem hr)).2
    obtain ⟨k, hke⟩ : ∃ k, k = findR l n := ⟨_, rfl⟩
    rw [← hke] at hf hk hcell hcell2
    have hki : (k : Int) < (l.length : Int) := by omega
    have hkn : ((k : Int) == (l.length : Int)) = false := by simp; omega
    have HH := Lib.hid kW
    by_cases hlt : n < r.1
    · rw [if_pos hlt] at hg
      simp at hg
      subst hg
      have hlti : (n : Int) < (r.1 : Int) := by omega
      clear hA kW h hs hl hc hm hr hrow hke hk hlt hr2
      go_enter Tryz.func84, Tryz.ntmps84
      go_wp2_with fail
      rw [← hW]
      go_wp2_with fail
      refine hf.mono ?_
      rintro e w' ⟨rfl, k2⟩
      have c1 := k2.cell c0 (fun e => e)
      have c2 := k2.cell hcell (fun e => e)
      go_wp2_with fail
      go_ret2
      exact ⟨rfl, HH.out.then k2⟩
    · rw [if_neg hlt] at hg
      split at hg
      · cases hg
      · rename_i hne
        simp at hg
        have hlti : ¬ (n : Int) < (r.1 : Int) := by omega
        have hne2 : ((r.2 : Int) == 18446744073709551615) = false := by simp; omega
        have hw : IntKind.u64.wrap ((r.2 : Int) + 1) = (m : Int) := by rw [wraps_u64 _ (by omega) (by omega)]; omega
        clear hA kW h hs hl hc hm hr hrow hke hk hlt hr2 hne hg
        go_enter Tryz.func84, Tryz.ntmps84
        go_wp2_with fail
        rw [← hW]
        go_wp2_with fail
        refine hf.mono ?_
        rintro e w' ⟨rfl, k2⟩
        have c1 := k2.cell c0 (fun e => e)
        have c2 := k2.cell hcell (fun e => e)
        have c3 := k2.cell hcell2 (fun e => e)
        go_wp2_with fail
        go_ret2
        exact ⟨rfl, HH.out.then k2⟩
end Go.Proofs.YtgogfnafbeahoaaGreat
