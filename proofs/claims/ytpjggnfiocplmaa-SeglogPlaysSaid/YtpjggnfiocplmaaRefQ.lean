/- The document's 'begins'. -/
import Derived.Test.YtpjggnfiocplmaaRefP
namespace Go.Proofs.Ytpjggnfiocplmaa
open Go Go.RowKit Go.Dr

theorem R7At.at {ps : List (SegL × Value)} {ss : List SegL} (hps : ps.map (·.1) = ss) {j : Nat} {s : SegL} (hs : ss[j]? = some s) : ∃ u, ps[j]? = some (s, u) := by
  subst hps
  rw [List.getElem?_map] at hs
  cases h : ps[j]? with
  | none => rw [h] at hs; cases hs
  | some x => rw [h] at hs; exact ⟨x.2, by simp at hs; rw [← hs]⟩

/-- What 'begins' says. -/
def freshD (size : Int) (ss : List SegL) : Bool := freshB (logD size ss) (lastN (logD size ss))
theorem freshD_nil (size : Int) : freshD size [] = true := rfl
theorem freshD_last (size : Int) (ini : List SegL) (s : SegL) : freshD size (ini ++ [s]) = (!s.headed || ((s.headed && !s.tail.isEmpty) || decide (size ≤ (s.bytes.length : Int)))) := by
  unfold freshD freshB lastN
  rw [logD_last]
  show (!s.headed || (!(s.headed && s.tail.isEmpty) || decide (size ≤ (s.bytes.length : Int)))) = _
  cases s.headed <;> simp

set_option maxRecDepth 100000 in
set_option maxHeartbeats 4000000 in
theorem rbegins_spec [bn : Inhabited Ban] {base : Nat} {w : World} {v : Value} {ss : List SegL} (h : R7 base w v ss) (hfew : ss.length ≤ 10000) (size : Int) (hn : ∀ s ∈ ss, 0 ≤ s.n ∧ s.n ≤ 1000000) :
    Calls Try.prog 97 #[v, .int .i64 size] w fun e w' => e = .returned (.tuple #[.bool (freshD size ss), .int .u64 (appS (logD size ss)).n]) ∧ Keep No w w' := by
  obtain ⟨ps, hps, hR⟩ := h
  obtain ⟨ao, cap, rfl, _, _⟩ := hR.form
  have hpl : ps.length = ss.length := by rw [← hps, List.length_map]
  rw [hpl] at hR ⊢
  rcases List.eq_nil_or_concat ss with rfl | ⟨ini, s, rfl⟩
  · rw [freshD_nil, show (appS (logD size [])).n = 1 from rfl]
    clear hps hR hpl hn hfew
    go_enter Try.func97, Try.ntmps97
    go_wp2
    go_ret2
    exact ⟨rfl, Keep.refl _ _⟩
  · rw [List.concat_eq_append] at *
    obtain ⟨u, hpj⟩ := R7At.at hps (j := ini.length) (s := s) (by simp)
    have hlu := hR.recs _ (List.mem_of_getElem? hpj)
    dsimp only at hlu
    obtain ⟨lo, lc, rfl, _, _⟩ := hlu.form
    clear hlu
    obtain ⟨g, rfl, c0, c1, c2, c3, c4, c5⟩ := hR.cell hpj
    dsimp only at c0 c1 c2 c3 c4 c5
    have hfr := freshD_last size ini s
    have hap : (appS (logD size (ini ++ [s]))).n = if freshD size (ini ++ [s]) then s.n + 1 else s.n := by
      unfold appS freshD newSeg
      rw [logD_last]
      cases freshB (logD size (ini ++ [s])) (lastN (logD size (ini ++ [s]))) <;> rfl
    rw [hap, hfr]
    have hlen : (ini ++ [s]).length = ini.length + 1 := by simp
    have hsn := hn s (by simp)
    rw [hlen] at hfew ⊢
    generalize ini.length = k at *
    have hk1 : IntKind.i64.wrap ((k : Int) + 1 - 1) = (k : Int) := by rw [show ((k : Int) + 1 - 1) = (k : Int) by omega]; exact IntWalk.i64_in _ (by omega)
    have hki : (k : Int) ≤ 1099511627776 := by omega
    have hkn : ¬ ((k : Int) + 1 = 0) := by omega
    have hw1 : IntKind.u64.wrap (s.n + 1) = s.n + 1 := by rw [IntKind.wrap_u64]; omega
    clear hfr hap hlen hn hps hR hpl hpj hfew hsn
    generalize (if s.headed = true then (s.first : Int) else 0) = fi at *
    generalize s.headed = hd at *
    generalize s.tail.isEmpty = te at *
    generalize s.bytes.length = bl at *
    generalize s.n = sn at *
    generalize s.recs.length = rl at *
    have hx0 : ∀ v1 v2 v3 v4 v5, (w.alloc (.cells #[.int .u64 sn, v1, v2, v3, v4, v5] 146)).cell? ⟨w.heap.size, 0, none⟩ = some (.int .u64 sn) := fun v1 v2 v3 v4 v5 => by rw [cell_of (heap_new w _) 0]; rfl
    by_cases hb : size ≤ (bl : Int)
    · have hbd : decide (size ≤ (bl : Int)) = true := decide_eq_true hb
      rw [hbd]
      cases hd <;> cases te
      all_goals
        simp only [Bool.not_true, Bool.not_false, Bool.and_true, Bool.and_false, Bool.or_true, if_true] at c4 ⊢
        go_enter Try.func97, Try.ntmps97
        go_wp2_with fail
        refine wp_drawN (fun w' => Keep No w w' ∧ w'.cell? ⟨w.heap.size, 0, none⟩ = some (.int .u64 sn)) [0, 1, 2, 3, 4] [] [] (by kernel_rfl) (by kernel_rfl) (fun _ _ _ _ _ h => h) ⟨((Keep.refl _ _).alloc _).drew, (Keep.refl No _).drew.cell (hx0 _ _ _ _ _) (fun e => e)⟩ ?_
        iterate 5 (refine earlyN_cons (v := ?_) rfl rfl rfl ?_ ?_; rotate_left; focus (
          intro w' hq
          have c0' := hq.2
          go_simp
          try with_reducible rfl))
        refine earlyN_nil ?_
        refine midN_nil (tailN_nil ?_)
        go_wp2
        go_ret2
        exact ⟨rfl, ((Keep.refl _ _).alloc _).drew⟩
    · have hbd : decide (size ≤ (bl : Int)) = false := decide_eq_false hb
      rw [hbd]
      cases hd <;> cases te
      case true.true =>
        simp only [Bool.not_true, Bool.and_false, Bool.or_false, Bool.false_eq_true, if_false] at c4 ⊢
        go_enter Try.func97, Try.ntmps97
        go_wp2_with fail
        refine wp_drawN (fun w' => Keep No w w' ∧ w'.cell? ⟨w.heap.size, 0, none⟩ = some (.int .u64 sn)) [0, 1, 2, 3] [] [] (by kernel_rfl) (by kernel_rfl) (fun _ _ _ _ _ h => h) ⟨((Keep.refl _ _).alloc _).drew, (Keep.refl No _).drew.cell (hx0 _ _ _ _ _) (fun e => e)⟩ ?_
        iterate 4 (refine earlyN_cons (v := ?_) rfl rfl rfl ?_ ?_; rotate_left; focus (
          intro w' hq
          have c0' := hq.2
          go_simp
          try with_reducible rfl))
        refine earlyN_nil ?_
        refine midN_nil (tailN_nil ?_)
        go_wp2
        go_ret2
        exact ⟨rfl, ((Keep.refl _ _).alloc _).drew⟩
      all_goals
        simp only [Bool.not_true, Bool.not_false, Bool.and_true, Bool.and_false, Bool.or_true, Bool.or_false, if_true] at c4 ⊢
        go_enter Try.func97, Try.ntmps97
        go_wp2_with fail
        refine wp_drawN (fun w' => Keep No w w' ∧ w'.cell? ⟨w.heap.size, 0, none⟩ = some (.int .u64 sn)) [0, 1, 2, 3, 4] [] [] (by kernel_rfl) (by kernel_rfl) (fun _ _ _ _ _ h => h) ⟨((Keep.refl _ _).alloc _).drew, (Keep.refl No _).drew.cell (hx0 _ _ _ _ _) (fun e => e)⟩ ?_
        iterate 5 (refine earlyN_cons (v := ?_) rfl rfl rfl ?_ ?_; rotate_left; focus (
          intro w' hq
          have c0' := hq.2
          go_simp
          try with_reducible rfl))
        refine earlyN_nil ?_
        refine midN_nil (tailN_nil ?_)
        go_wp2
        go_ret2
        exact ⟨rfl, ((Keep.refl _ _).alloc _).drew⟩
end Go.Proofs.Ytpjggnfiocplmaa
