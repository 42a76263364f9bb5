/- slices.AppendSeq, Collect, Sort, Sorted at the keys of a map; disk.Segs. -/
import Derived.Test.YtpjggnfiocplmaaSeqB
import Derived.Test.YtpjggnfiocplmaaSortK
import Derived.RangeFuncBox
import Derived.Maps.AppendAt
namespace Go.Proofs.Ytpjggnfiocplmaa
open Go Go.RowKit Go.Shelf Go.Sort
attribute [local go_sem] Oper.semAt_some

theorem info_u64 : (Try.prog.info? 26).map (fun i => (i.zero, i.size, i.bytes)) = some (some (.int .u64 0), 1, 8) := by kernel_rfl
theorem KeepsOthers.walks {W W' : World} (h : KeepsOthers W W') : KeepsWalks W W' :=
  ⟨h.size, fun k o hk ho => h.same k o hk (by cases o <;> simp_all [Obj.isWalk, Obj.isCells])⟩

set_option maxRecDepth 100000 in
set_option maxHeartbeats 4000000 in
theorem appseq_spec (n : Nat) (hn : 3 ≤ n) {w : World} {Bm r : Nat} {es : Array MapEntry} {clock : Nat} {ks : List Int} (hb : w.heap[r]? = some (.map es clock)) (he : KeyEnts es.toList clock ks) (hBl : Bm < w.heap.size) (hm : w.cell? ⟨Bm, 0, none⟩ = some (.map (some r)))
    (hlen : ks.length ≤ 1099511627776) :
    Go.CallsIn Fence.wide n Try.prog 101 #[.slice none 0 0, .func (.func 93) #[] #[.pointer (some ⟨Bm, 0, none⟩)]] w fun e W' => ∃ v, ∃ ss : List Int, e = .returned v ∧ ss.Perm ks ∧
      W'.ownsRow w.heap.size 26 1 v ss.length (ss.map (.int .u64 ·)) ∧ (v = .slice none 0 0 ↔ ss = []) ∧ Below w.heap.size w W' := by
  have h1 : 1 ≤ n := by omega
  obtain ⟨i0, hi, hz0, hz1, hz2⟩ := info_parts info_u64
  have bO := Boxed.new w 58 (.slice none 0 0)
  have hB0 : Below w.heap.size w (w.alloc (.cells #[.slice none 0 0] 58)) := (Below.refl _ w).alloc (Nat.le_refl _) _
  have hseq := keysIt_stops (n - 1) (by omega) hb he hBl hm
  have hml : (ks.length : Nat) ≤ maxLen := by unfold maxLen; omega
  have hby : ks.length * 8 ≤ 140737488355328 := by omega
  refine callsIn_of_wp_marks Try.func101 rfl trivial ?_ rfl
  simp only [Try.ntmps101, List.size_toArray, List.length_cons, List.length_nil, Nat.reduceAdd, Nat.reduceSub, Array.replicate_succ, Array.replicate_zero, List.push_toArray, List.append_toArray, List.nil_append, List.cons_append]
  gi_wp2
  refine wpIn_rangeFunc_ownF rfl h1 (gf := 93) (lb := #[.pointer (some ⟨Bm, 0, none⟩)]) rfl trivial (enters_of Try.func93 (by kernel_rfl) rfl)
    hseq walksK_t walksK_b hB0 (fun _ => rfl)
    (fun pre W => (∃ v, Boxed W w.heap.size 58 v ∧ W.ownsRow w.heap.size 26 1 v pre.length (pre.map (Value.int .u64 ·)) ∧ (v = .slice none 0 0 ↔ pre = [])) ∧ Below w.heap.size w W)
    (fun _ _ _ => False)
    (OwnFrom.and (Own.from (holdsRow_own w.heap.size w.heap.size 58 26 1 (fun pre : List Int => pre.length) (fun pre => pre.map (Value.int .u64 ·)) (fun pre v => v = .slice none 0 0 ↔ pre = [])) _) (ownFrom_below (Nat.le_refl _) (by simp)))
    (fun _ _ _ _ _ hs _ _ => hs)
    ⟨⟨_, bO, World.ownsRow_nil _ _ _ _, by simp⟩, hB0⟩
    (fun x => { tmps := #[.slice none 0 0, .func (.func 93) #[] #[.pointer (some ⟨Bm, 0, none⟩)], .pointer (some ⟨w.heap.size, 0, none⟩), undef, .slice none 0 0, .int .u64 x, .func (.func 93) #[] #[.pointer (some ⟨Bm, 0, none⟩)], .int .u64 x, undef, undef, undef, undef, undef], defers := [] }) ?assign ?body ?done ?stop
  case assign =>
    intro l x W K hK
    gi_wp2
    exact hK
  case body =>
    rintro l pre x W ⟨⟨v, hv, hrow, hnil⟩, hB⟩ hlt
    have hc := hv.cell
    gi_wp2_with (gi_at_builtin; refine wpListIn_append_own _ rfl _ _ 58 rfl w.heap.size 26 i0 (.int .u64 0) 1 8 Try.underlying58 hi hz0 hz1 hz2 rfl (by decide) _ _ _ rfl (hrow.alloc _) ⟨W.heap.size, 0, none⟩ 1 1 [.int .u64 x] rfl rfl (cell_one_new _ _ _) (by simp [Value.oneCell']) (by omega) (by omega) (by have := hB.size; simp; omega) ?_; intro v' w1 hown' hgrow _; obtain ⟨g', cap', rfl⟩ := ownsRow_succ hown'; obtain ⟨hv1, hv2, hr2, hk2, hb2⟩ := hv.appended (by decide) hrow hB.size (Nat.le_refl _) hown' hgrow; have hc1 := hv1.cell; have hf1 := hv1.frozen)
    exact ⟨hk2, KeepsOthers.walks hk2, ⟨_, hv2, by simpa using hr2, by simp⟩, hB.trans hb2⟩
  case done =>
    rintro D ys W hD hperm ⟨⟨v, hv, hrow, hnil⟩, hB⟩ hK
    have hc := hv.cell
    gi_wp2
    refine ⟨by simp, .inl ⟨_, _, rfl, run_takeDeferred hK, ?_⟩⟩
    exact ⟨_, results_tmp rfl _ _ _, v, ys, rfl, hperm, ownsRow_putObj hrow _ hK rfl, hnil, hB.trans (belowK_b (w := w) (Nat.le_refl _) W D _ _ (by simp at hD; omega) hK rfl rfl)⟩
  case stop =>
    rintro D c pre W _ _ h _
    exact h.elim
end Go.Proofs.Ytpjggnfiocplmaa
