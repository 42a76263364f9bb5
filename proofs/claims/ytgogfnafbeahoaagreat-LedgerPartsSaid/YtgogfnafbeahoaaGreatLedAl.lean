/- Ranges over a function whose body may write to all that lay there before; the numbers of a set, in a row. -/
import Derived.Test.YtgogfnafbeahoaaGreatSeqY
import Derived.Test.YtgogfnafbeahoaaGreatSeqs
import Derived.Test.YtgogfnafbeahoaaGreatRunX
import Derived.Test.YtgogfnafbeahoaaGreatLedCC
namespace Go.Proofs.YtgogfnafbeahoaaGreat
open Go Go.RowKit Go.Shelf

/-! ### The numbers of a set -/
/-- Blocks of runs, and of sets, stand. -/
structure RunsKeep (A B : World) : Prop where
  size : A.heap.size ≤ B.heap.size
  same : ∀ (b : Nat) (cs : Array Value) (t : TypeId) (fr : Nat × Nat), t = 114 ∨ t = 34 → A.heap[b]? = some (.cells cs t fr) → B.heap[b]? = some (.cells cs t fr)
theorem RunsKeep.refl (A : World) : RunsKeep A A := ⟨Nat.le_refl _, fun _ _ _ _ _ h => h⟩
theorem RunsKeep.trans {A B C : World} (h : RunsKeep A B) (k : RunsKeep B C) : RunsKeep A C := ⟨Nat.le_trans h.size k.size, fun b cs t fr ht hb => k.same b cs t fr ht (h.same b cs t fr ht hb)⟩
theorem RunsKeep.grown {A B : World} {row : Option Nat} (h : A.grownBy B row) (hr : ∀ r, row = some r → ∃ o : Obj, A.heap[r]? = some o ∧ o.isCells = false) : RunsKeep A B :=
  ⟨h.size, fun b cs t fr _ hb => (h.block b (heap_lt hb) (fun e => by
    obtain ⟨o, ho, hc⟩ := hr b e.symm
    rw [hb] at ho
    cases ho
    cases hc)).trans hb⟩
theorem RunsKeep.cell {A B : World} (h : RunsKeep A B) {b i : Nat} {v : Value} {cs : Array Value} {t : TypeId} {fr : Nat × Nat} (ht : t = 114 ∨ t = 34) (hb : A.heap[b]? = some (.cells cs t fr)) (hc : A.cell? ⟨b, i, none⟩ = some v) : B.cell? ⟨b, i, none⟩ = some v := by
  have := h.same b cs t fr ht hb
  rw [World.cell?] at hc ⊢
  rw [hb] at hc
  rw [this]
  exact hc
theorem RunsKeep.of {A B : World} {F : Nat → Prop} (k : Keep F A B) (hF : ∀ (b : Nat) (cs : Array Value) (t : TypeId) (fr : Nat × Nat), t = 114 ∨ t = 34 → A.heap[b]? = some (.cells cs t fr) → ¬ F b) : RunsKeep A B := ⟨k.size, fun b cs t fr ht hb => k.heap hb (hF b cs t fr ht hb)⟩
attribute [local go_sem] Oper.semAt_some
theorem keep_ofGrown {w w' : World} {row : Option Nat} (h : w.grownBy w' row) : Keep (fun b => row = some b) w w' := ⟨h.os, h.tape, h.output, h.size, fun b hb hn => h.block b hb (fun e => hn e.symm)⟩
/-- What the loop of AppendSeq keeps. -/
def ColI (w : World) (pre : List Nat) (W : World) : Prop :=
  ∃ vo vc, W.heap[w.heap.size]? = some (.cells #[.slice vo pre.length vc] 45 (0, 0)) ∧ W.ownsRow w.heap.size 27 1 (.slice vo pre.length vc) pre.length (pre.map u64v) ∧ Keep No w W
theorem ColI.own (w : World) (n : Nat) (hn : w.heap.size ≤ n) : OwnFrom n (ColI w) := by
  rintro pre A B row ⟨vo, vc, h1, h2, h3⟩ hg hr
  have k := keep_ofGrown hg
  refine ⟨vo, vc, k.heap h1 (fun e => ?_), row_keep h2 k (fun b hb e => ?_), h3.trans k (fun b hb e => ?_)⟩
  · obtain ⟨_, o, ho, hc⟩ := hr _ e
    rw [h1] at ho; cases ho; cases hc
  · obtain ⟨_, o, ho, hc⟩ := hr _ e
    obtain ⟨_, cur, hz⟩ := row_kind h2 b hb
    rw [hz] at ho; cases ho; cases hc
  · have := (hr _ e).1; omega
end Go.Proofs.YtgogfnafbeahoaaGreat
