/- Ranges over a function whose body may write to all that lay there before; the numbers of a set, in a row. -/
import Derived.Test.YtfdmbomlkpkegaaGreatSeqY
import Derived.Test.YtfdmbomlkpkegaaGreatSeqs
import Derived.Test.YtfdmbomlkpkegaaGreatRunX
import Derived.Test.YtfdmbomlkpkegaaGreatLedCC
namespace Go.Proofs.YtfdmbomlkpkegaaGreat
open Go Go.RowKit Go.Shelf

/-- How a body that goes on is left: what isn't cells and was laid since the range began stands. -/
def goesOnL {α : Type} (n : Nat) (Kp : World → World → Prop) (I : List α → World → Prop) (xs : List α) (W : World) : Exit → Act → World → Prop
  | .normal, _, W' => (∀ (b : Nat) (o : Obj), n ≤ b → W.heap[b]? = some o → o.isCells = false → W'.heap[b]? = some o) ∧ Kp W W' ∧ I xs W'
  | _, _, _ => False
theorem wpIn_rangeFree {F : Fence} {n : Nat} {P : Program} {α : Type} {g : Operand} {ps : Array Tmp} {assign body : Code} {Q : Exit → Act → World → Prop} {a : Act} {w : World}
    (hro : F.round = none) (h1 : 1 ≤ n) {gf : Nat} {lb : Array Value} (hg : a.eval g = .func (.func gf) #[] lb) (hFg : F.fn gf) (eg : ∀ args w, (callFunc gf args).run P w = .ok (.enter gf args) w)
    {encs : α → Array Value} {Good : List α → α → World → Prop} {Kp : World → World → Prop} {S : List α → Prop} (hseq : SeqSays F (n - 1) P gf lb encs Good Kp S w)
    (hKt : ∀ {A B C : World}, Kp A B → Kp B C → Kp A C) (hKg : ∀ (A B : World) (row : Option Nat), w.heap.size ≤ A.heap.size → A.grownBy B row → (∀ r, row = some r → w.heap.size ≤ r ∧ ∃ o : Obj, A.heap[r]? = some o ∧ o.isCells = false) → Kp A B) (hps : ∀ x, (encs x).size = ps.size)
    (I : List α → World → Prop) (hI : OwnFrom w.heap.size I) (hG : ∀ pre x, Own (fun (_ : Unit) => Good pre x)) (h0 : I [] w) (a₁ : α → Act)
    (hassign : ∀ (l : Nat) (x : α) (W : World) (K : Act → World → Prop), K (a₁ x) W →
      assign.wpIn (F.inRound l) (n - 1 - 1) P (Exit.then K (fun _ _ _ => False)) { tmps := (ps.zip (encs x)).foldl (fun t (p, v) => t.setIfInBounds p v) a.tmps, defers := [] } W)
    (hbody : ∀ (l : Nat) (pre : List α) (x : α) (W : World), I pre W → Good pre x W → body.wpIn (F.inRound l) (n - 1 - 1) P (goesOnL w.heap.size Kp I (pre ++ [x]) W) (a₁ x) W)
    (hdone : ∀ (D : Nat) (xs : List α) (W : World), w.heap.size ≤ D → S xs → I xs W → W.heap[D]? = some (.deferred (some [])) → Q .normal { a with defers := { target := .collected D, args := #[] } :: a.defers } W) :
    (Code.rangeFunc g ps assign body).wpIn F n P Q a w := by
  refine wpIn_rangeFunc (fun fn hfn => ?_)
  rw [hro]
  let D := w.heap.size
  let l := w.heap.size + 1
  let rec0 : LoopState → Loop := fun st => { state := st, pending := none, fn, tmps := a.tmps, params := ps, assign, body, defers := D }
  let Wd := w.alloc (.deferred (some []))
  let Wl := Wd.alloc (.loop (rec0 .ready))
  have sd : Wd.heap.size = l := World.size_alloc _ _
  have gd : w.grownBy Wd none := World.grownBy_alloc _ _ _
  have gl : Wd.grownBy Wl none := World.grownBy_alloc _ _ _
  have atL : Wl.heap[l]? = some (.loop (rec0 .ready)) := by
    have h := World.alloc_heap_new Wd (.loop (rec0 .ready))
    rw [sd] at h
    exact h
  have atD : Wl.heap[D]? = some (.deferred (some [])) := (Below.heap_alloc Wd _ D (by rw [sd]; exact Nat.lt_succ_self _)).trans (World.alloc_heap_new w _)
  have k1 : Kp w Wl := hKt (hKg _ _ none (Nat.le_refl _) gd (fun r e => by cases e)) (hKg _ _ none gd.size gl (fun r e => by cases e))
  have i1 : I [] Wl := hI [] Wd Wl none (hI [] w Wd none h0 gd (fun r e => by cases e)) gl (fun r e => by cases e)
  have ent := run_enterLoop_outer (P := P) (w := w) fn a.tmps ps assign body
  refine ⟨l, [{ target := .collected D, args := #[] }], Wl, { target := .fn (.func gf) lb, args := #[.func (.yield l) #[] #[]] }, Wl, gf, #[.func (.yield l) #[] #[]] ++ lb, Wl, ent, ?_, ?_, ?_, fun _ => h1, ?_⟩
  · simp only [resolve, hg]
    simp [go_sem]
  · intro f' hf'
    simp [Target.leads] at hf'
    subst hf'
    exact hFg
  · simp [invoke, go_sem, eg]
  · refine (hseq l (fun pre W => I pre W ∧ W.heap[l]? = some (.loop (rec0 .ready)) ∧ W.heap[D]? = some (.deferred (some []))) Wl k1 ?_ ?_ ⟨i1, atL, atD⟩).mono ?_
    · intro s A B row hs hg' hr
      have hw := fun r e => (hr r e).2
      refine ⟨hI s A B row hs.1 hg' (fun r e => ?_), (grownBy_keeps hg' hw hs.2.1 rfl).trans hs.2.1, (grownBy_keeps hg' hw hs.2.2 rfl).trans hs.2.2⟩
      obtain ⟨h1, o, ho, hw⟩ := hr r e
      have h2 : w.heap.size ≤ Wl.heap.size := by simp [Wl, Wd]; omega
      exact ⟨Nat.le_trans h2 h1, o, ho, Obj.not_cells_of_walk hw⟩
    · rintro pre x W ⟨hi, hl, hd⟩ hgood
      have hlt : l < W.heap.size := heap_lt hl
      have hy := run_yield (P := P) (args := encs x) hl (hps x)
      refine ⟨fn, _, assign, body, hy, roundIn_of_wpIn hfn (hassign _ x W _ ⟨_, run_beginRound hl rfl, ?_⟩)⟩
      let Wb := W.putObj l (.loop (rec0 .busy))
      have hlb : Wb.heap[l]? = some (.loop (rec0 .busy)) := World.putObj_heap_same hlt
      have hdb : Wb.heap[D]? = some (.deferred (some [])) := (World.putObj_heap_other (Nat.ne_of_lt (Nat.lt_succ_self _))).trans hd
      have kb : Kp W Wb := hKg _ _ (some l) (Nat.le_trans (Nat.le_succ _) (Nat.le_of_lt hlt)) (grownBy_putObj' W l _) (fun r e => by cases e; exact ⟨Nat.le_succ _, _, hl, rfl⟩)
      have ib : I pre Wb := hI.putObj _ hi (Nat.le_succ _) hl rfl
      have gb : Good pre x Wb := (hG pre x).putObj (s := ()) _ hgood hl rfl
      refine wpIn_mono (hbody l pre x Wb ib gb) (fun e a3 W3 hp => ?_)
      cases e with
      | normal =>
        obtain ⟨ho, hk, hi3⟩ := hp
        have hl3 := ho _ _ (Nat.le_succ _) hlb rfl
        refine ⟨_, _, run_endRound (P := P) none hl3, rfl, ⟨hI.putObj _ hi3 (Nat.le_succ _) hl3 rfl, World.putObj_heap_same (heap_lt hl3), (World.putObj_heap_other (Nat.ne_of_lt (Nat.lt_succ_self _))).trans (ho _ _ (Nat.le_refl _) hdb rfl)⟩, ?_⟩
        exact hKt (hKt kb hk) (hKg _ _ (some l) (Nat.le_trans (Nat.le_succ _) (Nat.le_of_lt (heap_lt hl3))) (grownBy_putObj' W3 l _) (fun r e => by cases e; exact ⟨Nat.le_succ _, _, hl3, rfl⟩))
      | _ => exact hp.elim
    · rintro e W2 ⟨⟨v, rfl⟩, xs, hS, hi, hl, hd⟩
      exact ⟨none, _, run_endLoop (P := P) hl (by simp [rec0]), hdone D xs _ (Nat.le_refl _) hS (hI.putObj _ hi (Nat.le_succ _) hl rfl) ((World.putObj_heap_other (Nat.ne_of_lt (Nat.lt_succ_self _))).trans hd)⟩

/-! ### The numbers of a set -/
/-- Blocks of runs, and of sets, stand. -/
structure RunsKeep (A B : World) : Prop where
  size : A.heap.size ≤ B.heap.size
  same : ∀ (b : Nat) (cs : Array Value) (t : TypeId) (fr : Nat × Nat), t = 96 ∨ t = 90 → A.heap[b]? = some (.cells cs t fr) → B.heap[b]? = some (.cells cs t fr)
theorem RunsKeep.refl (A : World) : RunsKeep A A := ⟨Nat.le_refl _, fun _ _ _ _ _ h => h⟩
theorem RunsKeep.trans {A B C : World} (h : RunsKeep A B) (k : RunsKeep B C) : RunsKeep A C := ⟨Nat.le_trans h.size k.size, fun b cs t fr ht hb => k.same b cs t fr ht (h.same b cs t fr ht hb)⟩
theorem RunsKeep.grown {A B : World} {row : Option Nat} (h : A.grownBy B row) (hr : ∀ r, row = some r → ∃ o : Obj, A.heap[r]? = some o ∧ o.isCells = false) : RunsKeep A B :=
  ⟨h.size, fun b cs t fr _ hb => (h.block b (heap_lt hb) (fun e => by
    obtain ⟨o, ho, hc⟩ := hr b e.symm
    rw [hb] at ho
    cases ho
    cases hc)).trans hb⟩
theorem RunsKeep.cell {A B : World} (h : RunsKeep A B) {b i : Nat} {v : Value} {cs : Array Value} {t : TypeId} {fr : Nat × Nat} (ht : t = 96 ∨ t = 90) (hb : A.heap[b]? = some (.cells cs t fr)) (hc : A.cell? ⟨b, i, none⟩ = some v) : B.cell? ⟨b, i, none⟩ = some v := by
  have := h.same b cs t fr ht hb
  rw [World.cell?] at hc ⊢
  rw [hb] at hc
  rw [this]
  exact hc
theorem RunsKeep.of {A B : World} {F : Nat → Prop} (k : Keep F A B) (hF : ∀ (b : Nat) (cs : Array Value) (t : TypeId) (fr : Nat × Nat), t = 96 ∨ t = 90 → A.heap[b]? = some (.cells cs t fr) → ¬ F b) : RunsKeep A B := ⟨k.size, fun b cs t fr ht hb => k.heap hb (hF b cs t fr ht hb)⟩
attribute [local go_sem] Oper.semAt_some
theorem keep_ofGrown {w w' : World} {row : Option Nat} (h : w.grownBy w' row) : Keep (fun b => row = some b) w w' := ⟨h.os, h.tape, h.output, h.size, fun b hb hn => h.block b hb (fun e => hn e.symm)⟩
/-- What the loop of AppendSeq keeps. -/
def ColI (w : World) (pre : List Nat) (W : World) : Prop :=
  ∃ vo vc, W.heap[w.heap.size]? = some (.cells #[.slice vo pre.length vc] 52 (0, 0)) ∧ W.ownsRow w.heap.size 27 1 (.slice vo pre.length vc) pre.length (pre.map u64v) ∧ Keep No w W
theorem ColI.own (w : World) (n : Nat) (hn : w.heap.size ≤ n) : OwnFrom n (ColI w) := by
  rintro pre A B row ⟨vo, vc, h1, h2, h3⟩ hg hr
  have k := keep_ofGrown hg
  refine ⟨vo, vc, k.heap h1 (fun e => ?_), row_keep h2 k (fun b hb e => ?_), h3.trans k (fun b hb e => ?_)⟩
  · obtain ⟨_, o, ho, hc⟩ := hr _ e
    rw [h1] at ho; cases ho; cases hc
  · obtain ⟨_, o, ho, hc⟩ := hr _ e
    obtain ⟨_, cur, hz⟩ := row_kind h2 b hb
    rw [hz] at ho; cases ho; cases hc
  · have := (hr _ e).1; omega
end Go.Proofs.YtfdmbomlkpkegaaGreat
