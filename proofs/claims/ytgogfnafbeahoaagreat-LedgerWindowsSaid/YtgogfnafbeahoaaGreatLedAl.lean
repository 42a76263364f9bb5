/- Ranges over a function whose body may write to all that lay there before; the numbers of a set, in a row. -/
import Derived.Test.YtgogfnafbeahoaaGreatSeqY
import Derived.Test.YtgogfnafbeahoaaGreatSeqs
import Derived.Test.YtgogfnafbeahoaaGreatRunX
import Derived.Test.YtgogfnafbeahoaaGreatLedCC
namespace Go.Proofs.YtgogfnafbeahoaaGreat
open Go Go.RowKit Go.Shelf

/-- How a body that goes on is left: what isn't cells and was laid since the range began stands. -/
def goesOnL {α : Type} (n : Nat) (Kp : World → World → Prop) (I : List α → World → Prop) (xs : List α) (W : World) : Exit → Act → World → Prop
  | .normal, _, W' => (∀ (b : Nat) (o : Obj), n ≤ b → W.heap[b]? = some o → o.isCells = false → W'.heap[b]? = some o) ∧ Kp W W' ∧ I xs W'
  | _, _, _ => False
theorem wpIn_rangeFree {F : Fence} {n : Nat} {P : Program} {α : Type} {g : Operand} {ps : Array Tmp} {assign body : Code} {Q : Exit → Act → World → Prop} {a : Act} {w : World}
    (hro : F.round = none) (h1 : 1 ≤ n) {gf : Nat} {lb : Array Value} (hg : a.eval g = .func (.func gf) #[] lb) (hFg : F.fn gf) (eg : ∀ args w, (callFunc gf args).run P w = .ok (.enter gf args) w)
    {encs : α → Array Value} {Good : List α → α → World → Prop} {Kp : World → World → Prop} {S : List α → Prop} (hseq : SeqSays F (n - 1) P gf lb encs Good Kp S w)
    (hKt : ∀ {A B C : World}, Kp A B → Kp B C → Kp A C) (hKg : ∀ (A B : World) (row : Option Nat), w.heap.size ≤ A.heap.size → A.grownBy B row → (∀ r, row = some r → w.heap.size ≤ r ∧ ∃ o : Obj, A.heap[r]? = some o ∧ o.isCells = false) → Kp A B) (hps : ∀ x, (encs x).size = ps.size)
    (I : List α → World → Prop) (hI : OwnFrom w.heap.size I) (hG : ∀ pre x, Own (fun (_ : Unit) => Good pre x)) (h0 : I [] w) (a₁ : α → Act)
    (hassign : ∀ (l : Nat) (x : α) (W : World) (K : Act → World → Prop), K (a₁ x) W →
      assign.wpIn (F.inRound l) (n - 1 - 1) P (Exit.then K (fun _ _ _ => False)) { tmps := (ps.zip (encs x)).foldl (fun t (p, v) => t.setIfInBounds p v) a.tmps, defers := [] } W)
    (hbody : ∀ (l : Nat) (pre : List α) (x : α) (W : World), I pre W → Good pre x W → body.wpIn (F.inRound l) (n - 1 - 1) P (goesOnL w.heap.size Kp I (pre ++ [x]) W) (a₁ x) W)
    (hdone : ∀ (D : Nat) (xs : List α) (W : World), w.heap.size ≤ D → S xs → I xs W → W.heap[D]? = some (.deferred (some [])) → Q .normal { a with defers := { target := .collected D, args := #[] } :: a.defers } W) :
    (Code.rangeFunc g ps assign body).wpIn F n P Q a w := by
  refine wpIn_rangeFunc (fun fn hfn => ?_)
  rw [hro]
  let D := w.heap.size
  let l := w.heap.size + 1
  let rec0 : LoopState → Loop := fun st => { state := st, pending := none, fn, tmps := a.tmps, params := ps, assign, body, defers := D }
  let Wd := w.alloc (.deferred (some []))
  let Wl := Wd.alloc (.loop (rec0 .ready))
  have sd : Wd.heap.size = l := World.size_alloc _ _
  have gd : w.grownBy Wd none := World.grownBy_alloc _ _ _
  have gl : Wd.grownBy Wl none := World.grownBy_alloc _ _ _
  have atL : Wl.heap[l]? = some (.loop (rec0 .ready)) := by
    have h := World.alloc_heap_new Wd (.loop (rec0 .ready))
    rw [sd] at h
    exact h
  have atD : Wl.heap[D]? = some (.deferred (some [])) := (Below.heap_alloc Wd _ D (by rw [sd]; exact Nat.lt_succ_self _)).trans (World.alloc_heap_new w _)
  have k1 : Kp w Wl := hKt (hKg _ _ none (Nat.le_refl _) gd (fun r e => by cases e)) (hKg _ _ none gd.size gl (fun r e => by cases e))
  have i1 : I [] Wl := hI [] Wd Wl none (hI [] w Wd none h0 gd (fun r e => by cases e)) gl (fun r e => by cases e)
  have ent := run_enterLoop_outer (P := P) (w := w) fn a.tmps ps assign body
  refine ⟨l, [{ target := .collected D, args := #[] }], Wl, { target := .fn (.func gf) lb, args := #[.func (.yield l) #[] #[]] }, Wl, gf, #[.func (.yield l) #[] #[]] ++ lb, Wl, ent, ?_, ?_, ?_, fun _ => h1, ?_⟩
  · simp only [resolve, hg]
    simp [go_sem]
  · intro f' hf'
    simp [Target.leads] at hf'
    subst hf'
    exact hFg
  · simp [invoke, go_sem, eg]
  · refine (hseq l (fun pre W => I pre W ∧ W.heap[l]? = some (.loop (rec0 .ready)) ∧ W.heap[D]? = some (.deferred (some []))) Wl k1 ?_ ?_ ⟨i1, atL, atD⟩).mono ?_
    · intro s A B row hs hg' hr
      have hw := fun r e => (hr r e).2
      refine ⟨hI s A B row hs.1 hg' (fun r e => ?_), (grownBy_keeps hg' hw hs.2.1 rfl).trans hs.2.1, (grownBy_keeps hg' hw hs.2.2 rfl).trans hs.2.2⟩
      obtain ⟨h1, o, ho, hw⟩ := hr r e
      have h2 : w.heap.size ≤ Wl.heap.size := by simp [Wl, Wd]; omega
      exact ⟨Nat.le_trans h2 h1, o, ho, Obj.not_cells_of_walk hw⟩
    · rintro pre x W ⟨hi, hl, hd⟩ hgood
      have hlt : l < W.heap.size := heap_lt hl
      have hy := run_yield (P := P) (args := encs x) hl (hps x)
      refine ⟨fn, _, assign, body, hy, roundIn_of_wpIn hfn (hassign _ x W _ ⟨_, run_beginRound hl rfl, ?_⟩)⟩
      let Wb := W.putObj l (.loop (rec0 .busy))
      have hlb : Wb.heap[l]? = some (.loop (rec0 .busy)) := World.putObj_heap_same hlt
      have hdb : Wb.heap[D]? = some (.deferred (some [])) := (World.putObj_heap_other (Nat.ne_of_lt (Nat.lt_succ_self _))).trans hd
      have kb : Kp W Wb := hKg _ _ (some l) (Nat.le_trans (Nat.le_succ _) (Nat.le_of_lt hlt)) (grownBy_putObj' W l _) (fun r e => by cases e; exact ⟨Nat.le_succ _, _, hl, rfl⟩)
      have ib : I pre Wb := hI.putObj _ hi (Nat.le_succ _) hl rfl
      have gb : Good pre x Wb := (hG pre x).putObj (s := ()) _ hgood hl rfl
      refine wpIn_mono (hbody l pre x Wb ib gb) (fun e a3 W3 hp => ?_)
      cases e with
      | normal =>
        obtain ⟨ho, hk, hi3⟩ := hp
        have hl3 := ho _ _ (Nat.le_succ _) hlb rfl
        refine ⟨_, _, run_endRound (P := P) none hl3, rfl, ⟨hI.putObj _ hi3 (Nat.le_succ _) hl3 rfl, World.putObj_heap_same (heap_lt hl3), (World.putObj_heap_other (Nat.ne_of_lt (Nat.lt_succ_self _))).trans (ho _ _ (Nat.le_refl _) hdb rfl)⟩, ?_⟩
        exact hKt (hKt kb hk) (hKg _ _ (some l) (Nat.le_trans (Nat.le_succ _) (Nat.le_of_lt (heap_lt hl3))) (grownBy_putObj' W3 l _) (fun r e => by cases e; exact ⟨Nat.le_succ _, _, hl3, rfl⟩))
      | _ => exact hp.elim
    · rintro e W2 ⟨⟨v, rfl⟩, xs, hS, hi, hl, hd⟩
      exact ⟨none, _, run_endLoop (P := P) hl (by simp [rec0]), hdone D xs _ (Nat.le_refl _) hS (hI.putObj _ hi (Nat.le_succ _) hl rfl) ((World.putObj_heap_other (Nat.ne_of_lt (Nat.lt_succ_self _))).trans hd)⟩

/-! ### The numbers of a set -/
def allR (l : List RunN) : List Nat := l.flatMap (fun r => List.range' r.1 (r.2 + 1 - r.1))
theorem allR_mem {l : List RunN} {n : Nat} : n ∈ allR l ↔ HasR l n := by
  unfold allR HasR
  simp only [List.mem_flatMap, List.mem_range'_1]
  constructor
  · rintro ⟨r, hr, h1, h2⟩
    exact ⟨r, hr, h1, by omega⟩
  · rintro ⟨r, hr, h1, h2⟩
    exact ⟨r, hr, h1, by omega⟩
theorem allR_len : ∀ {l : List RunN}, RSet l → (allR l).length = sizeR l
  | [], _ => rfl
  | r :: l, h => by
    have h1 := (h.run r (by simp)).1
    have ih := allR_len h.tail
    unfold allR at ih ⊢
    rw [List.flatMap_cons, List.length_append, ih, List.length_range']
    show r.2 + 1 - r.1 + sizeR l = r.2 - r.1 + 1 + sizeR l
    omega
theorem allR_snoc {l : List RunN} {i : Nat} {r : RunN} (h : l[i]? = some r) : allR (l.take (i + 1)) = allR (l.take i) ++ List.range' r.1 (r.2 + 1 - r.1) := by
  obtain ⟨hi, rfl⟩ := List.getElem?_eq_some_iff.1 h
  unfold allR
  rw [List.take_succ_eq_append_getElem hi, List.flatMap_append]
  simp
theorem allR_take_pre (l : List RunN) (i : Nat) : allR (l.take i) <+: allR l := by
  refine ⟨allR (l.drop i), ?_⟩
  unfold allR
  rw [← List.flatMap_append, List.take_append_drop]
/-- Blocks of runs, and of sets, stand. -/
structure RunsKeep (A B : World) : Prop where
  size : A.heap.size ≤ B.heap.size
  same : ∀ (b : Nat) (cs : Array Value) (t : TypeId) (fr : Nat × Nat), t = 114 ∨ t = 34 → A.heap[b]? = some (.cells cs t fr) → B.heap[b]? = some (.cells cs t fr)
theorem RunsKeep.refl (A : World) : RunsKeep A A := ⟨Nat.le_refl _, fun _ _ _ _ _ h => h⟩
theorem RunsKeep.trans {A B C : World} (h : RunsKeep A B) (k : RunsKeep B C) : RunsKeep A C := ⟨Nat.le_trans h.size k.size, fun b cs t fr ht hb => k.same b cs t fr ht (h.same b cs t fr ht hb)⟩
theorem RunsKeep.grown {A B : World} {row : Option Nat} (h : A.grownBy B row) (hr : ∀ r, row = some r → ∃ o : Obj, A.heap[r]? = some o ∧ o.isCells = false) : RunsKeep A B :=
  ⟨h.size, fun b cs t fr _ hb => (h.block b (heap_lt hb) (fun e => by
    obtain ⟨o, ho, hc⟩ := hr b e.symm
    rw [hb] at ho
    cases ho
    cases hc)).trans hb⟩
theorem RunsKeep.cell {A B : World} (h : RunsKeep A B) {b i : Nat} {v : Value} {cs : Array Value} {t : TypeId} {fr : Nat × Nat} (ht : t = 114 ∨ t = 34) (hb : A.heap[b]? = some (.cells cs t fr)) (hc : A.cell? ⟨b, i, none⟩ = some v) : B.cell? ⟨b, i, none⟩ = some v := by
  have := h.same b cs t fr ht hb
  rw [World.cell?] at hc ⊢
  rw [hb] at hc
  rw [this]
  exact hc
theorem RunsKeep.of {A B : World} {F : Nat → Prop} (k : Keep F A B) (hF : ∀ (b : Nat) (cs : Array Value) (t : TypeId) (fr : Nat × Nat), t = 114 ∨ t = 34 → A.heap[b]? = some (.cells cs t fr) → ¬ F b) : RunsKeep A B := ⟨k.size, fun b cs t fr ht hb => k.heap hb (hF b cs t fr ht hb)⟩
/-- What the iterator says of a number that it hands. -/
def NumOk (l : List RunN) (pre : List Nat) (x : Nat) (_ : World) : Prop := (pre ++ [x]) <+: allR l
def numArgs (x : Nat) : Array Value := #[.int .u64 (x : Int)]
attribute [local go_sem] Oper.semAt_some
theorem rAll_call (w : World) (v : Value) : Calls Tryz.prog 24 #[.agg #[v]] w fun e w' => e = .returned (.func (.func 55) #[] #[.pointer (some ⟨w.heap.size, 0, none⟩)]) ∧ w' = w.alloc (.cells #[v] 34) := by
  go_enter Tryz.func24, Tryz.ntmps24
  go_wp2
  go_ret
  exact ⟨rfl, rfl⟩
set_option maxRecDepth 100000 in
set_option maxHeartbeats 4000000 in
theorem rAll_says (n : Nat) (hn : 1 ≤ n) {w : World} {v : Value} {l : List RunN} {B : Nat} (hv : RunsAt w v l) (hs : RSet l) (hl : l.length ≤ 1099511627776) (hbx : w.heap[B]? = some (.cells #[v] 34 (0, 0))) :
    SeqSays Fence.wide n Tryz.prog 55 #[.pointer (some ⟨B, 0, none⟩)] numArgs (NumOk l) RunsKeep (fun xs => xs = allR l) w := by
  intro lo J W hW hJ hY h0
  obtain ⟨ao, cap, rfl, hc1, hc2⟩ := hv.form
  have hB := hW.same _ _ _ _ (.inr rfl) hbx
  have cB := cell_of hB 0
  simp at cB
  have hli : (l.length : Int) ≤ 1099511627776 := by omega
  have hrow : l ≠ [] → ∃ g o, ao = some ⟨g, o, none⟩ ∧ ∀ (i : Nat) r, l[i]? = some r → ∀ W', RunsKeep w W' → W'.cell? ⟨g, o + i * 2, none⟩ = some (.int .u64 r.1) ∧ W'.cell? ⟨g, o + i * 2 + 1, none⟩ = some (.int .u64 r.2) := by
    intro hne
    obtain ⟨ao', cap', h1, h2, h3, h4, h5⟩ := hv
    simp only [Value.slice.injEq] at h1
    obtain ⟨rfl, _, rfl⟩ := h1
    have hp := List.length_pos_iff.2 hne
    obtain ⟨g, o, e, ⟨cs, fr, hb⟩, hr⟩ := h5 (by omega)
    exact ⟨g, o, e, fun i r hi W' k => ⟨k.cell (.inl rfl) hb (hr i r hi).1, k.cell (.inl rfl) hb (hr i r hi).2⟩⟩
  have HP := Lib.hid (And.intro hJ (And.intro hY (And.intro hrow (And.intro hW (And.intro h0 hs)))))
  clear hJ hY hrow hW h0 hs hv hl hbx hB hc1 hc2
  refine callsIn_of_wp Tryz.func55 rfl trivial ?_ rfl
  simp only [Tryz.ntmps55, List.size_toArray, List.length_cons, List.length_nil, Nat.reduceAdd, Nat.reduceSub, Array.replicate_succ, Array.replicate_zero, List.push_toArray, List.append_toArray, List.nil_append, List.cons_append]
  gi_wp2
  gi_loopw [9] (fun v9 wr => ∃ i, v9 = .int .i64 (i : Nat) ∧ i ≤ l.length ∧ J (allR (l.take i)) wr ∧ RunsKeep W wr) (fun v9 _ => l.length - (intOf v9).toNat)
  case atStart => exact ⟨0, rfl, Nat.zero_le _, HP.out.2.2.2.2.1, RunsKeep.refl _⟩
  case round =>
    obtain ⟨i, rfl, hi, hJi, kr⟩ := hrel
    by_cases hlt : i < l.length
    · have hx : l[i]? = some l[i] := List.getElem?_eq_getElem hlt
      have hsn := allR_snoc hx
      have hpre := allR_take_pre l (i + 1)
      have hrun := HP.out.2.2.2.2.2.run l[i] (List.getElem_mem hlt)
      generalize l[i] = r at hx hsn hrun
      obtain ⟨g, o, hgo, hcell⟩ := HP.out.2.2.1 (fun e => by subst e; simp at hx)
      subst hgo
      obtain ⟨e0, e1⟩ := hcell i r hx wr (HP.out.2.2.2.1.trans kr)
      have hii : (i : Int) < (l.length : Int) := by omega
      have hin : IntKind.i64.wrap ((i : Int) + 1) = ((i + 1 : Nat) : Int) := by rw [IntKind.wrap_i64]; omega
      have kA := (Keep.refl No wr).alloc (.cells #[.int .u64 r.1, .int .u64 r.2] 114)
      have hA := heap_new wr (.cells #[.int .u64 r.1, .int .u64 r.2] 114)
      have hJA := HP.out.1 _ wr _ none hJi kA.grownBy (fun r e => by cases e)
      have kRA : RunsKeep wr (wr.alloc (.cells #[.int .u64 r.1, .int .u64 r.2] 114)) := RunsKeep.of kA (fun _ _ _ _ _ _ e => e)
      obtain ⟨WA, hWA⟩ : ∃ WA, WA = wr.alloc (.cells #[.int .u64 r.1, .int .u64 r.2] 114) := ⟨_, rfl⟩
      rw [← hWA] at hA hJA kRA
      have hWH := Lib.hid hWA
      clear hWA
      have HR := Lib.hid (And.intro hsn (And.intro hpre (And.intro hrun (And.intro hA (And.intro hJA (And.intro kr (And.intro kRA hlt)))))))
      clear hsn hpre hrun hA hJA kr kRA hlt kA hx hcell hJi hi cB
      gi_wp2
      rw [← hWH.out]
      gi_loopw [5] (fun v5 wq => ∃ x, v5 = .int .u64 (x : Nat) ∧ r.1 ≤ x ∧ x ≤ r.2 ∧ J (allR (l.take i) ++ List.range' r.1 (x - r.1)) wq ∧ RunsKeep WA wq) (fun v5 _ => r.2 + 1 - (intOf v5).toNat)
      case atStart => exact ⟨r.1, rfl, Nat.le_refl _, HR.out.2.2.1.1, by simpa using HR.out.2.2.2.2.1, RunsKeep.refl _⟩
      case round =>
        obtain ⟨x, rfl, hx1, hx2, hJx, kq⟩ := hrel
        have hAq := kq.same _ _ _ _ (.inl rfl) HR.out.2.2.2.1
        have a1 := cell_of hAq 1
        simp at a1
        have hpn : (allR (l.take i) ++ List.range' r.1 (x - r.1)) ++ [x] = allR (l.take i) ++ List.range' r.1 (x + 1 - r.1) := by
          rw [List.append_assoc]
          congr 1
          rw [show x + 1 - r.1 = (x - r.1) + 1 by omega, List.range'_1_concat, show r.1 + (x - r.1) = x by omega]
        have hok : NumOk l (allR (l.take i) ++ List.range' r.1 (x - r.1)) x wr := by
          unfold NumOk
          rw [hpn]
          refine List.IsPrefix.trans ?_ HR.out.2.1
          rw [HR.out.1]
          refine ⟨List.range' (x + 1) (r.2 - x), ?_⟩
          rw [List.append_assoc]
          congr 1
          have := List.range'_append_1 (s := r.1) (m := x + 1 - r.1) (n := r.2 - x)
          rw [show r.1 + (x + 1 - r.1) = x + 1 by omega] at this
          rw [this]
          congr 1
          omega
        obtain ⟨fn, tmps, assign, body, hy, hRR⟩ := HP.out.2.1 _ x wr hJx hok
        rw [hpn] at hRR
        have HX := Lib.hid (And.intro hx1 (And.intro hx2 kq))
        clear hx1 hx2 hJx kq hok hpn
        unfold numArgs at hy
        gi_wp2
        refine hRR.mono ?_
        rintro e W4 ⟨rfl, hJ4, hk4⟩
        have hA4 := hk4.same _ _ _ _ (.inl rfl) hAq
        have a4 := cell_of hA4 1
        simp at a4
        have k4 := HX.out.2.2.trans hk4
        have HY := Lib.hid (And.intro hJ4 k4)
        clear hRR hJ4 hk4 hA4 k4 hAq a1 hy
        by_cases hxe : x = r.2
        · subst hxe
          gi_wp2
          go_roundw
          case rel => exact ⟨i + 1, by congr 1, by have := HR.out.2.2.2.2.2.2.2; omega, by rw [HR.out.1]; exact HY.out.1, HR.out.2.2.2.2.2.1.trans (HR.out.2.2.2.2.2.2.1.trans HY.out.2)⟩
          case measure => have := HR.out.2.2.2.2.2.2.2; simp [intOf]; omega
        · have hxn : ¬ (x : Int) = (r.2 : Int) := by omega
          have hr2 := HR.out.2.2.1.2
          have hxw : IntKind.u64.wrap ((x : Int) + 1) = ((x + 1 : Nat) : Int) := by have := HX.out.2.1; rw [IntKind.wrap_u64]; omega
          clear hr2
          gi_wp2
          go_roundw
          case rel => exact ⟨x + 1, by congr 1, by have := HX.out.1; omega, by have := HX.out.2.1; omega, HY.out.1, HY.out.2⟩
          case measure => have := HX.out.2.1; simp [intOf]; omega
    · have hie : i = l.length := by omega
      have hii : ¬ (i : Int) < (l.length : Int) := by omega
      subst hie
      rw [List.take_of_length_le (Nat.le_refl _)] at hJi
      have HR := Lib.hid hJi
      clear hJi hi hlt kr
      gi_wp2
      go_end0
      exact ⟨⟨_, rfl⟩, HR.out⟩
theorem keep_ofGrown {w w' : World} {row : Option Nat} (h : w.grownBy w' row) : Keep (fun b => row = some b) w w' := ⟨h.os, h.tape, h.output, h.size, fun b hb hn => h.block b hb (fun e => hn e.symm)⟩
/-- What the loop of AppendSeq keeps. -/
def ColI (w : World) (pre : List Nat) (W : World) : Prop :=
  ∃ vo vc, W.heap[w.heap.size]? = some (.cells #[.slice vo pre.length vc] 45 (0, 0)) ∧ W.ownsRow w.heap.size 27 1 (.slice vo pre.length vc) pre.length (pre.map u64v) ∧ Keep No w W
theorem ColI.own (w : World) (n : Nat) (hn : w.heap.size ≤ n) : OwnFrom n (ColI w) := by
  rintro pre A B row ⟨vo, vc, h1, h2, h3⟩ hg hr
  have k := keep_ofGrown hg
  refine ⟨vo, vc, k.heap h1 (fun e => ?_), row_keep h2 k (fun b hb e => ?_), h3.trans k (fun b hb e => ?_)⟩
  · obtain ⟨_, o, ho, hc⟩ := hr _ e
    rw [h1] at ho; cases ho; cases hc
  · obtain ⟨_, o, ho, hc⟩ := hr _ e
    obtain ⟨_, cur, hz⟩ := row_kind h2 b hb
    rw [hz] at ho; cases ho; cases hc
  · have := (hr _ e).1; omega
set_option maxRecDepth 100000 in
set_option maxHeartbeats 4000000 in
theorem appseqR_spec {w : World} {v : Value} {l : List RunN} {B : Nat} (hv : RunsAt w v l) (hs : RSet l) (hl : l.length ≤ 1099511627776) (hbx : w.heap[B]? = some (.cells #[v] 34 (0, 0))) (hz : sizeR l ≤ 1099511627776) :
    Calls Tryz.prog 54 #[.slice none 0 0, .func (.func 55) #[] #[.pointer (some ⟨B, 0, none⟩)]] w fun e w' => ∃ v', e = .returned v' ∧ OwnN w' w.heap.size v' (allR l) ∧ Keep No w w' := by
  obtain ⟨W0, hW0⟩ : ∃ W0, W0 = w.alloc (.cells #[.slice none 0 0] 45) := ⟨_, rfl⟩
  have hb0 : W0.heap[w.heap.size]? = some (.cells #[.slice none 0 0] 45 (0, 0)) := by rw [hW0]; exact heap_new _ _
  have k0 : Keep No w W0 := by rw [hW0]; exact (Keep.refl _ _).alloc _
  have hseq := rAll_says 5 (by decide) (hv.no k0) hs hl (k0.heap hbx (fun e => e))
  have hlen := allR_len hs
  have hml : (allR l).length ≤ 1099511627776 := by omega
  have HH := Lib.hid (And.intro hb0 (And.intro k0 hml))
  clear hv hs hl hbx hz hb0 k0 hlen hml
  obtain ⟨i0, hi, hz0, hz1, hz2⟩ := info_parts info_u64n
  refine (callsIn_wide (n := 6)).1 ?_
  refine callsIn_of_wp_marks Tryz.func54 rfl trivial ?_ rfl
  simp only [Tryz.ntmps54, List.size_toArray, List.length_cons, List.length_nil, Nat.reduceAdd, Nat.reduceSub, Array.replicate_succ, Array.replicate_zero, List.push_toArray, List.append_toArray, List.nil_append, List.cons_append]
  gi_wp2
  rw [← hW0]
  clear hW0
  refine wpIn_rangeFree rfl (by decide) (gf := 55) (lb := #[.pointer (some ⟨B, 0, none⟩)]) rfl trivial (enters_of Tryz.func55 (by kernel_rfl) rfl) hseq
    (fun h k => h.trans k) (fun A B row _ hg hr => RunsKeep.grown hg (fun r e => (hr r e).2)) (fun _ => rfl) (ColI w) (ColI.own w _ HH.out.2.1.size) (fun pre x s A B row h _ _ => h) ⟨none, 0, HH.out.1, World.ownsRow_nil _ _ _ _, HH.out.2.1⟩
    (fun x => { tmps := #[.slice none 0 0, .func (.func 55) #[] #[.pointer (some ⟨B, 0, none⟩)], .pointer (some ⟨w.heap.size, 0, none⟩), undef, .slice none 0 0, .int .u64 x, .func (.func 55) #[] #[.pointer (some ⟨B, 0, none⟩)], .int .u64 x, undef, undef, undef, undef, undef], defers := [] })
    ?_ ?_ ?_
  · intro lo x W K hK
    unfold numArgs
    gi_wp2
    exact hK
  · rintro lo pre x W ⟨vo, vc, h1, h2, h3⟩ hok
    have hpl : pre.length + 1 ≤ 1099511627776 := by
      have := hok.length_le
      simp at this
      have := HH.out.2.2
      omega
    have c1 := cell_of h1 0
    simp at c1
    have f1 := frozen_of h1 0
    have kA := (Keep.refl No W).alloc (.cells #[.int .u64 x] 27)
    have hown := row_keep h2 kA (fun _ _ e => e)
    have hnew := heap_new W (.cells #[.int .u64 x] 27)
    have hsz := Nat.le_trans h3.size kA.size
    have h1A := kA.heap h1 (fun e => e)
    have HB := Lib.hid (And.intro h1A (And.intro h2 (And.intro h3 (And.intro kA (And.intro hown h1)))))
    clear h1 h2 h3 kA hseq hok hown h1A
    gi_wp2_with (gi_at_builtin; refine wpListIn_append_own _ rfl _ _ 45 rfl w.heap.size 27 i0 (.int .u64 0) 1 8 Tryz.underlying45 hi hz0 hz1 hz2 rfl (by decide) _ _ _ rfl HB.out.2.2.2.2.1 ⟨W.heap.size, 0, none⟩ 1 1 [.int .u64 x] rfl rfl (World.news_of_block (cs := #[.int .u64 x]) (t := 27) (fr := (0, 0)) hnew) (by simp [Value.oneCell']) (by unfold maxLen; omega) (by omega) hsz ?_; intro v7 W7 hrow7 hg7 _; obtain ⟨vo7, vc7, rfl, _, _⟩ := row_form hrow7; have k7 := own_grown hg7; have q7 := k7.heap HB.out.1 (fun e => by obtain ⟨_, cur, hz⟩ := row_kind HB.out.2.2.2.2.1 _ e; rw [HB.out.1] at hz; simp at hz); have c7 := cell_of q7 0; have f7 := frozen_of q7 0; simp at c7)
    have k9 : Keep (· = w.heap.size) W7 (W7.setCell ⟨w.heap.size, 0, none⟩ (.slice vo7 (pre.length + 1) vc7)) := keep_cell _ _
    have q9 := heap_setCell_same (i := 0) (u := .slice vo7 (pre.length + 1) vc7) q7
    obtain ⟨h1A, h2, h3, kA, hown, h1⟩ := HB.out
    have kG : Keep (fun c => c = w.heap.size ∨ (Value.slice vo pre.length vc).ownBlock = some c) W (W7.setCell ⟨w.heap.size, 0, none⟩ (.slice vo7 (pre.length + 1) vc7)) :=
      ((kA.mono (G := fun c => c = w.heap.size ∨ (Value.slice vo pre.length vc).ownBlock = some c) (fun _ _ e => e.elim)).trans k7 (fun _ _ e => .inr e)).trans k9 (fun _ _ e => .inl e)
    refine ⟨fun b o hb ho hc => kG.heap ho (fun e => ?_), RunsKeep.of kG (fun b cs t fr ht hb e => ?_), vo7, vc7, ?_, ?_, h3.trans kG (fun b hb e => ?_)⟩
    · rcases e with rfl | e
      · rw [h1] at ho; cases ho; cases hc
      · obtain ⟨_, cur, hz⟩ := row_kind h2 b e
        rw [hz] at ho; cases ho; cases hc
    · rcases e with rfl | e
      · rw [h1] at hb; simp at hb; obtain ⟨_, rfl, _⟩ := hb; simp at ht
      · obtain ⟨_, cur, hz⟩ := row_kind h2 b e
        rw [hz] at hb; simp at hb; obtain ⟨_, rfl, _⟩ := hb; simp at ht
    · simpa using q9
    · have := row_keep hrow7 k9 (fun b hb e => by
        obtain ⟨_, cur, hz⟩ := row_kind hrow7 b hb
        have e : b = w.heap.size := e
        rw [e, q7] at hz; simp at hz)
      simpa [u64v] using this
    · rcases e with rfl | e
      · omega
      · have := (row_kind h2 b e).1; omega
  · rintro D xs W hD rfl ⟨vo, vc, h1, h2, h3⟩ hK
    have c1 := cell_of h1 0
    simp at c1
    gi_wp2
    refine ⟨by simp, .inl ⟨_, _, rfl, run_takeDeferred hK, ?_⟩⟩
    refine ⟨_, results_tmp rfl _ _ _, .slice vo (allR l).length vc, rfl, ownsRow_putObj h2 _ hK rfl, h3.trans (keep_ofGrown (grownBy_putObj' W D _)) (fun b hb e => ?_)⟩
    have e : some D = some b := e
    cases e
    have := HH.out.2.1.size
    omega
set_option maxRecDepth 100000 in
set_option maxHeartbeats 1000000 in
theorem collectR_spec {w : World} {v : Value} {l : List RunN} {B : Nat} (hv : RunsAt w v l) (hs : RSet l) (hl : l.length ≤ 1099511627776) (hbx : w.heap[B]? = some (.cells #[v] 34 (0, 0))) (hz : sizeR l ≤ 1099511627776) :
    Calls Tryz.prog 23 #[.func (.func 55) #[] #[.pointer (some ⟨B, 0, none⟩)]] w fun e w' => ∃ v', e = .returned v' ∧ OwnN w' w.heap.size v' (allR l) ∧ Keep No w w' := by
  have hap := appseqR_spec hv hs hl hbx hz
  clear hv hs hl hbx hz
  go_enter Tryz.func23, Tryz.ntmps23
  go_wp2_with (go_at_call 54; refine hap.mono ?_; rintro e w2 ⟨v2, rfl, h1, h2⟩)
  go_ret
  exact ⟨_, rfl, h1, h2⟩
end Go.Proofs.YtgogfnafbeahoaaGreat
