/- A range over an iterator that writes variables of its own; strings.SplitSeq. -/
import Derived.Test.YtlbjkmpdakmgeaaDoorTaleF
import Derived.RangeFuncNested
import Derived.RangeFuncBound
import Derived.RangeFuncCalls
import Derived.RangeFuncLeaves
import Derived.RangeFuncKeeps
import Derived.RangeFuncFrom
import Derived.Shelf.Abstract
import Derived.Shelf.RegionOpen
import Derived.WalkKit
import Derived.OwnWalkIn
import Derived.TacticsInMore
import Derived.LoopNIn
import Derived.LoopIn
import Derived.Shelf.AbstractIn
import Derived.RegionIn
namespace Go.Proofs.YtlbjkmpdakmgeaaDoor
open Go Go.RowKit Go.Shelf

/-- What lay below n1 stays, but for F. -/
structure KeepTo (n1 : Nat) (F : Nat → Prop) (w w' : World) : Prop where
  os : w'.os = w.os
  tape : w'.tape = w.tape
  output : w'.output = w.output
  size : w.heap.size ≤ w'.heap.size
  block : ∀ b, b < n1 → ¬ F b → w'.heap[b]? = w.heap[b]?
theorem KeepTo.trans {n1 : Nat} {F : Nat → Prop} {a b c : World} (h : KeepTo n1 F a b) (k : KeepTo n1 F b c) : KeepTo n1 F a c :=
  ⟨k.os.trans h.os, k.tape.trans h.tape, k.output.trans h.output, Nat.le_trans h.size k.size, fun x hx hn => (k.block x hx hn).trans (h.block x hx hn)⟩
theorem KeepTo.keep {F : Nat → Prop} {w w' : World} (h : KeepTo w.heap.size F w w') : Keep F w w' := ⟨h.os, h.tape, h.output, h.size, h.block⟩
theorem Keep.to {F : Nat → Prop} {w w' : World} (h : Keep F w w') {n1 : Nat} (hn : n1 ≤ w.heap.size) : KeepTo n1 F w w' := ⟨h.os, h.tape, h.output, h.size, fun b hb hf => h.block b (by omega) hf⟩
theorem KeepTo.refl (n1 : Nat) (F : Nat → Prop) (w : World) : KeepTo n1 F w w := ⟨rfl, rfl, rfl, Nat.le_refl _, fun _ _ _ => rfl⟩
theorem KeepTo.grown {n1 : Nat} {F : Nat → Prop} {w w' : World} {row : Option Nat} (h : w.grownBy w' row) (hn : n1 ≤ w.heap.size) (hr : ∀ r, row = some r → n1 ≤ r) : KeepTo n1 F w w' :=
  ⟨h.os, h.tape, h.output, h.size, fun b hb _ => h.block b (by omega) (fun e => by have := hr b e.symm; omega)⟩
theorem KeepTo.heap {n1 : Nat} {F : Nat → Prop} {w w' : World} (h : KeepTo n1 F w w') {b : Nat} {o : Obj} (hb : b < n1) (hn : ¬ F b) (ho : w.heap[b]? = some o) : w'.heap[b]? = some o := (h.block b hb hn).trans ho
theorem Keep.grownBy {w w' : World} (h : Keep No w w') : w.grownBy w' none := ⟨h.os, h.tape, h.output, h.size, fun b hb _ => h.block b hb (fun e => e)⟩
theorem Keep.others {W W' : World} (h : Keep No W W') : KeepsOthers W W' := ⟨h.size, fun _ _ ho _ => h.heap ho (fun e => e)⟩

/-- The iterator hands its elements, and takes steps G of its own between them. -/
def SeqWrites {α : Type} (F : Fence) (n : Nat) (P : Program) (g : Nat) (lb : Array Value) (encs : α → Array Value) (G : World → World → Prop) (Kp : World → World → Prop) (S Sp : List α → Prop) (N : Nat) (w : World) : Prop :=
  ∀ (l : Nat) (J Jx : List α → World → Prop) (W : World), Kp w W → (∀ s A B, J s A → G A B → J s B) →
    (∀ pre x W1, J pre W1 → pre.length < N → YieldAt F (n - 1) P l (encs x) W1 fun e W' => (e = .returned (.bool true) ∧ J (pre ++ [x]) W' ∧ Kp W1 W') ∨ (e = .returned (.bool false) ∧ Jx (pre ++ [x]) W')) →
    J [] W →
    Go.CallsIn F n P g (#[.func (.yield l) #[] #[]] ++ lb) W fun e W' => (∃ v, e = .returned v) ∧ ((∃ xs, S xs ∧ J xs W') ∨ (∃ pre, Sp pre ∧ Jx pre W'))
/-- How a body is left. -/
def endsIn {α : Type} (Kp : World → World → Prop) (I : List α → World → Prop) (Ix : List α → World → Prop) (xs : List α) (W : World) : Exit → Act → World → Prop
  | .normal, _, W' => KeepsOthers W W' ∧ Kp W W' ∧ I xs W'
  | .ret, _, W' => KeepsOthers W W' ∧ Ix xs W'
  | _, _, _ => False

theorem wpIn_rangeWrites {F : Fence} {n : Nat} {P : Program} {α : Type} {g : Operand} {ps : Array Tmp} {assign body : Code} {Q : Exit → Act → World → Prop} {a : Act} {w : World}
    (hro : F.round = none) (h1 : 1 ≤ n) {gf : Nat} {lb : Array Value} (hg : a.eval g = .func (.func gf) #[] lb) (hFg : F.fn gf) (eg : ∀ args w, (callFunc gf args).run P w = .ok (.enter gf args) w)
    {encs : α → Array Value} {G : World → World → Prop} {Kp : World → World → Prop} {S Sp : List α → Prop} {N : Nat} (hseq : SeqWrites F (n - 1) P gf lb encs G Kp S Sp N w)
    (hKt : ∀ {A B C : World}, Kp A B → Kp B C → Kp A C) (hKg : ∀ (A B : World) (row : Option Nat), w.heap.size ≤ A.heap.size → A.grownBy B row → (∀ r, row = some r → w.heap.size ≤ r) → Kp A B) (hps : ∀ x, (encs x).size = ps.size)
    (hG : ∀ A B, G A B → ∀ b o, w.heap.size ≤ b → A.heap[b]? = some o → B.heap[b]? = some o)
    (I Ix : List α → World → Prop) (hI : OwnFrom w.heap.size I) (hIG : ∀ s A B, I s A → G A B → I s B) (hIx : OwnFrom w.heap.size Ix) (h0 : I [] w) (a₁ : α → Act)
    (hassign : ∀ (l : Nat) (x : α) (W : World) (K : Act → World → Prop), K (a₁ x) W →
      assign.wpIn (F.inRound l) (n - 1 - 1) P (Exit.then K (fun _ _ _ => False)) { tmps := (ps.zip (encs x)).foldl (fun t (p, v) => t.setIfInBounds p v) a.tmps, defers := [] } W)
    (hbody : ∀ (l : Nat) (pre : List α) (x : α) (W : World), I pre W → pre.length < N → body.wpIn (F.inRound l) (n - 1 - 1) P (endsIn Kp I Ix (pre ++ [x]) W) (a₁ x) W)
    (hdone : ∀ (D : Nat) (xs : List α) (W : World), w.heap.size ≤ D → S xs → I xs W → W.heap[D]? = some (.deferred (some [])) → Q .normal { a with defers := { target := .collected D, args := #[] } :: a.defers } W)
    (hstop : ∀ (D : Nat) (pre : List α) (W : World), w.heap.size ≤ D → Sp pre → Ix pre W → W.heap[D]? = some (.deferred (some [])) → Code.ret.wpIn F n P Q { a with defers := { target := .collected D, args := #[] } :: a.defers } W) :
    (Code.rangeFunc g ps assign body).wpIn F n P Q a w := by
  refine wpIn_rangeFunc (fun fn hfn => ?_)
  rw [hro]
  let D := w.heap.size
  let l := w.heap.size + 1
  let rec0 : LoopState → Option Code → Loop := fun st pe => { state := st, pending := pe, fn, tmps := a.tmps, params := ps, assign, body, defers := D }
  let Wd := w.alloc (.deferred (some []))
  let Wl := Wd.alloc (.loop (rec0 .ready none))
  have sd : Wd.heap.size = l := World.size_alloc _ _
  have gd : w.grownBy Wd none := World.grownBy_alloc _ _ _
  have gl : Wd.grownBy Wl none := World.grownBy_alloc _ _ _
  have atL : Wl.heap[l]? = some (.loop (rec0 .ready none)) := by
    have h := World.alloc_heap_new Wd (.loop (rec0 .ready none))
    rw [sd] at h
    exact h
  have atD : Wl.heap[D]? = some (.deferred (some [])) := (Below.heap_alloc Wd _ D (by rw [sd]; exact Nat.lt_succ_self _)).trans (World.alloc_heap_new w _)
  have k1 : Kp w Wl := hKt (hKg _ _ none (Nat.le_refl _) gd (fun r e => by cases e)) (hKg _ _ none gd.size gl (fun r e => by cases e))
  have i1 : I [] Wl := hI [] Wd Wl none (hI [] w Wd none h0 gd (fun r e => by cases e)) gl (fun r e => by cases e)
  have ent := run_enterLoop_outer (P := P) (w := w) fn a.tmps ps assign body
  refine ⟨l, [{ target := .collected D, args := #[] }], Wl, { target := .fn (.func gf) lb, args := #[.func (.yield l) #[] #[]] }, Wl, gf, #[.func (.yield l) #[] #[]] ++ lb, Wl, ent, ?_, ?_, ?_, fun _ => h1, ?_⟩
  · simp only [resolve, hg]
    simp [go_sem]
  · intro f' hf'
    simp [Target.leads] at hf'
    subst hf'
    exact hFg
  · simp [invoke, go_sem, eg]
  · refine (hseq l (fun pre W => I pre W ∧ W.heap[l]? = some (.loop (rec0 .ready none)) ∧ W.heap[D]? = some (.deferred (some [])))
      (fun pre W => Ix pre W ∧ W.heap[l]? = some (.loop (rec0 .done (some .ret))) ∧ W.heap[D]? = some (.deferred (some []))) Wl k1 ?_ ?_ ⟨i1, atL, atD⟩).mono ?_
    · intro s A B hs hk
      exact ⟨hIG s A B hs.1 hk, hG A B hk _ _ (Nat.le_succ _) hs.2.1, hG A B hk _ _ (Nat.le_refl _) hs.2.2⟩
    · rintro pre x W ⟨hi, hl, hd⟩ hlen
      have hlt : l < W.heap.size := heap_lt hl
      have hy := run_yield (P := P) (args := encs x) hl (hps x)
      refine ⟨fn, _, assign, body, hy, roundIn_of_wpIn hfn (hassign _ x W _ ⟨_, run_beginRound hl rfl, ?_⟩)⟩
      let Wb := W.putObj l (.loop (rec0 .busy none))
      have hlb : Wb.heap[l]? = some (.loop (rec0 .busy none)) := World.putObj_heap_same hlt
      have hdb : Wb.heap[D]? = some (.deferred (some [])) := (World.putObj_heap_other (Nat.ne_of_lt (Nat.lt_succ_self _))).trans hd
      have kb : Kp W Wb := hKg _ _ (some l) (Nat.le_trans (Nat.le_succ _) (Nat.le_of_lt hlt)) (grownBy_putObj' W l _) (fun r e => by cases e; exact Nat.le_succ _)
      have ib : I pre Wb := hI.putObj _ hi (Nat.le_succ _) hl rfl
      refine wpIn_mono (hbody l pre x Wb ib hlen) (fun e a3 W3 hp => ?_)
      cases e with
      | normal =>
        obtain ⟨ho, hk, hi3⟩ := hp
        have hl3 := ho.same _ _ hlb rfl
        refine ⟨_, _, run_endRound (P := P) none hl3, .inl ⟨rfl, ⟨hI.putObj _ hi3 (Nat.le_succ _) hl3 rfl, World.putObj_heap_same (heap_lt hl3), (World.putObj_heap_other (Nat.ne_of_lt (Nat.lt_succ_self _))).trans (ho.same _ _ hdb rfl)⟩, ?_⟩⟩
        exact hKt (hKt kb hk) (hKg _ _ (some l) (Nat.le_trans (Nat.le_succ _) (Nat.le_of_lt (heap_lt hl3))) (grownBy_putObj' W3 l _) (fun r e => by cases e; exact Nat.le_succ _))
      | ret =>
        obtain ⟨ho, hi3⟩ := hp
        have hl3 := ho.same _ _ hlb rfl
        exact ⟨_, _, run_endRound (P := P) (some .ret) hl3, .inr ⟨rfl, hIx.putObj _ hi3 (Nat.le_succ _) hl3 rfl, World.putObj_heap_same (heap_lt hl3), (World.putObj_heap_other (Nat.ne_of_lt (Nat.lt_succ_self _))).trans (ho.same _ _ hdb rfl)⟩⟩
      | _ => exact hp.elim
    · rintro e W2 ⟨⟨v, rfl⟩, (⟨xs, hS, hi, hl, hd⟩ | ⟨pre, hSp, hi, hl, hd⟩)⟩
      · exact ⟨none, _, run_endLoop (P := P) hl (by simp [rec0]), hdone D xs _ (Nat.le_refl _) hS (hI.putObj _ hi (Nat.le_succ _) hl rfl) ((World.putObj_heap_other (Nat.ne_of_lt (Nat.lt_succ_self _))).trans hd)⟩
      · exact ⟨some .ret, _, run_endLoop (P := P) hl (by simp [rec0]), hstop D pre _ (Nat.le_refl _) hSp (hIx.putObj _ hi (Nat.le_succ _) hl rfl) ((World.putObj_heap_other (Nat.ne_of_lt (Nat.lt_succ_self _))).trans hd)⟩
end Go.Proofs.YtlbjkmpdakmgeaaDoor

namespace Go.Proofs.YtlbjkmpdakmgeaaDoor
open Go Go.RowKit Go.Shelf
attribute [local go_sem] Oper.semAt_some

/-- A line that is not too long. -/
abbrev Ln := { x : List UInt8 // x.length ≤ 100000 }
theorem index_spec2 {w : World} (h : VarsAt w) (s : List UInt8) (c : UInt8) (hs : s.length ≤ 1000000) :
    Calls Tryd.prog 63 #[strV s, strV [c]] w fun e w' => e = .returned (.int .i64 (Lib.index s [c])) ∧ w' = w := by
  obtain ⟨m, hm⟩ := h.max
  exact Any.strings_Index (ρ := Tryd.lays146_ren) { Tryd.lays146 with } (strB s) (strB [c]) m w (by rw [strB_size]; omega) hm
theorem splitSeq_spec (s : List UInt8) (c : UInt8) (w : World) :
    Calls Tryd.prog 47 #[strV s, strV [c]] w fun e w' => e = .returned (.func (.func 72) #[] #[.pointer (some ⟨w.heap.size + 1, 0, none⟩), .pointer (some ⟨w.heap.size, 0, none⟩), .pointer (some ⟨w.heap.size + 1 + 1, 0, none⟩)]) ∧
      w' = ((w.alloc (.cells #[strV s] 9)).alloc (.cells #[strV [c]] 9)).alloc (.cells #[.int .i64 0] 3) := by
  have hf : ∀ w, Calls Tryd.prog 59 #[strV s, strV [c], .int .i64 0] w fun e w' => e = .returned (.func (.func 72) #[] #[.pointer (some ⟨w.heap.size + 1, 0, none⟩), .pointer (some ⟨w.heap.size, 0, none⟩), .pointer (some ⟨w.heap.size + 1 + 1, 0, none⟩)]) ∧
      w' = ((w.alloc (.cells #[strV s] 9)).alloc (.cells #[strV [c]] 9)).alloc (.cells #[.int .i64 0] 3) := by
    intro w
    go_enter Tryd.func59, Tryd.ntmps59
    go_wp2
    go_ret
    exact ⟨rfl, rfl⟩
  go_enter Tryd.func47, Tryd.ntmps47
  go_wp2_with (go_at_call 59; refine (hf _).mono ?_; rintro e w1 ⟨rfl, rfl⟩)
  go_ret
  exact ⟨rfl, rfl⟩

/-- What the iterator itself does between two rounds. -/
def TextStep (Bs : Nat) (A B : World) : Prop := ∃ S : ByteArray, B = A.setCell ⟨Bs, 0, none⟩ (.string S)
def strLen (w : World) (b : Nat) : Nat := match w.cell? ⟨b, 0, none⟩ with
  | some (.string s) => s.size
  | _ => 0
theorem strLen_of {w : World} {b : Nat} {s : ByteArray} {t : TypeId} {fr : Nat × Nat} (h : w.heap[b]? = some (.cells #[.string s] t fr)) : strLen w b = s.size := by
  unfold strLen
  rw [cell_of h 0]
  rfl
theorem slice_head (S : ByteArray) (l : List UInt8) (hS : S = strB l) (i : Nat) (hi : i ≤ l.length) (w : World) :
    (Instr.slice 9 (.string S) none (some (.int .i64 i)) none).run Tryd.prog w = .ok (strV (l.take i)) w := by
  subst hS
  rw [run_slice_string_h w 9 _ (by kernel_rfl) .i64 i (by omega) (by simp [ByteArray.size]; omega)]
  congr 2
  apply ByteArray.ext
  apply Array.ext'
  simp
theorem slice_rest (S : ByteArray) (l : List UInt8) (hS : S = strB l) (i : Nat) (hi : i ≤ l.length) (w : World) :
    (Instr.slice 9 (.string S) (some (.int .i64 i)) none none).run Tryd.prog w = .ok (strV (l.drop i)) w := by
  subst hS
  rw [run_slice_string_l w 9 _ (by kernel_rfl) .i64 i (by omega) (by simp [ByteArray.size]; omega)]
  congr 2
  apply ByteArray.ext
  apply Array.ext'
  simp [ByteArray.size]
  exact List.take_of_length_le (by simp)
set_option maxRecDepth 100000 in
set_option maxHeartbeats 4000000 in
theorem splitSeq_writes (n : Nat) (hn : 1 ≤ n) {w : World} {s : List UInt8} {c : UInt8} (hs : s.length ≤ 100000) {Bs Bp Bk : Nat} {F : Nat → Prop}
    (hbs : w.heap[Bs]? = some (.cells #[strV s] 9 (0, 0))) (hbp : w.heap[Bp]? = some (.cells #[strV [c]] 9 (0, 0))) (hbk : w.heap[Bk]? = some (.cells #[.int .i64 0] 3 (0, 0)))
    (hps : Bp ≠ Bs) (hks : Bk ≠ Bs) (hFs : ¬ F Bs) (hFp : ¬ F Bp) (hFk : ¬ F Bk) (hVF : ∀ w', KeepTo w.heap.size (fun b => F b ∨ b = Bs) w w' → VarsAt w') :
    SeqWrites Fence.wide n Tryd.prog 72 #[.pointer (some ⟨Bp, 0, none⟩), .pointer (some ⟨Bs, 0, none⟩), .pointer (some ⟨Bk, 0, none⟩)] (fun x : Ln => #[strV x.1]) (TextStep Bs) (KeepTo w.heap.size F)
      (fun xs => xs.map (·.1) = splitC c s) (fun pre => ∃ r, splitC c s = pre.map (·.1) ++ r) (s.length + 1) w := by
  intro l J Jx W hW hJ hY h0
  have lts := heap_lt hbs
  have ltp := heap_lt hbp
  have ltk := heap_lt hbk
  have hW' : KeepTo w.heap.size (fun b => F b ∨ b = Bs) w W := ⟨hW.os, hW.tape, hW.output, hW.size, fun b hb hf => hW.block b hb (fun e => hf (.inl e))⟩
  have hat := fun (w' : World) (k : KeepTo w.heap.size (fun b => F b ∨ b = Bs) w w') => And.intro (k.heap ltp (fun e => e.elim hFp hps) hbp) (k.heap ltk (fun e => e.elim hFk hks) hbk)
  have hsW := hW.heap lts hFs hbs
  have cpW := cell_of (hat W hW').1 0
  simp at cpW
  have HP := Lib.hid (And.intro hJ (And.intro hY (And.intro hat (And.intro hVF (And.intro hFs hs)))))
  have HW := Lib.hid (And.intro hW' (And.intro h0 (And.intro hsW lts)))
  clear hW hJ hY h0 hbs hbp hbk hps hks hFp hFk hVF hat hsW hs hW' lts ltp ltk hFs
  refine callsIn_of_wp Tryd.func72 rfl trivial ?_ rfl
  simp only [Tryd.ntmps72, List.size_toArray, List.length_cons, List.length_nil, Nat.reduceAdd, Nat.reduceSub, Array.replicate_succ, Array.replicate_zero, List.push_toArray, List.append_toArray, List.nil_append, List.cons_append]
  gi_wp2
  gi_loopw [7, 8] (fun _ _ wr => ∃ (pre : List Ln) (t : List UInt8), J pre wr ∧ t.length ≤ s.length ∧ splitC c s = pre.map (·.1) ++ splitC c t ∧ wr.heap[Bs]? = some (.cells #[strV t] 9 (0, 0)) ∧ KeepTo w.heap.size (fun b => F b ∨ b = Bs) w wr) (fun _ _ wr => strLen wr Bs)
  case atStart => exact ⟨[], s, HW.out.2.1, Nat.le_refl _, rfl, HW.out.2.2.1, HW.out.1⟩
  case round =>
    clear cpW
    obtain ⟨pre, t, hJp, htl, hsp, hst, hkp⟩ := hrel
    have hlen : pre.length < s.length + 1 := by
      have h1 := splitC_len c s
      rw [hsp, List.length_append, List.length_map] at h1
      have h2 := List.length_pos_iff.2 (splitC_ne c t)
      omega
    have hV := HP.out.2.2.2.1 _ hkp
    obtain ⟨hbp, hbk⟩ := HP.out.2.2.1 _ hkp
    have cp := cell_of hbp 0
    have ck := cell_of hbk 0
    have cs := cell_of hst 0
    have fs := frozen_of hst
    simp at cp ck cs
    have hix := index_spec2 hV t c (by have := HP.out.2.2.2.2.2; omega)
    obtain ⟨T, hT⟩ : ∃ T, T = strB t := ⟨_, rfl⟩
    replace cs : wr.cell? ⟨Bs, 0, none⟩ = some (.string T) := by rw [hT]; exact cs
    have HS : Hid (wr.heap[Bs]? = some (.cells #[.string T] 9 (0, 0))) := Lib.hid (by rw [hT]; exact hst)
    replace hix : Calls Tryd.prog 63 #[.string T, strV [c]] wr fun e w' => e = .returned (.int .i64 (Lib.index t [c])) ∧ w' = wr := by rw [hT]; exact hix
    have hTl : T.size = t.length := by rw [hT]; simp [ByteArray.size]
    by_cases hneg : Lib.index t [c] = -1
    · have hfree := splitC_free (index_free hneg)
      rw [hneg] at hix
      obtain ⟨L0, hL0⟩ : ∃ L0 : Ln, L0.1 = t := ⟨⟨t, by have := HP.out.2.2.2.2.2; omega⟩, rfl⟩
      obtain ⟨fn, tmps, assign, body, hy, hR⟩ := HP.out.2.1 pre L0 wr hJp hlen
      rw [show strV L0.1 = .string T by rw [hL0, hT]] at hy
      have HR := Lib.hid (And.intro hsp (And.intro hfree hL0))
      clear hsp hfree hL0 hbp hbk hst hkp hJp hV hT hTl hneg
      gi_wp2_with (refine ⟨trivial, ?_⟩; gi_at_call 63; refine (callsIn_wide.2 hix).mono ?_; rintro e W2 ⟨rfl, rfl⟩)
      refine hR.mono ?_
      rintro e W3 (⟨rfl, hJ3, hk3⟩ | ⟨rfl, hJx3⟩)
      · gi_wp2
        go_end0
        exact ⟨⟨_, rfl⟩, .inl ⟨pre ++ [L0], by rw [HR.out.1, HR.out.2.1, List.map_append, List.map_singleton, HR.out.2.2], hJ3⟩⟩
      · gi_wp2
        go_end0
        exact ⟨⟨_, rfl⟩, .inr ⟨pre ++ [L0], ⟨[], by rw [HR.out.1, HR.out.2.1, List.map_append, List.map_singleton, HR.out.2.2, List.append_nil]⟩, hJx3⟩⟩
    · obtain ⟨i, hi⟩ : ∃ i : Nat, Lib.index t [c] = i := ⟨(Lib.index t [c]).toNat, by have := Lib.index_ge t [c]; omega⟩
      obtain ⟨h1, h2⟩ := index_cut hi
      rw [hi] at hix
      have hil : i < t.length := by
        rcases Nat.lt_or_ge i t.length with h' | h'
        · exact h'
        · have := congrArg List.length h1
          simp at this
          omega
      have hcut : splitC c t = t.take i :: splitC c (t.drop (i + 1)) := by
        conv => lhs; rw [h1]
        exact splitC_cut _ h2
      have hh := slice_head T t hT i (by omega)
      have hr := slice_rest T t hT (i + 1) (by omega)
      obtain ⟨L0, hL0⟩ : ∃ L0 : Ln, L0.1 = t.take i := ⟨⟨t.take i, by have := HP.out.2.2.2.2.2; simp; omega⟩, rfl⟩
      obtain ⟨fn, tmps, assign, body, hy, hR⟩ := HP.out.2.1 pre L0 wr hJp hlen
      obtain ⟨A, hA⟩ : ∃ A, A = strB (t.take i) := ⟨_, rfl⟩
      obtain ⟨B, hB⟩ : ∃ B, B = strB (t.drop (i + 1)) := ⟨_, rfl⟩
      rw [show strV L0.1 = .string A by rw [hL0, hA]] at hy
      replace hh : ∀ w : World, (Instr.slice 9 (.string T) none (some (.int .i64 i)) none).run Tryd.prog w = .ok (.string A) w := by rw [hA]; exact hh
      replace hr : ∀ w : World, (Instr.slice 9 (.string T) (some (.int .i64 ((i : Int) + 1))) none none).run Tryd.prog w = .ok (.string B) w := by rw [hB]; exact hr
      have hi1 : (i : Int) ≤ 100000 := by have := HP.out.2.2.2.2.2; omega
      have HR := Lib.hid (And.intro hsp (And.intro hcut (And.intro hil (And.intro hkp (And.intro htl (And.intro hL0 (And.intro hB hTl)))))))
      clear hsp hcut hil hbp hbk hst hkp hJp hV hTl hneg h1 h2 htl hi hT hA hB hL0
      gi_wp2_with (refine ⟨trivial, ?_⟩; gi_at_call 63; refine (callsIn_wide.2 hix).mono ?_; rintro e W2 ⟨rfl, rfl⟩)
      refine hR.mono ?_
      rintro e W3 (⟨rfl, hJ3, hk3⟩ | ⟨rfl, hJx3⟩)
      · obtain ⟨hsp, hcut, hil, hkp, htl, hL0, hB, hTl⟩ := HR.out
        have hkp3 : KeepTo w.heap.size (fun b => F b ∨ b = Bs) w W3 := hkp.trans ⟨hk3.os, hk3.tape, hk3.output, hk3.size, fun b hb hf => hk3.block b hb (fun e => hf (.inl e))⟩
        have hst3 : W3.heap[Bs]? = some (.cells #[.string T] 9 (0, 0)) := (hk3.block Bs HW.out.2.2.2 HP.out.2.2.2.2.1).trans HS.out
        obtain ⟨hbp3, hbk3⟩ := HP.out.2.2.1 _ hkp3
        have cp3 := cell_of hbp3 0
        have cs3 := cell_of hst3 0
        have fs3 := frozen_of hst3
        simp at cp3 cs3
        have HX := Lib.hid (And.intro hkp3 (And.intro hst3 hJ3))
        clear hsp hcut hil hkp htl hL0 hTl hkp3 hst3 hbp3 hbk3 hk3 cp ck cs fs hB hJ3
        gi_wp2
        have kE : Keep (· = Bs) W3 (W3.setCell ⟨Bs, 0, none⟩ (.string B)) := Keep.setCell (F := (· = Bs)) (Keep.refl _ _) (.inl rfl) _
        have hst4 := heap_setCell_same (i := 0) (u := .string B) HX.out.2.1
        obtain ⟨hsp, hcut, hil, hkp, htl, hL0, hB, hTl⟩ := HR.out
        go_roundw
        case rel =>
          refine ⟨pre ++ [L0], t.drop (i + 1), HP.out.1 _ _ _ HX.out.2.2 ⟨_, rfl⟩, by simp; omega, ?_, by rw [show strV (t.drop (i + 1)) = .string B by rw [hB]]; exact hst4, HX.out.1.trans ((kE.mono (fun _ _ e => .inr e)).to HX.out.1.size)⟩
          rw [hsp, hcut, List.map_append, List.map_singleton, hL0, List.append_assoc]
          rfl
        case measure =>
          rw [strLen_of hst4, strLen_of HS.out, hTl, hB]
          simp [ByteArray.size]
          omega
      · gi_wp2
        refine bodyPost_ret (results_none rfl _ _ _) rfl ?_
        exact ⟨⟨_, rfl⟩, .inr ⟨pre ++ [L0], ⟨_, by rw [HR.out.1, HR.out.2.1, List.map_append, List.map_singleton, HR.out.2.2.2.2.2.1, List.append_assoc]; rfl⟩, hJx3⟩⟩
end Go.Proofs.YtlbjkmpdakmgeaaDoor
