/- Ranges over iterators of records; equal lists. -/
import Derived.Test.YtpjggnfiocplmaaLogZ
import Derived.RangeFuncNested
import Derived.RangeFuncBound
import Derived.RangeFuncCalls
import Derived.RangeFuncLeaves
import Derived.RangeFuncKeeps
import Derived.RangeFuncFrom
import Derived.Shelf.Abstract
import Derived.Shelf.RegionOpen
import Derived.WalkKit
import Derived.OwnWalkIn
import Derived.TacticsInMore
import Derived.LoopNIn
import Derived.LoopIn
import Derived.Shelf.AbstractIn
import Derived.RegionIn
import Derived.Test.YtpjggnfiocplmaaDisk

/-! ## SeqL -/
namespace Go.Proofs.Ytpjggnfiocplmaa
open Go Go.RowKit Go.Shelf

/-- The iterator hands all its elements, each with what the world then says of it. -/
def SeqSays {α : Type} (F : Fence) (n : Nat) (P : Program) (g : Nat) (lb : Array Value) (encs : α → Array Value) (Good : List α → α → World → Prop) (Kp : World → World → Prop) (S : List α → Prop) (w : World) : Prop :=
  ∀ (l : Nat) (J : List α → World → Prop) (W : World), Kp w W → AbidesFrom W.heap.size J →
    (∀ pre x W1, J pre W1 → Good pre x W1 → YieldAt F (n - 1) P l (encs x) W1 fun e W' => e = .returned (.bool true) ∧ J (pre ++ [x]) W' ∧ Kp W1 W') →
    J [] W →
    Go.CallsIn F n P g (#[.func (.yield l) #[] #[]] ++ lb) W fun e W' => (∃ v, e = .returned v) ∧ ∃ xs, S xs ∧ J xs W'
/-- How a body that goes on is left. -/
def goesOn {α : Type} (Kp : World → World → Prop) (I : List α → World → Prop) (xs : List α) (W : World) : Exit → Act → World → Prop
  | .normal, _, W' => KeepsOthers W W' ∧ Kp W W' ∧ I xs W'
  | _, _, _ => False

theorem wpIn_rangeSays {F : Fence} {n : Nat} {P : Program} {α : Type} {g : Operand} {ps : Array Tmp} {assign body : Code} {Q : Exit → Act → World → Prop} {a : Act} {w : World}
    (hro : F.round = none) (h1 : 1 ≤ n) {gf : Nat} {lb : Array Value} (hg : a.eval g = .func (.func gf) #[] lb) (hFg : F.fn gf) (eg : ∀ args w, (callFunc gf args).run P w = .ok (.enter gf args) w)
    {encs : α → Array Value} {Good : List α → α → World → Prop} {Kp : World → World → Prop} {S : List α → Prop} (hseq : SeqSays F (n - 1) P gf lb encs Good Kp S w)
    (hKt : ∀ {A B C : World}, Kp A B → Kp B C → Kp A C) (hKg : ∀ (A B : World) (row : Option Nat), w.heap.size ≤ A.heap.size → A.grownBy B row → (∀ r, row = some r → w.heap.size ≤ r) → Kp A B) (hps : ∀ x, (encs x).size = ps.size)
    (I : List α → World → Prop) (hI : OwnFrom w.heap.size I) (hG : ∀ pre x, Own (fun (_ : Unit) => Good pre x)) (h0 : I [] w) (a₁ : α → Act)
    (hassign : ∀ (l : Nat) (x : α) (W : World) (K : Act → World → Prop), K (a₁ x) W →
      assign.wpIn (F.inRound l) (n - 1 - 1) P (Exit.then K (fun _ _ _ => False)) { tmps := (ps.zip (encs x)).foldl (fun t (p, v) => t.setIfInBounds p v) a.tmps, defers := [] } W)
    (hbody : ∀ (l : Nat) (pre : List α) (x : α) (W : World), I pre W → Good pre x W → body.wpIn (F.inRound l) (n - 1 - 1) P (goesOn Kp I (pre ++ [x]) W) (a₁ x) W)
    (hdone : ∀ (D : Nat) (xs : List α) (W : World), w.heap.size ≤ D → S xs → I xs W → W.heap[D]? = some (.deferred (some [])) → Q .normal { a with defers := { target := .collected D, args := #[] } :: a.defers } W) :
    (Code.rangeFunc g ps assign body).wpIn F n P Q a w := by
  refine wpIn_rangeFunc (fun fn hfn => ?_)
  rw [hro]
  let D := w.heap.size
  let l := w.heap.size + 1
  let rec0 : LoopState → Loop := fun st => { state := st, pending := none, fn, tmps := a.tmps, params := ps, assign, body, defers := D }
  let Wd := w.alloc (.deferred (some []))
  let Wl := Wd.alloc (.loop (rec0 .ready))
  have sd : Wd.heap.size = l := World.size_alloc _ _
  have gd : w.grownBy Wd none := World.grownBy_alloc _ _ _
  have gl : Wd.grownBy Wl none := World.grownBy_alloc _ _ _
  have atL : Wl.heap[l]? = some (.loop (rec0 .ready)) := by
    have h := World.alloc_heap_new Wd (.loop (rec0 .ready))
    rw [sd] at h
    exact h
  have atD : Wl.heap[D]? = some (.deferred (some [])) := (Below.heap_alloc Wd _ D (by rw [sd]; exact Nat.lt_succ_self _)).trans (World.alloc_heap_new w _)
  have k1 : Kp w Wl := hKt (hKg _ _ none (Nat.le_refl _) gd (fun r e => by cases e)) (hKg _ _ none gd.size gl (fun r e => by cases e))
  have i1 : I [] Wl := hI [] Wd Wl none (hI [] w Wd none h0 gd (fun r e => by cases e)) gl (fun r e => by cases e)
  have ent := run_enterLoop_outer (P := P) (w := w) fn a.tmps ps assign body
  refine ⟨l, [{ target := .collected D, args := #[] }], Wl, { target := .fn (.func gf) lb, args := #[.func (.yield l) #[] #[]] }, Wl, gf, #[.func (.yield l) #[] #[]] ++ lb, Wl, ent, ?_, ?_, ?_, fun _ => h1, ?_⟩
  · simp only [resolve, hg]
    simp [go_sem]
  · intro f' hf'
    simp [Target.leads] at hf'
    subst hf'
    exact hFg
  · simp [invoke, go_sem, eg]
  · refine (hseq l (fun pre W => I pre W ∧ W.heap[l]? = some (.loop (rec0 .ready)) ∧ W.heap[D]? = some (.deferred (some []))) Wl k1 ?_ ?_ ⟨i1, atL, atD⟩).mono ?_
    · intro s A B row hs hg' hr
      have hw := fun r e => (hr r e).2
      refine ⟨hI s A B row hs.1 hg' (fun r e => ?_), (grownBy_keeps hg' hw hs.2.1 rfl).trans hs.2.1, (grownBy_keeps hg' hw hs.2.2 rfl).trans hs.2.2⟩
      obtain ⟨h1, o, ho, hw⟩ := hr r e
      have h2 : w.heap.size ≤ Wl.heap.size := by simp [Wl, Wd]; omega
      exact ⟨Nat.le_trans h2 h1, o, ho, Obj.not_cells_of_walk hw⟩
    · rintro pre x W ⟨hi, hl, hd⟩ hgood
      have hlt : l < W.heap.size := heap_lt hl
      have hy := run_yield (P := P) (args := encs x) hl (hps x)
      refine ⟨fn, _, assign, body, hy, roundIn_of_wpIn hfn (hassign _ x W _ ⟨_, run_beginRound hl rfl, ?_⟩)⟩
      let Wb := W.putObj l (.loop (rec0 .busy))
      have hlb : Wb.heap[l]? = some (.loop (rec0 .busy)) := World.putObj_heap_same hlt
      have hdb : Wb.heap[D]? = some (.deferred (some [])) := (World.putObj_heap_other (Nat.ne_of_lt (Nat.lt_succ_self _))).trans hd
      have kb : Kp W Wb := hKg _ _ (some l) (Nat.le_trans (Nat.le_succ _) (Nat.le_of_lt hlt)) (grownBy_putObj' W l _) (fun r e => by cases e; exact Nat.le_succ _)
      have ib : I pre Wb := hI.putObj _ hi (Nat.le_succ _) hl rfl
      have gb : Good pre x Wb := (hG pre x).putObj (s := ()) _ hgood hl rfl
      refine wpIn_mono (hbody l pre x Wb ib gb) (fun e a3 W3 hp => ?_)
      cases e with
      | normal =>
        obtain ⟨ho, hk, hi3⟩ := hp
        have hl3 := ho.same _ _ hlb rfl
        refine ⟨_, _, run_endRound (P := P) none hl3, rfl, ⟨hI.putObj _ hi3 (Nat.le_succ _) hl3 rfl, World.putObj_heap_same (heap_lt hl3), (World.putObj_heap_other (Nat.ne_of_lt (Nat.lt_succ_self _))).trans (ho.same _ _ hdb rfl)⟩, ?_⟩
        exact hKt (hKt kb hk) (hKg _ _ (some l) (Nat.le_trans (Nat.le_succ _) (Nat.le_of_lt (heap_lt hl3))) (grownBy_putObj' W3 l _) (fun r e => by cases e; exact Nat.le_succ _))
      | _ => exact hp.elim
    · rintro e W2 ⟨⟨v, rfl⟩, xs, hS, hi, hl, hd⟩
      exact ⟨none, _, run_endLoop (P := P) hl (by simp [rec0]), hdone D xs _ (Nat.le_refl _) hS (hI.putObj _ hi (Nat.le_succ _) hl rfl) ((World.putObj_heap_other (Nat.ne_of_lt (Nat.lt_succ_self _))).trans hd)⟩
end Go.Proofs.Ytpjggnfiocplmaa

/-! ## SeqM -/
namespace Go.Proofs.Ytpjggnfiocplmaa
open Go Go.RowKit Go.Shelf
attribute [local go_sem] Oper.semAt_some

/-- What lay below n1 stays, but for F. -/
structure KeepTo (n1 : Nat) (F : Nat → Prop) (w w' : World) : Prop where
  os : w'.os = w.os
  tape : w'.tape = w.tape
  output : w'.output = w.output
  size : w.heap.size ≤ w'.heap.size
  block : ∀ b, b < n1 → ¬ F b → w'.heap[b]? = w.heap[b]?
theorem KeepTo.trans {n1 : Nat} {F : Nat → Prop} {a b c : World} (h : KeepTo n1 F a b) (k : KeepTo n1 F b c) : KeepTo n1 F a c :=
  ⟨k.os.trans h.os, k.tape.trans h.tape, k.output.trans h.output, Nat.le_trans h.size k.size, fun x hx hn => (k.block x hx hn).trans (h.block x hx hn)⟩
theorem KeepTo.keep {F : Nat → Prop} {w w' : World} (h : KeepTo w.heap.size F w w') : Keep F w w' := ⟨h.os, h.tape, h.output, h.size, h.block⟩
theorem Keep.to {F : Nat → Prop} {w w' : World} (h : Keep F w w') {n1 : Nat} (hn : n1 ≤ w.heap.size) : KeepTo n1 F w w' := ⟨h.os, h.tape, h.output, h.size, fun b hb hf => h.block b (by omega) hf⟩
theorem KeepTo.refl (n1 : Nat) (F : Nat → Prop) (w : World) : KeepTo n1 F w w := ⟨rfl, rfl, rfl, Nat.le_refl _, fun _ _ _ => rfl⟩
theorem KeepTo.grown {n1 : Nat} {F : Nat → Prop} {w w' : World} {row : Option Nat} (h : w.grownBy w' row) (hn : n1 ≤ w.heap.size) (hr : ∀ r, row = some r → n1 ≤ r) : KeepTo n1 F w w' :=
  ⟨h.os, h.tape, h.output, h.size, fun b hb _ => h.block b (by omega) (fun e => by have := hr b e.symm; omega)⟩
theorem Keep.grownBy {w w' : World} (h : Keep No w w') : w.grownBy w' none := ⟨h.os, h.tape, h.output, h.size, fun b hb _ => h.block b hb (fun e => e)⟩

abbrev Item := Nat × Value
def itemArgs (x : Item) : Array Value := #[.int .u64 x.1, x.2]
/-- What the iterator says of what it hands. -/
def ItemOk [bn : Inhabited Ban] (base : Nat) (L : LogS) (pre : List Item) (x : Item) (W : World) : Prop :=
  ∃ b, L.recs[pre.length]? = some b ∧ x.1 = L.next - L.recs.length + pre.length ∧ BytesAt base W x.2 b

set_option maxRecDepth 100000 in
set_option maxHeartbeats 4000000 in
theorem lAll_says [bn : Inhabited Ban] (n : Nat) (hn : 1 ≤ n) {base : Nat} {w : World} {g p B : Nat} {sv lv : Value} {L : LogS} {F : Nat → Prop} (h : LogAt base w g p sv lv L) (hb : base ≤ w.heap.size) (hT : ban.top ≤ w.heap.size) (hx : L.next ≤ 9223372036854775807) (hr : L.recs.length ≤ L.next) (hl : ∀ b ∈ L.recs, b.length ≤ 35184372088832)
    (hbox : w.cell? ⟨B, 0, none⟩ = some (.pointer (some ⟨g, 0, none⟩))) (hF : Foot base w F) (hFl : ∀ b, lfoot g sv lv b → ¬ F b) (hFB : ¬ F B) :
    SeqSays Fence.wide n Try.prog 80 #[.pointer (some ⟨B, 0, none⟩)] itemArgs (ItemOk base L) (KeepTo w.heap.size F) (fun xs => xs.length = L.recs.length) w := by
  intro l J W hW hJ hY h0
  have hat := fun (W' : World) (k : KeepTo w.heap.size F w W') => h.keep hF k.keep hFl
  have hbx := fun (W' : World) (k : KeepTo w.heap.size F w W') => k.keep.cell hbox hFB
  have hfirst := fun (W' : World) (k : KeepTo w.heap.size F w W') => lFirst_spec (hat W' k) hx hr
  have hnext := fun (W' : World) (k : KeepTo w.heap.size F w W') => lNext_spec (hat W' k)
  have hget := fun (W' : World) (k : KeepTo w.heap.size F w W') (i : Nat) (b : Bytes) (hi : L.recs[i]? = some b) => lGet_in (hat W' k) hx hr hi (hl b (List.mem_of_getElem? hi))
  obtain ⟨f, hf⟩ : ∃ f, L.next - L.recs.length = f := ⟨_, rfl⟩
  rw [hf] at hfirst hget
  have hbW := hbx W hW
  have hfx : L.next = f + L.recs.length := by omega
  have HP := Lib.hid (And.intro hJ (And.intro hY (And.intro hfirst (And.intro hnext (And.intro hget (And.intro hbx (And.intro hW (And.intro h0 (And.intro hb (And.intro hT hf))))))))))
  clear hJ hY hW h0 hat hbx hfirst hnext hget h hb hT hbox hF hFl hFB hf hl hr
  refine callsIn_of_wp Try.func80 rfl trivial ?_ rfl
  simp only [Try.ntmps80, List.size_toArray, List.length_cons, List.length_nil, Nat.reduceAdd, Nat.reduceSub, Array.replicate_succ, Array.replicate_zero, List.push_toArray, List.append_toArray, List.nil_append, List.cons_append]
  gi_wp2_with (refine ⟨trivial, ?_⟩; gi_at_call 44; refine (callsIn_wide.2 (HP.out.2.2.1 _ HP.out.2.2.2.2.2.2.1)).mono ?_; rintro e W1 ⟨rfl, k1⟩)
  have hJ1 : J [] W1 := HP.out.1 [] W W1 none HP.out.2.2.2.2.2.2.2.1 k1.grownBy (fun r e => by cases e)
  have hk1 : KeepTo w.heap.size F w W1 := HP.out.2.2.2.2.2.2.1.trans ((k1.no (F := F)).to HP.out.2.2.2.2.2.2.1.size)
  have HW := Lib.hid (And.intro HP.out.2.2.2.2.2.2.1.size (And.intro hJ1 hk1))
  clear hJ1 hk1 hbW
  gi_loopw [3] (fun nv wr => ∃ pre : List Item, J pre wr ∧ pre.length ≤ L.recs.length ∧ nv = .int .u64 (f + pre.length : Nat) ∧ KeepTo w.heap.size F w wr ∧ W.heap.size ≤ wr.heap.size) (fun nv _ => L.next - (intOf nv).toNat)
  case atStart => exact ⟨[], HW.out.2.1, Nat.zero_le _, rfl, HW.out.2.2, k1.size⟩
  case round =>
    clear k1
    obtain ⟨pre, hJp, hpl, rfl, hkp, hsz⟩ := hrel
    have hbr := HP.out.2.2.2.2.2.1 _ hkp
    obtain ⟨m, hm⟩ : ∃ m, m = f + pre.length := ⟨_, rfl⟩
    rw [← hm]
    by_cases hlt : pre.length < L.recs.length
    · have hri : L.recs[pre.length]? = some L.recs[pre.length] := List.getElem?_eq_getElem hlt
      have hget := HP.out.2.2.2.2.1 _ hkp pre.length _ hri
      rw [← hm] at hget
      generalize L.recs[pre.length] = b at *
      have hmi : (m : Int) < (L.next : Int) := by omega
      have hnx := HP.out.2.2.2.1 _ hkp
      have hmw : IntKind.u64.wrap ((m : Int) + 1) = ((m + 1 : Nat) : Int) := by rw [wraps_u64 _ (by omega) (by omega)]; omega
      have HR := Lib.hid (And.intro hJp (And.intro hri (And.intro hm (And.intro hlt (And.intro hkp hsz)))))
      clear hJp hri hm hlt hkp hsz hpl hfx hx
      gi_wp2_with (first
        | (refine ⟨trivial, ?_⟩; gi_at_call 49; refine (callsIn_wide.2 hget).mono ?_; rintro e W2 ⟨v2, rfl, own2, k2⟩; have hbr2 := k2.cell hbr (fun e => e); obtain ⟨fn, tmps, assign, body, hy, hRR⟩ := HP.out.2.1 pre (m, v2) W2 (HP.out.1 pre _ W2 none HR.out.1 k2.grownBy (fun r e => by cases e)) ⟨b, HR.out.2.1, by rw [HP.out.2.2.2.2.2.2.2.2.2.2]; exact HR.out.2.2.1, own2.bytes (base := base) (fun _ => Nat.le_trans HP.out.2.2.2.2.2.2.2.2.2.1 HR.out.2.2.2.2.1.size)⟩; have hy : (Instr.yield l #[.int .u64 m, v2]).run Try.prog W2 = _ := hy)
        | (refine ⟨trivial, ?_⟩; gi_at_call 46; refine (callsIn_wide.2 hnx).mono ?_; rintro e W3 ⟨rfl, rfl⟩))
      refine hRR.mono ?_
      rintro e W4 ⟨rfl, hJ4, hk4⟩
      have hk24 := HR.out.2.2.2.2.1.trans (((k2.no (F := F)).to HR.out.2.2.2.2.1.size).trans hk4)
      clear hget hnx hy hRR
      gi_wp2
      go_roundw
      case rel => exact ⟨pre ++ [(m, v2)], hJ4, by have := HR.out.2.2.2.1; simp; omega, by have := HR.out.2.2.1; simp; omega, hk24, Nat.le_trans HR.out.2.2.2.2.2 (Nat.le_trans k2.size hk4.size)⟩
      case measure => have := HR.out.2.2.2.1; simp [intOf]; omega
    · have hmi : ¬ ((m : Int) < (L.next : Int)) := by omega
      have hnx := HP.out.2.2.2.1 _ hkp
      have hpe : pre.length = L.recs.length := by omega
      have HR := Lib.hid (And.intro hJp hpe)
      clear hJp hpe hlt hpl hkp hsz hfx hx hm
      gi_wp2_with (refine ⟨trivial, ?_⟩; gi_at_call 46; refine (callsIn_wide.2 hnx).mono ?_; rintro e W3 ⟨rfl, rfl⟩)
      go_end0
      exact ⟨⟨_, rfl⟩, pre, HR.out.2, HR.out.1⟩
end Go.Proofs.Ytpjggnfiocplmaa

/-! ## SeqN -/
namespace Go.Proofs.Ytpjggnfiocplmaa
open Go Go.RowKit Go.Shelf Go.Dr
attribute [local go_sem] Oper.semAt_some

theorem midN_guardedY {P : Program} {ops : Array Oper} {Q : Exit → Act → World → Prop} {S : World → Prop} {K : Act → World → Prop} {i : Nat} {r : List Nat} {a : Act} {w : World} {o : Oper} (hi : ops.toList[i]? = some o) (hg : Region.wanted o (yielded ops a.tmps) = true)
    (h : ∀ K' : Act → World → Prop, (∀ a w, S w → midN P ops Q S K r a w → K' a w) → o.wp P a w K' Q) : midN P ops Q S K (i :: r) a w := by
  unfold midN
  refine ⟨o, hi, ?_⟩
  rw [if_pos hg]
  exact h _ (fun a w hS h => ⟨hS, h⟩)


set_option maxRecDepth 100000 in
theorem lAll_spec (w : World) (g : Nat) :
    Calls Try.prog 50 #[.pointer (some ⟨g, 0, none⟩)] w fun e w' => e = .returned (.func (.func 80) #[] #[.pointer (some ⟨w.heap.size, 0, none⟩)]) ∧ w' = w.alloc (.cells #[.pointer (some ⟨g, 0, none⟩)] 65) := by
  go_enter Try.func50, Try.ntmps50
  go_wp2
  go_ret
  exact ⟨rfl, rfl⟩

theorem BytesAt.turned [bn : Inhabited Ban] {base : Nat} {W W' : World} {row : Option Nat} {v : Value} {l : Bytes} (h : BytesAt base W v l) (hg : W.grownBy W' row) (hr : ∀ r, row = some r → ∃ o : Obj, W.heap[r]? = some o ∧ o.isCells = false) : BytesAt base W' v l := by
  obtain ⟨ao, cap, h1, h2, h3, h4, h5⟩ := h
  refine ⟨ao, cap, h1, h2, h3, h4, fun i x hx => ?_⟩
  obtain ⟨ad, e, hb, hc⟩ := h5 i x hx
  refine ⟨ad, e, ⟨Nat.lt_of_lt_of_le hb.1 hg.size, ?_, hb.2.2.1, Nat.le_trans hb.2.2.2 hg.size⟩, cell_kept hc hg hr⟩
  rcases hb.2.1 with h2 | ⟨cs, fr, h2⟩
  · exact .inl h2
  · exact .inr ⟨cs, fr, (grownBy_keeps_cells hg hr h2 rfl).trans h2⟩
theorem Keep.others {W W' : World} (h : Keep No W W') : KeepsOthers W W' := ⟨h.size, fun _ _ ho _ => h.heap ho (fun e => e)⟩

/-- A post that no panic meets. -/
def calmPost (Q : Exit → Act → World → Prop) : Exit → Act → World → Prop
  | .panic _, _, _ => False
  | .normal, a, w => Q .normal a w
  | .ret, a, w => Q .ret a w
  | .exit i, a, w => Q (.exit i) a w
  | .goto t, a, w => Q (.goto t) a w
  | .outgrown, a, w => Q .outgrown a w
theorem calm_le {Q : Exit → Act → World → Prop} {e : Exit} {a : Act} {w : World} (h : calmPost Q e a w) : Q e a w := by
  cases e <;> first | exact h | exact h.elim

def BoxF (b4 b5 b6 : Nat) : Nat → Prop := fun b => b = b4 ∨ b = b5 ∨ b = b6
/-- Between two rounds. -/
structure RecI [bn : Inhabited Ban] (base : Nat) (L : LogS) (f : Nat) (W0 : World) (b4 b5 b6 : Nat) (pre : List Item) (W : World) : Prop where
  out : ∃ v, W.heap[b4]? = some (.cells #[v] 64 (0, 0)) ∧ W.ownsRow W0.heap.size 27 1 v pre.length (pre.map (·.2))
  next : W.heap[b5]? = some (.cells #[.int .u64 (f + pre.length : Nat)] 26 (0, 0))
  ok : W.heap[b6]? = some (.cells #[.bool true] 4 (0, 0))
  all : ∀ (i : Nat) (x : Item), pre[i]? = some x → ∃ b, L.recs[i]? = some b ∧ BytesAt base W x.2 b
  keep : KeepTo W0.heap.size (BoxF b4 b5 b6) W0 W
theorem RecI.own [bn : Inhabited Ban] (base : Nat) (L : LogS) (f : Nat) (W0 : World) (b4 b5 b6 : Nat) : OwnFrom W0.heap.size (RecI base L f W0 b4 b5 b6) := by
  intro s A B row h hg hr
  have hr2 := fun r e => (hr r e).2
  obtain ⟨v, h1, h2⟩ := h.out
  refine ⟨⟨v, (grownBy_keeps_cells hg hr2 h1 rfl).trans h1, h2.1, ?_⟩, (grownBy_keeps_cells hg hr2 h.next rfl).trans h.next, (grownBy_keeps_cells hg hr2 h.ok rfl).trans h.ok, fun i x hx => ?_,
    h.keep.trans (KeepTo.grown hg h.keep.size (fun r e => (hr r e).1))⟩
  · rcases h2.2 with h3 | ⟨g, cap, cur, e, h3, h4, h5⟩
    · exact .inl h3
    · exact .inr ⟨g, cap, cur, e, h3, (grownBy_keeps_cells hg hr2 h4 rfl).trans h4, h5⟩
  · obtain ⟨b, hb, hB⟩ := h.all i x hx
    exact ⟨b, hb, hB.turned hg hr2⟩

/-- The body's first stores, and its new block. -/
theorem rec_store {W : World} {b4 b5 b6 n0 n : Nat} {v u w5 w6 : Value} {xs : List Value} {k : Int} (x4 : W.heap[b4]? = some (.cells #[v] 64 (0, 0))) (x5 : W.heap[b5]? = some (.cells #[w5] 26 (0, 0))) (x6 : W.heap[b6]? = some (.cells #[w6] 4 (0, 0)))
    (hrow : W.ownsRow n0 27 1 v n xs) (h5 : b5 < n0) (h6 : b6 < n0) (e45 : b4 ≠ b5) (e46 : b4 ≠ b6) (e56 : b5 ≠ b6) :
    (((W.setCell ⟨b6, 0, none⟩ (.bool true)).setCell ⟨b5, 0, none⟩ (.int .u64 k)).alloc (.cells #[u] 27)).ownsRow n0 27 1 v n xs ∧
    (((W.setCell ⟨b6, 0, none⟩ (.bool true)).setCell ⟨b5, 0, none⟩ (.int .u64 k)).alloc (.cells #[u] 27)).heap[b4]? = some (.cells #[v] 64 (0, 0)) ∧
    (((W.setCell ⟨b6, 0, none⟩ (.bool true)).setCell ⟨b5, 0, none⟩ (.int .u64 k)).alloc (.cells #[u] 27)).heap[b5]? = some (.cells #[.int .u64 k] 26 (0, 0)) ∧
    (((W.setCell ⟨b6, 0, none⟩ (.bool true)).setCell ⟨b5, 0, none⟩ (.int .u64 k)).alloc (.cells #[u] 27)).heap[b6]? = some (.cells #[.bool true] 4 (0, 0)) ∧
    (((W.setCell ⟨b6, 0, none⟩ (.bool true)).setCell ⟨b5, 0, none⟩ (.int .u64 k)).alloc (.cells #[u] 27)).heap[W.heap.size]? = some (.cells #[u] 27 (0, 0)) ∧
    KeepsOthers W (((W.setCell ⟨b6, 0, none⟩ (.bool true)).setCell ⟨b5, 0, none⟩ (.int .u64 k)).alloc (.cells #[u] 27)) ∧
    Keep (BoxF b4 b5 b6) W (((W.setCell ⟨b6, 0, none⟩ (.bool true)).setCell ⟨b5, 0, none⟩ (.int .u64 k)).alloc (.cells #[u] 27)) := by
  have k6 : Keep (· = b6) W (W.setCell ⟨b6, 0, none⟩ (.bool true)) := Keep.setCell (F := (· = b6)) (Keep.refl _ _) (p := ⟨b6, 0, none⟩) (.inl rfl) _
  have k5 : Keep (· = b5) (W.setCell ⟨b6, 0, none⟩ (.bool true)) ((W.setCell ⟨b6, 0, none⟩ (.bool true)).setCell ⟨b5, 0, none⟩ (.int .u64 k)) := Keep.setCell (F := (· = b5)) (Keep.refl _ _) (p := ⟨b5, 0, none⟩) (.inl rfl) _
  have kA : Keep No ((W.setCell ⟨b6, 0, none⟩ (.bool true)).setCell ⟨b5, 0, none⟩ (.int .u64 k)) (((W.setCell ⟨b6, 0, none⟩ (.bool true)).setCell ⟨b5, 0, none⟩ (.int .u64 k)).alloc (.cells #[u] 27)) := (Keep.refl _ _).alloc _
  have hk : ∀ b, v.ownBlock = some b → n0 ≤ b := fun b hb => (row_kind hrow b hb).1
  have y6 := heap_setCell_same (i := 0) (u := .bool true) x6
  have y5 := heap_setCell_same (i := 0) (u := .int .u64 k) (k6.heap x5 (fun e => e56 e))
  have hn := heap_new ((W.setCell ⟨b6, 0, none⟩ (.bool true)).setCell ⟨b5, 0, none⟩ (.int .u64 k)) (.cells #[u] 27)
  refine ⟨row_keep (row_keep (row_keep hrow k6 (fun b e1 e2 => by have := hk b e1; omega)) k5 (fun b e1 e2 => by have := hk b e1; omega)) kA (fun _ _ e => e), kA.heap (k5.heap (k6.heap x4 e46) e45) (fun e => e), kA.heap y5 (fun e => e), kA.heap (k5.heap y6 (fun e => e56 e.symm)) (fun e => e), ?_,
    ((KeepsOthers.setCell _ _ _).trans (KeepsOthers.setCell _ _ _)).trans (KeepsOthers.alloc _ _), ?_⟩
  · simpa using hn
  · exact ((k6.mono (G := BoxF b4 b5 b6) (fun _ _ e => .inr (.inr e))).trans k5 (fun _ _ e => .inr (.inl e))).then kA

set_option maxRecDepth 100000 in
set_option maxHeartbeats 4000000 in
theorem records_spec [bn : Inhabited Ban] {base : Nat} {w : World} {g p : Nat} {sv lv : Value} {L : LogS} (h : LogAt base w g p sv lv L) (hb : base ≤ w.heap.size) (hT : ban.top ≤ w.heap.size) (hx : L.next ≤ 4611686018427387904) (hr : L.recs.length + 1 ≤ L.next) (hl : ∀ b ∈ L.recs, b.length ≤ 1099511627776) (hfew : L.recs.length ≤ 1000000) :
    Calls Try.prog 38 #[.pointer (some ⟨g, 0, none⟩)] w fun e w' => ∃ v, e = .returned (.tuple #[v, .bool true]) ∧ LRecsAt base w' v L.recs ∧ (∀ b, v.ownBlock = some b → w.heap.size ≤ b) ∧ Keep No w w' := by
  have hfirst := fun (w' : World) (k : Keep No w w') => lFirst_spec (h.no k) (by omega) (by omega)
  obtain ⟨f, hf⟩ : ∃ f, L.next - L.recs.length = f := ⟨_, rfl⟩
  rw [hf] at hfirst
  have HF := Lib.hid (And.intro hfirst hf)
  have HH := Lib.hid (And.intro h (And.intro hb (And.intro hT (And.intro hx (And.intro hr (And.intro hl hfew))))))
  clear hfirst hf h hb hT hx hr hl hfew
  refine (callsIn_wide (n := 6)).1 ?_
  refine callsIn_of_wp_marks Try.func38 rfl trivial ?_ rfl
  simp only [Try.ntmps38, List.size_toArray, List.length_cons, List.length_nil, Nat.reduceAdd, Nat.reduceSub, Array.replicate_succ, Array.replicate_zero, List.push_toArray, List.append_toArray, List.nil_append, List.cons_append]
  refine wpIn_wide.2 ?_
  refine wp_mono (Q := calmPost _) ?_ (fun e a w h => calm_le h)
  have kA : Keep No w ((w.alloc (.cells #[.pointer (some ⟨g, 0, none⟩)] 65)).alloc (.cells #[.slice none 0 0] 64)) := ((Keep.refl _ _).alloc _).alloc _
  have hbx0 := ((Keep.refl No (w.alloc (.cells #[.pointer (some ⟨g, 0, none⟩)] 65))).alloc (.cells #[.slice none 0 0] 64)).heap (heap_new w (.cells #[.pointer (some ⟨g, 0, none⟩)] 65)) (fun e => e)
  have hbx1 := heap_new (w.alloc (.cells #[.pointer (some ⟨g, 0, none⟩)] 65)) (.cells #[.slice none 0 0] 64)
  have HK := Lib.hid (And.intro kA (And.intro hbx0 hbx1))
  clear kA hbx0 hbx1
  go_wp2_with (first
    | (go_at_call 50; refine (lAll_spec _ g).mono ?_; rintro e w3 ⟨rfl, rfl⟩)
    | (go_at_call 44; refine (HF.out.1 _ HK.out.1).mono ?_; rintro e w2 ⟨rfl, k2⟩; have c1 := cell_of (k2.heap HK.out.2.1 (fun e => e)) 0; simp at c1; have hlt2 : w.heap.size < w2.heap.size := heap_lt (k2.heap HK.out.2.1 (fun e => e)); have c1' := (((Keep.refl No w2).alloc (.cells #[.int .u64 f] 26)).alloc (.cells #[.bool true] 4)).cell c1 (fun e => e)))
  have hk0 : Keep No w (((w2.alloc (.cells #[.int .u64 f] 26)).alloc (.cells #[.bool true] 4)).alloc (.cells #[.pointer (some ⟨g, 0, none⟩)] 65)) := (((HK.out.1.then k2).alloc _).alloc _).alloc _
  have hL0 := HH.out.1.no hk0
  have hx5 := ((Keep.refl No (w2.alloc (.cells #[.int .u64 f] 26))).alloc (.cells #[.bool true] 4) |>.alloc (.cells #[.pointer (some ⟨g, 0, none⟩)] 65)).heap (heap_new w2 (.cells #[.int .u64 f] 26)) (fun e => e)
  have hx6 := ((Keep.refl No ((w2.alloc (.cells #[.int .u64 f] 26)).alloc (.cells #[.bool true] 4))).alloc (.cells #[.pointer (some ⟨g, 0, none⟩)] 65)).heap (heap_new (w2.alloc (.cells #[.int .u64 f] 26)) (.cells #[.bool true] 4)) (fun e => e)
  have hxB := heap_new ((w2.alloc (.cells #[.int .u64 f] 26)).alloc (.cells #[.bool true] 4)) (.cells #[.pointer (some ⟨g, 0, none⟩)] 65)
  have k02 : Keep No w2 (((w2.alloc (.cells #[.int .u64 f] 26)).alloc (.cells #[.bool true] 4)).alloc (.cells #[.pointer (some ⟨g, 0, none⟩)] 65)) := (((Keep.refl _ _).alloc _).alloc _).alloc _
  have hx4 := k02.heap (k2.heap HK.out.2.2 (fun e => e)) (fun e => e)
  have hxl := k02.heap (k2.heap HK.out.2.1 (fun e => e)) (fun e => e)
  simp only [World.size_alloc] at hx4 hx6 hxB
  have hsz0 : (((w2.alloc (.cells #[.int .u64 f] 26)).alloc (.cells #[.bool true] 4)).alloc (.cells #[.pointer (some ⟨g, 0, none⟩)] 65)).heap.size = w2.heap.size + 1 + 1 + 1 := by simp
  have hw12 := k2.size
  simp only [World.size_alloc] at hw12
  clear c1 c1' hlt2
  generalize hW0 : (((w2.alloc (.cells #[.int .u64 f] 26)).alloc (.cells #[.bool true] 4)).alloc (.cells #[.pointer (some ⟨g, 0, none⟩)] 65)) = W0 at *
  have HW := Lib.hid (And.intro hk0 (And.intro hL0 (And.intro hx4 (And.intro hx5 (And.intro hx6 (And.intro hxB (And.intro hxl (And.intro hsz0 hw12))))))))
  clear hk0 hL0 hx4 hx5 hx6 hxB hxl k02 hsz0 hw12 hW0 k2
  have hbox : ∀ b, BoxF (w.heap.size + 1) w2.heap.size (w2.heap.size + 1) b → w.heap.size < b ∧ b < w2.heap.size + 1 + 1 := fun b hb => by
    have := HW.out.2.2.2.2.2.2.2.2
    rcases hb with rfl | rfl | rfl <;> omega
  have hFoot : Foot base W0 (BoxF (w.heap.size + 1) w2.heap.size (w2.heap.size + 1)) := fun b hb => by
    have h1 := hbox b hb
    have h2 := HW.out.2.2.2.2.2.2.2.1
    have h3 := HH.out.2.1
    refine ⟨by omega, by omega, fun cs fr e => ?_⟩
    rcases hb with rfl | rfl | rfl
    · rw [HW.out.2.2.1] at e; simp at e
    · rw [HW.out.2.2.2.1] at e; simp at e
    · rw [HW.out.2.2.2.2.1] at e; simp at e
  have hFl : ∀ b, lfoot g sv lv b → ¬ BoxF (w.heap.size + 1) w2.heap.size (w2.heap.size + 1) b := fun b hb hf => by have := HH.out.1.lt b hb; have := hbox b hf; omega
  have hFB : ¬ BoxF (w.heap.size + 1) w2.heap.size (w2.heap.size + 1) (w2.heap.size + 1 + 1) := fun hf => by have := hbox _ hf; omega
  have hFw : ¬ BoxF (w.heap.size + 1) w2.heap.size (w2.heap.size + 1) w.heap.size := fun hf => by have := hbox _ hf; omega
  have hcB := cell_of HW.out.2.2.2.2.2.1 0
  simp at hcB
  have hseq := lAll_says (n := 5) (by decide) HW.out.2.1 (Nat.le_trans HH.out.2.1 HW.out.1.size) (Nat.le_trans HH.out.2.2.1 HW.out.1.size) (by have := HH.out.2.2.2.1; omega) (by have := HH.out.2.2.2.2.1; omega) (fun b hb => Nat.le_trans (HH.out.2.2.2.2.2.1 b hb) (by decide)) hcB hFoot hFl hFB
  refine (wpIn_wide (n := 6)).1 ?_
  refine wpIn_rangeSays rfl (by decide) (gf := 80) (lb := #[.pointer (some ⟨w2.heap.size + 1 + 1, 0, none⟩)]) rfl trivial (enters_of Try.func80 (by kernel_rfl) rfl) hseq
    (fun h k => h.trans k) (fun A B row hs hg hr => KeepTo.grown hg hs hr) (fun _ => rfl) (RecI base L f W0 (w.heap.size + 1) w2.heap.size (w2.heap.size + 1)) (RecI.own _ _ _ _ _ _ _) (fun pre x s A B row h hg hr => by obtain ⟨b, h1, h2, h3⟩ := h; exact ⟨b, h1, h2, h3.turned hg hr⟩) ⟨⟨_, HW.out.2.2.1, World.ownsRow_nil _ _ _ _⟩, HW.out.2.2.2.1, HW.out.2.2.2.2.1, fun i x hx => by simp at hx, KeepTo.refl _ _ _⟩
    (fun x => { tmps := #[.pointer (some ⟨g, 0, none⟩), .pointer (some ⟨w.heap.size, 0, none⟩), .slice none 0 0, .bool false, .pointer (some ⟨w.heap.size + 1, 0, none⟩), .pointer (some ⟨w2.heap.size, 0, none⟩), .pointer (some ⟨w2.heap.size + 1, 0, none⟩), .int .u64 x.1, x.2, undef, undef, undef, undef, undef, undef, .pointer (some ⟨g, 0, none⟩), .int .u64 f, .pointer (some ⟨g, 0, none⟩), .func (.func 80) #[] #[.pointer (some ⟨w2.heap.size + 1 + 1, 0, none⟩)], .int .u64 x.1, x.2, undef, undef, undef, undef, undef, undef, undef, undef, undef, undef, undef, undef, undef, undef, undef, undef, undef, undef, undef, undef, undef, undef, undef, undef, undef, undef, undef, undef, undef, undef, undef, undef, undef, undef, undef, undef, undef, undef, undef, undef, undef, undef, undef, undef, undef, undef, undef, undef, undef, undef, undef, undef, undef, undef, undef, undef, undef, undef], defers := [] }) ?assign ?body ?done
  case assign =>
    intro l x W K hK
    unfold itemArgs
    gi_wp2
    exact hK
  case body =>
    rintro l pre ⟨m, pv⟩ W hI ⟨b, hb, hm0, hB⟩
    obtain ⟨⟨v, h4, hrow⟩, h5, h6, hall, hk⟩ := hI
    have hm : m = f + pre.length := by have h1 := HF.out.2; have h2 : m = L.next - L.recs.length + pre.length := hm0; omega
    clear hm0
    obtain ⟨po, pc, rfl⟩ := BytesAt.form hB
    obtain ⟨vo, vc, rfl, hv1, hv2⟩ := row_form hrow
    have hLW := HW.out.2.1.keep hFoot hk.keep hFl
    have hget := lGet_in hLW (by have := HH.out.2.2.2.1; omega) (by have := HH.out.2.2.2.2.1; omega) hb (Nat.le_trans (HH.out.2.2.2.2.2.1 b (List.mem_of_getElem? hb)) (by decide))
    rw [HF.out.2, ← hm] at hget
    have hlt := (List.getElem?_eq_some_iff.1 hb).1
    have cl := cell_of (hk.keep.heap HW.out.2.2.2.2.2.2.1 hFw) 0
    have c4 := cell_of h4 0
    have c5 := cell_of h5 0
    have c6 := cell_of h6 0
    simp at cl c4 c5 c6
    rw [← hm] at h5
    have c5 : W.cell? ⟨w2.heap.size, 0, none⟩ = some (.int .u64 m) := by rw [cell_of h5 0]; rfl
    have hmx : (m : Int) ≤ 4611686018427387904 := by have := HH.out.2.2.2.1; have := HH.out.2.2.2.2.1; have := HF.out.2; omega
    have hmw : IntKind.u64.wrap ((m : Int) + 1) = ((m + 1 : Nat) : Int) := by rw [wraps_u64 _ (by omega) (by omega)]; omega
    have HB := Lib.hid (And.intro hB (And.intro hrow (And.intro h4 (And.intro h5 (And.intro h6 (And.intro hall (And.intro hk (And.intro hb (And.intro hm (And.intro hlt hmx))))))))))
    clear hB hrow h4 h5 h6 hall hk hb hm hlt hLW hv1 hv2 hseq hmx
    have hn1 : ¬ (w.heap.size + 1 = w2.heap.size) := fun e => by have := HW.out.2.2.2.2.2.2.2.2; omega
    have hn2 : ¬ (w.heap.size = w2.heap.size) := fun e => by have := HW.out.2.2.2.2.2.2.2.2; omega
    have hn3 : ¬ (w2.heap.size = w.heap.size + 1) := fun e => hn1 e.symm
    have hn4 : ¬ (w2.heap.size = w.heap.size) := fun e => hn2 e.symm
    obtain ⟨i0, hi, hz0, hz1, hz2⟩ := info_parts info_bytes
    have hl5 : w2.heap.size < W0.heap.size := by have := HW.out.2.2.2.2.2.2.2.1; omega
    have hl6 : w2.heap.size + 1 < W0.heap.size := by have := HW.out.2.2.2.2.2.2.2.1; omega
    have he45 : w.heap.size + 1 ≠ w2.heap.size := hn1
    have he46 : w.heap.size + 1 ≠ w2.heap.size + 1 := fun e => hn2 (by omega)
    have he56 : w2.heap.size ≠ w2.heap.size + 1 := by omega
    have hpl : pre.length + 1 ≤ 4611686018427387904 := by have := HH.out.2.2.2.1; have := HH.out.2.2.2.2.1; have := HB.out.2.2.2.2.2.2.2.2.2.1; omega
    have HE := Lib.hid (And.intro hl5 (And.intro hl6 (And.intro he45 (And.intro he46 (And.intro he56 hpl)))))
    clear hpl
    gi_wp2_with (first
      | (gi_at_builtin; refine wpListIn_append_own _ rfl _ _ 64 rfl W0.heap.size 27 i0 (.slice none 0 0) 1 24 Try.underlying64 hi hz0 hz1 hz2 rfl (by decide) _ _ _ rfl zrow ⟨W2.heap.size, 0, none⟩ 1 1 [.slice po b.length pc] rfl rfl (World.news_of_block (cs := #[.slice po b.length pc]) (t := 27) (fr := (0, 0)) zn) (by simp [Value.oneCell']) (by have := HE.out.2.2.2.2.2; unfold maxLen; omega) (by have := HH.out.2.2.2.2.2.2; have := HB.out.2.2.2.2.2.2.2.2.2.1; omega) (Nat.le_trans HB.out.2.2.2.2.2.2.1.size (Nat.le_trans k1.size (Nat.le_trans k2.size zk.size))) ?_; intro v7 W7 hrow7 hg7 _; obtain ⟨vo7, vc7, rfl, hv71, hv72⟩ := row_form hrow7; have k7 := own_grown hg7; have hvn : ∀ c, (Value.slice vo pre.length vc).ownBlock = some c → W0.heap.size ≤ c := fun c hc => (row_kind zrow c hc).1; have q4 := k7.heap z4 (fun e => by have := hvn _ e; have := HE.out.1; have := HW.out.2.2.2.2.2.2.2.2; omega); have p4 := cell_of q4 0; have g4 := frozen_of q4 0; simp at p4)
      | (refine ⟨trivial, ?_⟩; gi_at_call 26; refine (CallsIn.inRound l (callsIn_wide.2 (r1same_spec (HB.out.1.no k1) (own1.bytes (base := base) (fun _ => Nat.le_trans HH.out.2.2.1 (Nat.le_trans HW.out.1.size HB.out.2.2.2.2.2.2.1.size)))))).mono ?_; rintro e W2 ⟨rfl, k2⟩; have x4 := (k1.then k2).heap HB.out.2.2.1 (fun e => e); have x5 := (k1.then k2).heap HB.out.2.2.2.1 (fun e => e); have x6 := (k1.then k2).heap HB.out.2.2.2.2.1 (fun e => e); have y4 := cell_of x4 0; have y5 := cell_of x5 0; have y6 := cell_of x6 0; have f4 := frozen_of x4 0; have f5 := frozen_of x5 0; have f6 := frozen_of x6 0; simp at y4 y5 y6; have xrow := row_keep HB.out.2.1 (k1.then k2) (fun _ _ e => e); obtain ⟨zrow, z4, z5, z6, zn, zo, zk⟩ := rec_store (u := .slice po b.length pc) (k := (m : Int) + 1) x4 x5 x6 xrow hl5 hl6 he45 he46 he56)
      | (refine ⟨trivial, ?_⟩; gi_at_call 49; refine (CallsIn.inRound l (callsIn_wide.2 hget)).mono ?_; rintro e W1 ⟨q1, rfl, own1, k1⟩; obtain ⟨qo, qc, rfl⟩ := own1.form; have c5' := k1.cell c5 (fun e => e); have c6' := k1.cell c6 (fun e => e)))
    have q5 := k7.heap z5 (fun e => by have := hvn _ e; have := HE.out.1; omega)
    have q6 := k7.heap z6 (fun e => by have := hvn _ e; have := HE.out.2.1; omega)
    have k8 : Keep (· = w.heap.size + 1) W7 (W7.setCell ⟨w.heap.size + 1, 0, none⟩ (.slice vo7 (pre.length + 1) vc7)) := Keep.setCell (F := (· = w.heap.size + 1)) (Keep.refl _ _) (p := ⟨w.heap.size + 1, 0, none⟩) (.inl rfl) _
    have q8 := heap_setCell_same (i := 0) (u := .slice vo7 (pre.length + 1) vc7) q4
    have hb4lt : w.heap.size + 1 < W0.heap.size := by have := HW.out.2.2.2.2.2.2.2.2; have := HE.out.1; omega
    obtain ⟨hB, hrow, h4, h5, h6, hall, hk, hb, hm, hlt, hmx⟩ := HB.out
    have k12 := k1.then k2
    have hszW := hk.size
    have k7t : KeepTo W0.heap.size (BoxF (w.heap.size + 1) w2.heap.size (w2.heap.size + 1)) _ W7 := ⟨k7.os, k7.tape, k7.output, k7.size, fun c hc _ => k7.block c (by have := zk.size; have := k12.size; omega) (fun e => by have := hvn c e; omega)⟩
    have kt : KeepTo W0.heap.size (BoxF (w.heap.size + 1) w2.heap.size (w2.heap.size + 1)) W (W7.setCell ⟨w.heap.size + 1, 0, none⟩ (.slice vo7 (pre.length + 1) vc7)) :=
      (((k12.no (F := BoxF (w.heap.size + 1) w2.heap.size (w2.heap.size + 1))).to hszW).trans (zk.to (Nat.le_trans hszW k12.size))).trans (k7t.trans ((k8.mono (fun _ _ e => .inl e)).to (by have := zk.size; have := k12.size; have := k7.size; omega)))
    have kG : Keep (fun c => BoxF (w.heap.size + 1) w2.heap.size (w2.heap.size + 1) c ∨ (Value.slice vo pre.length vc).ownBlock = some c) W2 (W7.setCell ⟨w.heap.size + 1, 0, none⟩ (.slice vo7 (pre.length + 1) vc7)) :=
      ((zk.mono (fun _ _ e => .inl e)).trans k7 (fun _ _ e => .inr e)).trans k8 (fun _ _ e => .inl (.inl e))
    have hFG : Foot base W2 (fun c => BoxF (w.heap.size + 1) w2.heap.size (w2.heap.size + 1) c ∨ (Value.slice vo pre.length vc).ownBlock = some c) := fun c hc => by
      have h1 := HH.out.2.1
      rcases hc with hc | hc
      · have h2 := hbox c hc
        have h3 := k12.size
        refine ⟨by omega, by omega, fun cs fr e => ?_⟩
        rcases hc with rfl | rfl | rfl
        · rw [x4] at e; simp at e
        · rw [x5] at e; simp at e
        · rw [x6] at e; simp at e
      · obtain ⟨h2, cu, hz⟩ := row_kind xrow c hc
        have h4 := HW.out.1.size
        exact ⟨by omega, heap_lt hz, fun cs fr e => by rw [hz] at e; simp at e⟩
    have hbb := fun (v' : Value) (b' : Bytes) (h : BytesAt base W v' b') => (h.no k12).keep hFG kG
    refine ⟨(k12.others.trans zo).trans ((KeepsOthers.of_grownBy hg7 (fun j o e1 e2 => ?_)).trans (KeepsOthers.setCell _ _ _)), kt, ⟨⟨_, q8, ?_⟩, ?_, ?_, ?_, hk.trans kt⟩⟩
    · obtain ⟨_, cu, hz⟩ := row_kind zrow j e1
      rw [hz] at e2; cases e2; rfl
    · have hr8 := row_keep hrow7 k8 (fun c e1 e2 => by have := (row_kind hrow7 c e1).1; omega)
      simpa using hr8
    · have e : ((f + (pre ++ [((m : Nat), Value.slice po b.length pc)]).length : Nat) : Int) = (m : Int) + 1 := by simp; omega
      rw [e]
      exact k8.heap q5 (fun e => HE.out.2.2.1 e.symm)
    · exact k8.heap q6 (fun e => HE.out.2.2.2.1 e.symm)
    · intro i x hx
      by_cases hi : i < pre.length
      · rw [List.getElem?_append_left hi] at hx
        obtain ⟨b', h1, h2⟩ := hall i x hx
        exact ⟨b', h1, hbb _ _ h2⟩
      · rw [List.getElem?_append_right (by omega)] at hx
        have h0 : i - pre.length = 0 := by have := (List.getElem?_eq_some_iff.1 hx).1; simp at this; omega
        rw [h0] at hx
        simp at hx
        subst hx
        obtain rfl : i = pre.length := by omega
        exact ⟨b, hb, hbb _ _ hB⟩
  case done =>
    rintro D xs W hD hS hI hK
    obtain ⟨⟨v, h4, hrow⟩, h5, h6, hall, hk⟩ := hI
    obtain ⟨vo, vc, rfl, hv1, hv2⟩ := row_form hrow
    have hLW := HW.out.2.1.keep hFoot hk.keep hFl
    have hS : xs.length = L.recs.length := hS
    have cl := cell_of (hk.keep.heap HW.out.2.2.2.2.2.2.1 hFw) 0
    have c4 := cell_of h4 0
    have c6 := cell_of h6 0
    have c5 : W.cell? ⟨w2.heap.size, 0, none⟩ = some (.int .u64 L.next) := by
      rw [cell_of h5 0]
      have h1 := HF.out.2
      have h2 := HH.out.2.2.2.2.1
      have e : f + xs.length = L.next := by omega
      simp [e]
    simp at cl c4 c6
    have hfi : 1 ≤ f := by have h1 := HF.out.2; have h2 := HH.out.2.2.2.2.1; omega
    have hf2 : f ≤ 4611686018427387904 := by have h1 := HF.out.2; have h2 := HH.out.2.2.2.1; omega
    have hfirst := fun (W' : World) (k : Keep No W W') => lFirst_spec (hLW.no k) (by have := HH.out.2.2.2.1; omega) (by have := HH.out.2.2.2.2.1; omega)
    rw [HF.out.2] at hfirst
    have hnext := fun (W' : World) (k : Keep No W W') => lNext_spec (hLW.no k)
    have hout1 := fun (W' : World) (k : Keep No W W') => lGet_out (n := f - 1) (hLW.no k) (by have := HH.out.2.2.2.1; omega) (by have := HH.out.2.2.2.2.1; omega) (.inl (by have := HF.out.2; omega))
    have hout2 := fun (W' : World) (k : Keep No W W') => lGet_out (n := L.next) (hLW.no k) (by have := HH.out.2.2.2.1; omega) (by have := HH.out.2.2.2.2.1; omega) (.inr (Nat.le_refl _))
    have hfw : IntKind.u64.wrap ((f : Int) - 1) = ((f - 1 : Nat) : Int) := by rw [wraps_u64 _ (by omega) (by omega)]; omega
    have HD := Lib.hid (And.intro hfirst (And.intro hnext (And.intro hout1 (And.intro hout2 (And.intro hrow (And.intro hall (And.intro hk (And.intro hS (And.intro hK hD)))))))))
    clear hfirst hnext hout1 hout2 hrow hall hk hS hK hD hLW h4 h5 h6 hv1 hv2 hseq hfi hf2
    generalize hf1 : f - 1 = f1 at *
    clear hf1
    go_upto_region 11 with fail
    refine wp_drawS (fun w' => Keep No W w') [([0, 1], [2, 3, 4, 5]), ([6, 7], [8, 9])] (by kernel_rfl) (by kernel_rfl) (fun _ _ _ _ _ h => h) (Keep.refl _ _).drew ?_
    have kd : Keep No W W.drew := (Keep.refl _ _).drew
    iterate 2 (refine earlyN_cons (v := ?_) rfl rfl rfl ?_ ?_; rotate_left; focus (
      intro w' hq
      have cl' := hq.cell cl (fun e => e)
      go_simp
      try with_reducible rfl))
    refine earlyN_nil ?_
    refine midN_cons rfl rfl (fun K hK => ?_)
    go_simp
    refine (HD.out.1 _ kd).mono ?_
    rintro e W1 ⟨rfl, k1⟩
    have kd := kd.then k1
    refine hK _ _ kd ?_
    clear hK K
    refine midN_cons rfl rfl (fun K hK => ?_)
    go_simp
    refine hK _ _ kd ?_
    clear hK K
    refine midN_cons rfl rfl (fun K hK => ?_)
    go_simp
    refine (HD.out.2.2.1 _ kd).mono ?_
    rintro e W2 ⟨rfl, k2⟩
    have kd := kd.then k2
    refine hK _ _ kd ?_
    clear hK K
    refine midN_cons rfl rfl (fun K hK => ?_)
    go_simp
    refine hK _ _ kd ?_
    clear hK K
    refine midN_nil ?_
    iterate 2 (refine earlyN_cons (v := ?_) rfl rfl rfl ?_ ?_; rotate_left; focus (
      intro w' hq
      go_simp
      try with_reducible rfl))
    refine earlyN_nil ?_
    iterate 2 (refine midN_cons rfl rfl (fun K hK => ?_); go_simp; refine hK _ _ kd ?_; clear hK K)
    refine midN_nil ?_
    unfold stagesN
    go_upto_region 12 with fail
    refine wp_drawS (fun w' => Keep No W w') [([0, 1], [2, 3, 4]), ([5, 6], [7, 8])] (by kernel_rfl) (by kernel_rfl) (fun _ _ _ _ _ h => h) kd.drew ?_
    have kd := kd.drew
    iterate 2 (refine earlyN_cons (v := ?_) rfl rfl rfl ?_ ?_; rotate_left; focus (
      intro w' hq
      have cl' := hq.cell cl (fun e => e)
      go_simp
      try with_reducible rfl))
    refine earlyN_nil ?_
    refine midN_cons rfl rfl (fun K hK => ?_)
    go_simp
    refine (HD.out.2.1 _ kd).mono ?_
    rintro e W3 ⟨rfl, rfl⟩
    refine hK _ _ kd ?_
    clear hK K
    refine midN_cons rfl rfl (fun K hK => ?_)
    go_simp
    refine (HD.out.2.2.2.1 _ kd).mono ?_
    rintro e W4 ⟨rfl, k4⟩
    have kd := kd.then k4
    refine hK _ _ kd ?_
    clear hK K
    refine midN_cons rfl rfl (fun K hK => ?_)
    go_simp
    refine hK _ _ kd ?_
    clear hK K
    refine midN_nil ?_
    iterate 2 (refine earlyN_cons (v := ?_) rfl rfl rfl ?_ ?_; rotate_left; focus (
      intro w' hq
      go_simp
      try with_reducible rfl))
    refine earlyN_nil ?_
    iterate 2 (refine midN_cons rfl rfl (fun K hK => ?_); go_simp; refine hK _ _ kd ?_; clear hK K)
    refine midN_nil ?_
    unfold stagesN
    go_upto_region 13 with fail
    refine wp_drawS (fun w' => Keep No W w') [([0, 1, 2, 3, 4], [5]), ([6, 7, 8, 9, 10, 11, 12, 13, 14, 15], [16, 17])] (by kernel_rfl) (by kernel_rfl) (fun _ _ _ _ _ h => h) kd.drew ?_
    have kd := kd.drew
    iterate 3 (refine earlyN_cons (v := ?_) rfl rfl rfl ?_ ?_; rotate_left; focus (
      intro w' hq
      have c4' := hq.cell c4 (fun e => e)
      have c6' := hq.cell c6 (fun e => e)
      go_simp
      try with_reducible rfl))
    iterate 2 (refine earlyN_guarded (v := ?_) rfl rfl (by first | kernel_rfl | simp [Region.wanted, yielded, Act.put, undef]) ?_ ?_; rotate_left; focus (
      intro w' hq
      have cl' := hq.cell cl (fun e => e)
      have c5' := hq.cell c5 (fun e => e)
      go_simp
      try with_reducible rfl))
    refine earlyN_nil ?_
    refine midN_guardedY rfl (by first | kernel_rfl | simp [Region.wanted, yielded, Act.put, undef]) (fun K hK => ?_)
    go_simp
    refine (HD.out.2.1 _ kd).mono ?_
    rintro e W5 ⟨rfl, rfl⟩
    refine hK _ _ kd ?_
    clear hK K
    refine midN_nil ?_
    iterate 1 (refine earlyN_guarded (v := ?_) rfl rfl (by first | kernel_rfl | simp [Region.wanted, yielded, Act.put, undef]) ?_ ?_; rotate_left; focus (
      intro w' hq
      go_simp
      try with_reducible rfl))
    iterate 2 (refine earlyN_cons (v := ?_) rfl rfl rfl ?_ ?_; rotate_left; focus (
      intro w' hq
      go_simp
      try with_reducible rfl))
    iterate 2 (refine earlyN_guarded (v := ?_) rfl rfl (by first | kernel_rfl | simp [Region.wanted, yielded, Act.put, undef]) ?_ ?_; rotate_left; focus (
      intro w' hq
      go_simp
      try with_reducible rfl))
    iterate 2 (refine earlyN_cons (v := ?_) rfl rfl rfl ?_ ?_; rotate_left; focus (
      intro w' hq
      go_simp
      try with_reducible rfl))
    iterate 2 (refine earlyN_guarded (v := ?_) rfl rfl (by first | kernel_rfl | simp [Region.wanted, yielded, Act.put, undef]) ?_ ?_; rotate_left; focus (
      intro w' hq
      go_simp
      try with_reducible rfl))
    iterate 1 (refine earlyN_cons (v := ?_) rfl rfl rfl ?_ ?_; rotate_left; focus (
      intro w' hq
      go_simp
      try with_reducible rfl))
    refine earlyN_nil ?_
    iterate 2 (refine midN_cons rfl rfl (fun K hK => ?_); go_simp; refine hK _ _ kd ?_; clear hK K)
    refine midN_nil ?_
    unfold stagesN
    go_simp
    go_wp2
    obtain ⟨_, _, _, _, hrow, hall, hk, hS, hK, hD⟩ := HD.out
    have hKd := kd.heap hK (fun e => e)
    have hgp := grownBy_putObj' W4.drew D (.deferred none)
    have hnc : ∀ r, some D = some r → ∃ o : Obj, W4.drew.heap[r]? = some o ∧ o.isCells = false := fun r e => by cases e; exact ⟨_, hKd, rfl⟩
    have hrow4 := row_keep hrow kd (fun _ _ e => e)
    refine (show bodyPostM _ _ _ _ _ Exit.ret _ _ from ⟨by simp, .inl ⟨_, _, rfl, run_takeDeferred hKd, ?_⟩⟩)
    refine ⟨_, results_tmp2 rfl _ _ _, .slice vo L.recs.length vc, rfl, ?_, fun b hb => Nat.le_trans HW.out.1.size (row_kind hrow4 b (by rw [hS]; exact hb)).1, ?_⟩
    · refine ⟨xs.map (·.2), by simp [hS], fun i u b e1 e2 => ?_, ?_⟩
      · obtain ⟨x, hx, rfl⟩ : ∃ x, xs[i]? = some x ∧ x.2 = u := by
          rw [List.getElem?_map] at e1
          cases hx : xs[i]? with
          | none => rw [hx] at e1; cases e1
          | some x => rw [hx] at e1; exact ⟨x, rfl, by simpa using e1⟩
        obtain ⟨b', h1, h2⟩ := hall i x hx
        rw [h1] at e2
        cases e2
        exact (h2.no kd).turned hgp hnc
      · rw [hS] at hrow4
        refine ⟨hrow4.1, ?_⟩
        rcases hrow4.2 with h0 | ⟨g', cap', cur', hq, hg1, hg2, hg3⟩
        · exact .inl h0
        · exact .inr ⟨g', cap', cur', hq, Nat.le_trans HH.out.2.1 (Nat.le_trans HW.out.1.size hg1), (grownBy_keeps_cells hgp hnc hg2 rfl).trans hg2, hg3⟩
    · have k2 : Keep No w W := HW.out.1.trans hk.keep (fun x hx e => by have := hbox x e; omega)
      exact (k2.then kd).grown hgp (fun r e => by cases e; exact .inr (Nat.le_trans HW.out.1.size hD))
end Go.Proofs.Ytpjggnfiocplmaa

/-! ## SeqO -/
namespace Go.Proofs.Ytpjggnfiocplmaa
open Go Go.RowKit Go.Dr

set_option maxRecDepth 100000 in
set_option maxHeartbeats 4000000 in
theorem same7_spec [bn : Inhabited Ban] {base : Nat} {w : World} {va vb : Value} {l : List Bytes} (ha : SlicesAt base w va l) (hb : SlicesAt base w vb l) :
    Calls Try.prog 40 #[va, vb] w fun e w' => e = .returned (.bool true) ∧ Keep No w w' := by
  obtain ⟨ua, hua, hba, ao, ac, rfl, hac, ham, hca⟩ := ha
  obtain ⟨ub, hub, hbb, bo, bc, rfl, hbc, hbm, hcb⟩ := hb
  unfold maxLen at ham hbm
  have hli : (l.length : Int) ≤ 9223372036854775807 := by omega
  clear hac ham hbc hbm
  go_enter Try.func40, Try.ntmps40
  go_upto_block 0 with fail
  go_wp2_with fail
  go_loopw [13] (fun i wr => ∃ j : Nat, j ≤ l.length ∧ i = .int .i64 j ∧ Keep No w wr) (fun i _ => l.length - (intOf i).toNat)
  case atStart => exact ⟨0, Nat.zero_le _, rfl, Keep.refl _ _⟩
  case round =>
    obtain ⟨j, hj, rfl, hk⟩ := hrel
    by_cases hlt : j < l.length
    · rcases hca with rfl | ⟨g, o, rfl, hca⟩
      · simp at hlt
      · rcases hcb with rfl | ⟨g', o', rfl, hcb⟩
        · simp at hlt
        · have h1 : ua[j]? = some ua[j] := List.getElem?_eq_getElem (by omega)
          have h2 : ub[j]? = some ub[j] := List.getElem?_eq_getElem (by omega)
          have h3 : l[j]? = some l[j] := List.getElem?_eq_getElem hlt
          have c1 := hk.cell (hca j _ h1) (fun e => e)
          have c2 := hk.cell (hcb j _ h2) (fun e => e)
          have b1 := hba j _ _ h1 h3
          have b2 := hbb j _ _ h2 h3
          generalize ua[j] = u1 at *
          generalize ub[j] = u2 at *
          generalize l[j] = b at *
          obtain ⟨o1, n1, rfl⟩ := b1.form
          obtain ⟨o2, n2, rfl⟩ := b2.form
          have hji : (j : Int) < (l.length : Int) := by omega
          have hs := fun (w' : World) (k : Keep No w w') => r1same_spec (b1.no k) (b2.no k)
          have eq : (b == b) = true := by simp
          simp only [eq] at hs
          have HS := Lib.hid (And.intro hs hlt)
          clear hs h1 h2 h3 b1 b2 eq hlt hca hcb hba hbb hua hub
          generalize l.length = m at *
          go_wp2_with fail
          refine wp_drawN (fun w' => Keep No wr w') [0, 1, 2, 3, 4, 5, 6, 7] [8, 9] [] (by kernel_rfl) (by kernel_rfl) (fun _ _ _ _ _ h => h) (Keep.refl _ _).drew ?_
          have kd : Keep No wr wr.drew := (Keep.refl _ _).drew
          iterate 8 (refine earlyN_cons (v := ?_) rfl rfl rfl ?_ ?_; rotate_left; focus (
            intro w' hq
            have c1' := hq.cell c1 (fun e => e)
            have c2' := hq.cell c2 (fun e => e)
            go_simp
            try with_reducible rfl))
          refine earlyN_nil ?_
          refine midN_cons rfl rfl (fun K hK => ?_)
          go_simp
          refine (HS.out.1 _ (hk.then kd)).mono ?_
          rintro e w3 ⟨rfl, k3⟩
          have kd := kd.then k3
          refine hK _ _ kd ?_
          clear hK K
          refine midN_cons rfl rfl (fun K hK => ?_)
          go_simp
          refine hK _ _ kd ?_
          clear hK K
          refine midN_nil (tailN_nil ?_)
          go_wp2
          go_roundw
          case rel => exact ⟨j + 1, by have := HS.out.2; omega, by go_num, hk.then kd⟩
          case measure => have := HS.out.2; simp [intOf]; omega
    · have hji : ¬ (j : Int) < (l.length : Int) := by omega
      clear hlt
      generalize l.length = m at *
      go_wp2
      go_ret
      exact ⟨rfl, hk⟩
end Go.Proofs.Ytpjggnfiocplmaa
