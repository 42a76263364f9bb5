/- Ranges over iterators of records; equal lists. -/
import Derived.Test.YtfdmbomlkpkegaaGreatLogZ
import Derived.RangeFuncNested
import Derived.RangeFuncBound
import Derived.RangeFuncCalls
import Derived.RangeFuncLeaves
import Derived.RangeFuncKeeps
import Derived.RangeFuncFrom
import Derived.Shelf.Abstract
import Derived.Shelf.RegionOpen
import Derived.WalkKit
import Derived.OwnWalkIn
import Derived.TacticsInMore
import Derived.LoopNIn
import Derived.LoopIn
import Derived.Shelf.AbstractIn
import Derived.RegionIn
import Derived.Test.YtfdmbomlkpkegaaGreatDisk
/-! ## SeqL -/
namespace Go.Proofs.YtfdmbomlkpkegaaGreat
open Go Go.RowKit Go.Shelf

/-- The iterator hands all its elements, each with what the world then says of it. -/
def SeqSays {α : Type} (F : Fence) (n : Nat) (P : Program) (g : Nat) (lb : Array Value) (encs : α → Array Value) (Good : List α → α → World → Prop) (Kp : World → World → Prop) (S : List α → Prop) (w : World) : Prop :=
  ∀ (l : Nat) (J : List α → World → Prop) (W : World), Kp w W → AbidesFrom W.heap.size J →
    (∀ pre x W1, J pre W1 → Good pre x W1 → YieldAt F (n - 1) P l (encs x) W1 fun e W' => e = .returned (.bool true) ∧ J (pre ++ [x]) W' ∧ Kp W1 W') →
    J [] W →
    Go.CallsIn F n P g (#[.func (.yield l) #[] #[]] ++ lb) W fun e W' => (∃ v, e = .returned v) ∧ ∃ xs, S xs ∧ J xs W'
/-- How a body that goes on is left. -/
def goesOn {α : Type} (Kp : World → World → Prop) (I : List α → World → Prop) (xs : List α) (W : World) : Exit → Act → World → Prop
  | .normal, _, W' => KeepsOthers W W' ∧ Kp W W' ∧ I xs W'
  | _, _, _ => False

theorem wpIn_rangeSays {F : Fence} {n : Nat} {P : Program} {α : Type} {g : Operand} {ps : Array Tmp} {assign body : Code} {Q : Exit → Act → World → Prop} {a : Act} {w : World}
    (hro : F.round = none) (h1 : 1 ≤ n) {gf : Nat} {lb : Array Value} (hg : a.eval g = .func (.func gf) #[] lb) (hFg : F.fn gf) (eg : ∀ args w, (callFunc gf args).run P w = .ok (.enter gf args) w)
    {encs : α → Array Value} {Good : List α → α → World → Prop} {Kp : World → World → Prop} {S : List α → Prop} (hseq : SeqSays F (n - 1) P gf lb encs Good Kp S w)
    (hKt : ∀ {A B C : World}, Kp A B → Kp B C → Kp A C) (hKg : ∀ (A B : World) (row : Option Nat), w.heap.size ≤ A.heap.size → A.grownBy B row → (∀ r, row = some r → w.heap.size ≤ r) → Kp A B) (hps : ∀ x, (encs x).size = ps.size)
    (I : List α → World → Prop) (hI : OwnFrom w.heap.size I) (hG : ∀ pre x, Own (fun (_ : Unit) => Good pre x)) (h0 : I [] w) (a₁ : α → Act)
    (hassign : ∀ (l : Nat) (x : α) (W : World) (K : Act → World → Prop), K (a₁ x) W →
      assign.wpIn (F.inRound l) (n - 1 - 1) P (Exit.then K (fun _ _ _ => False)) { tmps := (ps.zip (encs x)).foldl (fun t (p, v) => t.setIfInBounds p v) a.tmps, defers := [] } W)
    (hbody : ∀ (l : Nat) (pre : List α) (x : α) (W : World), I pre W → Good pre x W → body.wpIn (F.inRound l) (n - 1 - 1) P (goesOn Kp I (pre ++ [x]) W) (a₁ x) W)
    (hdone : ∀ (D : Nat) (xs : List α) (W : World), w.heap.size ≤ D → S xs → I xs W → W.heap[D]? = some (.deferred (some [])) → Q .normal { a with defers := { target := .collected D, args := #[] } :: a.defers } W) :
    (Code.rangeFunc g ps assign body).wpIn F n P Q a w := by
  refine wpIn_rangeFunc (fun fn hfn => ?_)
  rw [hro]
  let D := w.heap.size
  let l := w.heap.size + 1
  let rec0 : LoopState → Loop := fun st => { state := st, pending := none, fn, tmps := a.tmps, params := ps, assign, body, defers := D }
  let Wd := w.alloc (.deferred (some []))
  let Wl := Wd.alloc (.loop (rec0 .ready))
  have sd : Wd.heap.size = l := World.size_alloc _ _
  have gd : w.grownBy Wd none := World.grownBy_alloc _ _ _
  have gl : Wd.grownBy Wl none := World.grownBy_alloc _ _ _
  have atL : Wl.heap[l]? = some (.loop (rec0 .ready)) := by
    have h := World.alloc_heap_new Wd (.loop (rec0 .ready))
    rw [sd] at h
    exact h
  have atD : Wl.heap[D]? = some (.deferred (some [])) := (Below.heap_alloc Wd _ D (by rw [sd]; exact Nat.lt_succ_self _)).trans (World.alloc_heap_new w _)
  have k1 : Kp w Wl := hKt (hKg _ _ none (Nat.le_refl _) gd (fun r e => by cases e)) (hKg _ _ none gd.size gl (fun r e => by cases e))
  have i1 : I [] Wl := hI [] Wd Wl none (hI [] w Wd none h0 gd (fun r e => by cases e)) gl (fun r e => by cases e)
  have ent := run_enterLoop_outer (P := P) (w := w) fn a.tmps ps assign body
  refine ⟨l, [{ target := .collected D, args := #[] }], Wl, { target := .fn (.func gf) lb, args := #[.func (.yield l) #[] #[]] }, Wl, gf, #[.func (.yield l) #[] #[]] ++ lb, Wl, ent, ?_, ?_, ?_, fun _ => h1, ?_⟩
  · simp only [resolve, hg]
    simp [go_sem]
  · intro f' hf'
    simp [Target.leads] at hf'
    subst hf'
    exact hFg
  · simp [invoke, go_sem, eg]
  · refine (hseq l (fun pre W => I pre W ∧ W.heap[l]? = some (.loop (rec0 .ready)) ∧ W.heap[D]? = some (.deferred (some []))) Wl k1 ?_ ?_ ⟨i1, atL, atD⟩).mono ?_
    · intro s A B row hs hg' hr
      have hw := fun r e => (hr r e).2
      refine ⟨hI s A B row hs.1 hg' (fun r e => ?_), (grownBy_keeps hg' hw hs.2.1 rfl).trans hs.2.1, (grownBy_keeps hg' hw hs.2.2 rfl).trans hs.2.2⟩
      obtain ⟨h1, o, ho, hw⟩ := hr r e
      have h2 : w.heap.size ≤ Wl.heap.size := by simp [Wl, Wd]; omega
      exact ⟨Nat.le_trans h2 h1, o, ho, Obj.not_cells_of_walk hw⟩
    · rintro pre x W ⟨hi, hl, hd⟩ hgood
      have hlt : l < W.heap.size := heap_lt hl
      have hy := run_yield (P := P) (args := encs x) hl (hps x)
      refine ⟨fn, _, assign, body, hy, roundIn_of_wpIn hfn (hassign _ x W _ ⟨_, run_beginRound hl rfl, ?_⟩)⟩
      let Wb := W.putObj l (.loop (rec0 .busy))
      have hlb : Wb.heap[l]? = some (.loop (rec0 .busy)) := World.putObj_heap_same hlt
      have hdb : Wb.heap[D]? = some (.deferred (some [])) := (World.putObj_heap_other (Nat.ne_of_lt (Nat.lt_succ_self _))).trans hd
      have kb : Kp W Wb := hKg _ _ (some l) (Nat.le_trans (Nat.le_succ _) (Nat.le_of_lt hlt)) (grownBy_putObj' W l _) (fun r e => by cases e; exact Nat.le_succ _)
      have ib : I pre Wb := hI.putObj _ hi (Nat.le_succ _) hl rfl
      have gb : Good pre x Wb := (hG pre x).putObj (s := ()) _ hgood hl rfl
      refine wpIn_mono (hbody l pre x Wb ib gb) (fun e a3 W3 hp => ?_)
      cases e with
      | normal =>
        obtain ⟨ho, hk, hi3⟩ := hp
        have hl3 := ho.same _ _ hlb rfl
        refine ⟨_, _, run_endRound (P := P) none hl3, rfl, ⟨hI.putObj _ hi3 (Nat.le_succ _) hl3 rfl, World.putObj_heap_same (heap_lt hl3), (World.putObj_heap_other (Nat.ne_of_lt (Nat.lt_succ_self _))).trans (ho.same _ _ hdb rfl)⟩, ?_⟩
        exact hKt (hKt kb hk) (hKg _ _ (some l) (Nat.le_trans (Nat.le_succ _) (Nat.le_of_lt (heap_lt hl3))) (grownBy_putObj' W3 l _) (fun r e => by cases e; exact Nat.le_succ _))
      | _ => exact hp.elim
    · rintro e W2 ⟨⟨v, rfl⟩, xs, hS, hi, hl, hd⟩
      exact ⟨none, _, run_endLoop (P := P) hl (by simp [rec0]), hdone D xs _ (Nat.le_refl _) hS (hI.putObj _ hi (Nat.le_succ _) hl rfl) ((World.putObj_heap_other (Nat.ne_of_lt (Nat.lt_succ_self _))).trans hd)⟩
end Go.Proofs.YtfdmbomlkpkegaaGreat

/-! ## SeqM -/
namespace Go.Proofs.YtfdmbomlkpkegaaGreat
open Go Go.RowKit Go.Shelf
attribute [local go_sem] Oper.semAt_some

/-- What lay below n1 stays, but for F. -/
structure KeepTo (n1 : Nat) (F : Nat → Prop) (w w' : World) : Prop where
  os : w'.os = w.os
  tape : w'.tape = w.tape
  output : w'.output = w.output
  size : w.heap.size ≤ w'.heap.size
  block : ∀ b, b < n1 → ¬ F b → w'.heap[b]? = w.heap[b]?
theorem KeepTo.trans {n1 : Nat} {F : Nat → Prop} {a b c : World} (h : KeepTo n1 F a b) (k : KeepTo n1 F b c) : KeepTo n1 F a c :=
  ⟨k.os.trans h.os, k.tape.trans h.tape, k.output.trans h.output, Nat.le_trans h.size k.size, fun x hx hn => (k.block x hx hn).trans (h.block x hx hn)⟩
theorem KeepTo.keep {F : Nat → Prop} {w w' : World} (h : KeepTo w.heap.size F w w') : Keep F w w' := ⟨h.os, h.tape, h.output, h.size, h.block⟩
theorem Keep.to {F : Nat → Prop} {w w' : World} (h : Keep F w w') {n1 : Nat} (hn : n1 ≤ w.heap.size) : KeepTo n1 F w w' := ⟨h.os, h.tape, h.output, h.size, fun b hb hf => h.block b (by omega) hf⟩
theorem KeepTo.refl (n1 : Nat) (F : Nat → Prop) (w : World) : KeepTo n1 F w w := ⟨rfl, rfl, rfl, Nat.le_refl _, fun _ _ _ => rfl⟩
theorem KeepTo.grown {n1 : Nat} {F : Nat → Prop} {w w' : World} {row : Option Nat} (h : w.grownBy w' row) (hn : n1 ≤ w.heap.size) (hr : ∀ r, row = some r → n1 ≤ r) : KeepTo n1 F w w' :=
  ⟨h.os, h.tape, h.output, h.size, fun b hb _ => h.block b (by omega) (fun e => by have := hr b e.symm; omega)⟩
theorem Keep.grownBy {w w' : World} (h : Keep No w w') : w.grownBy w' none := ⟨h.os, h.tape, h.output, h.size, fun b hb _ => h.block b hb (fun e => e)⟩

abbrev Item := Nat × Value
def itemArgs (x : Item) : Array Value := #[.int .u64 x.1, x.2]
/-- What the iterator says of what it hands. -/
def ItemOk [bn : Inhabited Ban] (base : Nat) (L : LogS) (pre : List Item) (x : Item) (W : World) : Prop :=
  ∃ b, L.recs[pre.length]? = some b ∧ x.1 = L.next - L.recs.length + pre.length ∧ BytesAt base W x.2 b

set_option maxRecDepth 100000 in
set_option maxHeartbeats 4000000 in
theorem lAll_says [bn : Inhabited Ban] (n : Nat) (hn : 1 ≤ n) {base : Nat} {w : World} {g p B : Nat} {sv lv : Value} {L : LogS} {F : Nat → Prop} (h : LogAt base w g p sv lv L) (hb : base ≤ w.heap.size) (hT : ban.top ≤ w.heap.size) (hx : L.next ≤ 9223372036854775807) (hr : L.recs.length ≤ L.next) (hl : ∀ b ∈ L.recs, b.length ≤ 35184372088832)
    (hbox : w.cell? ⟨B, 0, none⟩ = some (.pointer (some ⟨g, 0, none⟩))) (hF : Foot base w F) (hFl : ∀ b, lfoot g sv lv b → ¬ F b) (hFB : ¬ F B) :
    SeqSays Fence.wide n Tryz.prog 103 #[.pointer (some ⟨B, 0, none⟩)] itemArgs (ItemOk base L) (KeepTo w.heap.size F) (fun xs => xs.length = L.recs.length) w := by
  intro l J W hW hJ hY h0
  have hat := fun (W' : World) (k : KeepTo w.heap.size F w W') => h.keep hF k.keep hFl
  have hbx := fun (W' : World) (k : KeepTo w.heap.size F w W') => k.keep.cell hbox hFB
  have hfirst := fun (W' : World) (k : KeepTo w.heap.size F w W') => lFirst_spec (hat W' k) hx hr
  have hnext := fun (W' : World) (k : KeepTo w.heap.size F w W') => lNext_spec (hat W' k)
  have hget := fun (W' : World) (k : KeepTo w.heap.size F w W') (i : Nat) (b : Bytes) (hi : L.recs[i]? = some b) => lGet_in (hat W' k) hx hr hi (hl b (List.mem_of_getElem? hi))
  obtain ⟨f, hf⟩ : ∃ f, L.next - L.recs.length = f := ⟨_, rfl⟩
  rw [hf] at hfirst hget
  have hbW := hbx W hW
  have hfx : L.next = f + L.recs.length := by omega
  have HP := Lib.hid (And.intro hJ (And.intro hY (And.intro hfirst (And.intro hnext (And.intro hget (And.intro hbx (And.intro hW (And.intro h0 (And.intro hb (And.intro hT hf))))))))))
  clear hJ hY hW h0 hat hbx hfirst hnext hget h hb hT hbox hF hFl hFB hf hl hr
  refine callsIn_of_wp Tryz.func103 rfl trivial ?_ rfl
  simp only [Tryz.ntmps103, List.size_toArray, List.length_cons, List.length_nil, Nat.reduceAdd, Nat.reduceSub, Array.replicate_succ, Array.replicate_zero, List.push_toArray, List.append_toArray, List.nil_append, List.cons_append]
  gi_wp2_with (refine ⟨trivial, ?_⟩; gi_at_call 104; refine (callsIn_wide.2 (HP.out.2.2.1 _ HP.out.2.2.2.2.2.2.1)).mono ?_; rintro e W1 ⟨rfl, k1⟩)
  have hJ1 : J [] W1 := HP.out.1 [] W W1 none HP.out.2.2.2.2.2.2.2.1 k1.grownBy (fun r e => by cases e)
  have hk1 : KeepTo w.heap.size F w W1 := HP.out.2.2.2.2.2.2.1.trans ((k1.no (F := F)).to HP.out.2.2.2.2.2.2.1.size)
  have HW := Lib.hid (And.intro HP.out.2.2.2.2.2.2.1.size (And.intro hJ1 hk1))
  clear hJ1 hk1 hbW
  gi_loopw [3] (fun nv wr => ∃ pre : List Item, J pre wr ∧ pre.length ≤ L.recs.length ∧ nv = .int .u64 (f + pre.length : Nat) ∧ KeepTo w.heap.size F w wr ∧ W.heap.size ≤ wr.heap.size) (fun nv _ => L.next - (intOf nv).toNat)
  case atStart => exact ⟨[], HW.out.2.1, Nat.zero_le _, rfl, HW.out.2.2, k1.size⟩
  case round =>
    clear k1
    obtain ⟨pre, hJp, hpl, rfl, hkp, hsz⟩ := hrel
    have hbr := HP.out.2.2.2.2.2.1 _ hkp
    obtain ⟨m, hm⟩ : ∃ m, m = f + pre.length := ⟨_, rfl⟩
    rw [← hm]
    by_cases hlt : pre.length < L.recs.length
    · have hri : L.recs[pre.length]? = some L.recs[pre.length] := List.getElem?_eq_getElem hlt
      have hget := HP.out.2.2.2.2.1 _ hkp pre.length _ hri
      rw [← hm] at hget
      generalize L.recs[pre.length] = b at *
      have hmi : (m : Int) < (L.next : Int) := by omega
      have hnx := HP.out.2.2.2.1 _ hkp
      have hmw : IntKind.u64.wrap ((m : Int) + 1) = ((m + 1 : Nat) : Int) := by rw [wraps_u64 _ (by omega) (by omega)]; omega
      have HR := Lib.hid (And.intro hJp (And.intro hri (And.intro hm (And.intro hlt (And.intro hkp hsz)))))
      clear hJp hri hm hlt hkp hsz hpl hfx hx
      gi_wp2_with (first
        | (refine ⟨trivial, ?_⟩; gi_at_call 106; refine (callsIn_wide.2 hget).mono ?_; rintro e W2 ⟨v2, rfl, own2, k2⟩; have hbr2 := k2.cell hbr (fun e => e); obtain ⟨fn, tmps, assign, body, hy, hRR⟩ := HP.out.2.1 pre (m, v2) W2 (HP.out.1 pre _ W2 none HR.out.1 k2.grownBy (fun r e => by cases e)) ⟨b, HR.out.2.1, by rw [HP.out.2.2.2.2.2.2.2.2.2.2]; exact HR.out.2.2.1, own2.bytes (base := base) (fun _ => Nat.le_trans HP.out.2.2.2.2.2.2.2.2.2.1 HR.out.2.2.2.2.1.size)⟩; have hy : (Instr.yield l #[.int .u64 m, v2]).run Tryz.prog W2 = _ := hy)
        | (refine ⟨trivial, ?_⟩; gi_at_call 105; refine (callsIn_wide.2 hnx).mono ?_; rintro e W3 ⟨rfl, rfl⟩))
      refine hRR.mono ?_
      rintro e W4 ⟨rfl, hJ4, hk4⟩
      have hk24 := HR.out.2.2.2.2.1.trans (((k2.no (F := F)).to HR.out.2.2.2.2.1.size).trans hk4)
      clear hget hnx hy hRR
      gi_wp2
      go_roundw
      case rel => exact ⟨pre ++ [(m, v2)], hJ4, by have := HR.out.2.2.2.1; simp; omega, by have := HR.out.2.2.1; simp; omega, hk24, Nat.le_trans HR.out.2.2.2.2.2 (Nat.le_trans k2.size hk4.size)⟩
      case measure => have := HR.out.2.2.2.1; simp [intOf]; omega
    · have hmi : ¬ ((m : Int) < (L.next : Int)) := by omega
      have hnx := HP.out.2.2.2.1 _ hkp
      have hpe : pre.length = L.recs.length := by omega
      have HR := Lib.hid (And.intro hJp hpe)
      clear hJp hpe hlt hpl hkp hsz hfx hx hm
      gi_wp2_with (refine ⟨trivial, ?_⟩; gi_at_call 105; refine (callsIn_wide.2 hnx).mono ?_; rintro e W3 ⟨rfl, rfl⟩)
      go_end0
      exact ⟨⟨_, rfl⟩, pre, HR.out.2, HR.out.1⟩
end Go.Proofs.YtfdmbomlkpkegaaGreat

/-! ## SeqN -/
namespace Go.Proofs.YtfdmbomlkpkegaaGreat
open Go Go.RowKit Go.Shelf Go.Dr
attribute [local go_sem] Oper.semAt_some

set_option maxRecDepth 100000 in
theorem lAll_spec (w : World) (g : Nat) :
    Calls Tryz.prog 56 #[.pointer (some ⟨g, 0, none⟩)] w fun e w' => e = .returned (.func (.func 103) #[] #[.pointer (some ⟨w.heap.size, 0, none⟩)]) ∧ w' = w.alloc (.cells #[.pointer (some ⟨g, 0, none⟩)] 41) := by
  go_enter Tryz.func56, Tryz.ntmps56
  go_wp2
  go_ret
  exact ⟨rfl, rfl⟩

theorem BytesAt.turned [bn : Inhabited Ban] {base : Nat} {W W' : World} {row : Option Nat} {v : Value} {l : Bytes} (h : BytesAt base W v l) (hg : W.grownBy W' row) (hr : ∀ r, row = some r → ∃ o : Obj, W.heap[r]? = some o ∧ o.isCells = false) : BytesAt base W' v l := by
  obtain ⟨ao, cap, h1, h2, h3, h4, h5⟩ := h
  refine ⟨ao, cap, h1, h2, h3, h4, fun i x hx => ?_⟩
  obtain ⟨ad, e, hb, hc⟩ := h5 i x hx
  refine ⟨ad, e, ⟨Nat.lt_of_lt_of_le hb.1 hg.size, ?_, hb.2.2.1, Nat.le_trans hb.2.2.2 hg.size⟩, cell_kept hc hg hr⟩
  rcases hb.2.1 with h2 | ⟨cs, fr, h2⟩
  · exact .inl h2
  · exact .inr ⟨cs, fr, (grownBy_keeps_cells hg hr h2 rfl).trans h2⟩
/-- A post that no panic meets. -/
def calmPost (Q : Exit → Act → World → Prop) : Exit → Act → World → Prop
  | .panic _, _, _ => False
  | .normal, a, w => Q .normal a w
  | .ret, a, w => Q .ret a w
  | .exit i, a, w => Q (.exit i) a w
  | .goto t, a, w => Q (.goto t) a w
  | .outgrown, a, w => Q .outgrown a w
theorem calm_le {Q : Exit → Act → World → Prop} {e : Exit} {a : Act} {w : World} (h : calmPost Q e a w) : Q e a w := by
  cases e <;> first | exact h | exact h.elim

def BoxF (b4 b5 b6 : Nat) : Nat → Prop := fun b => b = b4 ∨ b = b5 ∨ b = b6
/-- Between two rounds. -/
structure RecI [bn : Inhabited Ban] (base : Nat) (L : LogS) (f : Nat) (W0 : World) (b4 b5 b6 : Nat) (pre : List Item) (W : World) : Prop where
  out : ∃ v, W.heap[b4]? = some (.cells #[v] 128 (0, 0)) ∧ W.ownsRow W0.heap.size 59 1 v pre.length (pre.map (·.2))
  next : W.heap[b5]? = some (.cells #[.int .u64 (f + pre.length : Nat)] 27 (0, 0))
  ok : W.heap[b6]? = some (.cells #[.bool true] 4 (0, 0))
  all : ∀ (i : Nat) (x : Item), pre[i]? = some x → ∃ b, L.recs[i]? = some b ∧ BytesAt base W x.2 b
  keep : KeepTo W0.heap.size (BoxF b4 b5 b6) W0 W
theorem RecI.own [bn : Inhabited Ban] (base : Nat) (L : LogS) (f : Nat) (W0 : World) (b4 b5 b6 : Nat) : OwnFrom W0.heap.size (RecI base L f W0 b4 b5 b6) := by
  intro s A B row h hg hr
  have hr2 := fun r e => (hr r e).2
  obtain ⟨v, h1, h2⟩ := h.out
  refine ⟨⟨v, (grownBy_keeps_cells hg hr2 h1 rfl).trans h1, h2.1, ?_⟩, (grownBy_keeps_cells hg hr2 h.next rfl).trans h.next, (grownBy_keeps_cells hg hr2 h.ok rfl).trans h.ok, fun i x hx => ?_,
    h.keep.trans (KeepTo.grown hg h.keep.size (fun r e => (hr r e).1))⟩
  · rcases h2.2 with h3 | ⟨g, cap, cur, e, h3, h4, h5⟩
    · exact .inl h3
    · exact .inr ⟨g, cap, cur, e, h3, (grownBy_keeps_cells hg hr2 h4 rfl).trans h4, h5⟩
  · obtain ⟨b, hb, hB⟩ := h.all i x hx
    exact ⟨b, hb, hB.turned hg hr2⟩

end Go.Proofs.YtfdmbomlkpkegaaGreat

/-! ## SeqO -/
namespace Go.Proofs.YtfdmbomlkpkegaaGreat
open Go Go.RowKit Go.Dr

end Go.Proofs.YtfdmbomlkpkegaaGreat
