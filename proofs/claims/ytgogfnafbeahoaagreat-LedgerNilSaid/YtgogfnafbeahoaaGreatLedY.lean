/- The ledger: Put. -/
import Derived.Test.YtgogfnafbeahoaaGreatLedX
namespace Go.Proofs.YtgogfnafbeahoaaGreat
open Go Go.RowKit Go.Dr

/-- Who is taken. -/
def pick : WinS → List ItemS → List ItemS
  | _, [] => []
  | w, x :: l => if w.takes x.n = true then x :: pick (w.put x.n) l else pick w l
theorem putAll_append (w : WinS) (a b : List ItemS) : w.putAll (a ++ b) = (w.putAll a).putAll b := by unfold WinS.putAll; rw [List.foldl_append]
theorem pick_snoc : ∀ (w : WinS) (l : List ItemS) (z : ItemS), pick w (l ++ [z]) = pick w l ++ (if (w.putAll (pick w l)).takes z.n = true then [z] else [])
  | w, [], z => by
    show (if w.takes z.n = true then [z] else []) = [] ++ _
    rfl
  | w, x :: l, z => by
    show (if w.takes x.n = true then x :: pick (w.put x.n) (l ++ [z]) else pick w (l ++ [z])) = (if w.takes x.n = true then x :: pick (w.put x.n) l else pick w l) ++ _
    by_cases h : w.takes x.n = true
    · rw [if_pos h, if_pos h, pick_snoc (w.put x.n) l z]
      have e : w.putAll (pick w (x :: l)) = (w.put x.n).putAll (pick (w.put x.n) l) := by
        show w.putAll (if w.takes x.n = true then x :: pick (w.put x.n) l else pick w l) = _
        rw [if_pos h]; rfl
      rw [e]; rfl
    · rw [if_neg h, if_neg h, pick_snoc w l z]
      have e : pick w (x :: l) = pick w l := by
        show (if w.takes x.n = true then x :: pick (w.put x.n) l else pick w l) = _
        rw [if_neg h]
      rw [e]
theorem pick_allIn : ∀ (w : WinS) (l : List ItemS), w.allIn (pick w l)
  | _, [] => trivial
  | w, x :: l => by
    show w.allIn (if w.takes x.n = true then x :: pick (w.put x.n) l else pick w l)
    by_cases h : w.takes x.n = true
    · rw [if_pos h]; exact ⟨h, pick_allIn _ l⟩
    · rw [if_neg h]; exact pick_allIn w l
theorem pick_sub : ∀ (w : WinS) (l : List ItemS), (pick w l).Sublist l
  | _, [] => List.Sublist.refl _
  | w, x :: l => by
    show (if w.takes x.n = true then x :: pick (w.put x.n) l else pick w l).Sublist _
    by_cases h : w.takes x.n = true
    · rw [if_pos h]; exact (pick_sub _ l).cons_cons x
    · rw [if_neg h]; exact (pick_sub w l).cons x
def LedS.putR (L : LedS) (a b : Nat) (l : List ItemS) : Option LRec := if pick ((L.win a).skip b) l = [] ∧ (L.win a).skip b = L.win a then none else some (.put a b (pick ((L.win a).skip b) l))
theorem itemsB_le {l : List ItemS} {N : Nat} (h : ∀ x ∈ l, x.Right ∧ x.s.body.length ≤ N) : (itemsB l).length ≤ l.length * (N + 21) := by
  induction l with
  | nil => simp [itemsB]
  | cons x l ih =>
    have h1 := ih (fun y hy => h y (by simp [hy]))
    obtain ⟨hx1, hx2⟩ := h x (by simp)
    have a1 := numB_len64 (n := x.n) (by have := hx1.1; omega)
    have a2 := numB_len64 (n := x.s.body.length) (by have := hx1.2.2.2; omega)
    have e : itemsB (x :: l) = x.bytes ++ itemsB l := by simp [itemsB]
    rw [e, List.length_append]
    have e2 : x.bytes.length ≤ N + 21 := by
      unfold ItemS.bytes SpanS.bytes
      simp only [List.length_append, List.length_cons]
      omega
    rw [List.length_cons, Nat.add_mul]
    omega
theorem LedS.putR_can {a b : Nat} {L : LedS} {l : List ItemS} {r : LRec} (ha : a < 16) (hr : rightB b l = true) (hl : l.length ≤ 64) (h : L.putR a b l = some r) : L.can r := by
  unfold LedS.putR at h
  split at h
  · cases h
  · simp only [Option.some.injEq] at h
    subst h
    obtain ⟨h1, h2⟩ := (rightB_iff b l).1 hr
    exact ⟨ha, h2, Nat.le_trans (pick_sub _ _).length_le hl, fun x hx => h1 x ((pick_sub _ _).subset hx), pick_allIn _ _⟩
theorem LReady.lt [bn : Inhabited Ban] {base : Nat} {w : World} {q g m p n s width : Nat} {lv wv sgv rlv : Value} {size : Int} {ss : List SegL} {ts : List LRec} {d : DiskS} {L : LedS} (h : LReady base w q g m lv p n s wv sgv rlv width size ss ts d L) : ∀ b, lrfoot q g m lv p n s wv sgv rlv b → b < w.heap.size := fun b hb => (h.foot b hb).2.1
/-- Behind the loop: who is taken, their bytes, the window. -/
structure Taken [bn : Inhabited Ban] (w wr : World) (b11 : Nat) (tv pv : Value) (y : WinS) (t : List ItemS) : Prop where
  nums : OwnN wr w.heap.size tv (t.map (·.n))
  bytes : OwnB wr w.heap.size pv (itemsB t)
  box : WinBox wr b11 (y.putAll t)
  k : Keep No w wr
  new : w.heap.size ≤ b11
theorem Taken.no [bn : Inhabited Ban] {w wr w' : World} {b11 : Nat} {tv pv : Value} {y : WinS} {t : List ItemS} (h : Taken w wr b11 tv pv y t) (k : Keep No wr w') : Taken w w' b11 tv pv y t :=
  ⟨h.nums.keep k (fun _ _ e => e), h.bytes.keep k (fun _ _ e => e), h.box.keep (FootR.no _) k (fun e => e), h.k.then k, h.new⟩
/-- One more. -/
theorem Taken.box2 [bn : Inhabited Ban] {w wr w' : World} {b11 : Nat} {tv pv : Value} {y y' : WinS} {t : List ItemS} (h : Taken w wr b11 tv pv y t) (_hb : WinBox w' b11 y') (k : Keep (· = b11) wr w') :
    OwnN w' w.heap.size tv (t.map (·.n)) ∧ OwnB w' w.heap.size pv (itemsB t) ∧ Keep No w w' := by
  obtain ⟨_, _, hz, _⟩ := h.box
  refine ⟨h.nums.keep k (fun b hb e => ?_), h.bytes.keep k (fun b hb e => ?_), h.k.trans k (fun b hb e => ?_)⟩
  · obtain ⟨_, cur, e2⟩ := h.nums.kind b hb
    rw [show b = b11 from e, hz] at e2; simp at e2
  · obtain ⟨_, cur, e2⟩ := row_kind h.bytes b hb
    rw [show b = b11 from e, hz] at e2; simp at e2
  · have e : b = b11 := e
    have := h.new
    omega
end Go.Proofs.YtgogfnafbeahoaaGreat
