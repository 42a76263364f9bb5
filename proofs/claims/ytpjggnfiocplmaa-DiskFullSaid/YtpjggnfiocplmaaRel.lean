/- The disk and the document's disk: plain. -/
import Derived.Test.YtpjggnfiocplmaaRefJ
namespace Go.Proofs.Ytpjggnfiocplmaa
open Go Go.RowKit

structure Rel6 (d : DiskS) (x : RDiskS) : Prop where
  room : x.room = d.room
  full : x.full = d.full
  now : SameMap (segs6 x.l) d.now
  safe : SameMap (segs6 (x.l.take x.safe.toNat)) d.safe
  s0 : 0 ≤ x.safe
  s1 : x.safe ≤ x.l.length
  wait : d.wait = x.l.drop x.safe.toNat
  kn : Keys d.now
  ks : Keys d.safe
theorem Rel6.sum {d : DiskS} {x : RDiskS} (h : Rel6 d x) : msum (segs6 x.l) = msum d.now := SameMap.sum (segs6_sorted _).keys h.kn h.now
theorem Rel6.push {d : DiskS} {x : RDiskS} (h : Rel6 d x) (c : CallS) : Rel6 (d.put c) (x.push c) := by
  have hs : x.safe.toNat ≤ x.l.length := by have := h.s1; omega
  refine ⟨h.room, h.full, ?_, ?_, h.s0, ?_, ?_, h.kn.done c, h.ks⟩
  · simp only [RDiskS.push, DiskS.put]
    rw [segs6_snoc]
    exact h.now.step (segs6_sorted _) h.kn c
  · simp only [RDiskS.push, DiskS.put]
    rw [List.take_append_of_le_length hs]
    exact h.safe
  · simp only [RDiskS.push, List.length_append]
    have := h.s1
    omega
  · simp only [RDiskS.push, DiskS.put]
    rw [List.drop_append_of_le_length hs, h.wait]
theorem Rel6.append {d : DiskS} {x : RDiskS} (h : Rel6 d x) (seg : Int) (l : Bytes) : Rel6 (d.append seg l).1 (x.append seg l).1 ∧ (d.append seg l).2 = (x.append seg l).2 := by
  unfold DiskS.append RDiskS.append
  rw [h.full, h.room, h.sum]
  by_cases hf : d.full = true
  · simp [hf, h]
  · by_cases hl : d.room - (msum d.now : Int) < (l.length : Int)
    · rw [if_neg hf, if_neg hf, if_pos hl, if_pos (by omega)]
      exact ⟨h, rfl⟩
    · rw [if_neg hf, if_neg hf, if_neg hl, if_neg (by omega)]
      exact ⟨h.push _, rfl⟩
theorem Rel6.drop {d : DiskS} {x : RDiskS} (h : Rel6 d x) (seg : Int) : Rel6 (d.drop seg).1 (x.drop seg).1 ∧ (d.drop seg).2 = (x.drop seg).2 := by
  unfold DiskS.drop RDiskS.drop
  rw [h.now seg]
  split
  · exact ⟨h.push _, rfl⟩
  · exact ⟨h, rfl⟩
theorem Rel6.read {d : DiskS} {x : RDiskS} (h : Rel6 d x) (seg : Int) : d.read seg = read6 (segs6 x.l) seg := by
  unfold DiskS.read read6
  rw [h.now seg]
  rfl
def RDiskS.sync (x : RDiskS) : RDiskS := { x with safe := x.l.length }
theorem Rel6.sync {d : DiskS} {x : RDiskS} (h : Rel6 d x) : Rel6 d.sync x.sync := by
  refine ⟨h.room, h.full, h.now, ?_, by simp [RDiskS.sync], by simp [RDiskS.sync], ?_, h.kn, h.kn⟩
  · simp only [RDiskS.sync, DiskS.sync, Int.toNat_natCast, List.take_length]
    exact h.now
  · simp [RDiskS.sync, DiskS.sync]
theorem Rel6.setFull {d : DiskS} {x : RDiskS} (h : Rel6 d x) (on : Bool) : Rel6 { d with full := on } { x with full := on } :=
  ⟨h.room, rfl, h.now, h.safe, h.s0, h.s1, h.wait, h.kn, h.ks⟩
theorem Rel6.at {d : DiskS} {x : RDiskS} (h : Rel6 d x) (j : Nat) : d.wait[j]? = x.l[x.safe.toNat + j]? := by rw [h.wait, List.getElem?_drop]
theorem Rel6.upto {d : DiskS} {x : RDiskS} (h : Rel6 d x) : ∀ j, SameMap (segs6 (x.l.take (x.safe.toNat + j))) (doneAll (d.wait.take j) d.safe) := by
  intro j
  induction j with
  | zero => simpa [doneAll] using h.safe
  | succ j ih =>
    cases hc : d.wait[j]? with
    | none =>
      have hn := List.getElem?_eq_none_iff.1 hc
      have hn2 := List.getElem?_eq_none_iff.1 (by rw [← h.at j]; exact hc)
      rw [List.take_of_length_le (by omega)] at ih ⊢
      rw [List.take_of_length_le hn] at ih
      rw [List.take_of_length_le (by omega)]
      exact ih
    | some c =>
      rw [doneAll_take hc, ← Nat.add_assoc, segs6_take (by rw [← h.at j]; exact hc)]
      exact ih.step (segs6_sorted _) (h.ks.doneAll _) c
theorem RDiskS.crash_l (x : RDiskS) (keep torn : Int) : (x.crash keep torn).l = x.found keep torn := rfl
theorem Rel6.crash {d : DiskS} {x : RDiskS} (h : Rel6 d x) (keep torn : Int) : Rel6 (d.crash keep torn) (x.crash keep torn) := by
  have hwl : (d.wait.length : Int) = (x.l.length : Int) - x.safe := by have := h.s1; have := h.s0; rw [h.wait, List.length_drop]; omega
  have hn : x.num keep = x.safe.toNat + keepNum d keep := by
    unfold RDiskS.num keepNum
    rw [hwl]
    have := h.s0; have := h.s1
    omega
  have hu := h.upto (keepNum d keep)
  have hK := h.ks.doneAll (d.wait.take (keepNum d keep))
  rw [← hn] at hu
  have hat := h.at (keepNum d keep)
  rw [← hn] at hat
  have hmap : SameMap (segs6 (x.found keep torn)) (crashMap d (keepNum d keep) torn) ∧ Keys (crashMap d (keepNum d keep) torn) := by
    unfold RDiskS.found tornOf crashMap
    rw [hat]
    cases hc : x.l[x.num keep]? with
    | none => simp only [List.append_nil]; exact ⟨hu, hK⟩
    | some c =>
      simp only []
      by_cases hq : c.drop = false ∧ 0 < min torn ((c.p.length : Int) - 1)
      · rw [if_pos hq, if_pos hq, segs6_snoc]
        exact ⟨hu.step (segs6_sorted _) hK _, hK.done _⟩
      · rw [if_neg hq, if_neg hq, List.append_nil]
        exact ⟨hu, hK⟩
  refine ⟨h.room, h.full, hmap.1, ?_, by simp [RDiskS.crash], by simp [RDiskS.crash], ?_, hmap.2, hmap.2⟩
  · simp only [RDiskS.crash, DiskS.crash, Int.toNat_natCast, List.take_length]
    exact hmap.1
  · simp [RDiskS.crash, DiskS.crash]
theorem found_le (x : RDiskS) (keep torn : Int) : (x.found keep torn).length ≤ x.l.length ∧ wsum (x.found keep torn) ≤ wsum x.l := by
  unfold RDiskS.found tornOf
  cases hc : x.l[x.num keep]? with
  | none => simp only [List.append_nil]; exact ⟨by simp; omega, wsum_take_le _ _⟩
  | some c =>
    simp only []
    have hlt := (List.getElem?_eq_some_iff.1 hc).1
    split
    · rw [wsum_snoc]
      have h1 := wsum_take_le x.l (x.num keep + 1)
      rw [wsum_take hc] at h1
      refine ⟨by simp; omega, ?_⟩
      simp only [List.length_take]
      omega
    · rw [List.append_nil]
      exact ⟨by simp; omega, wsum_take_le _ _⟩

/-! ### An act on both -/
def doD (d : DiskS) (a : ActS) : DiskS :=
  if a.dop % 8 = 3 then (d.drop a.seg).1 else if a.dop % 8 = 4 then d.sync else if a.dop % 8 = 5 then { d with full := a.on } else
  if a.dop % 8 = 6 then d.crash a.keep a.torn else if a.dop % 8 = 7 then d else (d.append a.seg (a.p.take 40)).1
def doX (x : RDiskS) (a : ActS) : RDiskS :=
  if a.dop % 8 = 3 then (x.drop a.seg).1 else if a.dop % 8 = 4 then x.sync else if a.dop % 8 = 5 then { x with full := a.on } else
  if a.dop % 8 = 6 then x.crash a.keep a.torn else if a.dop % 8 = 7 then x else (x.append a.seg (a.p.take 40)).1
def doB (d : DiskS) (x : RDiskS) (a : ActS) : Bool :=
  if a.dop % 8 = 3 then (d.drop a.seg).2 == (x.drop a.seg).2 else if a.dop % 8 = 4 then true else if a.dop % 8 = 5 then true else
  if a.dop % 8 = 6 then true else if a.dop % 8 = 7 then ((d.read a.seg).1 == (read6 (segs6 x.l) a.seg).1 && (d.read a.seg).2 == (read6 (segs6 x.l) a.seg).2) else
  (d.append a.seg (a.p.take 40)).2 == (x.append a.seg (a.p.take 40)).2
theorem Rel6.act {d : DiskS} {x : RDiskS} (h : Rel6 d x) (a : ActS) : Rel6 (doD d a) (doX x a) ∧ doB d x a = true := by
  unfold doD doX doB
  repeat' split
  · exact ⟨(h.drop _).1, by rw [(h.drop _).2]; simp⟩
  · exact ⟨h.sync, rfl⟩
  · exact ⟨h.setFull _, rfl⟩
  · exact ⟨h.crash _ _, rfl⟩
  · exact ⟨h, by rw [h.read]; simp⟩
  · exact ⟨(h.append _ _).1, by rw [(h.append _ _).2]; simp⟩
theorem doX_le (x : RDiskS) (a : ActS) : (doX x a).l.length ≤ x.l.length + 1 ∧ wsum (doX x a).l ≤ wsum x.l + 40 := by
  have hp : ∀ c : CallS, c.p.length ≤ 40 → (x.push c).l.length ≤ x.l.length + 1 ∧ wsum (x.push c).l ≤ wsum x.l + 40 := fun c hc => by
    simp only [RDiskS.push, wsum_snoc]
    exact ⟨by simp, by omega⟩
  unfold doX
  repeat' split
  · unfold RDiskS.drop
    split
    · exact hp _ (by simp)
    · exact ⟨by simp, by simp⟩
  · exact ⟨by simp [RDiskS.sync], by simp [RDiskS.sync]⟩
  · exact ⟨by simp, by simp⟩
  · have := found_le x a.keep a.torn
    exact ⟨by simp only [RDiskS.crash]; omega, by simp only [RDiskS.crash]; omega⟩
  · exact ⟨by omega, by omega⟩
  · unfold RDiskS.append
    split
    · exact ⟨by simp, by simp⟩
    · split
      · exact ⟨by simp, by simp⟩
      · exact hp _ (by simp; omega)
theorem doX_safe {x : RDiskS} (h0 : 0 ≤ x.safe) (h1 : x.safe ≤ x.l.length) (a : ActS) : 0 ≤ (doX x a).safe ∧ (doX x a).safe ≤ (doX x a).l.length := by
  unfold doX
  repeat' split
  · unfold RDiskS.drop
    split
    · exact ⟨h0, by simp [RDiskS.push]; omega⟩
    · exact ⟨h0, h1⟩
  · exact ⟨by simp [RDiskS.sync], by simp [RDiskS.sync]⟩
  · exact ⟨h0, h1⟩
  · exact ⟨by simp [RDiskS.crash], by simp [RDiskS.crash]⟩
  · exact ⟨h0, h1⟩
  · unfold RDiskS.append
    split
    · exact ⟨h0, h1⟩
    · split
      · exact ⟨h0, h1⟩
      · exact ⟨h0, by simp [RDiskS.push]; omega⟩
end Go.Proofs.Ytpjggnfiocplmaa
