/- The document's disk in memory; Used. -/
import Derived.Test.YtpjggnfiocplmaaRefD
namespace Go.Proofs.Ytpjggnfiocplmaa
open Go Go.RowKit Go.Dr

structure RDiskS where
  room : Int
  full : Bool
  l : List CallS
  safe : Int
structure RDiskAt [bn : Inhabited Ban] (base : Nat) (w : World) (q : Nat) (lv : Value) (x : RDiskS) : Prop where
  blk : w.heap[q]? = some (.cells #[.int .i64 x.room, .bool x.full, lv, .int .i64 x.safe] 40 (0, 0))
  calls : LAt base w lv x.l
  qb : base ≤ q

theorem segs6_sum (l : List CallS) : msum (segs6 l) ≤ wsum l := by
  have h : ∀ (k : Nat), msum (segs6 (l.take k)) ≤ wsum (l.take k) := by
    intro k
    induction k with
    | zero => simp [segs6, msum]
    | succ k ih =>
      cases hk : l[k]? with
      | none =>
        have h1 := List.getElem?_eq_none_iff.1 hk
        rw [List.take_of_length_le (by omega)]
        rw [List.take_of_length_le h1] at ih
        exact ih
      | some c =>
        rw [segs6_take hk, wsum_take hk]
        have := step6_sum (segs6 (l.take k)) c
        omega
  have := h l.length
  rwa [List.take_length] at this

theorem msum_take {m : AMap} : ∀ {k : Nat} {e : Int × Bytes}, m[k]? = some e → msum (m.take (k + 1)) = msum (m.take k) + e.2.length := by
  induction m with
  | nil => intro k e h; simp at h
  | cons x m ih =>
    intro k e h
    cases k with
    | zero => simp at h; subst h; simp [msum]
    | succ k => have := ih (k := k) (by simpa using h); simp only [List.take_succ_cons, msum] at this ⊢; omega
theorem msum_take_le (m : AMap) : ∀ (k : Nat), msum (m.take k) ≤ msum m := by
  induction m with
  | nil => intro k; simp
  | cons x m ih =>
    intro k
    cases k with
    | zero => simp [msum]
    | succ k => have := ih k; simp only [List.take_succ_cons, msum]; omega

set_option maxRecDepth 100000 in
set_option maxHeartbeats 1000000 in
theorem rused_spec [bn : Inhabited Ban] {base : Nat} {w : World} {q : Nat} {lv : Value} {x : RDiskS} (h : RDiskAt base w q lv x) (hb : base ≤ w.heap.size) (hl : x.l.length ≤ 1000) (hs : wsum x.l ≤ 1099511627776) :
    Calls Try.prog 66 #[.pointer (some ⟨q, 0, none⟩)] w fun e w' => e = .returned (.int .i64 (msum (segs6 x.l) : Nat)) ∧ Keep No w w' := by
  have c2 := cell_of h.blk 2
  simp at c2
  have hsum := segs6_sum x.l
  go_enter Try.func66, Try.ntmps66
  go_wp2_with fail
  refine (segs_spec h.calls hb hl (by omega)).mono ?_
  rintro e w1 ⟨v, rfl, hS, hk1, hn1⟩
  generalize hm : segs6 x.l = m at *
  have HM := Lib.hid hm
  clear hm
  obtain ⟨so, sc, rfl, hmc, hcm⟩ := hS.form
  unfold maxLen at hcm
  have hml : (m.length : Int) ≤ 9223372036854775807 := by omega
  have hms : msum m ≤ 35184372088832 := by omega
  clear hmc hcm h c2 hsum hs
  go_wp2_with fail
  go_loopw [3, 12] (fun t i wr => ∃ k : Nat, k ≤ m.length ∧ i = .int .i64 k ∧ t = .int .i64 (msum (m.take k) : Nat) ∧ Keep No w1 wr) (fun _ i _ => m.length - (intOf i).toNat)
  case atStart => exact ⟨0, Nat.zero_le _, rfl, rfl, Keep.refl _ _⟩
  case round =>
    obtain ⟨k, hk, rfl, rfl, hkp⟩ := hrel
    by_cases hlt : k < m.length
    · obtain ⟨g, rfl, hbg, hcells⟩ := hS.cells (by omega)
      have hek : m[k]? = some m[k] := List.getElem?_eq_getElem hlt
      obtain ⟨u, hu, e0, e1⟩ := hcells k _ hek
      have hT := msum_take hek
      have hle := msum_take_le m (k + 1)
      generalize m[k] = e at *
      obtain ⟨uo, uc, rfl⟩ := hu.form
      have e0 := hkp.cell e0 (fun e => e)
      have e1 := hkp.cell e1 (fun e => e)
      have hki : (k : Int) < (m.length : Int) := by omega
      have b1 : ((msum (m.take k) : Nat) : Int) + (e.2.length : Int) ≤ 35184372088832 := by omega
      have b0 : (0 : Int) ≤ ((msum (m.take k) : Nat) : Int) + (e.2.length : Int) := by omega
      have HX := Lib.hid (And.intro hT hlt)
      clear hT hlt hle hcells hek hu hms
      go_wp2
      go_roundw
      case rel => exact ⟨k + 1, by have := HX.out.2; omega, by go_num, by rw [HX.out.1]; go_num, hkp.alloc _⟩
      case measure => have := HX.out.2; simp [intOf]; omega
    · have hki : ¬ (k : Int) < (m.length : Int) := by omega
      obtain rfl : k = m.length := by omega
      have e : m.take m.length = m := List.take_length
      rw [e]
      clear hki hlt hk e
      go_wp2
      go_ret
      exact ⟨by rw [HM.out]; rfl, hk1.then hkp⟩
end Go.Proofs.Ytpjggnfiocplmaa
