/- LedgerNil: the ledger that is made in it, plainly. -/
import Derived.Test.YtgogfnafbeahoaaGreatLedG
import Derived.Test.YtgogfnafbeahoaaGreatLedV
namespace Go.Proofs.YtgogfnafbeahoaaGreat
open Go Go.RowKit Go.Dr Go.Shelf

def nlB : Bytes := [UInt8.ofNat 120]
def nlL : LedS := ((LedS.start 5).step (.inc 1)).sync
def nlIts : List ItemS := [⟨1, ⟨0, nlB⟩⟩]
def nlL1 : LedS := nlL.step (.put 3 1 nlIts)
theorem nlPut : nlL.putR 3 1 nlIts = some (.put 3 1 nlIts) := by
  have h : pick ((nlL.win 3).skip 1) nlIts = nlIts := by kernel_rfl
  unfold LedS.putR
  rw [h, if_neg (fun h => by cases h.1)]
theorem nlRight : rightB 1 nlIts = true := by kernel_rfl
theorem nlRecs : nlL1.recs = [⟨3, 1, ⟨0, nlB⟩⟩] := by kernel_rfl
theorem nlSafe : nlL1.safe = 0 := by kernel_rfl
theorem nlPos : posR nlL1.recs 3 1 = some 0 := by rw [nlRecs]; kernel_rfl
theorem nlFew : nlL1.recs.length ≤ 1073741824 := by rw [nlRecs]; exact Nat.le_trans (Nat.le_refl 1) (by omega)
theorem nlBodies : ∀ r ∈ nlL1.recs, r.s.body.length ≤ 1073741824 := by
  intro r hr
  rw [nlRecs] at hr
  obtain rfl := List.mem_singleton.1 hr
  exact Nat.le_trans (Nat.le_refl 1) (by omega)
theorem nlAt [bn : Inhabited Ban] {base : Nat} {w : World} {q p k0 : Nat} {d : DiskS} (h : Led base w q p 5 5 ([.inc 1] ++ [.put 3 1 nlIts]) d (nlL.step (.put 3 1 nlIts)) k0) : ∃ g m lv, LedAt base w q g m lv nlL1 := h.at
theorem nlAll [bn : Inhabited Ban] {base : Nat} {w : World} {q g m : Nat} {lv : Value} (h : LedAt base w q g m lv nlL1) : Calls Tryz.prog 17 #[.pointer (some ⟨q, 0, none⟩)] w fun e w' => ∃ v, e = .returned v ∧ RecsOwn w' w.heap.size v [⟨3, 1, ⟨0, nlB⟩⟩] ∧ Keep No w w' := by
  have := gAll_spec h nlFew nlBodies
  rw [nlRecs] at this
  exact this
theorem nlStored [bn : Inhabited Ban] {base : Nat} {w : World} {q g m : Nat} {lv : Value} (h : LedAt base w q g m lv nlL1) : Calls Tryz.prog 25 #[.pointer (some ⟨q, 0, none⟩)] w fun e w' => ∃ ao cap, e = .returned (.slice ao 0 cap) ∧ Keep No w w' := by
  have := gStored_spec h nlFew nlBodies (by rw [nlSafe]; exact Nat.zero_le _)
  rw [nlSafe, List.take_zero] at this
  refine this.mono ?_
  rintro e w' ⟨v, rfl, ho, k⟩
  obtain ⟨ao, cap, rfl, _⟩ := ho.form
  exact ⟨ao, cap, rfl, k⟩
theorem nlGet [bn : Inhabited Ban] {base : Nat} {w : World} {q g m : Nat} {lv : Value} (h : LedAt base w q g m lv nlL1) :
    Calls Tryz.prog 22 #[.pointer (some ⟨q, 0, none⟩), .agg #[.int .i64 3, .int .u64 1]] w fun e w' => ∃ v, e = .returned (.tuple #[.agg #[.int .i64 0, v], .bool true]) ∧ OwnB w' w.heap.size v nlB ∧ Keep No w w' :=
  gGet_some h 3 1 nlPos (r := ⟨3, 1, ⟨0, nlB⟩⟩) (by rw [nlRecs]; rfl) nlFew (Nat.le_trans (Nat.le_refl 1) (by omega))
theorem winNil (w : World) : WinV w (.agg #[.int .u64 0, .int .u64 0, .slice none 0 0]) ⟨0, 0, []⟩ := ⟨_, rfl, RunsAt.nil _⟩
theorem sameNil {w : World} {u : Value} (h : WinV w u ⟨0, 0, []⟩) : Calls Tryz.prog 15 #[u, .agg #[.int .u64 0, .int .u64 0, .slice none 0 0]] w fun e w' => e = .returned (.bool true) ∧ Keep No w w' := by
  have h1 := wSame_spec h (winNil w) (by decide) (by decide)
  rw [decide_eq_true rfl] at h1
  exact h1
theorem nlText {w : World} {c cap : Nat} (h : w.cell? ⟨c, 0, none⟩ = some (.int .u8 120)) : (convert 49 9 (.slice (some ⟨c, 0, none⟩) 1 cap)).run Tryz.prog w = .ok (.string ⟨#[120]⟩) w :=
  run_convert_bytes_back w 49 9 5 ⟨c, 0, none⟩ cap [120] (by kernel_rfl) (by kernel_rfl) (by kernel_rfl) (fun j hj => by
    obtain rfl : j = 0 := by simp at hj; omega
    exact h)
theorem nlB_at [bn : Inhabited Ban] {base : Nat} (w : World) (hT : ban.top ≤ w.heap.size) : BytesAt base (w.alloc (.cells #[.int .u8 120] 5 (1, 2))) (.slice (some ⟨w.heap.size, 0, none⟩) 1 1) nlB := by
  have hz := heap_new w (.cells #[.int .u8 120] 5 (1, 2))
  refine ⟨_, 1, rfl, Nat.le_refl _, by decide, (fun e => by cases e), (fun i x hx => ?_)⟩
  match i, hx with
  | 0, hx =>
    cases hx
    refine ⟨_, rfl, ⟨by simp, .inr ⟨_, _, hz⟩, fun h => by have h1 := ban.lt _ h; have h2 : w.heap.size < ban.top := h1; omega, by rw [World.size_alloc]; omega⟩, ?_⟩
    show World.cell? _ ⟨w.heap.size, 0, none⟩ = _
    rw [cell_of hz]
    rfl
theorem nlIts_at [bn : Inhabited Ban] {base : Nat} {w : World} {b c : Nat} (hc : BytesAt base w (.slice (some ⟨c, 0, none⟩) 1 1) nlB) (hb : w.heap[b]? = some (.cells #[.int .u64 1, .int .i64 0, .slice (some ⟨c, 0, none⟩) 1 1] 53 (0, 0))) (hB : base ≤ b) : ItsAt base w base (.slice (some ⟨b, 0, none⟩) 1 1) nlIts := by
  refine ⟨[(⟨1, ⟨0, nlB⟩⟩, .slice (some ⟨c, 0, none⟩) 1 1)], rfl, fun x hx => ?_, rfl, .inr ⟨b, 1, _, rfl, hB, hb, Nat.le_refl _, by decide, rfl, rfl⟩⟩
  obtain rfl : x = _ := List.mem_singleton.1 hx
  exact hc
theorem ownB_one {w : World} {B : Nat} {v : Value} (h : OwnB w B v nlB) : ∃ c cap, v = .slice (some ⟨c, 0, none⟩) 1 cap ∧ w.cell? ⟨c, 0, none⟩ = some (.int .u8 120) ∧ w.frozen? ⟨c, 0, none⟩ = false ∧ B ≤ c ∧ ∃ cur, w.heap[c]? = some (.cells cur 5 (0, 0)) := by
  rcases h.2 with ⟨_, h0⟩ | ⟨g, cap, cur, rfl, h1, h2, h3, h4, h5, h6⟩
  · cases h0
  · obtain ⟨g', e, hc⟩ := row_cell h (j := 0) (x := .int .u8 120) rfl rfl
    cases e
    exact ⟨g, cap, rfl, hc, frozen_of h2 0, h1, cur, h2⟩
theorem recsOwn_one {w : World} {B : Nat} {v : Value} {a n : Nat} {c : Int} (h : RecsOwn w B v [⟨a, n, ⟨c, nlB⟩⟩]) : ∃ g cap o cap', v = .slice (some ⟨g, 0, none⟩) 1 cap ∧ w.cell? ⟨g, 3, none⟩ = some (.slice (some ⟨o, 0, none⟩) 1 cap') ∧ w.cell? ⟨o, 0, none⟩ = some (.int .u8 120) ∧ w.frozen? ⟨o, 0, none⟩ = false ∧ B ≤ o := by
  obtain ⟨xs, h1, h2, h3⟩ := h
  obtain ⟨x, rfl⟩ : ∃ x, xs = [x] := by
    match xs, h1 with
    | [x], _ => exact ⟨x, rfl⟩
  have hx : x.1 = ⟨a, n, ⟨c, nlB⟩⟩ := by simpa using h1
  have hb := h2 x (by simp)
  rw [hx] at hb
  obtain ⟨o, cap', hv, hc, hf, ho, _⟩ := ownB_one hb
  have h4 := h3
  rcases h3.2 with ⟨_, h0⟩ | ⟨g, cap, cur, rfl, q1, q2, _⟩
  · cases h0
  · obtain ⟨g', e, hg⟩ := row_cell h4 (j := 3) (x := x.2) rfl h4.1
    cases e
    rw [hv] at hg
    exact ⟨g, cap, o, cap', rfl, hg, hc, hf, ho⟩
end Go.Proofs.YtgogfnafbeahoaaGreat
