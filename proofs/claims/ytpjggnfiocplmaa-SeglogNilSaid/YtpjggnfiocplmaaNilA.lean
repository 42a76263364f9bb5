/- What is asked of a nil log, of a nil disk, of sizes that there can't be. -/
import Derived.Test.YtpjggnfiocplmaaSeqY
import Derived.Test.YtpjggnfiocplmaaRefM
namespace Go.Proofs.Ytpjggnfiocplmaa
open Go Go.RowKit Go.Shelf Go.Dr

theorem lOpen_none1 (w : World) (size : Int) (h : size < 1) : Calls Try.prog 35 #[.pointer none, .int .i64 size] w fun e w' => e = .returned (.tuple #[.pointer none, .int .i64 1]) ∧ w' = w := by
  go_enter Try.func35, Try.ntmps35
  go_wp2_with fail
  go_ret2
  exact ⟨rfl, rfl⟩
theorem lOpen_none4 (w : World) (size : Int) (h : ¬ size < 1) : Calls Try.prog 35 #[.pointer none, .int .i64 size] w fun e w' => e = .returned (.tuple #[.pointer none, .int .i64 4]) ∧ w' = w := by
  go_enter Try.func35, Try.ntmps35
  go_wp2_with fail
  go_ret2
  exact ⟨rfl, rfl⟩
theorem lOpen_bad (w : World) (p : Nat) (size : Int) (h : size < 1) : Calls Try.prog 35 #[.pointer (some ⟨p, 0, none⟩), .int .i64 size] w fun e w' => e = .returned (.tuple #[.pointer none, .int .i64 1]) ∧ w' = w := by
  go_enter Try.func35, Try.ntmps35
  go_wp2_with fail
  go_ret2
  exact ⟨rfl, rfl⟩
set_option maxRecDepth 100000 in
theorem lAppend_none (w : World) (v : Value) : Calls Try.prog 36 #[.pointer none, v] w fun e w' => e = .returned (.tuple #[.int .u64 0, .int .i64 4]) ∧ w' = w := by
  go_enter Try.func36, Try.ntmps36
  go_wp2_with fail
  go_ret2
  exact ⟨rfl, rfl⟩
set_option maxRecDepth 100000 in
theorem lGet_none (w : World) (n : Nat) : Calls Try.prog 49 #[.pointer none, .int .u64 n] w fun e w' => e = .returned (.tuple #[.slice none 0 0, .int .i64 4]) ∧ Keep No w w' := by
  go_enter Try.func49, Try.ntmps49
  go_wp2_with fail
  go_ret2
  exact ⟨rfl, Keep.refl _ _⟩
theorem lFirst_none (w : World) : Calls Try.prog 44 #[.pointer none] w fun e w' => e = .returned (.int .u64 0) ∧ w' = w := by
  go_enter Try.func44, Try.ntmps44
  go_wp2_with fail
  go_ret
  exact ⟨rfl, rfl⟩
theorem lNext_none (w : World) : Calls Try.prog 46 #[.pointer none] w fun e w' => e = .returned (.int .u64 0) ∧ w' = w := by
  go_enter Try.func46, Try.ntmps46
  go_wp2_with fail
  go_ret
  exact ⟨rfl, rfl⟩
theorem lSegs_none (w : World) : Calls Try.prog 47 #[.pointer none] w fun e w' => e = .returned (.int .i64 0) ∧ w' = w := by
  go_enter Try.func47, Try.ntmps47
  go_wp2_with fail
  go_ret
  exact ⟨rfl, rfl⟩
theorem lDisk_none (w : World) : Calls Try.prog 39 #[.pointer none] w fun e w' => e = .returned (.pointer none) ∧ w' = w := by
  go_enter Try.func39, Try.ntmps39
  go_wp2_with fail
  go_ret
  exact ⟨rfl, rfl⟩
theorem lSync_none (w : World) : Calls Try.prog 37 #[.pointer none] w fun e w' => e = .returned (.int .i64 4) ∧ w' = w := by
  go_enter Try.func37, Try.ntmps37
  go_wp2_with fail
  go_ret
  exact ⟨rfl, rfl⟩
theorem lFits_none (w : World) (v : Value) : Calls Try.prog 43 #[.pointer none, v] w fun e w' => e = .returned (.bool false) ∧ w' = w := by
  go_enter Try.func43, Try.ntmps43
  go_wp2_with fail
  go_ret
  exact ⟨rfl, rfl⟩
theorem lTrim_none (w : World) (n : Nat) : Calls Try.prog 48 #[.pointer none, .int .u64 n] w fun e w' => e = .returned (.int .i64 0) ∧ w' = w := by
  go_enter Try.func48, Try.ntmps48
  go_wp2_with fail
  go_ret
  exact ⟨rfl, rfl⟩
theorem lSpare_none (w : World) (n : Nat) : Calls Try.prog 51 #[.pointer none, .int .u64 n] w fun e w' => e = .returned (.int .i64 0) ∧ w' = w := by
  go_enter Try.func51, Try.ntmps51
  go_wp2_with fail
  go_ret
  exact ⟨rfl, rfl⟩
theorem lAll_none (w : World) :
    Calls Try.prog 50 #[.pointer none] w fun e w' => e = .returned (.func (.func 80) #[] #[.pointer (some ⟨w.heap.size, 0, none⟩)]) ∧ w' = w.alloc (.cells #[.pointer none] 65) := by
  go_enter Try.func50, Try.ntmps50
  go_wp2
  go_ret
  exact ⟨rfl, rfl⟩

/-- Of a nil log nothing is handed. -/
theorem lAllf_none (n : Nat) (hn : 1 ≤ n) {w : World} {B : Nat} (hbox : w.cell? ⟨B, 0, none⟩ = some (.pointer none)) :
    SeqSays Fence.wide n Try.prog 80 #[.pointer (some ⟨B, 0, none⟩)] itemArgs (fun _ _ _ => False) (KeepTo w.heap.size No) (fun xs => xs = []) w := by
  intro l J W hW hJ hY h0
  have hb := hW.keep.cell hbox (fun e => e)
  have HP := Lib.hid (And.intro hJ (And.intro hW h0))
  clear hJ hY hW h0 hbox
  refine callsIn_of_wp Try.func80 rfl trivial ?_ rfl
  simp only [Try.ntmps80, List.size_toArray, List.length_cons, List.length_nil, Nat.reduceAdd, Nat.reduceSub, Array.replicate_succ, Array.replicate_zero, List.push_toArray, List.append_toArray, List.nil_append, List.cons_append]
  gi_wp2_with (refine ⟨trivial, ?_⟩; gi_at_call 44; refine (callsIn_wide.2 (lFirst_none _)).mono ?_; rintro e W1 ⟨rfl, e1⟩; have e1 := e1.symm; subst e1)
  gi_loopw [3] (fun nv wr => nv = .int .u64 0 ∧ wr = W) (fun _ _ => 0)
  case atStart => exact ⟨rfl, rfl⟩
  case round =>
    obtain ⟨rfl, rfl⟩ := hrel
    gi_wp2_with (refine ⟨trivial, ?_⟩; gi_at_call 46; refine (callsIn_wide.2 (lNext_none _)).mono ?_; rintro e W1 ⟨rfl, e1⟩; have e1 := e1.symm; subst e1)
    go_end0
    exact ⟨⟨_, rfl⟩, [], rfl, HP.out.2.2⟩
theorem make_big (w : World) : ∃ w', (Instr.makeSlice 27 (.int .i64 1048577) (.int .i64 1048577)).run Try.prog w = .ok (.slice (some ⟨w.heap.size, 0, none⟩) 1048577 1048577) w' ∧ Keep No w w' := by
  obtain ⟨r, hr⟩ : ∃ r : Nat, r = 1048577 := ⟨_, rfl⟩
  obtain ⟨w', h1, _, h3⟩ := make_bytes w 0 r (by omega) (Nat.zero_le _)
  refine ⟨w', ?_, (Keep.refl _ _).grown h3 (fun r e => by cases e)⟩
  rw [hr] at h1
  exact h1
end Go.Proofs.Ytpjggnfiocplmaa
