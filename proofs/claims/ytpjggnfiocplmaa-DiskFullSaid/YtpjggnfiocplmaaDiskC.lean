/- Package disk: Append, Drop, Sync, Read and the small ones. -/
import Derived.Test.YtpjggnfiocplmaaDiskB
namespace Go.Proofs.Ytpjggnfiocplmaa
open Go Go.RowKit Go.Dr

theorem mget_le (m : AMap) (k : Int) : ((mget m k).getD []).length ≤ msum m := by
  induction m with
  | nil => simp [mget, msum]
  | cons e m ih =>
    simp only [mget, List.find?_cons] at ih ⊢
    cases h : (e.1 == k) with
    | true => simp [msum]
    | false => simp only [msum]; exact Nat.le_trans ih (by omega)

def DiskS.put (d : DiskS) (c : CallS) : DiskS := { d with now := c.done d.now, wait := d.wait ++ [c] }
def DiskS.append (d : DiskS) (seg : Int) (l : Bytes) : DiskS × Int :=
  if d.full then (d, 5) else if d.room - (msum d.now : Int) < (l.length : Int) then (d, 5) else (d.put ⟨seg, l, false⟩, 0)
def DiskS.drop (d : DiskS) (seg : Int) : DiskS × Int := if (mget d.now seg).isSome then (d.put ⟨seg, [], true⟩, 0) else (d, 4)

/-- The disk behind p is d' now; what was not its own is as it was. -/
def DiskPost [bn : Inhabited Ban] (base : Nat) (w : World) (p : Nat) (F : Nat → Prop) (d' : DiskS) (v : Value) (e : Ending) (w' : World) : Prop :=
  e = .returned v ∧ ∃ n s wv, DiskAt base w' p n s wv d' ∧ Keep F w w' ∧ ∀ b, foot p n s wv b → F b ∨ w.heap.size ≤ b
theorem DiskPost.of_no [bn : Inhabited Ban] {base : Nat} {w w' : World} {p n s : Nat} {wv : Value} {d : DiskS} (h : DiskAt base w p n s wv d) (k : Keep No w w') (v : Value) : DiskPost base w p (foot p n s wv) d v (.returned v) w' :=
  ⟨rfl, n, s, wv, h.no k, k.no, fun _ h => .inl h⟩

structure Small (d : DiskS) : Prop where
  room0 : 0 ≤ d.room
  room1 : d.room ≤ 1099511627776
  used : msum d.now ≤ 1099511627776
  wait : d.wait.length ≤ 1000000

set_option maxRecDepth 100000 in
set_option maxHeartbeats 1000000 in
theorem append_gen {bm : Inhabited Ban} [bn : Inhabited Ban] {base : Nat} {w : World} {p n s : Nat} {wv : Value} {d : DiskS} (h : DiskAt base w p n s wv d) (hb : base ≤ w.heap.size) (hsm : Small d) (seg : Int) {u : Value} {l : Bytes} (hu : BytesAt (bn := bm) base w u l)
    (hl : l.length ≤ 1099511627776) (hT : l ≠ [] → ban (bn := bn).top ≤ w.heap.size) :
    Calls Try.prog 17 #[.pointer (some ⟨p, 0, none⟩), .int .u64 seg, u] w (DiskPost base w p (foot p n s wv) (d.append seg l).1 (.int .i64 (d.append seg l).2)) := by
  obtain ⟨uo, uc, rfl⟩ := BytesAt.form (bn := bm) hu
  obtain ⟨room0, room1, used, hwait⟩ := hsm
  have d0 := cell_of h.blk 0
  have d1 := cell_of h.blk 1
  simp at d0 d1
  have hmg := mget_le d.now seg
  by_cases hf : d.full = true
  · have e1 : (d.append seg l) = (d, 5) := by simp [DiskS.append, hf]
    rw [e1]
    rw [hf] at d1
    clear e1 hf
    have HP := Lib.hid (DiskPost.of_no h (Keep.refl _ _) (.int .i64 5))
    clear h hu
    go_enter Try.func17, Try.ntmps17
    go_wp2
    go_ret
    exact HP.out
  · have hf' : d.full = false := by simpa using hf
    rw [hf'] at d1
    have hd0 : (0 : Int) ≤ (msum d.now : Int) := by omega
    have hd1 : (msum d.now : Int) ≤ 1099511627776 := by omega
    by_cases hlt : d.room - (msum d.now : Int) < (l.length : Int)
    · have e1 : (d.append seg l) = (d, 5) := by simp [DiskS.append, hf', hlt]
      rw [e1]
      clear e1 hf hf'
      go_enter Try.func17, Try.ntmps17
      go_wp2
      refine wp_drawN (fun w' => Keep No w w') [0, 1, 2, 3, 4, 5, 6] [7, 8] [9, 10] (by kernel_rfl) (by kernel_rfl) (fun _ _ _ _ _ h => h) (Keep.refl _ _).drew ?_
      iterate 7 (refine earlyN_cons (v := ?_) rfl rfl rfl ?_ ?_; rotate_left; focus (
        intro w' hS
        have d0' := hS.cell d0 (fun e => e)
        go_simp
        try with_reducible rfl))
      refine earlyN_nil (midN_cons rfl rfl (fun K hK => ?_))
      go_simp
      have hk0 : Keep No w w.drew := (Keep.refl _ _).drew
      refine (used_spec (h.no hk0) hb (by omega)).mono ?_
      rintro e w1 ⟨rfl, hk1⟩
      have hk2 := hk0.then hk1
      refine hK _ _ hk2 ?_
      clear hK K
      refine midN_cons rfl rfl (fun K hK => ?_)
      go_simp
      refine hK _ _ hk2 ?_
      clear hK K
      refine midN_nil (tailN_cons rfl (tailN_cons rfl (tailN_nil ?_)))
      have HP := Lib.hid (DiskPost.of_no h hk2 (.int .i64 5))
      clear h hu d0 d1 hk0 hk1 hk2 hmg
      go_wp2
      go_ret
      exact HP.out
    · have e1 : (d.append seg l) = (d.put ⟨seg, l, false⟩, 0) := by simp [DiskS.append, hf', hlt]
      rw [e1]
      clear e1 hf hf'
      go_enter Try.func17, Try.ntmps17
      go_wp2
      refine wp_drawN (fun w' => Keep No w w') [0, 1, 2, 3, 4, 5, 6] [7, 8] [9, 10] (by kernel_rfl) (by kernel_rfl) (fun _ _ _ _ _ h => h) (Keep.refl _ _).drew ?_
      iterate 7 (refine earlyN_cons (v := ?_) rfl rfl rfl ?_ ?_; rotate_left; focus (
        intro w' hS
        have d0' := hS.cell d0 (fun e => e)
        go_simp
        try with_reducible rfl))
      refine earlyN_nil (midN_cons rfl rfl (fun K hK => ?_))
      go_simp
      have hk0 : Keep No w w.drew := (Keep.refl _ _).drew
      refine (used_spec (h.no hk0) hb (by omega)).mono ?_
      rintro e w1 ⟨rfl, hk1⟩
      have hk2 := hk0.then hk1
      refine hK _ _ hk2 ?_
      clear hK K
      refine midN_cons rfl rfl (fun K hK => ?_)
      go_simp
      refine hK _ _ hk2 ?_
      clear hK K
      refine midN_nil (tailN_cons rfl (tailN_cons rfl (tailN_nil ?_)))
      have h1 := h.no hk2
      have hu1 := BytesAt.no (bn := bm) hu hk2
      have hT1 : l ≠ [] → ban (bn := bn).top ≤ w1.heap.size := fun hne => Nat.le_trans (hT hne) hk2.size
      have hb1 : base ≤ w1.heap.size := Nat.le_trans hb hk2.size
      have hfl := h.foot_lt
      clear h hu d0 d1 hk0 hk1
      go_wp2_with (first
        | (go_at_call 57; refine (clone_spec (bn := bm) hu1 (by omega)).mono ?_; rintro e w2 ⟨v2, rfl, hu2, hk3⟩; obtain ⟨vo, vc, rfl⟩ := hu2.form; have hdo := Lib.hid (do_spec (h1.no hk3) (Nat.le_trans hb1 hk3.size) ⟨seg, l, false⟩ (OwnB.bytes (bn := bn) hu2 hT1) (show ((mget d.now seg).getD []).length + l.length ≤ 17592186044416 from by omega) hwait))
        | (go_at_call 56; refine hdo.out.mono ?_; rintro e w3 ⟨rfl, wv', hd, hk4, hwv⟩))
      go_ret
      have hk5 := hk2.then hk3
      refine ⟨rfl, n, s, wv', hd, hk5.no.trans hk4 (fun _ _ h => h), fun b hb => ?_⟩
      rcases hb with hb | hb | hb | hb
      · exact .inl (.inl hb)
      · exact .inl (.inr (.inl hb))
      · exact .inl (.inr (.inr (.inl hb)))
      · rcases hwv b hb with hb | hb
        · exact .inl (.inr (.inr (.inr hb)))
        · right; have := hk5.size; omega

theorem append_spec [bn : Inhabited Ban] {base : Nat} {w : World} {p n s : Nat} {wv : Value} {d : DiskS} (h : DiskAt base w p n s wv d) (hb : base ≤ w.heap.size) (hsm : Small d) (seg : Int) {u : Value} {l : Bytes} (hu : BytesAt base w u l)
    (hl : l.length ≤ 1099511627776) :
    Calls Try.prog 17 #[.pointer (some ⟨p, 0, none⟩), .int .u64 seg, u] w (DiskPost base w p (foot p n s wv) (d.append seg l).1 (.int .i64 (d.append seg l).2)) :=
  append_gen h hb hsm seg hu hl hu.top

set_option maxRecDepth 100000 in
theorem drop_spec [bn : Inhabited Ban] {base : Nat} {w : World} {p n s : Nat} {wv : Value} {d : DiskS} (h : DiskAt base w p n s wv d) (hb : base ≤ w.heap.size) (hsm : Small d) (seg : Int) :
    Calls Try.prog 18 #[.pointer (some ⟨p, 0, none⟩), .int .u64 seg] w (DiskPost base w p (foot p n s wv) (d.drop seg).1 (.int .i64 (d.drop seg).2)) := by
  obtain ⟨room0, room1, used, hwait⟩ := hsm
  have d2 := cell_of h.blk 2
  simp at d2
  have hmg := mget_le d.now seg
  obtain ⟨v, hv, hlook⟩ := run_lookup h.now seg
  have hl := (hlook w rfl).2
  clear hlook
  cases hs : (mget d.now seg).isSome with
  | false =>
    have e1 : (d.drop seg) = (d, 4) := by simp [DiskS.drop, hs]
    rw [e1]
    rw [hs] at hl
    clear e1 hs
    have HP := Lib.hid (DiskPost.of_no h (Keep.refl _ _) (.int .i64 4))
    clear h hv
    go_enter Try.func18, Try.ntmps18
    go_wp2
    go_ret
    exact HP.out
  | true =>
    have e1 : (d.drop seg) = (d.put ⟨seg, [], true⟩, 0) := by simp [DiskS.drop, hs]
    rw [e1]
    rw [hs] at hl
    clear e1 hs hv
    go_enter Try.func18, Try.ntmps18
    have hdo := do_spec h hb ⟨seg, [], true⟩ (BytesAt.nil base w) (by simp only [List.length_nil]; omega) hwait
    simp only at hdo
    have HD := Lib.hid hdo
    clear hdo
    go_wp2_with (go_at_call 56; refine HD.out.mono ?_; rintro e w3 ⟨rfl, wv', hd, hk4, hwv⟩)
    go_ret
    refine ⟨rfl, n, s, wv', hd, hk4, fun b hb => ?_⟩
    rcases hb with hb | hb | hb | hb
    · exact .inl (.inl hb)
    · exact .inl (.inr (.inl hb))
    · exact .inl (.inr (.inr (.inl hb)))
    · rcases hwv b hb with hb | hb
      · exact .inl (.inr (.inr (.inr hb)))
      · exact .inr hb
end Go.Proofs.Ytpjggnfiocplmaa
