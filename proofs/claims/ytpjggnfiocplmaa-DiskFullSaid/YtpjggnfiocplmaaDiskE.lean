/- disk.Same, Sync, Read, Full, Waiting, Room. -/
import Derived.Test.YtpjggnfiocplmaaDiskD
namespace Go.Proofs.Ytpjggnfiocplmaa
open Go Go.RowKit Go.Dr

set_option maxRecDepth 100000 in
set_option maxHeartbeats 1000000 in
theorem same_spec [bn : Inhabited Ban] {base : Nat} {w : World} {p n s p' n' s' : Nat} {wv wv' : Value} {d d' : DiskS} (h : DiskAt base w p n s wv d) (h' : DiskAt base w p' n' s' wv' d') (hb : base ≤ w.heap.size) :
    Calls Try.prog 19 #[.pointer (some ⟨p, 0, none⟩), .pointer (some ⟨p', 0, none⟩)] w fun e w' => e = .returned (.bool (msame d.now d'.now)) ∧ Keep No w w' := by
  have c2 := cell_of h.blk 2
  have c2' := cell_of h'.blk 2
  simp at c2 c2'
  have hk0 : Keep No w w.drew := (Keep.refl _ _).drew
  have hE := meq_spec (h.no hk0).now (h'.no hk0).now hb
  generalize msame d.now d'.now = b at *
  have HE := Lib.hid hE
  clear hE h h'
  go_enter Try.func19, Try.ntmps19
  go_wp2
  refine wp_drawN (fun w' => w' = w.drew) [0, 1, 2, 3, 4, 5, 6, 7] [] [8, 9] (by kernel_rfl) (by kernel_rfl) (fun _ _ _ _ _ h => h) rfl ?_
  iterate 8 (refine earlyN_cons (v := ?_) rfl rfl rfl ?_ ?_; rotate_left; focus (
    rintro w' rfl
    go_simp
    try with_reducible rfl))
  refine earlyN_nil (midN_nil (tailN_cons rfl (tailN_cons rfl (tailN_nil ?_))))
  go_wp2_with (go_at_call 58; refine HE.out.mono ?_; rintro e w2 ⟨rfl, hk⟩)
  go_ret
  exact ⟨rfl, hk0.then hk⟩

def DiskS.sync (d : DiskS) : DiskS := { d with safe := d.now, wait := [] }

set_option maxRecDepth 100000 in
theorem sync_spec [bn : Inhabited Ban] {base : Nat} {w : World} {p n s : Nat} {wv : Value} {d : DiskS} (h : DiskAt base w p n s wv d) (hb : base ≤ w.heap.size) :
    Calls Try.prog 22 #[.pointer (some ⟨p, 0, none⟩)] w (DiskPost base w p (foot p n s wv) d.sync (.int .i64 0)) := by
  have c2 := cell_of h.blk 2
  simp at c2
  go_enter Try.func22, Try.ntmps22
  go_wp2_with fail
  refine (mclone_spec h.now).mono ?_
  rintro e w1 ⟨r, rfl, hm, hr, hsz, hk⟩
  have h1 := h.no hk
  have hpr : p ≠ r := fun e => by have := h.foot_lt p (.inl rfl); omega
  have hnr : n ≠ r := fun e => by have := h.foot_lt n (.inr (.inl rfl)); omega
  have c3 := cell_of h1.blk 3
  have c4 := cell_of h1.blk 4
  have f3 := frozen_of h1.blk 3
  have f4 := frozen_of h1.blk 4
  simp at c3 c4
  have hblk := h1.blk
  have hF : Foot base w1 (· = p) := by
    rintro b rfl
    exact ⟨h.pb, heap_lt hblk, fun cs fr e => by rw [hblk] at e; simp at e⟩
  have hK : Keep (· = p) w1 ((w1.setCell ⟨p, 3, none⟩ (.map (some r))).setCell ⟨p, 4, none⟩ (.slice none 0 0)) :=
    Keep.setCell (F := (· = p)) (Keep.setCell (F := (· = p)) (Keep.refl _ _) (p := ⟨p, 3, none⟩) (.inl rfl) _) (p := ⟨p, 4, none⟩) (.inl rfl) _
  have hb2 := heap_setCell_same (i := 4) (u := .slice none 0 0) (heap_setCell_same (i := 3) (u := .map (some r)) hblk)
  have hn2 := h1.now.keep hF hK (fun e => by obtain ⟨_, _, hz⟩ := h1.now.kind; rw [e, hblk] at hz; cases hz)
  have hs2 := hm.keep hF hK (fun e => hpr e.symm)
  have HP : Hid (DiskPost base w p (foot p n s wv) d.sync (.int .i64 0) (.returned (.int .i64 0)) ((w1.setCell ⟨p, 3, none⟩ (.map (some r))).setCell ⟨p, 4, none⟩ (.slice none 0 0))) := by
    refine ⟨rfl, n, r, .slice none 0 0, ⟨by simpa [DiskS.sync] using hb2, hn2, hs2, WaitAt.nil _ _, h.pb, h.nb, by omega, hnr⟩, hk.no.trans hK (fun _ _ e => .inl e), ?_⟩
    rintro b (rfl | rfl | rfl | hq)
    · exact .inl (.inl rfl)
    · exact .inl (.inr (.inl rfl))
    · right; omega
    · simp [Value.ownBlock] at hq
  clear h h1 hm hblk hF hK hb2 hn2 hs2 hk hr hsz hpr hnr
  go_wp2
  go_ret
  exact HP.out

def ReadPost [bn : Inhabited Ban] (base : Nat) (w : World) (l : Bytes) (c : Int) (e : Ending) (w' : World) : Prop := ∃ v, e = .returned (.tuple #[v, .int .i64 c]) ∧ BytesAt base w' v l ∧ OwnB w' w.heap.size v l ∧ Keep No w w'
def DiskS.read (d : DiskS) (seg : Int) : Bytes × Int := match mget d.now seg with | some l => (l, 0) | none => ([], 4)

set_option maxRecDepth 100000 in
theorem read_spec [bn : Inhabited Ban] {base : Nat} {w : World} {p n s : Nat} {wv : Value} {d : DiskS} (h : DiskAt base w p n s wv d) (hu : msum d.now ≤ 1099511627776) (seg : Int) :
    Calls Try.prog 25 #[.pointer (some ⟨p, 0, none⟩), .int .u64 seg] w (ReadPost base w (d.read seg).1 (d.read seg).2) := by
  have d2 := cell_of h.blk 2
  simp at d2
  have hmg := mget_le d.now seg
  obtain ⟨v, hv, hlook⟩ := run_lookup h.now seg
  have hl := (hlook w rfl).2
  clear hlook
  cases hs : mget d.now seg with
  | none =>
    rw [hs] at hl hv
    have e1 : d.read seg = ([], 4) := by simp [DiskS.read, hs]
    rw [e1]
    have HP : Hid (ReadPost base w [] 4 (.returned (.tuple #[.slice none 0 0, .int .i64 4])) w) := ⟨_, rfl, BytesAt.nil _ _, OwnB.nil _ _, Keep.refl _ _⟩
    clear e1 hs h hv
    go_enter Try.func25, Try.ntmps25
    go_wp2
    go_ret2
    exact HP.out
  | some l =>
    rw [hs] at hl hv hmg
    have e1 : d.read seg = (l, 0) := by simp [DiskS.read, hs]
    rw [e1]
    have hv' : BytesAt base w v l := hv
    have hlen : l.length ≤ 35184372088832 := by simp at hmg; omega
    clear e1 hs h hv hmg
    go_enter Try.func25, Try.ntmps25
    go_wp2_with (go_at_call 57; refine (clone_spec hv' hlen).mono ?_; rintro e w2 ⟨v2, rfl, hu2, hk3⟩)
    go_ret2
    exact ⟨_, rfl, hu2.bytes hv'.top, hu2, hk3⟩

set_option maxRecDepth 100000 in
theorem full_spec [bn : Inhabited Ban] {base : Nat} {w : World} {p n s : Nat} {wv : Value} {d : DiskS} (h : DiskAt base w p n s wv d) (on : Bool) :
    Calls Try.prog 24 #[.pointer (some ⟨p, 0, none⟩), .bool on] w (DiskPost base w p (foot p n s wv) { d with full := on } (.tuple #[])) := by
  have hblk := h.blk
  have c1 := cell_of hblk 1
  have f1 := frozen_of hblk 1
  simp at c1
  have hF : Foot base w (· = p) := by
    rintro b rfl
    exact ⟨h.pb, heap_lt hblk, fun cs fr e => by rw [hblk] at e; simp at e⟩
  have hK : Keep (· = p) w (w.setCell ⟨p, 1, none⟩ (.bool on)) := Keep.setCell (F := (· = p)) (Keep.refl _ _) (p := ⟨p, 1, none⟩) (.inl rfl) _
  have hb2 := heap_setCell_same (i := 1) (u := .bool on) hblk
  have HP : Hid (DiskPost base w p (foot p n s wv) { d with full := on } (.tuple #[]) (.returned (.tuple #[])) (w.setCell ⟨p, 1, none⟩ (.bool on))) := by
    refine ⟨rfl, n, s, wv, ⟨by simpa using hb2, h.now.keep hF hK (fun e => ?_), h.safe.keep hF hK (fun e => ?_), h.wait.keep hF hK (fun b hb e => ?_), h.pb, h.nb, h.sb, h.ns⟩, hK.mono (fun _ _ e => .inl e), fun b hb => .inl hb⟩
    · obtain ⟨_, _, hz⟩ := h.now.kind; rw [e, hblk] at hz; cases hz
    · obtain ⟨_, _, hz⟩ := h.safe.kind; rw [e, hblk] at hz; cases hz
    · obtain ⟨_, cur, hz⟩ := h.wait.kind b hb; rw [e, hblk] at hz; simp at hz
  clear h hblk hF hK hb2
  go_enter Try.func24, Try.ntmps24
  go_wp2
  go_end0
  exact HP.out

theorem waiting_spec [bn : Inhabited Ban] {base : Nat} {w : World} {p n s : Nat} {wv : Value} {d : DiskS} (h : DiskAt base w p n s wv d) :
    Calls Try.prog 27 #[.pointer (some ⟨p, 0, none⟩)] w fun e w' => e = .returned (.int .i64 (d.wait.length : Nat)) ∧ w = w' := by
  obtain ⟨wo, wc, rfl⟩ := h.wait.form
  have c4 := cell_of h.blk 4
  simp at c4
  clear h
  go_enter Try.func27, Try.ntmps27
  go_wp2
  go_ret
  exact ⟨rfl, rfl⟩
theorem room_spec [bn : Inhabited Ban] {base : Nat} {w : World} {p n s : Nat} {wv : Value} {d : DiskS} (h : DiskAt base w p n s wv d) :
    Calls Try.prog 33 #[.pointer (some ⟨p, 0, none⟩)] w fun e w' => e = .returned (.int .i64 d.room) ∧ w = w' := by
  have c0 := cell_of h.blk 0
  simp at c0
  clear h
  go_enter Try.func33, Try.ntmps33
  go_wp2
  go_ret
  exact ⟨rfl, rfl⟩
end Go.Proofs.Ytpjggnfiocplmaa
