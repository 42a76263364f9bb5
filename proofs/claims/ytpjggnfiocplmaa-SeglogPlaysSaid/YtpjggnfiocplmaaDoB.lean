/- The law's 'do': Sync, Full. -/
import Derived.Test.YtpjggnfiocplmaaDo
namespace Go.Proofs.Ytpjggnfiocplmaa
open Go Go.RowKit Go.Dr

theorem RDiskAt.setSafe [bn : Inhabited Ban] {base : Nat} {w : World} {q : Nat} {lv : Value} {x : RDiskS} (h : RDiskAt base w q lv x) (v : Int) :
    RDiskAt base (w.setCell ⟨q, 3, none⟩ (.int .i64 v)) q lv { x with safe := v } ∧ Keep (· = q) w (w.setCell ⟨q, 3, none⟩ (.int .i64 v)) := by
  have hK : Keep (· = q) w (w.setCell ⟨q, 3, none⟩ (.int .i64 v)) := Keep.setCell (F := (· = q)) (Keep.refl _ _) (p := ⟨q, 3, none⟩) (.inl rfl) _
  have hb2 := heap_setCell_same (i := 3) (u := .int .i64 v) h.blk
  refine ⟨⟨by simpa using hb2, h.calls.keep (F := (· = q)) (fun b hb => h.foot b (.inl hb)) hK (fun b hb e => ?_), h.qb⟩, hK⟩
  obtain ⟨_, cur, hz⟩ := h.calls.kind b hb
  rw [e, h.blk] at hz
  simp at hz
theorem RDiskAt.setFull [bn : Inhabited Ban] {base : Nat} {w : World} {q : Nat} {lv : Value} {x : RDiskS} (h : RDiskAt base w q lv x) (v : Bool) :
    RDiskAt base (w.setCell ⟨q, 1, none⟩ (.bool v)) q lv { x with full := v } ∧ Keep (· = q) w (w.setCell ⟨q, 1, none⟩ (.bool v)) := by
  have hK : Keep (· = q) w (w.setCell ⟨q, 1, none⟩ (.bool v)) := Keep.setCell (F := (· = q)) (Keep.refl _ _) (p := ⟨q, 1, none⟩) (.inl rfl) _
  have hb2 := heap_setCell_same (i := 1) (u := .bool v) h.blk
  refine ⟨⟨by simpa using hb2, h.calls.keep (F := (· = q)) (fun b hb => h.foot b (.inl hb)) hK (fun b hb e => ?_), h.qb⟩, hK⟩
  obtain ⟨_, cur, hz⟩ := h.calls.kind b hb
  rw [e, h.blk] at hz
  simp at hz

set_option maxRecDepth 100000 in
set_option maxHeartbeats 1000000 in
theorem do_sync [bn : Inhabited Ban] {base : Nat} {w : World} {p q : Nat} {d : DiskS} {x : RDiskS} {G : Nat → Prop} (h : Both base w p q d x G) (hb : base ≤ w.heap.size) {a : ActS} {u : Value} (hu : BytesAt base w u a.p) (ok : DoOk d x a) (hc : a.dop % 8 = 4) :
    Calls Try.prog 21 #[.pointer (some ⟨p, 0, none⟩), .pointer (some ⟨q, 0, none⟩), a.value u] w (DoPost base w G (doD d a) (doX x a) (doB d x a)) := by
  obtain ⟨n, s, wv, lv, h, hx, rfl⟩ := h
  have eD : doD d a = d.sync := by simp [doD, hc]
  have eX : doX x a = x.sync := by simp [doX, hc]
  have eB : doB d x a = true := by simp [doB, hc]
  rw [eD, eX, eB]
  clear eD eX eB
  have hd0 := ok.ok.dop0
  have hd1 := ok.ok.dop1
  obtain ⟨uo, uc, rfl⟩ := hu.form
  unfold ActS.value
  have kA : Keep No w (w.alloc (.cells #[.int .u8 a.dop, .int .u64 a.seg, .slice uo a.p.length uc, .bool a.on, .int .i64 a.keep, .int .i64 a.torn] 29)) := (Keep.refl _ _).alloc _
  have hbx := heap_new w (.cells #[.int .u8 a.dop, .int .u64 a.seg, .slice uo a.p.length uc, .bool a.on, .int .i64 a.keep, .int .i64 a.torn] 29)
  have hgl : ∀ b, bfoot p n s wv q lv b → b < w.heap.size := fun b hb => by
    rcases hb with hb | hb
    · exact h.foot_lt b hb
    · exact (hx.foot b hb).2.1
  have hA : ¬ bfoot p n s wv q lv w.heap.size := fun e => by have := hgl _ e; omega
  go_enter Try.func21, Try.ntmps21
  go_wp2_with fail
  refine (cut_spec (hu.no kA) 40 (by decide)).mono ?_
  rintro e w2 ⟨v2, rfl, hown2, k2⟩
  have hbx := k2.heap hbx (fun e => e)
  have hu2 : BytesAt base w2 v2 (a.p.take 40) := hown2.bytes (fun hne => Nat.le_trans (hu.top (fun h0 => hne (by rw [h0]; rfl))) kA.size)
  have k2 := kA.then k2
  have h := h.no k2
  have hx := hx.no k2
  have hb2 := Nat.le_trans hb k2.size
  have c0 := cell_of hbx 0
  have c1 := cell_of hbx 1
  have c3 := cell_of hbx 3
  have c4 := cell_of hbx 4
  have c5 := cell_of hbx 5
  simp at c0 c1 c3 c4 c5
  have HK := Lib.hid (And.intro k2 hgl)
  clear hgl kA hbx hu hown2
  generalize w.heap.size = A at *
  obtain ⟨lo, lc, rfl, _, _⟩ := hx.calls.form
  have d2 := cell_of hx.blk 2
  have f3 := frozen_of hx.blk 3
  have d3 := cell_of hx.blk 3
  simp at d2 d3
  obtain ⟨hx3, k3⟩ := hx.setSafe (x.l.length : Int)
  have h3 := h.byX hx k3
  have HX := Lib.hid (And.intro hx3 k3)
  clear c1 c3 c4 c5 hu2 hx3
  go_wp2_with (go_at_call 22; refine (sync_spec h3 (Nat.le_trans hb2 k3.size)).mono ?_; rintro e w4 ⟨rfl, n', s', wv', h4, k4, f4⟩)
  go_ret3
  have hx4 := HX.out.1.byD h3 k4
  refine ⟨p, q, _, rfl, ⟨n', s', wv', _, h4, hx4, rfl⟩, HK.out.1.no.trans ((HX.out.2.mono (fun _ _ e => .inr (.inl e))).trans k4 (fun _ _ hf => .inl hf)) (fun _ _ e => e), fun b hb => ?_⟩
  have z0 := HK.out.1.size
  have z1 := HX.out.2.size
  rcases hb with hb | hb | hb
  · rcases f4 b hb with hq | hq
    · exact .inl (.inl hq)
    · exact .inr (by omega)
  · exact .inl (.inr (.inl hb))
  · exact .inl (.inr (.inr hb))

set_option maxRecDepth 100000 in
set_option maxHeartbeats 1000000 in
theorem do_full [bn : Inhabited Ban] {base : Nat} {w : World} {p q : Nat} {d : DiskS} {x : RDiskS} {G : Nat → Prop} (h : Both base w p q d x G) (hb : base ≤ w.heap.size) {a : ActS} {u : Value} (hu : BytesAt base w u a.p) (ok : DoOk d x a) (hc : a.dop % 8 = 5) :
    Calls Try.prog 21 #[.pointer (some ⟨p, 0, none⟩), .pointer (some ⟨q, 0, none⟩), a.value u] w (DoPost base w G (doD d a) (doX x a) (doB d x a)) := by
  obtain ⟨n, s, wv, lv, h, hx, rfl⟩ := h
  have eD : doD d a = { d with full := a.on } := by simp [doD, hc]
  have eX : doX x a = { x with full := a.on } := by simp [doX, hc]
  have eB : doB d x a = true := by simp [doB, hc]
  rw [eD, eX, eB]
  clear eD eX eB
  have hd0 := ok.ok.dop0
  have hd1 := ok.ok.dop1
  obtain ⟨uo, uc, rfl⟩ := hu.form
  unfold ActS.value
  have kA : Keep No w (w.alloc (.cells #[.int .u8 a.dop, .int .u64 a.seg, .slice uo a.p.length uc, .bool a.on, .int .i64 a.keep, .int .i64 a.torn] 29)) := (Keep.refl _ _).alloc _
  have hbx := heap_new w (.cells #[.int .u8 a.dop, .int .u64 a.seg, .slice uo a.p.length uc, .bool a.on, .int .i64 a.keep, .int .i64 a.torn] 29)
  have hgl : ∀ b, bfoot p n s wv q lv b → b < w.heap.size := fun b hb => by
    rcases hb with hb | hb
    · exact h.foot_lt b hb
    · exact (hx.foot b hb).2.1
  have hA : ¬ bfoot p n s wv q lv w.heap.size := fun e => by have := hgl _ e; omega
  go_enter Try.func21, Try.ntmps21
  go_wp2_with fail
  refine (cut_spec (hu.no kA) 40 (by decide)).mono ?_
  rintro e w2 ⟨v2, rfl, hown2, k2⟩
  have hbx := k2.heap hbx (fun e => e)
  have hu2 : BytesAt base w2 v2 (a.p.take 40) := hown2.bytes (fun hne => Nat.le_trans (hu.top (fun h0 => hne (by rw [h0]; rfl))) kA.size)
  have k2 := kA.then k2
  have h := h.no k2
  have hx := hx.no k2
  have hb2 := Nat.le_trans hb k2.size
  have c0 := cell_of hbx 0
  have c1 := cell_of hbx 1
  have c3 := cell_of hbx 3
  have c4 := cell_of hbx 4
  have c5 := cell_of hbx 5
  simp at c0 c1 c3 c4 c5
  have HK := Lib.hid (And.intro k2 hgl)
  clear hgl kA hbx hu hown2
  generalize w.heap.size = A at *
  go_wp2_with (go_at_call 24; refine (full_spec h a.on).mono ?_; rintro e w4 ⟨rfl, n', s', wv', h4, k4, f4⟩; have hx4 := hx.byD h k4; have f1 := frozen_of hx4.blk 1; have d1 := cell_of hx4.blk 1; simp at d1; have c3' := k4.cell c3 (fun e => hA (.inl e)))
  obtain ⟨hx5, k5⟩ := hx4.setFull a.on
  have h5 := h4.byX hx4 k5
  go_ret3
  refine ⟨p, q, _, rfl, ⟨n', s', wv', _, h5, hx5, rfl⟩, HK.out.1.no.trans ((k4.mono (fun _ _ hf => .inl hf)).trans k5 (fun _ _ e => .inr (.inl e))) (fun _ _ e => e), fun b hb => ?_⟩
  have z0 := HK.out.1.size
  rcases hb with hb | hb | hb
  · rcases f4 b hb with hq | hq
    · exact .inl (.inl hq)
    · exact .inr (by omega)
  · exact .inl (.inr (.inl hb))
  · exact .inl (.inr (.inr hb))
end Go.Proofs.Ytpjggnfiocplmaa
