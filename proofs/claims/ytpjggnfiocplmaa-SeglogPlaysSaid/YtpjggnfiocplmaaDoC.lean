/- The law's 'do': Crash, Read, Append. -/
import Derived.Test.YtpjggnfiocplmaaDoB
namespace Go.Proofs.Ytpjggnfiocplmaa
open Go Go.RowKit Go.Dr

set_option maxRecDepth 100000 in
set_option maxHeartbeats 1000000 in
theorem do_crash [bn : Inhabited Ban] {base : Nat} {w : World} {p q : Nat} {d : DiskS} {x : RDiskS} {G : Nat → Prop} (h : Both base w p q d x G) (hb : base ≤ w.heap.size) {a : ActS} {u : Value} (hu : BytesAt base w u a.p) (ok : DoOk d x a) (hc : a.dop % 8 = 6) :
    Calls Try.prog 21 #[.pointer (some ⟨p, 0, none⟩), .pointer (some ⟨q, 0, none⟩), a.value u] w (DoPost base w G (doD d a) (doX x a) (doB d x a)) := by
  obtain ⟨n, s, wv, lv, h, hx, rfl⟩ := h
  have eD : doD d a = d.crash a.keep a.torn := by simp [doD, hc]
  have eX : doX x a = x.crash a.keep a.torn := by simp [doX, hc]
  have eB : doB d x a = true := by simp [doB, hc]
  rw [eD, eX, eB]
  have hkm : IntKind.i64.min ≤ a.keep ∧ a.keep ≤ IntKind.i64.max := by simpa [Lit.wf] using ok.ok.keep0
  have hkm : a.keep ≤ 9223372036854775807 := hkm.2
  clear eD eX eB
  have hd0 := ok.ok.dop0
  have hd1 := ok.ok.dop1
  obtain ⟨uo, uc, rfl⟩ := hu.form
  unfold ActS.value
  have kA : Keep No w (w.alloc (.cells #[.int .u8 a.dop, .int .u64 a.seg, .slice uo a.p.length uc, .bool a.on, .int .i64 a.keep, .int .i64 a.torn] 29)) := (Keep.refl _ _).alloc _
  have hbx := heap_new w (.cells #[.int .u8 a.dop, .int .u64 a.seg, .slice uo a.p.length uc, .bool a.on, .int .i64 a.keep, .int .i64 a.torn] 29)
  have hgl : ∀ b, bfoot p n s wv q lv b → b < w.heap.size := fun b hb => by
    rcases hb with hb | hb
    · exact h.foot_lt b hb
    · exact (hx.foot b hb).2.1
  have hA : ¬ bfoot p n s wv q lv w.heap.size := fun e => by have := hgl _ e; omega
  go_enter Try.func21, Try.ntmps21
  go_wp2_with fail
  refine (cut_spec (hu.no kA) 40 (by decide)).mono ?_
  rintro e w2 ⟨v2, rfl, hown2, k2⟩
  have hbx := k2.heap hbx (fun e => e)
  have hu2 : BytesAt base w2 v2 (a.p.take 40) := hown2.bytes (fun hne => Nat.le_trans (hu.top (fun h0 => hne (by rw [h0]; rfl))) kA.size)
  have k2 := kA.then k2
  have h := h.no k2
  have hx := hx.no k2
  have hb2 := Nat.le_trans hb k2.size
  have c0 := cell_of hbx 0
  have c1 := cell_of hbx 1
  have c3 := cell_of hbx 3
  have c4 := cell_of hbx 4
  have c5 := cell_of hbx 5
  simp at c0 c1 c3 c4 c5
  have HK := Lib.hid (And.intro k2 hgl)
  clear hgl kA hbx hu hown2
  generalize w.heap.size = A at *
  go_wp2_with fail
  refine wp_drawN (fun w' => Keep No w2 w') [0, 1, 2, 3, 4, 6, 7, 8, 9, 10] [5, 11] [12, 13, 14] (by kernel_rfl) (by kernel_rfl) (fun _ _ _ _ _ h => h) (Keep.refl _ _).drew ?_
  iterate 10 (refine earlyN_cons (v := ?_) rfl rfl rfl ?_ ?_; rotate_left; focus (
    intro w' hS
    have c4' := hS.cell c4 (fun e => e)
    have c5' := hS.cell c5 (fun e => e)
    go_simp
    try with_reducible rfl))
  refine earlyN_nil ?_
  have kd : Keep No w2 w2.drew := (Keep.refl _ _).drew
  refine midN_cons rfl rfl (fun K hK => ?_)
  go_simp
  refine (crash_spec (h.no kd) (Nat.le_trans hb2 kd.size) ok.all ok.small.wait a.keep a.torn ok.ok.torn0).mono ?_
  rintro e w3 ⟨p', n', s', wv', rfl, h3, k3, f3⟩
  have k3 := kd.then k3
  refine hK _ _ k3 ?_
  clear hK K
  refine midN_cons rfl rfl (fun K hK => ?_)
  go_simp
  refine (rcrash_spec (hx.no k3) (Nat.le_trans hb2 k3.size) ok.xl ok.xs ok.s0 ok.s1 a.keep a.torn hkm).mono ?_
  rintro e w4 ⟨q', lv', rfl, hx4, k4, f4, g4⟩
  have k4' := k3.then k4
  refine hK _ _ k4' ?_
  clear hK K
  refine midN_nil (tailN_cons rfl (tailN_cons rfl (tailN_cons rfl (tailN_nil ?_))))
  clear c0 c1 c3 c4 c5 h hx
  go_wp2
  go_ret3
  refine ⟨p', q', _, rfl, ⟨n', s', wv', lv', h3.no k4, hx4, rfl⟩, (HK.out.1.then k4').no, fun b hb => .inr ?_⟩
  have z0 := HK.out.1.size
  have z1 := k3.size
  have z2 := kd.size
  rcases hb with hb | hb | hb
  · have := f3 b hb; omega
  · omega
  · have := g4 b hb; omega

set_option maxRecDepth 100000 in
set_option maxHeartbeats 1000000 in
theorem do_read [bn : Inhabited Ban] {base : Nat} {w : World} {p q : Nat} {d : DiskS} {x : RDiskS} {G : Nat → Prop} (h : Both base w p q d x G) (hb : base ≤ w.heap.size) {a : ActS} {u : Value} (hu : BytesAt base w u a.p) (ok : DoOk d x a) (hc : a.dop % 8 = 7) :
    Calls Try.prog 21 #[.pointer (some ⟨p, 0, none⟩), .pointer (some ⟨q, 0, none⟩), a.value u] w (DoPost base w G (doD d a) (doX x a) (doB d x a)) := by
  obtain ⟨n, s, wv, lv, h, hx, rfl⟩ := h
  have eD : doD d a = d := by simp [doD, hc]
  have eX : doX x a = x := by simp [doX, hc]
  have eB : doB d x a = ((d.read a.seg).1 == (read6 (segs6 x.l) a.seg).1 && (d.read a.seg).2 == (read6 (segs6 x.l) a.seg).2) := by simp [doB, hc]
  rw [eD, eX, eB]
  clear eD eX eB
  have hd0 := ok.ok.dop0
  have hd1 := ok.ok.dop1
  obtain ⟨uo, uc, rfl⟩ := hu.form
  unfold ActS.value
  have kA : Keep No w (w.alloc (.cells #[.int .u8 a.dop, .int .u64 a.seg, .slice uo a.p.length uc, .bool a.on, .int .i64 a.keep, .int .i64 a.torn] 29)) := (Keep.refl _ _).alloc _
  have hbx := heap_new w (.cells #[.int .u8 a.dop, .int .u64 a.seg, .slice uo a.p.length uc, .bool a.on, .int .i64 a.keep, .int .i64 a.torn] 29)
  have hgl : ∀ b, bfoot p n s wv q lv b → b < w.heap.size := fun b hb => by
    rcases hb with hb | hb
    · exact h.foot_lt b hb
    · exact (hx.foot b hb).2.1
  have hA : ¬ bfoot p n s wv q lv w.heap.size := fun e => by have := hgl _ e; omega
  go_enter Try.func21, Try.ntmps21
  go_wp2_with fail
  refine (cut_spec (hu.no kA) 40 (by decide)).mono ?_
  rintro e w2 ⟨v2, rfl, hown2, k2⟩
  have hbx := k2.heap hbx (fun e => e)
  have hu2 : BytesAt base w2 v2 (a.p.take 40) := hown2.bytes (fun hne => Nat.le_trans (hu.top (fun h0 => hne (by rw [h0]; rfl))) kA.size)
  have k2 := kA.then k2
  have h := h.no k2
  have hx := hx.no k2
  have hb2 := Nat.le_trans hb k2.size
  have c0 := cell_of hbx 0
  have c1 := cell_of hbx 1
  have c3 := cell_of hbx 3
  have c4 := cell_of hbx 4
  have c5 := cell_of hbx 5
  simp at c0 c1 c3 c4 c5
  have HK := Lib.hid (And.intro k2 hgl)
  clear hgl kA hbx hu hown2
  generalize w.heap.size = A at *
  have hrd := read_spec h ok.small.used a.seg
  obtain ⟨l1, hl1⟩ : ∃ l1, l1 = (d.read a.seg).1 := ⟨_, rfl⟩
  obtain ⟨r1, hr1⟩ : ∃ r1, r1 = (d.read a.seg).2 := ⟨_, rfl⟩
  obtain ⟨l2, hl2⟩ : ∃ l2, l2 = (read6 (segs6 x.l) a.seg).1 := ⟨_, rfl⟩
  obtain ⟨r2, hr2⟩ : ∃ r2, r2 = (read6 (segs6 x.l) a.seg).2 := ⟨_, rfl⟩
  rw [← hl1, ← hr1] at hrd
  have hrr := fun w' (k : Keep No w2 w') => rread_spec (hx.no k) (Nat.le_trans hb2 k.size) ok.xl ok.xs a.seg
  rw [← hl2, ← hr2] at hrr
  have HR := Lib.hid (And.intro hl1 (And.intro hr1 (And.intro hl2 hr2)))
  have HH := Lib.hid (And.intro h hx)
  clear hl2 hr2 hl1 hr1 h hx
  go_wp2_with (go_at_call 25; refine hrd.mono ?_; rintro e w3 ⟨v3, rfl, hv3, _, k3⟩; have c1' := k3.cell c1 (fun e => e); obtain ⟨o3, cp3, rfl⟩ := hv3.form)
  go_wp2_with fail
  refine (hrr _ k3).mono ?_
  rintro e w4 ⟨v4, rfl, hv4, k4⟩
  obtain ⟨o4, cp4, rfl⟩ := hv4.form
  have hsame := r1same_spec (hv3.no k4) hv4
  have k24 := k3.then k4
  cases hq : (l1 == l2) with
  | true =>
    rw [hq] at hsame
    have HQ := Lib.hid hq
    clear hq hrr hrd hv3 hv4 k3 k4 c0 c1 c1'
    go_wp2_with (go_at_call 26; refine hsame.mono ?_; rintro e w5 ⟨rfl, k5⟩)
    go_ret3
    have hkk := HK.out.1.then (k24.then k5)
    obtain ⟨e1, e2, e3, e4⟩ := HR.out
    rw [← e1, ← e2, ← e3, ← e4, HQ.out, Bool.true_and]
    exact ⟨p, q, _, rfl, ⟨n, s, wv, lv, (HH.out.1.no k24).no k5, (HH.out.2.no k24).no k5, rfl⟩, hkk.no, fun b hb => .inl hb⟩
  | false =>
    rw [hq] at hsame
    have HQ := Lib.hid hq
    clear hq hrr hrd hv3 hv4 k3 k4 c0 c1 c1'
    go_wp2_with (go_at_call 26; refine hsame.mono ?_; rintro e w5 ⟨rfl, k5⟩)
    go_ret3
    have hkk := HK.out.1.then (k24.then k5)
    obtain ⟨e1, e2, e3, e4⟩ := HR.out
    rw [← e1, ← e2, ← e3, ← e4, HQ.out, Bool.false_and]
    exact ⟨p, q, _, rfl, ⟨n, s, wv, lv, (HH.out.1.no k24).no k5, (HH.out.2.no k24).no k5, rfl⟩, hkk.no, fun b hb => .inl hb⟩

set_option maxRecDepth 100000 in
set_option maxHeartbeats 1000000 in
theorem do_append [bn : Inhabited Ban] {base : Nat} {w : World} {p q : Nat} {d : DiskS} {x : RDiskS} {G : Nat → Prop} (h : Both base w p q d x G) (hb : base ≤ w.heap.size) {a : ActS} {u : Value} (hu : BytesAt base w u a.p) (ok : DoOk d x a) (hc : a.dop % 8 ≠ 3) (hc4 : a.dop % 8 ≠ 4) (hc5 : a.dop % 8 ≠ 5) (hc6 : a.dop % 8 ≠ 6) (hc7 : a.dop % 8 ≠ 7) :
    Calls Try.prog 21 #[.pointer (some ⟨p, 0, none⟩), .pointer (some ⟨q, 0, none⟩), a.value u] w (DoPost base w G (doD d a) (doX x a) (doB d x a)) := by
  obtain ⟨n, s, wv, lv, h, hx, rfl⟩ := h
  have eD : doD d a = (d.append a.seg (a.p.take 40)).1 := by simp [doD, hc, hc4, hc5, hc6, hc7]
  have eX : doX x a = (x.append a.seg (a.p.take 40)).1 := by simp [doX, hc, hc4, hc5, hc6, hc7]
  have eB : doB d x a = ((d.append a.seg (a.p.take 40)).2 == (x.append a.seg (a.p.take 40)).2) := by simp [doB, hc, hc4, hc5, hc6, hc7]
  rw [eD, eX, eB]
  clear eD eX eB
  have hd0 := ok.ok.dop0
  have hd1 := ok.ok.dop1
  obtain ⟨uo, uc, rfl⟩ := hu.form
  unfold ActS.value
  have kA : Keep No w (w.alloc (.cells #[.int .u8 a.dop, .int .u64 a.seg, .slice uo a.p.length uc, .bool a.on, .int .i64 a.keep, .int .i64 a.torn] 29)) := (Keep.refl _ _).alloc _
  have hbx := heap_new w (.cells #[.int .u8 a.dop, .int .u64 a.seg, .slice uo a.p.length uc, .bool a.on, .int .i64 a.keep, .int .i64 a.torn] 29)
  have hgl : ∀ b, bfoot p n s wv q lv b → b < w.heap.size := fun b hb => by
    rcases hb with hb | hb
    · exact h.foot_lt b hb
    · exact (hx.foot b hb).2.1
  have hA : ¬ bfoot p n s wv q lv w.heap.size := fun e => by have := hgl _ e; omega
  go_enter Try.func21, Try.ntmps21
  go_wp2_with fail
  refine (cut_spec (hu.no kA) 40 (by decide)).mono ?_
  rintro e w2 ⟨v2, rfl, hown2, k2⟩
  have hbx := k2.heap hbx (fun e => e)
  have hu2 : BytesAt base w2 v2 (a.p.take 40) := hown2.bytes (fun hne => Nat.le_trans (hu.top (fun h0 => hne (by rw [h0]; rfl))) kA.size)
  have k2 := kA.then k2
  have h := h.no k2
  have hx := hx.no k2
  have hb2 := Nat.le_trans hb k2.size
  have c0 := cell_of hbx 0
  have c1 := cell_of hbx 1
  have c3 := cell_of hbx 3
  have c4 := cell_of hbx 4
  have c5 := cell_of hbx 5
  simp at c0 c1 c3 c4 c5
  have HK := Lib.hid (And.intro k2 hgl)
  clear hgl kA hbx hu hown2
  generalize w.heap.size = A at *
  obtain ⟨l, hl⟩ : ∃ l, l = a.p.take 40 := ⟨_, rfl⟩
  have hll : l.length ≤ 40 := by rw [hl]; simp; omega
  rw [← hl] at hu2 ⊢
  obtain ⟨o2, cp2, rfl⟩ := hu2.form
  have HL := Lib.hid hl
  clear hl
  go_wp2_with fail
  refine wp_drawN2 (fun w' => Keep (bfoot p n s wv q lv) w2 w') [0, 1, 2, 3, 4, 5, 7, 8, 9, 10] [6, 11] [12] [13, 14, 15] (by kernel_rfl) (by kernel_rfl) (fun _ _ _ _ _ h => h) (Keep.refl _ _).drew ?_
  iterate 10 (refine earlyN_cons (v := ?_) rfl rfl rfl ?_ ?_; rotate_left; focus (
    intro w' hS
    have c1' := hS.cell c1 hA
    go_simp
    try with_reducible rfl))
  refine earlyN_nil ?_
  have kd : Keep No w2 w2.drew := (Keep.refl _ _).drew
  refine midN_cons rfl rfl (fun K hK => ?_)
  go_simp
  refine (append_spec (h.no kd) (Nat.le_trans hb2 kd.size) ok.small a.seg (hu2.no kd) (by omega)).mono ?_
  rintro e w3 ⟨rfl, n', s', wv', h3, k3, f3⟩
  have kG : Keep (bfoot p n s wv q lv) w2 w3 := kd.no.trans k3 (fun _ _ hf => .inl hf)
  have hx3 := (hx.no kd).byD (h.no kd) k3
  have hu3 := (hu2.no kd).keep (h.no kd).foot_ok k3
  refine hK _ _ kG ?_
  clear hK K
  refine midN_cons rfl rfl (fun K hK => ?_)
  go_simp
  refine (rappend_spec hx3 (Nat.le_trans hb2 kG.size) ok.xl ok.xs a.seg hu3 (by omega)).mono ?_
  rintro e w4 ⟨rfl, lv', hx4, k4, f4⟩
  have h4 := h3.byX hx3 k4
  have kG4 := kG.trans k4 (fun _ _ e => .inr (.inl e))
  refine hK _ _ kG4 ?_
  clear hK K
  refine midN_nil (earlyN_cons (v := ?_) rfl rfl rfl ?_ ?_)
  rotate_left
  · intro w' _
    go_simp
    try with_reducible rfl
  refine earlyN_nil ?_
  iterate 3 (refine midN_cons rfl rfl (fun K hK => ?_); go_simp; refine hK _ _ kG4 ?_; clear hK K)
  refine midN_nil ?_
  clear c0 c1 c3 c4 c5 h hx hx3 h3 hu2 hu3
  go_wp2
  go_ret3
  rw [← HL.out]
  refine ⟨p, q, _, rfl, ⟨n', s', wv', lv', h4, hx4, rfl⟩, HK.out.1.no.trans kG4 (fun _ _ e => e), fun b hb => ?_⟩
  have z0 := HK.out.1.size
  have z1 := kd.size
  have z2 := kG.size
  rcases hb with hb | hb | hb
  · rcases f3 b hb with hq | hq
    · exact .inl (.inl hq)
    · exact .inr (by omega)
  · exact .inl (.inr (.inl hb))
  · rcases f4 b hb with hq | hq
    · exact .inl (.inr (.inr hq))
    · exact .inr (by omega)
end Go.Proofs.Ytpjggnfiocplmaa
