/- The law's 'do': both disks in memory; Drop. -/
import Derived.Test.YtpjggnfiocplmaaRef6
import Derived.Test.YtpjggnfiocplmaaPure6
import Derived.Test.YtpjggnfiocplmaaFound
import Derived.OwnWalk
namespace Go.Proofs.Ytpjggnfiocplmaa
open Go Go.RowKit Go.Dr

def bfoot (p n s : Nat) (wv : Value) (q : Nat) (lv : Value) : Nat → Prop := fun b => foot p n s wv b ∨ b = q ∨ lv.ownBlock = some b
/-- Both disks in memory; G: the blocks that are theirs. -/
def Both [bn : Inhabited Ban] (base : Nat) (w : World) (p q : Nat) (d : DiskS) (x : RDiskS) (G : Nat → Prop) : Prop :=
  ∃ n s wv lv, DiskAt base w p n s wv d ∧ RDiskAt base w q lv x ∧ G = bfoot p n s wv q lv
def DoPost [bn : Inhabited Ban] (base : Nat) (w : World) (G : Nat → Prop) (d : DiskS) (x : RDiskS) (r : Bool) (e : Ending) (w' : World) : Prop :=
  ∃ p q G', e = .returned (.tuple #[.pointer (some ⟨p, 0, none⟩), .pointer (some ⟨q, 0, none⟩), .bool r]) ∧ Both base w' p q d x G' ∧ Keep G w w' ∧ ∀ b, G' b → G b ∨ w.heap.size ≤ b
section
variable [bn : Inhabited Ban] {base : Nat} {w w' : World} {p n s q : Nat} {wv lv : Value} {d : DiskS} {x : RDiskS}
theorem RDiskAt.kind (h : RDiskAt base w q lv x) {b : Nat} (hb : b = q ∨ lv.ownBlock = some b) : base ≤ b ∧ ∃ cs t, w.heap[b]? = some (.cells cs t (0, 0)) ∧ (t = 40 ∨ t = 113) := by
  rcases hb with rfl | hb
  · exact ⟨h.qb, _, _, h.blk, .inl rfl⟩
  · obtain ⟨h1, cur, hz⟩ := h.calls.kind b hb
    exact ⟨h1, _, _, hz, .inr rfl⟩
theorem RDiskAt.foot (h : RDiskAt base w q lv x) : Foot base w (fun b => b = q ∨ lv.ownBlock = some b) := by
  intro b hb
  obtain ⟨h1, cs, t, hz, ht⟩ := h.kind hb
  exact ⟨h1, heap_lt hz, fun cs fr e => by rw [hz] at e; simp at e; obtain ⟨_, rfl, _⟩ := e; rcases ht with ht | ht <;> simp at ht⟩
theorem DiskAt.apart (h : DiskAt base w p n s wv d) (hx : RDiskAt base w q lv x) {b : Nat} (hb : b = q ∨ lv.ownBlock = some b) : ¬ Go.Proofs.Ytpjggnfiocplmaa.foot p n s wv b := fun hf => by
  obtain ⟨_, cs, t, hz, ht⟩ := hx.kind hb
  rcases h.foot_kind hf hz with rfl | rfl <;> rcases ht with ht | ht <;> simp at ht
theorem RDiskAt.byD (hx : RDiskAt base w q lv x) (h : DiskAt base w p n s wv d) (k : Keep (Go.Proofs.Ytpjggnfiocplmaa.foot p n s wv) w w') : RDiskAt base w' q lv x :=
  ⟨k.heap hx.blk (h.apart hx (.inl rfl)), hx.calls.keep h.foot_ok k (fun _ hb => h.apart hx (.inr hb)), hx.qb⟩
theorem DiskAt.byX (h : DiskAt base w p n s wv d) (hx : RDiskAt base w q lv x) (k : Keep (· = q) w w') : DiskAt base w' p n s wv d :=
  h.keep (F := (· = q)) (fun b hb => hx.foot b (.inl hb)) k (fun _ hb e => h.apart hx (.inl e) hb)
theorem RDiskAt.keep {F : Nat → Prop} (hx : RDiskAt base w q lv x) (hF : Foot base w F) (k : Keep F w w') (hn : ∀ b, b = q ∨ lv.ownBlock = some b → ¬ F b) : RDiskAt base w' q lv x :=
  ⟨k.heap hx.blk (hn _ (.inl rfl)), hx.calls.keep hF k (fun b hb => hn b (.inr hb)), hx.qb⟩
theorem Both.foot {G : Nat → Prop} (h : Both base w p q d x G) : Foot base w G := by
  obtain ⟨n, s, wv, lv, h1, h2, rfl⟩ := h
  rintro b (hb | hb)
  · exact h1.foot_ok b hb
  · exact h2.foot b hb
theorem Both.keep {G F : Nat → Prop} (h : Both base w p q d x G) (hF : Foot base w F) (k : Keep F w w') (hn : ∀ b, G b → ¬ F b) : Both base w' p q d x G := by
  obtain ⟨n, s, wv, lv, h1, h2, rfl⟩ := h
  exact ⟨n, s, wv, lv, h1.keep hF k (fun b hb => hn b (.inl hb)), h2.keep hF k (fun b hb => hn b (.inr hb)), rfl⟩
theorem Both.no {G : Nat → Prop} (h : Both base w p q d x G) (k : Keep No w w') : Both base w' p q d x G := h.keep (Foot.no _ _) k (fun _ _ h => h)
end
/-- What an act asks of both disks. -/
structure DoOk (d : DiskS) (x : RDiskS) (a : ActS) : Prop where
  small : Small d
  all : msum d.safe + wsum d.wait ≤ 1099511627776
  xl : x.l.length ≤ 1000
  xs : wsum x.l ≤ 1099511627776
  s0 : 0 ≤ x.safe
  s1 : x.safe ≤ x.l.length
  ok : a.Ok
def ActS.value (a : ActS) (u : Value) : Value := .agg #[.int .u8 a.dop, .int .u64 a.seg, u, .bool a.on, .int .i64 a.keep, .int .i64 a.torn]

set_option maxRecDepth 100000 in
set_option maxHeartbeats 1000000 in
theorem do_drop [bn : Inhabited Ban] {base : Nat} {w : World} {p q : Nat} {d : DiskS} {x : RDiskS} {G : Nat → Prop} (h : Both base w p q d x G) (hb : base ≤ w.heap.size) {a : ActS} {u : Value} (hu : BytesAt base w u a.p) (ok : DoOk d x a) (hc : a.dop % 8 = 3) :
    Calls Try.prog 21 #[.pointer (some ⟨p, 0, none⟩), .pointer (some ⟨q, 0, none⟩), a.value u] w (DoPost base w G (doD d a) (doX x a) (doB d x a)) := by
  obtain ⟨n, s, wv, lv, h, hx, rfl⟩ := h
  have eD : doD d a = (d.drop a.seg).1 := by simp [doD, hc]
  have eX : doX x a = (x.drop a.seg).1 := by simp [doX, hc]
  have eB : doB d x a = ((d.drop a.seg).2 == (x.drop a.seg).2) := by simp [doB, hc]
  rw [eD, eX, eB]
  clear eD eX eB
  have hd0 := ok.ok.dop0
  have hd1 := ok.ok.dop1
  obtain ⟨uo, uc, rfl⟩ := hu.form
  unfold ActS.value
  have kA : Keep No w (w.alloc (.cells #[.int .u8 a.dop, .int .u64 a.seg, .slice uo a.p.length uc, .bool a.on, .int .i64 a.keep, .int .i64 a.torn] 29)) := (Keep.refl _ _).alloc _
  have hbx := heap_new w (.cells #[.int .u8 a.dop, .int .u64 a.seg, .slice uo a.p.length uc, .bool a.on, .int .i64 a.keep, .int .i64 a.torn] 29)
  have hgl : ∀ b, bfoot p n s wv q lv b → b < w.heap.size := fun b hb => by
    rcases hb with hb | hb
    · exact h.foot_lt b hb
    · exact (hx.foot b hb).2.1
  have hA : ¬ bfoot p n s wv q lv w.heap.size := fun e => by have := hgl _ e; omega
  go_enter Try.func21, Try.ntmps21
  go_wp2_with fail
  refine (cut_spec (hu.no kA) 40 (by decide)).mono ?_
  rintro e w2 ⟨v2, rfl, _, k2⟩
  have hbx := k2.heap hbx (fun e => e)
  have k2 := kA.then k2
  have h := h.no k2
  have hx := hx.no k2
  have hb2 := Nat.le_trans hb k2.size
  have c0 := cell_of hbx 0
  have c1 := cell_of hbx 1
  simp at c0 c1
  have HK := Lib.hid (And.intro k2 hgl)
  clear hgl kA hbx hu
  generalize w.heap.size = A at *
  go_wp2_with fail
  refine wp_drawN2 (fun w' => Keep (bfoot p n s wv q lv) w2 w') [0, 1, 2, 3, 4, 6, 7, 8] [5, 9] [10] [11, 12, 13] (by kernel_rfl) (by kernel_rfl) (fun _ _ _ _ _ h => h) (Keep.refl _ _).drew ?_
  iterate 8 (refine earlyN_cons (v := ?_) rfl rfl rfl ?_ ?_; rotate_left; focus (
    intro w' hS
    have c1' := hS.cell c1 hA
    go_simp
    try with_reducible rfl))
  refine earlyN_nil ?_
  have kd : Keep No w2 w2.drew := (Keep.refl _ _).drew
  refine midN_cons rfl rfl (fun K hK => ?_)
  go_simp
  refine (drop_spec (h.no kd) (Nat.le_trans hb2 kd.size) ok.small a.seg).mono ?_
  rintro e w3 ⟨rfl, n', s', wv', h3, k3, f3⟩
  have kG : Keep (bfoot p n s wv q lv) w2 w3 := kd.no.trans k3 (fun _ _ hf => .inl hf)
  have hx3 := (hx.no kd).byD (h.no kd) k3
  refine hK _ _ kG ?_
  clear hK K
  refine midN_cons rfl rfl (fun K hK => ?_)
  go_simp
  refine (rdrop_spec hx3 (Nat.le_trans hb2 kG.size) ok.xl ok.xs a.seg).mono ?_
  rintro e w4 ⟨rfl, lv', hx4, k4, f4⟩
  have h4 := h3.byX hx3 k4
  have kG4 := kG.trans k4 (fun _ _ e => .inr (.inl e))
  refine hK _ _ kG4 ?_
  clear hK K
  refine midN_nil (earlyN_cons (v := ?_) rfl rfl rfl ?_ ?_)
  rotate_left
  · intro w' _
    go_simp
    try with_reducible rfl
  refine earlyN_nil ?_
  iterate 3 (refine midN_cons rfl rfl (fun K hK => ?_); go_simp; refine hK _ _ kG4 ?_; clear hK K)
  refine midN_nil ?_
  clear c0 c1 h hx hx3 h3
  go_wp2
  go_ret3
  refine ⟨p, q, _, rfl, ⟨n', s', wv', lv', h4, hx4, rfl⟩, HK.out.1.no.trans kG4 (fun _ _ e => e), fun b hb => ?_⟩
  have z0 := HK.out.1.size
  have z1 := kd.size
  have z2 := kG.size
  rcases hb with hb | hb | hb
  · rcases f3 b hb with hq | hq
    · exact .inl (.inl hq)
    · exact .inr (by omega)
  · exact .inl (.inr (.inl hb))
  · rcases f4 b hb with hq | hq
    · exact .inl (.inr (.inr hq))
    · exact .inr (by omega)
end Go.Proofs.Ytpjggnfiocplmaa
