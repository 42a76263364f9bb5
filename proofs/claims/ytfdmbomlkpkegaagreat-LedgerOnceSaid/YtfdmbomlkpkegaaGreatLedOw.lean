/- The law's open: a ledger, and the document's, on a new disk. -/
import Derived.Test.YtfdmbomlkpkegaaGreatLedDD
import Derived.Test.YtfdmbomlkpkegaaGreatLedRR
namespace Go.Proofs.YtfdmbomlkpkegaaGreat
open Go Go.RowKit Go.Dr Go.Shelf

def startL (width : Nat) : LedS := ((LedS.start width).step (.inc 1)).sync
/-- A pair just opened. -/
structure Opened [bn : Inhabited Ban] (base : Nat) (w w' : World) (P q p r width : Nat) (size : Int) (d : DiskS) (F : Nat → Prop) : Prop where
  led : LedFt base w' q p width size [.inc 1] d (startL width) 1 F
  new : ∀ b, F b → w.heap.size ≤ b
  used : msum d.now ≤ 22
  blk : w'.heap[P]? = some (.cells #[.pointer (some ⟨q, 0, none⟩), .pointer (some ⟨r, 0, none⟩), .int .u64 width, .int .i64 size] 37 (0, 0))
  pnew : w.heap.size ≤ P
  k : Keep No w w'
  dsync : d.wait = [] ∧ d.safe = d.now
set_option maxRecDepth 100000 in
set_option maxHeartbeats 8000000 in
theorem open16_spec [bn : Inhabited Ban] {base : Nat} {w : World} (wd sg : Nat) (hwd : wd < 65536) (hsg : sg < 65536) (room : Int) (hr : 100 ≤ room ∧ room ≤ 1000000) (hb : base ≤ w.heap.size) (hT : ban.top ≤ w.heap.size) :
    Calls Tryz.prog 12 #[.int .u16 wd, .int .u16 sg, .int .i64 room] w fun e w' => ∃ P q p r d F, e = .returned (.pointer (some ⟨P, 0, none⟩)) ∧ Opened base w w' P q p r (1 + wd % 30) (1 + sg % 300 : Nat) d F ∧ d.room = room := by
  obtain ⟨width, hwidth⟩ : ∃ n : Nat, n = 1 + wd % 30 := ⟨_, rfl⟩
  obtain ⟨size, hsize⟩ : ∃ n : Nat, n = 1 + sg % 300 := ⟨_, rfl⟩
  rw [← hwidth, ← hsize]
  have e1 : 1 + (wd : Int) % 30 = (width : Int) := by omega
  have e2 : 1 + (sg : Int) % 300 = (size : Int) := by omega
  have hw : 1 ≤ width ∧ width ≤ 1024 := by omega
  have hz : (1 : Int) ≤ (size : Int) := by omega
  have HH := Lib.hid (And.intro hb (And.intro hT (And.intro hr (And.intro hw hz))))
  clear hb hT hr hw hz hwidth hsize
  go_enter Tryz.func12, Tryz.ntmps12
  go_upto_region 2 with fail
  obtain ⟨W0, hW0⟩ : ∃ W0, W0 = w.alloc (.cells #[.int .u64 width, .int .i64 size] 35) := ⟨_, rfl⟩
  have hc0 : W0.heap[w.heap.size]? = some (.cells #[.int .u64 width, .int .i64 size] 35 (0, 0)) := by rw [hW0]; exact heap_new _ _
  have k0 : Keep No w W0 := by rw [hW0]; exact (Keep.refl _ _).alloc _
  rw [← hW0]
  clear hW0
  have cc0 := cell_of hc0 0
  have cc1 := cell_of hc0 1
  simp at cc0 cc1
  have HA := Lib.hid (And.intro k0 hc0)
  clear hc0 k0
  have kd : Keep No W0 W0.drew := (Keep.refl _ _).drew
  refine wp_drawN2 (fun w' => Keep No W0 w') [0, 2] [1, 3, 4] [5, 6] [7, 8] (by kernel_rfl) (by kernel_rfl) (fun _ _ _ _ _ h => h) kd ?_
  iterate 2 (refine earlyN_cons (v := ?_) rfl rfl rfl ?_ ?_; rotate_left; focus (
    intro w' hS
    have f0 := hS.cell cc0 (fun e => e)
    have f1 := hS.cell cc1 (fun e => e)
    go_simp
    try with_reducible rfl))
  refine earlyN_nil (midN_cons rfl rfl (fun K hK => ?_))
  go_simp
  refine (new_spec (w := W0.drew) base room (Nat.le_trans HH.out.1 (Nat.le_trans HA.out.1.size kd.size))).mono ?_
  rintro e w3 ⟨p, dn, ds, wv, rfl, hD, k3, hnew⟩
  refine hK _ _ (kd.then k3) ?_
  clear hK K
  have k03 := HA.out.1.then (kd.then k3)
  refine midN_cons rfl rfl (fun K hK => ?_)
  go_simp
  refine (open_ft (width := width) (size := size) hD rfl rfl (by show (100 : Int) ≤ max room 0; have := HH.out.2.2.1.1; omega) (by show max room 0 ≤ _; have := HH.out.2.2.1.2; omega) (by show (0 : Nat) ≤ 2; decide) HH.out.2.2.2.1 HH.out.2.2.2.2 (Nat.le_trans HH.out.1 k03.size) (Nat.le_trans HH.out.2.1 k03.size)).mono ?_
  rintro e w4 ⟨q, d, F, rfl, hL, hroom, hused, hF, k4, hdy⟩
  have HDY := Lib.hid hdy
  clear hdy
  have k34 : Keep No W0 w4 := (kd.then k3).trans k4 (fun b hb hf => by have := hnew b hf; have := kd.size; omega)
  refine hK _ _ k34 ?_
  clear hK K
  refine midN_cons rfl rfl (fun K hK => ?_)
  go_simp
  refine hK _ _ k34 ?_
  clear hK K
  refine midN_nil ?_
  iterate 2 (refine earlyN_cons (v := ?_) rfl rfl rfl ?_ ?_; rotate_left; focus (
    intro w' hS
    go_simp
    try with_reducible rfl))
  refine earlyN_nil (midN_cons rfl rfl (fun K hK => ?_))
  go_simp
  refine hK _ _ k34 ?_
  clear hK K
  refine midN_cons rfl rfl (fun K hK => ?_)
  go_simp
  refine hK _ _ k34 ?_
  clear hK K
  refine midN_nil ?_
  have hroom : d.room = room := hroom.trans (by show max room 0 = room; have := HH.out.2.2.1.1; omega)
  have hFn : ∀ b, F b → w.heap.size ≤ b := fun b hb => by
    have h1 := HA.out.1.size
    have h2 := kd.size
    have h3 := k3.size
    rcases hF b hb with h | h
    · have := hnew b h; omega
    · omega
  have k04 := HA.out.1.then k34
  have hsz4 : w.heap.size < w4.heap.size := Nat.lt_of_lt_of_le (heap_lt HA.out.2) k34.size
  have cc0 := k34.cell cc0 (fun e => e)
  have cc1 := k34.cell cc1 (fun e => e)
  obtain ⟨W5, hW5⟩ : ∃ W5, W5 = w4.alloc (.cells #[.int .i64 room, .bool false, .slice none 0 0, .int .i64 0] 119) := ⟨_, rfl⟩
  have k45 : Keep No w4 W5 := by rw [hW5]; exact (Keep.refl _ _).alloc _
  have hx5 : RDiskAt base W5 w4.heap.size (.slice none 0 0) { room := room, full := false, l := [], safe := 0 } := ⟨by rw [hW5]; exact heap_new _ _, LAt.nil _ _, Nat.le_trans HH.out.1 k04.size⟩
  have hop := r16Open_new (width := width) (size := size) hx5 HH.out.2.2.1.1 HH.out.2.2.2.1 HH.out.2.2.2.2 (Nat.le_trans HH.out.1 (k04.then k45).size) (Nat.le_trans HH.out.2.1 (k04.then k45).size)
  have cc0 := k45.cell cc0 (fun e => e)
  have cc1 := k45.cell cc1 (fun e => e)
  have HB := Lib.hid (And.intro hL (And.intro k04 (And.intro k45 (And.intro hroom (And.intro hused hFn)))))
  clear hL k04 k45 hroom hused hFn hx5 k34 k4 k03 hF hnew hD k3 kd
  subst hW5
  go_upto_region 4 with (go_at_call 50; refine hop.mono ?_; rintro e w6 ⟨r, lv6, c6, ss6, rfl, hR6, hg6, hrec6, hlog6, k6, hr6⟩)
  have hq4 : ¬ w.heap.size = w4.heap.size := by omega
  have cc0 := k6.cell cc0 hq4
  have cc1 := k6.cell cc1 hq4
  have k46 : Keep No w4 w6 := HB.out.2.2.1.trans k6 (fun b hb e => by have e : b = w4.heap.size := e; omega)
  have hL6 := HB.out.1.no k46
  have k06 := HB.out.2.1.then k46
  have HC := Lib.hid (And.intro hL6 (And.intro k06 hR6))
  clear hR6 hg6 hrec6 hlog6 k6 hr6 k46 hL6 hop k06
  go_wp2_with fail
  go_ret
  have kz := (Keep.refl No w6).alloc (.cells #[.pointer (some ⟨q, 0, none⟩), .pointer (some ⟨r, 0, none⟩), .int .u64 width, .int .i64 size] 37)
  exact ⟨_, q, p, r, d, F, rfl, ⟨HC.out.1.no kz, HB.out.2.2.2.2.2, HB.out.2.2.2.2.1, heap_new _ _, HC.out.2.1.size, HC.out.2.1.then kz, HDY.out⟩, HB.out.2.2.2.1⟩
end Go.Proofs.YtfdmbomlkpkegaaGreat
