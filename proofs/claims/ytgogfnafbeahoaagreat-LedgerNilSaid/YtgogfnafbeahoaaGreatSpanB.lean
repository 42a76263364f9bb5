/- Package span: Item.Put, Get, GetItem. -/
import Derived.Test.YtgogfnafbeahoaaGreatSpanA
namespace Go.Proofs.YtgogfnafbeahoaaGreat
open Go Go.RowKit Go.Dr

structure ItemS where
  n : Nat
  s : SpanS
def ItemS.bytes (i : ItemS) : List UInt8 := numB i.n ++ i.s.bytes
set_option maxRecDepth 100000 in
set_option maxHeartbeats 2000000 in
theorem tPut_spec [bn : Inhabited Ban] {base base' : Nat} {w : World} (hT : ban.top ≤ w.heap.size) {i : ItemS} {sv pv : Value} {l : Bytes} (hs : BytesAt base w sv i.s.body) (hp : BytesAt base' w pv l) (hn : i.n < 18446744073709551616) (hl : l.length ≤ 536870912) (hb : i.s.body.length ≤ 1073741824) :
    Calls Tryz.prog 42 #[.agg #[.int .u64 i.n, .int .i64 i.s.c, sv], pv] w fun e w' => ∃ v', e = .returned v' ∧ OwnB w' w.heap.size v' (l ++ i.bytes) ∧ Keep No w w' := by
  obtain ⟨ao, cap, rfl⟩ := hs.form
  obtain ⟨po, pc, rfl⟩ := hp.form
  obtain ⟨W, hW⟩ : ∃ W, W = w.alloc (.cells #[.int .u64 i.n, .int .i64 i.s.c, .slice ao i.s.body.length cap] 53) := ⟨_, rfl⟩
  have kW : Keep No w W := by rw [hW]; exact (Keep.refl _ _).alloc _
  have hA : W.heap[w.heap.size]? = some (.cells #[.int .u64 i.n, .int .i64 i.s.c, .slice ao i.s.body.length cap] 53 (0, 0)) := by rw [hW]; exact heap_new _ _
  have c0 := cell_of hA 0
  have c1 := cell_of hA 1
  have c2 := cell_of hA 2
  simp at c0 c1 c2
  have HH := Lib.hid (And.intro hs (And.intro hp (And.intro hl (And.intro hb (And.intro kW (And.intro hT hn))))))
  clear hs hp hl hb kW hA hT hn
  go_enter Tryz.func42, Tryz.ntmps42
  go_wp2_with fail
  show Code.wp _ _ _ _ (w.alloc (.cells #[.int .u64 i.n, .int .i64 i.s.c, .slice ao i.s.body.length cap] 53))
  rw [← hW]
  clear hW
  have kd : Keep No W W.drew := (Keep.refl _ _).drew
  refine wp_drawN (fun w' => Keep No W w') [0, 1, 2, 3, 4] [5, 6] [7] (by kernel_rfl) (by kernel_rfl) (fun _ _ _ _ _ h => h) kd ?_
  iterate 5 (refine earlyN_cons (v := ?_) rfl rfl rfl ?_ ?_; rotate_left; focus (
    intro w' hS
    have d0 := hS.cell c0 (fun e => e)
    have d1 := hS.cell c1 (fun e => e)
    have d2 := hS.cell c2 (fun e => e)
    go_simp
    try with_reducible rfl))
  refine earlyN_nil (midN_cons rfl rfl (fun K hK => ?_))
  go_simp
  refine (pnum_spec (HH.out.2.1.no (HH.out.2.2.2.2.1.then kd)) i.n HH.out.2.2.2.2.2.2 (by have := HH.out.2.2.1; omega)).mono ?_
  rintro e w1 ⟨v1, rfl, own1, k1⟩
  have k1 := kd.then k1
  refine hK _ _ k1 ?_
  clear hK K
  refine midN_cons rfl rfl (fun K hK => ?_)
  go_simp
  refine (sPut_spec (base := base) (base' := 0) (s := i.s) (Nat.le_trans HH.out.2.2.2.2.2.1 (HH.out.2.2.2.2.1.then k1).size) (HH.out.1.no (HH.out.2.2.2.2.1.then k1)) (own1.bytes (fun _ => Nat.le_trans HH.out.2.2.2.2.2.1 HH.out.2.2.2.2.1.size)) (by have := HH.out.2.2.1; have := numB_len64 HH.out.2.2.2.2.2.2; simp; omega) HH.out.2.2.2.1).mono ?_
  rintro e w2 ⟨v2, rfl, own2, k2⟩
  have k12 := k1.then k2
  refine hK _ _ k12 ?_
  clear hK K
  refine midN_nil (tailN_cons rfl (tailN_nil ?_))
  go_wp2
  go_ret
  refine ⟨v2, rfl, ?_, HH.out.2.2.2.2.1.then k12⟩
  unfold ItemS.bytes
  rw [← List.append_assoc]
  exact own2.mono (Nat.le_trans HH.out.2.2.2.2.1.size k1.size)
end Go.Proofs.YtgogfnafbeahoaaGreat
