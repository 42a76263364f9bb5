/- Package pack: Of, Bytes, In.Bytes. -/
import Derived.Test.YtgogfnafbeahoaaGreatPackC
namespace Go.Proofs.YtgogfnafbeahoaaGreat
open Go Go.RowKit

theorem pOf_spec [bn : Inhabited Ban] {base : Nat} {w : World} {v : Value} {l : Bytes} (h : BytesAt base w v l) (hb : base ≤ w.heap.size) (hT : ban.top ≤ w.heap.size) (hl : l.length ≤ 1099511627776) :
    Calls Tryz.prog 95 #[v] w fun e w' => ∃ g, e = .returned (.pointer (some ⟨g, 0, none⟩)) ∧ w.heap.size ≤ g ∧ InAt base w' g ⟨l, 0⟩ ∧ Keep No w w' := by
  obtain ⟨ao, cap, rfl⟩ := h.form
  have hc := clone_spec h (by omega)
  clear h
  go_enter Tryz.func95, Tryz.ntmps95
  go_wp2_with (go_at_call 53; refine hc.mono ?_; rintro e w1 ⟨v1, rfl, own1, k1⟩; obtain ⟨o1, c1, rfl⟩ := own1.form)
  go_ret
  have kA : Keep No w1 (w1.alloc (.cells #[.slice o1 l.length c1, .int .i64 0] 222)) := (Keep.refl _ _).alloc _
  exact ⟨w1.heap.size, rfl, k1.size, ⟨Nat.le_trans hb k1.size, _, heap_new _ _, (own1.bytes (base := base) (fun _ => hT)).no kA⟩, k1.then kA⟩
theorem pBytes_spec [bn : Inhabited Ban] {base base' : Nat} {w : World} {v u : Value} {l m : Bytes} (h : BytesAt base w v l) (hu : BytesAt base' w u m) (hl : l.length ≤ 1099511627776) (hm : m.length ≤ 1099511627776) :
    Calls Tryz.prog 119 #[v, u] w fun e w' => ∃ v', e = .returned v' ∧ OwnB w' w.heap.size v' (l ++ (numB m.length ++ m)) ∧ Keep No w w' := by
  obtain ⟨ao, cap, rfl⟩ := h.form
  obtain ⟨bo, bc, rfl⟩ := hu.form
  have hn := pnum_spec h m.length (by omega) hl
  have hnl : (numB m.length).length ≤ 10 := numB_len64 (by omega)
  have hmi : (m.length : Int) ≤ 1099511627776 := by omega
  have HU := Lib.hid hu
  clear h hu
  go_enter Tryz.func119, Tryz.ntmps119
  go_wp2_with (first
    | (at_builtin; refine wpList_append_bytes rfl _ _ rfl w.heap.size own1 (HU.out.no k1) rfl rfl hlen k1.size ?_; intro v2 w2 own2 k2)
    | (go_at_call 43; refine hn.mono ?_; rintro e w1 ⟨v1, rfl, own1, k1⟩; have hlen : (l ++ numB m.length).length + m.length ≤ 70368744177664 := by simp; omega))
  go_ret
  exact ⟨_, rfl, by rw [← List.append_assoc]; exact own2, k1.trans k2 (fun x hx e => by have := (own1.lt x e).1; omega)⟩

theorem slice_hu [bn : Inhabited Ban] (ao : Option Addr) (n cap hi : Nat) (h2 : hi ≤ n) (h3 : n ≤ cap) :
    ∃ o c, (∀ w, (Instr.slice 49 (.slice ao n cap) none (some (.int .u64 (hi : Int))) none).run Tryz.prog w = .ok (.slice o hi c) w) ∧
      ∀ base w l, BytesAt base w (.slice ao n cap) l → BytesAt base w (.slice o hi c) (l.take hi) := by
  refine ⟨_, _, fun w => ?_, fun base w l h => bytes_sub h (Nat.zero_le hi) h2⟩
  rw [run_slice_h w 49 ao n cap elem_bytes .u64 _ (by omega) (by omega), Int.toNat_natCast, size_bytes]
  rfl
theorem slice_lu [bn : Inhabited Ban] (ao : Option Addr) (n cap lo : Nat) (h1 : lo ≤ n) (_h3 : n ≤ cap) :
    ∃ o c, (∀ w, (Instr.slice 49 (.slice ao n cap) (some (.int .u64 (lo : Int))) none none).run Tryz.prog w = .ok (.slice o (n - lo) c) w) ∧
      ∀ base w l, BytesAt base w (.slice ao n cap) l → BytesAt base w (.slice o (n - lo) c) ((l.take n).drop lo) := by
  refine ⟨_, _, fun w => ?_, fun base w l h => bytes_sub h h1 (Nat.le_refl _)⟩
  rw [run_slice_l w 49 ao n cap elem_bytes .u64 _ (by omega) (by omega), Int.toNat_natCast, size_bytes]
  rfl
end Go.Proofs.YtgogfnafbeahoaaGreat
