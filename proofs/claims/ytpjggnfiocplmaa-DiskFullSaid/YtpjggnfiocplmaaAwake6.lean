/- The document's example of layer 6. -/
import Derived.Test.YtpjggnfiocplmaaRefA
import Derived.Lib.SlBytesConst
namespace Go.Proofs.Ytpjggnfiocplmaa
open Go Go.RowKit Go.Dr

theorem Keep.absorb {F : Nat → Prop} {a b c : World} (h : Keep No a b) (k : Keep F b c) (hF : ∀ x, F x → a.heap.size ≤ x) : Keep No a c :=
  h.trans k (fun x hx hf => by have := hF x hf; omega)
theorem BytesAt.of_block [bn : Inhabited Ban] {base : Nat} {w : World} {g : Nat} {fr : Nat × Nat} (l : Bytes) (h : w.heap[g]? = some (.cells (l.map u8v).toArray 5 fr)) (hl : l.length ≤ maxLen) (hT : ban.top ≤ g) :
    BytesAt base w (.slice (some ⟨g, 0, none⟩) l.length l.length) l := by
  refine ⟨_, _, rfl, Nat.le_refl _, hl, fun h => (by cases h), fun i x hx => ⟨_, rfl, ⟨heap_lt h, .inr ⟨_, _, h⟩, fun hz => ?_, ?_⟩, ?_⟩⟩
  · have h5 : g < ban.top := ban.lt _ hz
    omega
  · have := heap_lt h
    omega
  rw [Addr.add_lit, cell_of h]
  simp [hx]

def aw0 : DiskS := { room := 100, full := false, now := [], safe := [], wait := [] }
def aw1 : DiskS := { room := 100, full := false, now := [(1, [97, 98])], safe := [], wait := [⟨1, [97, 98], false⟩] }
def aw2 : DiskS := { room := 100, full := false, now := [(1, [97, 98])], safe := [(1, [97, 98])], wait := [] }
def aw3 : DiskS := { room := 100, full := false, now := [(1, [97, 98, 99, 100])], safe := [(1, [97, 98])], wait := [⟨1, [99, 100], false⟩] }
def aw4 : DiskS := { room := 100, full := false, now := [(1, [97, 98, 99])], safe := [(1, [97, 98, 99])], wait := [] }
theorem aw01 : aw0.append 1 [97, 98] = (aw1, 0) := rfl
theorem aw12 : aw1.sync = aw2 := rfl
theorem aw23 : aw2.append 1 [99, 100] = (aw3, 0) := rfl
theorem aw34 : aw3.crash 0 1 = aw4 := rfl
theorem aw4r : aw4.read 1 = ([97, 98, 99], 0) := rfl

set_option maxRecDepth 100000 in
set_option maxHeartbeats 1000000 in
theorem awake6_spec [bn : Inhabited Ban] {w : World} (hT : ban.top ≤ w.heap.size) : Calls Try.prog 14 #[] w fun e w' => e = .returned (.bool true) ∧ Keep No w w' := by
  have kc := fun (w : World) (C : Array Value) (n c : Nat) => Lib.run_convert_bytes_const (P := Try.prog) w 27 5 C n c Try.underlying27 Try.underlying5
  go_enter Try.func14, Try.ntmps14
  go_wp2_with fail
  refine (new_spec w.heap.size 100 (Nat.le_refl _)).mono ?_
  rintro e w1 ⟨p, n, s, wv, rfl, h1, k1, f1⟩
  change DiskAt w.heap.size w1 p n s wv aw0 at h1
  go_wp2_with fail
  have kA : Keep No w1 (w1.alloc (.cells #[.int .u8 97, .int .u8 98] 5 (2, 3))) := (Keep.refl _ _).alloc _
  have hA := append_spec (h1.no kA) (Nat.le_trans k1.size kA.size) ⟨by decide, by decide, by decide, by decide⟩ 1 (BytesAt.of_block [97, 98] (heap_new w1 (.cells #[.int .u8 97, .int .u8 98] 5 (2, 3))) (by decide) (Nat.le_trans hT k1.size)) (by decide)
  rw [aw01] at hA
  refine hA.mono ?_
  rintro e w2 ⟨rfl, n2, s2, wv2, h2, k2, f2⟩
  have hk2 := (k1.then kA).absorb k2 f1
  have f2 : ∀ b, foot p n2 s2 wv2 b → w.heap.size ≤ b := fun b hb => by rcases f2 b hb with h | h; exact f1 b h; have := k1.size; have := kA.size; omega
  clear h1 k1 f1 kA hA k2
  go_wp2_with fail
  have hS := sync_spec h2 hk2.size
  rw [aw12] at hS
  refine hS.mono ?_
  rintro e w3 ⟨rfl, n3, s3, wv3, h3, k3, f3⟩
  have hk3 := hk2.absorb k3 f2
  have f3 : ∀ b, foot p n3 s3 wv3 b → w.heap.size ≤ b := fun b hb => by rcases f3 b hb with h | h; exact f2 b h; have := hk2.size; omega
  clear h2 hS k3 f2 hk2
  go_wp2_with fail
  have kA : Keep No w3 (w3.alloc (.cells #[.int .u8 99, .int .u8 100] 5 (2, 3))) := (Keep.refl _ _).alloc _
  have hA := append_spec (h3.no kA) (Nat.le_trans hk3.size kA.size) ⟨by decide, by decide, by decide, by decide⟩ 1 (BytesAt.of_block [99, 100] (heap_new w3 (.cells #[.int .u8 99, .int .u8 100] 5 (2, 3))) (by decide) (Nat.le_trans hT hk3.size)) (by decide)
  rw [aw23] at hA
  refine hA.mono ?_
  rintro e w4 ⟨rfl, n4, s4, wv4, h4, k4, f4⟩
  have hk4 := (hk3.then kA).absorb k4 f3
  clear h3 kA hA k4 f3 hk3 f4
  go_wp2_with fail
  have hC := crash_spec h4 hk4.size (by decide) (by decide) 0 1 (by decide)
  rw [aw34] at hC
  refine hC.mono ?_
  rintro e w5 ⟨p5, n5, s5, wv5, rfl, h5, k5, f5⟩
  have hk5 := hk4.then k5
  clear h4 hC hk4 k5 f5
  go_wp2_with fail
  have hR := read_spec h5 (by decide) 1
  rw [aw4r] at hR
  refine hR.mono ?_
  rintro e w6 ⟨v, rfl, hv, _, k6⟩
  have hk6 := hk5.then k6
  have hc := run_conv hv
  clear h5 hR hk5 k6 hv
  go_wp2
  go_ret
  exact ⟨rfl, hk6⟩
end Go.Proofs.Ytpjggnfiocplmaa
