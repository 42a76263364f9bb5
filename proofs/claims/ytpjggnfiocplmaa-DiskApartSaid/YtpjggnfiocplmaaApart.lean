/- DiskApart: the walk. -/
import Derived.Test.YtpjggnfiocplmaaSame
import Derived.Test.YtpjggnfiocplmaaAwake6
namespace Go.Proofs.Ytpjggnfiocplmaa
open Go Go.RowKit Go.Dr

def ap0 : DiskS := { room := 1000, full := false, now := [], safe := [], wait := [] }
def ap1 (seg : Int) (l : Bytes) : DiskS := { room := 1000, full := false, now := [(seg, l)], safe := [], wait := [⟨seg, l, false⟩] }
def ap2 (seg : Int) (l : Bytes) (f : Bool) : DiskS := { room := 1000, full := f, now := [(seg, l ++ l)], safe := [], wait := [⟨seg, l, false⟩, ⟨seg, l, false⟩] }
theorem ap01 (seg : Int) {l : Bytes} (h : l.length ≤ 51) : ap0.append seg l = (ap1 seg l, 0) := by
  have : ¬ (1000 : Int) < l.length := by omega
  simp [DiskS.append, ap0, ap1, msum, DiskS.put, CallS.done, mset, mget, this]
theorem ap12 (seg : Int) {l : Bytes} (h : l.length ≤ 51) : (ap1 seg l).append seg l = (ap2 seg l false, 0) := by
  have : ¬ (1000 - (l.length : Int)) < l.length := by omega
  simp [DiskS.append, ap1, ap2, msum, DiskS.put, CallS.done, mset, mget, this]
theorem ap1read (seg : Int) (l : Bytes) : (ap1 seg l).read seg = (l, 0) := by simp [DiskS.read, ap1, mget]
theorem ap2used (seg : Int) (l : Bytes) (f : Bool) : msum (ap2 seg l f).now = l.length + l.length := by simp [ap2, msum]

/-- A row of its own that isn't empty: its block. -/
theorem OwnB.block {w : World} {B : Nat} {v : Value} {l : Bytes} (h : OwnB w B v l) (hl : l ≠ []) :
    ∃ g cap cur, v = .slice (some ⟨g, 0, none⟩) l.length cap ∧ B ≤ g ∧ w.heap[g]? = some (.cells cur 5 (0, 0)) ∧ ∀ x, l[0]? = some x → cur[0]? = some (u8v x) := by
  obtain ⟨_, h⟩ := h
  rcases h with ⟨rfl, h0⟩ | ⟨g, cap, cur, rfl, h1, h2, h3, h4, h5, h6⟩
  · exact absurd (List.eq_nil_of_length_eq_zero h0) hl
  · refine ⟨g, cap, cur, rfl, h1, h2, fun x hx => ?_⟩
    have hm : (l.map u8v)[0]? = some (u8v x) := by simp [hx]
    rw [← h6, List.getElem?_take] at hm
    split at hm
    · simpa using hm
    · cases hm
/-- What only new blocks and the row v see: nothing of what was there ahead of v. -/
theorem DiskAt.own_ne [bn : Inhabited Ban] {base : Nat} {w : World} {p n s : Nat} {wv : Value} {d : DiskS} (h : DiskAt base w p n s wv d) {g : Nat} {cs : Array Value} {fr : Nat × Nat} (hg : w.heap[g]? = some (.cells cs 5 fr)) : ¬ foot p n s wv g := by
  intro hf
  rcases hf with rfl | rfl | rfl | hf
  · rw [h.blk] at hg; simp at hg
  · obtain ⟨_, _, hz⟩ := h.now.kind; rw [hz] at hg; cases hg
  · obtain ⟨_, _, hz⟩ := h.safe.kind; rw [hz] at hg; cases hg
  · obtain ⟨_, cur, hz⟩ := h.wait.kind g hf; rw [hz] at hg; simp at hg

set_option maxRecDepth 100000 in
set_option maxHeartbeats 4000000 in
theorem apart_walk {w : World} {a0 : Option Addr} {n0 c0 : Nat} {v : Value} {l : Bytes} (hp : BytesAt (bn := noBan) w.heap.size w v l) (room seg : Int) :
    Calls Try.prog 7 #[.slice a0 n0 c0, v, .int .i64 room, .int .u64 seg] w fun e w' => e = .returned (.bool true) ∧ Keep No w w' := by
  obtain ⟨vo, vc, rfl⟩ := BytesAt.form (bn := noBan) hp
  go_enter Try.func7, Try.ntmps7
  go_wp2_with fail
  refine (awake6_spec (bn := noBan) (Nat.zero_le _)).mono ?_
  rintro e w1 ⟨rfl, k1⟩
  go_wp2_with fail
  refine (new_spec (bn := noBan) w.heap.size 1000 k1.size).mono ?_
  rintro e w2 ⟨p, n, s, wv, rfl, h2, k2, f2⟩
  have k2 := k1.then k2
  have f2 : ∀ b, foot p n s wv b → w.heap.size ≤ b := fun b hb => Nat.le_trans k1.size (f2 b hb)
  change DiskAt (bn := noBan) w.heap.size w2 p n s wv ap0 at h2
  clear k1
  go_wp2_with fail
  refine (cut_spec (bn := noBan) (BytesAt.no (bn := noBan) hp k2) 50 (by decide)).mono ?_
  rintro e w3 ⟨v3, rfl, own3, k3⟩
  obtain ⟨l1, hl1⟩ : ∃ l1, l1 = l.take 50 := ⟨_, rfl⟩
  have hl50 : l1.length ≤ 50 := by rw [hl1]; simp; omega
  rw [← hl1] at own3
  clear hl1 hp
  have kA : Keep No w3 (w3.alloc (.cells #[.int .u8 1] 5)) := (Keep.refl _ _).alloc _
  have own3' := own3.keep kA (fun _ _ h => h)
  have hsrc : BytesAt (bn := noBan) w.heap.size (w3.alloc (.cells #[.int .u8 1] 5)) (.slice (some ⟨w3.heap.size, 0, none⟩) 1 1) [1] := BytesAt.of_block (bn := noBan) [1] (heap_new w3 (.cells #[.int .u8 1] 5)) (by decide) (Nat.zero_le _)
  go_wp2_with (at_builtin; refine wpList_append_bytes (bn := noBan) rfl _ _ rfl w2.heap.size own3' hsrc rfl rfl (by simp; omega) (Nat.le_trans k3.size kA.size) ?_; intro v4 w4 own4 k4; obtain ⟨P, hP⟩ : ∃ P, P = l1 ++ [1] := ⟨_, rfl⟩; rw [← hP] at own4; have HP := Lib.hid hP; clear hP; obtain ⟨o4, c4, rfl⟩ := own4.form)
  have hP := HP.out
  have hP51 : P.length ≤ 51 := by rw [hP]; simp; omega
  have hPne : P ≠ [] := by rw [hP]; simp
  have k24 : Keep No w2 w4 := (k3.then kA).absorb k4 (fun x hx => (own3'.lt x hx).1)
  have k4 : Keep No w w4 := k2.then k24
  have h4 := DiskAt.no (bn := noBan) h2 k24
  have hP4 := OwnB.bytes (bn := noBan) (base := w.heap.size) own4 (fun _ => Nat.zero_le _)
  have sP := own4.lt
  clear hP HP hl50 own3 own3' k3 kA hsrc h2 k24 k2
  have kB : Keep No w4 (w4.alloc (.cells #[.slice o4 P.length c4] 27)) := (Keep.refl _ _).alloc _
  have hs5 : SlicesAt (bn := noBan) w.heap.size (w4.alloc (.cells #[.slice o4 P.length c4] 27)) (.slice (some ⟨w4.heap.size, 0, none⟩) 1 1) [P] :=
    SlicesAt.of_block (bn := noBan) (heap_new w4 _) [P] rfl (by simp [maxLen]) (fun i u l'' h1 h2 => by
      match i, h1, h2 with
      | 0, h1, h2 => simp at h1 h2; subst h1 h2; exact BytesAt.no (bn := noBan) hP4 kB)
  refine (join_spec (bn := noBan) hs5 (by simp; omega)).mono ?_
  rintro e w5 ⟨v5, rfl, own5, k5⟩
  have own5 : OwnB w5 (w4.heap.size + 1) v5 P := by simpa using own5
  have k45 : Keep No w4 w5 := kB.then k5
  obtain ⟨gm, cm, cur, rfl, hgm, hblk, hcur⟩ := own5.block hPne
  have hmine := OwnB.bytes (bn := noBan) (base := w.heap.size) own5 (fun _ => Nat.zero_le _)
  have hgl := heap_lt hblk
  have hd5 := DiskAt.toBan (g := gm) h4 k45 (by omega) hgl
  have hp5 := BytesAt.toBan (g := gm) hP4 k45 (by omega) hgl
  have k5' := k4.then k45
  clear kB hs5 k5 own5 k45 h4 hP4 sP own4
  go_wp2_with fail
  -- mine goes in
  have hA := append_gen (bm := noBan) (bn := oneBan gm) hd5 k5'.size ⟨by decide, by decide, by decide, by decide⟩ seg hmine (by omega) (fun _ => hgl)
  rw [ap01 seg hP51] at hA
  refine hA.mono ?_
  rintro e w6 ⟨rfl, n6, s6, wv6, hd6, k6, f6⟩
  have hblk6 := k6.heap hblk (DiskAt.own_ne (bn := oneBan gm) hd5 hblk)
  have hgn : ∀ b, foot p n6 s6 wv6 b → ¬ (ban (bn := oneBan gm)).Z b := fun b hb hz => by
    have hz : b = gm := hz
    subst hz
    exact DiskAt.own_ne (bn := oneBan b) hd6 hblk6 hb
  have hp6 := BytesAt.keep (bn := oneBan gm) hp5 (DiskAt.foot_ok (bn := oneBan gm) hd5) k6
  have k6' := k5'.absorb k6 f2
  have f6 : ∀ b, foot p n6 s6 wv6 b → w.heap.size ≤ b := fun b hb => by rcases f6 b hb with h | h; exact f2 b h; have := k5'.size; omega
  clear hA hd5 k6 k5' hp5 hmine hblk
  -- mine is written to
  obtain ⟨x, hx⟩ : ∃ x, P[0]? = some x := by
    cases P with
    | nil => exact absurd rfl hPne
    | cons x l => exact ⟨x, rfl⟩
  have hx0 : (0 : Int) ≤ (x.toNat : Int) := by omega
  have hx1 : (x.toNat : Int) ≤ 255 := by have := x.toNat_lt; omega
  have hPi : (0 : Int) < (P.length : Int) := by have := List.length_pos_iff.2 hPne; omega
  have hPj : (P.length : Int) ≤ 51 := by omega
  have cm6 : w6.cell? ⟨gm, 0, none⟩ = some (.int .u8 (x.toNat : Int)) := by rw [cell_of hblk6]; exact hcur x hx
  have fm6 := frozen_of hblk6 0
  have hX := Lib.hid hx
  clear hx hcur hblk6
  go_wp2_with fail
  have hkz : ∀ u, Keep (ban (bn := oneBan gm)).Z w6 (w6.setCell ⟨gm, 0, none⟩ u) := fun u => Keep.setCell (F := (ban (bn := oneBan gm)).Z) (Keep.refl _ _) (p := ⟨gm, 0, none⟩) (Or.inl (show (ban (bn := oneBan gm)).Z gm from (rfl : gm = gm))) u
  have hd7 : ∀ u, DiskAt (bn := oneBan gm) w.heap.size (w6.setCell ⟨gm, 0, none⟩ u) p n6 s6 wv6 (ap1 seg P) := fun u => DiskAt.banned (bn := oneBan gm) hd6 (hkz u) hgn
  have hp7 : ∀ u, BytesAt (bn := oneBan gm) w.heap.size (w6.setCell ⟨gm, 0, none⟩ u) (.slice o4 P.length c4) P := fun u => BytesAt.banned (bn := oneBan gm) hp6 (hkz u)
  have hk7 : ∀ u, Keep No w (w6.setCell ⟨gm, 0, none⟩ u) := fun u => k6'.setCell (p := ⟨gm, 0, none⟩) (.inr (by have := k4.size; show w.heap.size ≤ gm; omega)) u
  have hR := fun u => read_spec (bn := oneBan gm) (hd7 u) (by simp [ap1, msum]; omega) seg
  rw [ap1read] at hR
  refine (hR _).mono ?_
  rintro e w8 ⟨v8, rfl, hv8, own8, k8⟩
  have hd8 := DiskAt.no (bn := oneBan gm) (hd7 _) k8
  have hp8 := BytesAt.no (bn := oneBan gm) (hp7 _) k8
  have k8' := (hk7 _).then k8
  have hfd := DiskAt.foot_lt (bn := oneBan gm) hd8
  obtain ⟨gq, cq, cur8, rfl, hgq, hblk8, hcur8⟩ := own8.block hPne
  have hq8 : ∀ u, Keep (· = gq) w8 (w8.setCell ⟨gq, 0, none⟩ u) := fun u => Keep.setCell (F := (· = gq)) (Keep.refl _ _) (p := ⟨gq, 0, none⟩) (.inl rfl) u
  have hab := fun u => k8.absorb (hq8 u) (fun x hx => by have hx : x = gq := hx; rw [hx]; exact hgq)
  have hd9 := fun u => DiskAt.no (bn := oneBan gm) (hd7 _) (hab u)
  have hp9 := fun u => BytesAt.no (bn := oneBan gm) (hp7 _) (hab u)
  have k9 : ∀ u, Keep No w (w8.setCell ⟨gq, 0, none⟩ u) := fun u => (hk7 _).then (hab u)
  have cq8 : w8.cell? ⟨gq, 0, none⟩ = some (.int .u8 (x.toNat : Int)) := by rw [cell_of hblk8]; exact hcur8 x hX.out
  have fq8 := frozen_of hblk8 0
  clear hab hq8 hcur8 hblk8 hgq own8 hv8 k8 hR hk7 hp7 hd7 hkz hd6 hp6 k6' cm6 fm6 hd8 hp8
  go_wp2_with fail
  -- the copy
  refine (copy_spec (bn := oneBan gm) (hd9 _) (k9 _).size (by simp [ap1])).mono ?_
  rintro e w10 ⟨pc, nc, sc, wvc, rfl, hc10, k10, fc10⟩
  have fc10 : ∀ b, foot pc nc sc wvc b → w8.heap.size ≤ b := fun b hb => by simpa using fc10 b hb
  have hd10 := DiskAt.no (bn := oneBan gm) (hd9 _) k10
  have hp10 := BytesAt.no (bn := oneBan gm) (hp9 _) k10
  have k10' := (k9 _).then k10
  have hw8 : w8.heap.size ≤ w10.heap.size := by simpa using k10.size
  have hw0 := k8'.size
  clear k10 hd9 hp9 k9 cq8 fq8 k8'
  go_wp2_with fail
  have hA := append_spec (bn := oneBan gm) hc10 k10'.size ⟨by simp [ap1], by simp [ap1], by simp [ap1, msum]; omega, by simp [ap1]⟩ seg hp10 (by omega)
  rw [ap12 seg hP51] at hA
  refine hA.mono ?_
  rintro e w11 ⟨rfl, nc11, sc11, wvc11, hc11, k11, fc11⟩
  have hd11 := DiskAt.keep (bn := oneBan gm) hd10 (DiskAt.foot_ok (bn := oneBan gm) hc10) k11 (fun b hb hf => by have := hfd b hb; have := fc10 b hf; omega)
  have hp11 := BytesAt.keep (bn := oneBan gm) hp10 (DiskAt.foot_ok (bn := oneBan gm) hc10) k11
  have k11' := k10'.absorb k11 (fun b hb => by have := fc10 b hb; omega)
  have fc11 : ∀ b, foot pc nc11 sc11 wvc11 b → w8.heap.size ≤ b := fun b hb => by
    rcases fc11 b hb with h | h
    · exact fc10 b h
    · omega
  clear hA hc10 hd10 hp10 k11 k10' fc10 hw8
  go_wp2_with fail
  refine (full_spec (bn := oneBan gm) hc11 true).mono ?_
  rintro e w12 ⟨rfl, nc12, sc12, wvc12, hc12, k12, fc12⟩
  change DiskAt (bn := oneBan gm) w.heap.size w12 pc nc12 sc12 wvc12 (ap2 seg P true) at hc12
  have hd12 := DiskAt.keep (bn := oneBan gm) hd11 (DiskAt.foot_ok (bn := oneBan gm) hc11) k12 (fun b hb hf => by have := hfd b hb; have := fc11 b hf; omega)
  have hp12 := BytesAt.keep (bn := oneBan gm) hp11 (DiskAt.foot_ok (bn := oneBan gm) hc11) k12
  have k12' := k11'.absorb k12 (fun b hb => by have := fc11 b hb; omega)
  clear hc11 hd11 hp11 k12 k11' fc11 fc12
  go_wp2_with fail
  have hR := read_spec (bn := oneBan gm) hd12 (by simp [ap1, msum]; omega) seg
  rw [ap1read] at hR
  refine hR.mono ?_
  rintro e w13 ⟨v13, rfl, hv13, _, k13⟩
  obtain ⟨o13, c13, rfl⟩ := BytesAt.form (bn := oneBan gm) hv13
  have hd13 := DiskAt.no (bn := oneBan gm) hd12 k13
  have hc13 := DiskAt.no (bn := oneBan gm) hc12 k13
  have hp13 := BytesAt.no (bn := oneBan gm) hp12 k13
  have k13' := k12'.then k13
  clear hR hd12 hc12 hp12 k13 k12'
  go_wp2_with fail
  refine (nil_full true).mono ?_
  rintro e w' ⟨rfl, rfl⟩
  go_wp2_with fail
  refine (nil_read seg).mono ?_
  rintro e w' ⟨rfl, rfl⟩
  go_wp2_with fail
  have hS := r1same_spec (bn := oneBan gm) hv13 hp13
  rw [beq_self_eq_true] at hS
  refine hS.mono ?_
  rintro e w14 ⟨rfl, k14⟩
  have hd14 := DiskAt.no (bn := oneBan gm) hd13 k14
  have hc14 := DiskAt.no (bn := oneBan gm) hc13 k14
  have hp14 := BytesAt.no (bn := oneBan gm) hp13 k14
  have k14' := k13'.then k14
  clear hS hv13 hd13 hc13 hp13 k14 k13'
  go_wp2_with fail
  have hU := used_spec (bn := oneBan gm) hc14 k14'.size (by rw [ap2used]; omega)
  have e2 : ((msum (ap2 seg P true).now : Nat) : Int) = 2 * (P.length : Int) := by rw [ap2used]; omega
  rw [e2] at hU
  clear e2
  refine hU.mono ?_
  rintro e w15 ⟨rfl, k15⟩
  have hd15 := DiskAt.no (bn := oneBan gm) hd14 k15
  have hp15 := BytesAt.no (bn := oneBan gm) hp14 k15
  have k15' := k14'.then k15
  clear hU hd14 hc14 hp14 k15 k14'
  go_wp2_with fail
  have hA := append_spec (bn := oneBan gm) hd15 k15'.size ⟨by simp [ap1], by simp [ap1], by simp [ap1, msum]; omega, by simp [ap1]⟩ seg hp15 (by omega)
  rw [ap12 seg hP51] at hA
  refine hA.mono ?_
  rintro e w16 ⟨rfl, n16, s16, wv16, hd16, k16, f16⟩
  have k16' := k15'.absorb k16 f6
  clear hA hd15 hp15 k16 k15'
  go_wp2_with fail
  refine (nil_append seg o4 P.length c4).mono ?_
  rintro e w' ⟨rfl, rfl⟩
  go_wp2_with fail
  refine (nil_drop seg).mono ?_
  rintro e w' ⟨rfl, rfl⟩
  go_wp2_with fail
  refine nil_sync.mono ?_
  rintro e w' ⟨rfl, rfl⟩
  go_wp2_with fail
  refine nil_segs.mono ?_
  rintro e w' ⟨rfl, rfl⟩
  go_wp2_with fail
  refine nil_used.mono ?_
  rintro e w' ⟨rfl, rfl⟩
  go_wp2_with fail
  refine nil_room.mono ?_
  rintro e w' ⟨rfl, rfl⟩
  go_wp2_with fail
  refine nil_waiting.mono ?_
  rintro e w' ⟨rfl, rfl⟩
  go_wp2_with fail
  refine (nil_crash 1 1).mono ?_
  rintro e w' ⟨rfl, rfl⟩
  go_wp2_with fail
  refine nil_copy.mono ?_
  rintro e w' ⟨rfl, rfl⟩
  go_wp2_with fail
  refine nil_same.mono ?_
  rintro e w' ⟨rfl, rfl⟩
  go_wp2_with fail
  refine (some_same ⟨p, 0, none⟩).mono ?_
  rintro e w' ⟨rfl, rfl⟩
  go_wp2_with fail
  refine (new_spec (bn := noBan) w.heap.size room k16'.size).mono ?_
  rintro e w17 ⟨p17, n17, s17, wv17, rfl, h17, k17, f17⟩
  have k17' := k16'.then k17
  clear k16' k17 f17 hd16
  go_wp2_with fail
  refine (room_spec (bn := noBan) h17).mono ?_
  rintro e w18 ⟨rfl, rfl⟩
  clear h17
  have hmx := fun w ts ty => run_max w ts ty room 0
  simp only
  generalize max room 0 = mr at *
  go_wp2
  go_ret
  exact ⟨rfl, k17'⟩
end Go.Proofs.Ytpjggnfiocplmaa
