/- The document's Append. -/
import Derived.Test.YtpjggnfiocplmaaRefH
namespace Go.Proofs.Ytpjggnfiocplmaa
open Go Go.RowKit Go.Dr

theorem midN_guarded {P : Program} {ops : Array Oper} {Q : Exit → Act → World → Prop} {S : World → Prop} {K : Act → World → Prop} {i : Nat} {r : List Nat} {a : Act} {w : World} {o : Oper} (hi : ops.toList[i]? = some o) (hg : Region.wanted o (yielded ops a.tmps) = true)
    (h : ∀ K' : Act → World → Prop, (∀ a w, S w → midN P ops Q S K r a w → K' a w) → o.wp P a w K' Q) : midN P ops Q S K (i :: r) a w := by
  unfold midN
  refine ⟨o, hi, ?_⟩
  rw [if_pos hg]
  exact h _ (fun a w hS h => ⟨hS, h⟩)

def RDiskS.append (x : RDiskS) (seg : Int) (l : Bytes) : RDiskS × Int :=
  if x.full then (x, 5) else if x.room < (msum (segs6 x.l) : Int) + (l.length : Int) then (x, 5) else (x.push ⟨seg, l, false⟩, 0)

set_option maxRecDepth 100000 in
set_option maxHeartbeats 1000000 in
theorem rappend_spec [bn : Inhabited Ban] {base : Nat} {w : World} {q : Nat} {lv : Value} {x : RDiskS} (h : RDiskAt base w q lv x) (hb : base ≤ w.heap.size) (hl : x.l.length ≤ 1000) (hs : wsum x.l ≤ 1099511627776) (seg : Int)
    {u : Value} {l : Bytes} (hu : BytesAt base w u l) (hll : l.length ≤ 1099511627776) :
    Calls Try.prog 65 #[.pointer (some ⟨q, 0, none⟩), .int .u64 seg, u] w (RPost base w q lv (x.append seg l).1 (.int .i64 (x.append seg l).2)) := by
  have d0 := cell_of h.blk 0
  have d1 := cell_of h.blk 1
  have d2 := cell_of h.blk 2
  simp at d0 d1 d2
  obtain ⟨lo, lc, rfl, _, _⟩ := h.calls.form
  obtain ⟨uo, uc, rfl⟩ := hu.form
  have hms := segs6_sum x.l
  by_cases hf : x.full = true
  · have hr : x.append seg l = (x, 5) := by simp [RDiskS.append, hf]
    rw [hf] at d1
    rw [hr]
    have HP := Lib.hid h
    clear hr hf hu h hms hl hs hll
    go_enter Try.func65, Try.ntmps65
    go_wp2
    go_quiet (fail)
    go_wp2
    go_ret
    exact ⟨rfl, _, HP.out.no ((Keep.refl _ _).drewN _), ((Keep.refl _ _).drewN _), fun b hb => .inl hb⟩
  · have hf' : x.full = false := by simpa using hf
    rw [hf'] at d1
    clear hf
    have hU := fun w' (k : Keep No w w') => rused_spec (h.no k) (Nat.le_trans hb k.size) hl hs
    go_enter Try.func65, Try.ntmps65
    go_wp2
    refine wp_drawN (fun w' => Keep No w w') [0, 1, 2, 3, 4, 5, 7, 8, 10, 11, 12, 13] [6, 9, 14, 15] [] (by kernel_rfl) (by kernel_rfl) (fun _ _ _ _ _ h => h) (Keep.refl _ _).drew ?_
    iterate 5 (refine earlyN_cons (v := ?_) rfl rfl rfl ?_ ?_; rotate_left; focus (
      intro w' hS
      have d0' := hS.cell d0 (fun e => e)
      have d1' := hS.cell d1 (fun e => e)
      go_simp
      try with_reducible rfl))
    iterate 7 (refine earlyN_guarded (v := ?_) rfl rfl (by first | kernel_rfl | simp [Region.wanted, yielded, Act.put]) ?_ ?_; rotate_left; focus (
      intro w' hS
      have d0' := hS.cell d0 (fun e => e)
      have d1' := hS.cell d1 (fun e => e)
      go_simp
      try with_reducible rfl))
    refine earlyN_nil ?_
    refine midN_guarded rfl (by first | kernel_rfl | simp [Region.wanted, yielded, Act.put]) (fun K hK => ?_)
    go_simp
    have kd : Keep No w w.drew := (Keep.refl _ _).drew
    refine (hU _ kd).mono ?_
    rintro e w1 ⟨rfl, k1⟩
    have k1 := kd.then k1
    refine hK _ _ k1 ?_
    clear hK K hU
    have b0 : (0 : Int) ≤ (msum (segs6 x.l) : Nat) + (l.length : Int) := by omega
    have b1 : ((msum (segs6 x.l) : Nat) : Int) + (l.length : Int) ≤ 9223372036854775807 := by omega
    refine midN_guarded rfl (by first | kernel_rfl | simp [Region.wanted, yielded, Act.put]) (fun K hK => ?_)
    go_simp
    refine hK _ _ k1 ?_
    clear hK K
    have hX1 := h.no k1
    have hwr : IntKind.i64.wrap (((msum (segs6 x.l) : Nat) : Int) + (l.length : Int)) = ((msum (segs6 x.l) : Nat) : Int) + (l.length : Int) := IntWalk.i64_in _ (by omega)
    by_cases hlt : x.room < ((msum (segs6 x.l) : Nat) : Int) + (l.length : Int)
    · have hr : x.append seg l = (x, 5) := by simp [RDiskS.append, hf', hlt]
      have HP := Lib.hid (And.intro hr (And.intro hX1 k1))
      refine midN_guarded rfl (by first | kernel_rfl | simp [Region.wanted, yielded, Act.put]) (fun K hK => ?_)
      go_simp
      refine hK _ _ k1 ?_
      clear hK K
      refine midN_cons rfl rfl (fun K hK => ?_)
      go_simp
      refine hK _ _ k1 ?_
      clear hK K
      refine midN_nil (tailN_nil ?_)
      clear hr hX1 h hu
      go_wp2
      go_ret
      rw [HP.out.1]
      exact ⟨rfl, _, HP.out.2.1, HP.out.2.2.no, fun b hb => .inl hb⟩
    · have hr : x.append seg l = (x.push ⟨seg, l, false⟩, 0) := by simp [RDiskS.append, hf', hlt]
      have HP := Lib.hid (And.intro hr (And.intro hX1 k1))
      refine midN_guarded rfl (by first | kernel_rfl | simp [Region.wanted, yielded, Act.put]) (fun K hK => ?_)
      go_simp
      refine hK _ _ k1 ?_
      clear hK K
      refine midN_cons rfl rfl (fun K hK => ?_)
      go_simp
      refine hK _ _ k1 ?_
      clear hK K
      refine midN_nil (tailN_nil ?_)
      have hB1 : base ≤ w1.heap.size := Nat.le_trans hb k1.size
      have kz : Keep No w1 (w1.alloc (.cells #[] 113)) := (Keep.refl _ _).alloc _
      have hmade := LAt.made base w1 hB1
      have hsrc := (hX1.no kz).calls.allIn
      have hl1 : ([] : List CallS).length + x.l.length ≤ 1000000 := by simp; omega
      have hl2 : (([] : List CallS) ++ x.l).length + ([⟨seg, l, false⟩] : List CallS).length ≤ 1000000 := by simp; omega
      have d2' := kz.cell (k1.cell d2 (fun e => e)) (fun e => e)
      have hu1 := hu.no k1
      clear hr h hu hX1 k1 d0 d1 d2 hms hs hl hwr b0 b1 hlt
      go_wp2_with (at_builtin; refine wpList_append_rcalls (v := .slice (some ⟨w1.heap.size, 0, none⟩) 0 0) rfl _ _ rfl rfl rfl hmade hsrc hl1 (Nat.le_trans hB1 kz.size) ?_; intro v3 w3 hL3 hk3 hv3; have k13 : Keep No w1 w3 := kz.absorb hk3 (fun x hx => by have hx : some w1.heap.size = some x := hx; injection hx with hx; omega); have hB3 := Nat.le_trans hB1 k13.size)
      have k3 : Keep No w3 (w3.alloc (.cells #[.slice uo l.length uc] 27)) := (Keep.refl _ _).alloc _
      have hu3 := hu1.no k13
      have hsl : SlicesAt base (w3.alloc (.cells #[.slice uo l.length uc] 27)) (.slice (some ⟨w3.heap.size, 0, none⟩) 1 1) [l] :=
        SlicesAt.of_block (cs := #[.slice uo l.length uc]) (heap_new w3 _) [l] rfl (by simp [maxLen]) (fun i u' l h1 h2 => by
          match i, h1, h2 with
          | 0, h1, h2 => simp at h1 h2; subst h1 h2; exact hu3.no k3)
      refine (join_spec hsl (by simp; omega)).mono ?_
      rintro e w4 ⟨v4, rfl, hown, hk4⟩
      have k34 := k3.then hk4
      have hv4 : BytesAt base w4 v4 l := by
        have := hown.bytes (base := base) (fun hne => Nat.le_trans (hu3.top (by simpa using hne)) k3.size)
        simpa using this
      obtain ⟨o4, c4, rfl⟩ := hv4.form
      have kB : Keep No w4 (w4.alloc (.cells #[.int .u64 seg, .slice o4 l.length c4, .bool false] 113)) := (Keep.refl _ _).alloc _
      have hB4 := Nat.le_trans hB3 k34.size
      have hone := (LAt.one ⟨seg, l, false⟩ hv4 hB4).allIn
      clear hsl hown hk4 hu1 hu3 hv4 hmade hsrc
      go_wp2_with (at_builtin; refine wpList_append_rcalls (v := v3) rfl _ _ rfl rfl rfl (hL3.no (k34.then kB)) hone hl2 (Nat.le_trans hB4 kB.size) ?_; intro v5 w5 hL5 hk5 hv5; have o3 : ∀ b, v3.ownBlock = some b → w1.heap.size ≤ b := (fun b hb => by (rcases hv3 b hb with hx | hx); (have hx : some w1.heap.size = some b := hx; injection hx with hx; omega); (have := kz.size; omega)); have k15 : Keep No w1 w5 := ((k13.then k34).then kB).absorb hk5 o3; have hX5 := HP.out.2.1.no k15; have z2 := cell_of hX5.blk 2; have f2 := frozen_of hX5.blk 2; simp at z2; obtain ⟨o5, c5, rfl, _, _⟩ := hL5.form)
      go_ret
      rw [HP.out.1]
      refine ⟨rfl, _, by simpa [RDiskS.push] using hX5.setL hL5, (HP.out.2.2.then k15).no.trans (Keep.setCell (F := (· = q)) (Keep.refl _ _) (p := ⟨q, 2, none⟩) (.inl rfl) _) (fun _ _ e => e), fun b hb => .inr ?_⟩
      have hw := HP.out.2.2.size
      rcases hv5 b (by simpa [Value.ownBlock] using hb) with hx | hx
      · have := o3 b hx; omega
      · have h1 := kB.size; have h2 := k13.size; have h3 := k34.size; omega
end Go.Proofs.Ytpjggnfiocplmaa
