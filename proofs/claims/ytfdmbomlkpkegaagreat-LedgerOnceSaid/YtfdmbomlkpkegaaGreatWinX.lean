/- Windows in memory. Windows in memory: Skip, Same. -/
import Derived.Test.YtfdmbomlkpkegaaGreatRunT

/-! ## WinM -/
namespace Go.Proofs.YtfdmbomlkpkegaaGreat
open Go Go.RowKit

set_option maxHeartbeats 1000000 in
theorem rSame_spec {w : World} {va vb : Value} {l m : List RunN} (ha : RunsAt w va l) (hb : RunsAt w vb m) (hl : l.length ≤ 268435456) (hm : m.length ≤ 268435456) :
    Calls Tryz.prog 92 #[.agg #[va], .agg #[vb]] w fun e w' => e = .returned (.bool (decide (l = m))) ∧ Keep No w w' := by
  obtain ⟨ao, ac, rfl, hac, ham⟩ := ha.form
  obtain ⟨bo, bc, rfl, hbc, hbm⟩ := hb.form
  have kW : Keep No w ((w.alloc (.cells #[.slice ao l.length ac] 90)).alloc (.cells #[.slice bo m.length bc] 90)) := ((Keep.refl _ _).alloc _).alloc _
  have he := rEqual_spec (ha.no kW) (hb.no kW) hl hm
  have HH := Lib.hid kW
  clear ha hb kW hac ham hbc hbm hl hm
  go_enter Tryz.func92, Tryz.ntmps92
  go_wp2_with (go_at_call 131; refine he.mono ?_; rintro e w' ⟨rfl, k2⟩)
  go_ret
  exact ⟨rfl, HH.out.then k2⟩

theorem RSet.len : ∀ {l : List RunN} {a N : Nat}, RSet l → (∀ r ∈ l, a ≤ r.1 ∧ r.2 < a + N) → l.length ≤ N
  | [], a, N, _, _ => Nat.zero_le _
  | r :: l, a, N, h, hb => by
    have hr := hb r (by simp)
    have h1 := (h.run r (by simp)).1
    have := RSet.len (l := l) (a := r.2 + 2) (N := a + N - (r.2 + 2)) h.tail (fun x hx => by
      have h2 := h.head x hx
      have h3 := hb x (by simp [hx])
      have h4 := (h.run x (by simp [hx])).1
      omega)
    simp
    omega
theorem WinS.Ok.few {x : WinS} (h : x.Ok) : x.set.length ≤ 268435456 := by
  have := RSet.len (a := x.low) (N := x.width + 1) h.set (fun r hr => by
    have h1 := h.above _ (h.set.first hr)
    have h2 := h.above _ (h.set.last hr)
    omega)
  have := h.width
  omega
/-- What a walk wants of a window. -/
structure WinS.Pre (x : WinS) : Prop where
  set : RSet x.set
  few : x.set.length ≤ 268435456
  low : x.low < 4611686018427387904
  width : x.width ≤ 1024
theorem WinS.Ok.pre {x : WinS} (h : x.Ok) : x.Pre := ⟨h.set, h.few, h.low, h.width.2⟩
def WinV (w : World) (u : Value) (x : WinS) : Prop := ∃ v, u = .agg #[.int .u64 x.low, .int .u64 x.width, v] ∧ RunsAt w v x.set
theorem WinV.no {w w' : World} {u : Value} {x : WinS} (h : WinV w u x) (k : Keep No w w') : WinV w' u x := by
  obtain ⟨v, h1, h2⟩ := h
  exact ⟨v, h1, h2.no k⟩
theorem WinV.keep {w w' : World} {u : Value} {x : WinS} {F : Nat → Prop} (h : WinV w u x) (hF : FootR w F) (k : Keep F w w') : WinV w' u x := by
  obtain ⟨v, h1, h2⟩ := h
  exact ⟨v, h1, h2.keep hF k⟩
theorem WinV.form {w : World} {u : Value} {x : WinS} (h : WinV w u x) : ∃ ao cap, u = .agg #[.int .u64 x.low, .int .u64 x.width, .slice ao x.set.length cap] ∧ RunsAt w (.slice ao x.set.length cap) x.set := by
  obtain ⟨v, h1, h2⟩ := h
  obtain ⟨ao, cap, rfl, _⟩ := h2.form
  exact ⟨ao, cap, h1, h2⟩
theorem wNew_spec (w : World) (n : Nat) : Calls Tryz.prog 55 #[.int .u64 n] w fun e w' => ∃ u, e = .returned u ∧ WinV w' u (WinS.new n) ∧ Keep No w w' := by
  have hZ := heap_new w (.cells #[.int .u64 0, .int .u64 n, .slice none 0 0] 92)
  have kZ : Keep No w (w.alloc (.cells #[.int .u64 0, .int .u64 n, .slice none 0 0] 92)) := (Keep.refl _ _).alloc _
  have z0 := cell_of hZ 0
  have z1 := cell_of hZ 1
  have z2 := cell_of hZ 2
  simp at z0 z1 z2
  have HH := Lib.hid kZ
  clear hZ kZ
  go_enter Tryz.func55, Tryz.ntmps55
  go_wp2_with fail
  refine bodyPost_ret (v := .agg #[.int .u64 0, .int .u64 n, .slice none 0 0]) (by simp [results, Tryz.results55, go_sem]) rfl ?_
  exact ⟨_, rfl, ⟨_, rfl, RunsAt.nil _⟩, HH.out⟩
theorem wLimit_spec {w : World} {u : Value} {x : WinS} (h : WinV w u x) (hp : x.Pre) : Calls Tryz.prog 38 #[u] w fun e w' => e = .returned (.int .u64 (x.low + x.width : Nat)) ∧ Keep No w w' := by
  obtain ⟨ao, cap, rfl, hr⟩ := h.form
  have h1 := hp.low
  have h2 := hp.width
  obtain ⟨s, hs⟩ : ∃ s, s = x.low + x.width := ⟨_, rfl⟩
  have hw : IntKind.u64.wrap ((x.low : Int) + (x.width : Int)) = (s : Int) := by rw [wraps_u64 _ (by omega) (by omega)]; omega
  rw [← hs]
  clear h hr hp h1 h2 hs
  go_enter Tryz.func38, Tryz.ntmps38
  go_wp2_with fail
  go_ret
  exact ⟨rfl, (Keep.refl _ _).alloc _⟩
set_option maxHeartbeats 1000000 in
theorem wHad_spec {w : World} {u : Value} {x : WinS} (h : WinV w u x) (hp : x.Pre) (n : Nat) : Calls Tryz.prog 40 #[u, .int .u64 n] w fun e w' => e = .returned (.bool (x.had n)) ∧ Keep No w w' := by
  obtain ⟨ao, cap, rfl, hr⟩ := h.form
  have kA := (Keep.refl No w).alloc (.cells #[.int .u64 x.low, .int .u64 x.width, .slice ao x.set.length cap] 92)
  have hh := rHas_spec (hr.no kA) hp.set n (Nat.le_trans hp.few (by decide))
  have HH := Lib.hid kA
  by_cases hc : n ≤ x.low
  · have e : x.had n = true := by unfold WinS.had; simp [hc]
    rw [e]
    have hci : (n : Int) ≤ (x.low : Int) := by omega
    clear h hr hp kA hc e hh
    go_enter Tryz.func40, Tryz.ntmps40
    go_wp2_with fail
    go_ret
    exact ⟨rfl, HH.out⟩
  · have e : x.had n = hasB x.set n := by unfold WinS.had; simp [hc]
    rw [e]
    have hci : ¬ (n : Int) ≤ (x.low : Int) := by omega
    clear h hr hp kA hc e
    go_enter Tryz.func40, Tryz.ntmps40
    go_wp2_with (go_at_call 91; refine hh.mono ?_; rintro e w' ⟨rfl, k2⟩)
    go_ret
    exact ⟨rfl, HH.out.then k2⟩
set_option maxHeartbeats 1000000 in
theorem wTakes_spec {w : World} {u : Value} {x : WinS} (h : WinV w u x) (hp : x.Pre) (n : Nat) : Calls Tryz.prog 65 #[u, .int .u64 n] w fun e w' => e = .returned (.bool (x.takes n)) ∧ Keep No w w' := by
  obtain ⟨ao, cap, rfl, hr⟩ := h.form
  have kA := (Keep.refl No w).alloc (.cells #[.int .u64 x.low, .int .u64 x.width, .slice ao x.set.length cap] 92)
  have hA := heap_new w (.cells #[.int .u64 x.low, .int .u64 x.width, .slice ao x.set.length cap] 92)
  have hh := wHad_spec (h.no kA) hp n
  have hlim := fun (w' : World) (k : Keep No (w.alloc (.cells #[.int .u64 x.low, .int .u64 x.width, .slice ao x.set.length cap] 92)) w') => wLimit_spec ((h.no kA).no k) hp
  obtain ⟨s, hs⟩ : ∃ s, s = x.low + x.width := ⟨_, rfl⟩
  have ht : x.takes n = (!x.had n && decide (n ≤ s)) := by rw [hs]; rfl
  rw [← hs] at hlim
  have HH := Lib.hid (And.intro kA (And.intro hA hlim))
  rw [ht]
  cases hb : x.had n
  · rw [hb] at hh
    have e : (!false && decide (n ≤ s)) = decide ((n : Int) ≤ (s : Int)) := by simp
    rw [e]
    clear h hr hp kA ht e hA hlim hs hb
    go_enter Tryz.func65, Tryz.ntmps65
    go_wp2_with (first
      | (go_at_call 38; refine (HH.out.2.2 w2 k2).mono ?_; rintro e w3 ⟨rfl, k3⟩)
      | (go_at_call 40; refine hh.mono ?_; rintro e w2 ⟨rfl, k2⟩; have q := k2.heap HH.out.2.1 (fun e => e); have q0 := cell_of q 0; have q1 := cell_of q 1; have q2 := cell_of q 2; simp at q0 q1 q2))
    go_ret
    exact ⟨by simp, (HH.out.1.then k2).then k3⟩
  · rw [hb] at hh
    clear h hr hp kA ht hA hlim hs hb
    go_enter Tryz.func65, Tryz.ntmps65
    go_wp2_with (go_at_call 40; refine hh.mono ?_; rintro e w2 ⟨rfl, k2⟩)
    go_ret
    exact ⟨rfl, HH.out.1.then k2⟩
/-- A window's cells, written. -/
theorem win_fin {W : World} {g : Nat} {a0 a1 a2 : Value} (b0 b1 b2 : Value) (hB : W.heap[g]? = some (.cells #[a0, a1, a2] 92 (0, 0))) :
    (((W.setCell ⟨g, 0, none⟩ b0).setCell ⟨g, 1, none⟩ b1).setCell ⟨g, 2, none⟩ b2).heap[g]? = some (.cells #[b0, b1, b2] 92 (0, 0)) ∧ Keep (· = g) W (((W.setCell ⟨g, 0, none⟩ b0).setCell ⟨g, 1, none⟩ b1).setCell ⟨g, 2, none⟩ b2) :=
  ⟨heap_setCell_same (i := 2) (u := b2) (heap_setCell_same (i := 1) (u := b1) (heap_setCell_same (i := 0) (u := b0) hB)), ((keep_cell (g := g) (i := 0) W b0).setCell (p := ⟨g, 1, none⟩) (.inl rfl) b1).setCell (p := ⟨g, 2, none⟩) (.inl rfl) b2⟩
theorem FootR.block {w : World} {g : Nat} {cs : Array Value} {t : TypeId} {fr : Nat × Nat} (h : w.heap[g]? = some (.cells cs t fr)) (ht : t ≠ 96) : FootR w (· = g) := fun c hc hr => by
  obtain ⟨cs', fr', e⟩ := hr
  rw [show c = g from hc, h] at e
  simp at e
  exact ht e.2.1
theorem gapR_lt {l : List RunN} {n m : Nat} (hb : ∀ r ∈ l, r.2 < 9223372036854775807) (hn : n ≤ 9223372036854775807) (h : gapR l n = some m) : m ≤ 9223372036854775807 := by
  unfold gapR at h
  split at h
  · simp at h; omega
  · rename_i r e
    have := hb r (findR_mem e)
    split at h
    · simp at h; omega
    · split at h
      · cases h
      · simp at h; omega
set_option maxRecDepth 100000 in
set_option maxHeartbeats 2000000 in
theorem wClosed_spec {w : World} {u : Value} {x : WinS} (h : WinV w u x) (hs : RSet x.set) (hl : x.set.length ≤ 268435456) (hlow : x.low < 4611686018427387904) (hb : ∀ r ∈ x.set, r.2 < 9223372036854775807) :
    Calls Tryz.prog 116 #[u] w fun e w' => ∃ u', e = .returned u' ∧ WinV w' u' x.closed ∧ Keep No w w' := by
  obtain ⟨ao, cap, rfl, hr⟩ := h.form
  obtain ⟨W, hW⟩ : ∃ W, W = (w.alloc (.cells #[.int .u64 x.low, .int .u64 x.width, .slice ao x.set.length cap] 92)).alloc (.cells #[.int .u64 0, .int .u64 0, .slice none 0 0] 92) := ⟨_, rfl⟩
  have kW : Keep No w W := by rw [hW]; exact ((Keep.refl _ _).alloc _).alloc _
  have hA : W.heap[w.heap.size]? = some (.cells #[.int .u64 x.low, .int .u64 x.width, .slice ao x.set.length cap] 92 (0, 0)) := by
    rw [hW]
    exact ((Keep.refl No _).alloc _).heap (heap_new _ _) (fun e => e)
  have hB : W.heap[w.heap.size + 1]? = some (.cells #[.int .u64 0, .int .u64 0, .slice none 0 0] 92 (0, 0)) := by
    rw [hW]
    have := heap_new (w.alloc (.cells #[.int .u64 x.low, .int .u64 x.width, .slice ao x.set.length cap] 92)) (.cells #[.int .u64 0, .int .u64 0, .slice none 0 0] 92)
    rw [World.size_alloc] at this
    exact this
  obtain ⟨m, hm⟩ := gapR_some (n := x.low + 1) (l := x.set) (fun r hr => by have := hb r hr; omega)
  have hm1 := (gapR_ok hs hm).1
  have hm2 := gapR_lt hb (by omega) hm
  have hg := rGap_spec (hr.no kW) hs (x.low + 1) m (Nat.le_trans hl (by decide)) hm
  obtain ⟨a, ha⟩ : ∃ a, a = x.low + 1 := ⟨_, rfl⟩
  obtain ⟨b, hbm⟩ : ∃ b, b = m - 1 := ⟨_, rfl⟩
  have hcl : x.closed = ⟨b, x.width, fromR x.set m⟩ := by
    have e : x.lowC = b := by unfold WinS.lowC; rw [hm, hbm]
    unfold WinS.closed
    rw [e, show b + 1 = m by omega]
  have hwa : IntKind.u64.wrap ((x.low : Int) + 1) = (a : Int) := by rw [wraps_u64 _ (by omega) (by omega)]; omega
  have hwb : IntKind.u64.wrap ((m : Int) - 1) = (b : Int) := by rw [wraps_u64 _ (by omega) (by omega)]; omega
  have hwc : IntKind.u64.wrap ((b : Int) + 1) = (m : Int) := by rw [wraps_u64 _ (by omega) (by omega)]; omega
  rw [← ha] at hg
  rw [hcl]
  have c0 := cell_of hA 0
  have c1 := cell_of hA 1
  have c2 := cell_of hA 2
  simp at c0 c1 c2
  have HH := Lib.hid (And.intro kW (And.intro hA (And.intro hB (And.intro (hr.no kW) (And.intro hs (And.intro hl hm2))))))
  clear h hr hs hl hlow hb kW hA hB hm hm1 hm2 ha hbm hcl
  go_enter Tryz.func116, Tryz.ntmps116
  go_wp2_with fail
  rw [← hW]
  clear hW
  go_wp2_with fail
  refine hg.mono ?_
  rintro e w1 ⟨rfl, k1⟩
  clear hg
  have hA1 := k1.heap HH.out.2.1 (fun e => e)
  have hB1 := k1.heap HH.out.2.2.1 (fun e => e)
  have d0 := cell_of hA1 0
  have d1 := cell_of hA1 1
  have d2 := cell_of hA1 2
  have fA1 := frozen_of hA1
  simp at d0 d1 d2
  obtain ⟨W2, hW2⟩ : ∃ W2, w1.setCell ⟨w.heap.size, 0, none⟩ (.int .u64 b) = W2 := ⟨_, rfl⟩
  have k2 : Keep (· = w.heap.size) w1 (w1.setCell ⟨w.heap.size, 0, none⟩ (.int .u64 b)) := keep_cell _ _
  have hA2 := heap_setCell_same (i := 0) (u := .int .u64 b) hA1
  have hFA : FootR w1 (· = w.heap.size) := fun c hc hr => by obtain ⟨cs, fr, e⟩ := hr; rw [show c = w.heap.size from hc, hA1] at e; simp at e
  have hr2 := (HH.out.2.2.2.1.no k1).keep hFA k2
  have hlA := heap_lt HH.out.2.1
  have hB2 := k2.heap hB1 (by show ¬ w.heap.size + 1 = w.heap.size; omega)
  rw [hW2] at k2 hA2 hr2 hB2
  have hf := rFrom_spec hr2 HH.out.2.2.2.2.1 m HH.out.2.2.2.2.2.1 (by have := HH.out.2.2.2.2.2.2; omega)
  have e0 := cell_of hA2 0
  have e1 := cell_of hA2 1
  have e2 := cell_of hA2 2
  simp at e0 e1 e2
  have H1 := Lib.hid (And.intro k1 (And.intro k2 (And.intro hA2 (And.intro hB2 hlA))))
  clear k1 k2 hA2 hB2 hA1 hB1 hr2 hFA hlA
  go_wp2_with fail
  refine hf.mono ?_
  rintro e w3 ⟨v3, rfl, hr3, k3⟩
  clear hf
  obtain ⟨o3, c3, rfl, _, _⟩ := hr3.form
  have hA3 := k3.heap H1.out.2.2.1 (fun e => e)
  have hB3 := k3.heap H1.out.2.2.2.1 (fun e => e)
  have g0 := cell_of hA3 0
  have g1 := cell_of hA3 1
  have g2 := cell_of hA3 2
  have fA3 := frozen_of hA3
  simp at g0 g1 g2
  obtain ⟨W4, hW4⟩ : ∃ W4, w3.setCell ⟨w.heap.size, 2, none⟩ (.slice o3 (fromR x.set m).length c3) = W4 := ⟨_, rfl⟩
  have k4 : Keep (· = w.heap.size) w3 (w3.setCell ⟨w.heap.size, 2, none⟩ (.slice o3 (fromR x.set m).length c3)) := keep_cell _ _
  have hA4 := heap_setCell_same (i := 2) (u := (.slice o3 (fromR x.set m).length c3)) hA3
  have hFA : FootR w3 (· = w.heap.size) := fun c hc hr => by obtain ⟨cs, fr, e⟩ := hr; rw [show c = w.heap.size from hc, hA3] at e; simp at e
  have hr4 := hr3.keep hFA k4
  have hlA := H1.out.2.2.2.2
  have hB4 := k4.heap hB3 (by show ¬ w.heap.size + 1 = w.heap.size; omega)
  rw [hW4] at k4 hA4 hr4 hB4
  have p0 := cell_of hA4 0
  have p1 := cell_of hA4 1
  have p2 := cell_of hA4 2
  have q0 := cell_of hB4 0
  have q1 := cell_of hB4 1
  have q2 := cell_of hB4 2
  have fB4 := frozen_of hB4
  simp at p0 p1 p2 q0 q1 q2
  have H2 := Lib.hid (And.intro k3 (And.intro k4 (And.intro hB4 hr4)))
  clear k3 k4 hA3 hB3 hA4 hr3 hFA hlA hB4 hr4
  go_wp2_with fail
  have hB := H2.out.2.2.1
  obtain ⟨hZ, kZ⟩ := win_fin (.int .u64 b) (.int .u64 x.width) (.slice o3 (fromR x.set m).length c3) hB
  have z0 := cell_of hZ 0
  have z1 := cell_of hZ 1
  have z2 := cell_of hZ 2
  simp at z0 z1 z2
  refine bodyPost_ret (v := .agg #[.int .u64 b, .int .u64 x.width, .slice o3 (fromR x.set m).length c3]) (by simp [results, Tryz.results116, go_sem, z0, z1, z2]) rfl ?_
  refine ⟨_, rfl, ⟨_, rfl, H2.out.2.2.2.keep (FootR.block hB (by decide)) kZ⟩, ?_⟩
  exact (((((HH.out.1.then H1.out.1).trans H1.out.2.1 (fun x hx e => by omega)).then H2.out.1).trans H2.out.2.1 (fun x hx e => by omega)).trans kZ (fun x hx e => by omega))
set_option maxRecDepth 100000 in
set_option maxHeartbeats 2000000 in
theorem wPut_spec {w : World} {u : Value} {x : WinS} (h : WinV w u x) (ho : x.Ok) (n : Nat) (hn : n < 4611686018427387904) :
    Calls Tryz.prog 66 #[u, .int .u64 n] w fun e w' => ∃ u', e = .returned u' ∧ WinV w' u' (x.put n) ∧ Keep No w w' := by
  obtain ⟨ao, cap, rfl, hr⟩ := h.form
  have hp := ho.pre
  obtain ⟨W, hW⟩ : ∃ W, W = (w.alloc (.cells #[.int .u64 x.low, .int .u64 x.width, .slice ao x.set.length cap] 92)).alloc (.cells #[.int .u64 0, .int .u64 0, .slice none 0 0] 92) := ⟨_, rfl⟩
  have kW : Keep No w W := by rw [hW]; exact ((Keep.refl _ _).alloc _).alloc _
  have hA : W.heap[w.heap.size]? = some (.cells #[.int .u64 x.low, .int .u64 x.width, .slice ao x.set.length cap] 92 (0, 0)) := by
    rw [hW]
    exact ((Keep.refl No _).alloc _).heap (heap_new _ _) (fun e => e)
  have hB : W.heap[w.heap.size + 1]? = some (.cells #[.int .u64 0, .int .u64 0, .slice none 0 0] 92 (0, 0)) := by
    rw [hW]
    have := heap_new (w.alloc (.cells #[.int .u64 x.low, .int .u64 x.width, .slice ao x.set.length cap] 92)) (.cells #[.int .u64 0, .int .u64 0, .slice none 0 0] 92)
    rw [World.size_alloc] at this
    exact this
  have ht := wTakes_spec (h.no kW) hp n
  have c0 := cell_of hA 0
  have c1 := cell_of hA 1
  have c2 := cell_of hA 2
  simp at c0 c1 c2
  cases hb : x.takes n
  · rw [hb] at ht
    have e : x.put n = x := by unfold WinS.put; rw [hb]; simp
    rw [e]
    have HH := Lib.hid (And.intro kW (And.intro hA (And.intro hB (hr.no kW))))
    clear h hr hp ho kW hA hB hb e hn
    go_enter Tryz.func66, Tryz.ntmps66
    go_wp2_with fail
    rw [← hW]
    clear hW
    go_wp2_with fail
    refine ht.mono ?_
    rintro e w1 ⟨rfl, k1⟩
    have hA1 := k1.heap HH.out.2.1 (fun e => e)
    have hB1 := k1.heap HH.out.2.2.1 (fun e => e)
    have d0 := cell_of hA1 0
    have d1 := cell_of hA1 1
    have d2 := cell_of hA1 2
    have q0 := cell_of hB1 0
    have q1 := cell_of hB1 1
    have q2 := cell_of hB1 2
    have fB := frozen_of hB1
    simp at d0 d1 d2 q0 q1 q2
    have H1 := Lib.hid (And.intro k1 hB1)
    clear k1 hA1 hB1 ht
    go_wp2_with fail
    have hB := H1.out.2
    obtain ⟨hZ, kZ⟩ := win_fin (.int .u64 x.low) (.int .u64 x.width) (.slice ao x.set.length cap) hB
    have z0 := cell_of hZ 0
    have z1 := cell_of hZ 1
    have z2 := cell_of hZ 2
    simp at z0 z1 z2
    refine bodyPost_ret (v := .agg #[.int .u64 x.low, .int .u64 x.width, .slice ao x.set.length cap]) (by simp [results, Tryz.results66, go_sem, z0, z1, z2]) rfl ?_
    exact ⟨_, rfl, ⟨_, rfl, (HH.out.2.2.2.no H1.out.1).keep (FootR.block hB (by decide)) kZ⟩, (HH.out.1.then H1.out.1).trans kZ (fun x hx e => by omega)⟩
  · rw [hb] at ht
    have e : x.put n = (⟨x.low, x.width, spanR x.set n n⟩ : WinS).closed := by unfold WinS.put; rw [hb]; simp
    obtain ⟨y, hy⟩ : ∃ y, y = (⟨x.low, x.width, spanR x.set n n⟩ : WinS).closed := ⟨_, rfl⟩
    rw [e, ← hy]
    have HY := Lib.hid hy
    clear hy
    obtain ⟨t1, t2⟩ := (ho.takes n).1 hb
    obtain ⟨s1, s2⟩ := spanR_ok (f := n) (t := n) ho.set (by omega)
    have hsl : (spanR x.set n n).length ≤ 268435456 := by
      have := RSet.len (a := 0) (N := x.low + x.width + 1) s1 (fun r hr => by
        refine ⟨Nat.zero_le _, ?_⟩
        rcases (s2 _).1 (s1.last hr) with a | a
        · have := (ho.above _ a).2.1; omega
        · omega)
      have h1 := absorb_len (x.set.drop (findR x.set (n - 1))) n n
      have h2 := WinS.Ok.few ho
      have hw := ho.width
      have h3 := RSet.len (a := x.low) (N := x.width + 1) ho.set (fun r hr => by
        have h1 := ho.above _ (ho.set.first hr)
        have h2 := ho.above _ (ho.set.last hr)
        omega)
      have h4 := findR_le x.set (n - 1)
      unfold spanR
      rw [if_neg (by omega), List.length_append, List.length_take]
      rw [List.length_drop] at h1
      omega
    have hsb : ∀ r ∈ spanR x.set n n, r.2 < 9223372036854775807 := fun r hr => by
      rcases (s2 _).1 (s1.last hr) with a | a
      · have := (ho.above _ a).2.2; omega
      · omega
    have hadd := fun (w' : World) (k : Keep No W w') => rAdd_spec ((hr.no kW).no k) ho.set n hp.few (by omega)
    have hlow := ho.low
    have HH := Lib.hid (And.intro kW (And.intro hA (And.intro hB (And.intro s1 (And.intro hsl (And.intro hlow (And.intro hsb hadd)))))))
    clear h hr hp ho kW hA hB hb e hn s1 s2 t1 t2 hsl hlow hsb hadd
    go_enter Tryz.func66, Tryz.ntmps66
    go_wp2_with fail
    rw [← hW]
    clear hW
    go_wp2_with fail
    refine ht.mono ?_
    rintro e w1 ⟨rfl, k1⟩
    have hA1 := k1.heap HH.out.2.1 (fun e => e)
    have hB1 := k1.heap HH.out.2.2.1 (fun e => e)
    have d0 := cell_of hA1 0
    have d1 := cell_of hA1 1
    have d2 := cell_of hA1 2
    simp at d0 d1 d2
    have hadd := HH.out.2.2.2.2.2.2.2 w1 k1
    have H1 := Lib.hid (And.intro k1 (And.intro hA1 hB1))
    clear k1 hA1 hB1 ht
    go_wp2_with fail
    refine hadd.mono ?_
    rintro e w2 ⟨v2, rfl, hr2, k2⟩
    clear hadd
    obtain ⟨o2, cp2, rfl, _, _⟩ := hr2.form
    have hA2 := k2.heap H1.out.2.1 (fun e => e)
    have hB2 := k2.heap H1.out.2.2 (fun e => e)
    have f0 := cell_of hA2 0
    have f1 := cell_of hA2 1
    have f2 := cell_of hA2 2
    have fA := frozen_of hA2
    simp at f0 f1 f2
    obtain ⟨W3, hW3⟩ : ∃ W3, w2.setCell ⟨w.heap.size, 2, none⟩ (.slice o2 (spanR x.set n n).length cp2) = W3 := ⟨_, rfl⟩
    have k3 : Keep (· = w.heap.size) w2 (w2.setCell ⟨w.heap.size, 2, none⟩ (.slice o2 (spanR x.set n n).length cp2)) := keep_cell _ _
    have hA3 := heap_setCell_same (i := 2) (u := .slice o2 (spanR x.set n n).length cp2) hA2
    have hr3 := hr2.keep (FootR.block hA2 (by decide)) k3
    have hlA := heap_lt HH.out.2.1
    have hB3 := k3.heap hB2 (by show ¬ w.heap.size + 1 = w.heap.size; omega)
    rw [hW3] at k3 hA3 hr3 hB3
    have p0 := cell_of hA3 0
    have p1 := cell_of hA3 1
    have p2 := cell_of hA3 2
    simp at p0 p1 p2
    have hc := wClosed_spec (w := W3) (x := ⟨x.low, x.width, spanR x.set n n⟩) ⟨_, rfl, hr3⟩ HH.out.2.2.2.1 HH.out.2.2.2.2.1 HH.out.2.2.2.2.2.1 HH.out.2.2.2.2.2.2.1
    have H2 := Lib.hid (And.intro k2 (And.intro k3 hB3))
    clear k2 k3 hB3 hA3 hA2 hB2 hr2 hr3
    go_wp2_with fail
    refine hc.mono ?_
    rintro e w4 ⟨u4, rfl, hw4, k4⟩
    clear hc
    rw [← HY.out] at hw4
    obtain ⟨o4, cp4, rfl, hr4⟩ := hw4.form
    have hB4 := k4.heap H2.out.2.2 (fun e => e)
    have q0 := cell_of hB4 0
    have q1 := cell_of hB4 1
    have q2 := cell_of hB4 2
    have fB := frozen_of hB4
    simp at q0 q1 q2
    have H3 := Lib.hid (And.intro k4 (And.intro hB4 hr4))
    clear hB4 k4 hr4 hw4
    go_wp2_with fail
    have hB := H3.out.2.1
    obtain ⟨hZ, kZ⟩ := win_fin (.int .u64 y.low) (.int .u64 y.width) (.slice o4 y.set.length cp4) hB
    have z0 := cell_of hZ 0
    have z1 := cell_of hZ 1
    have z2 := cell_of hZ 2
    simp at z0 z1 z2
    refine bodyPost_ret (v := .agg #[.int .u64 y.low, .int .u64 y.width, .slice o4 y.set.length cp4]) (by simp [results, Tryz.results66, go_sem, z0, z1, z2]) rfl ?_
    refine ⟨_, rfl, ⟨_, rfl, H3.out.2.2.keep (FootR.block hB (by decide)) kZ⟩, ?_⟩
    exact ((((HH.out.1.then H1.out.1).then H2.out.1).trans H2.out.2.1 (fun x hx e => by omega)).then H3.out.1).trans kZ (fun x hx e => by omega)
end Go.Proofs.YtfdmbomlkpkegaaGreat

/-! ## WinN -/
namespace Go.Proofs.YtfdmbomlkpkegaaGreat
open Go Go.RowKit

set_option maxRecDepth 100000 in
set_option maxHeartbeats 2000000 in
theorem wSkip_spec {w : World} {u : Value} {x : WinS} (h : WinV w u x) (hp : x.Pre) (hb : ∀ r ∈ x.set, r.2 < 9223372036854775807) (b : Nat) (hbb : b ≤ 4611686018427387904) :
    Calls Tryz.prog 64 #[u, .int .u64 b] w fun e w' => ∃ u', e = .returned u' ∧ WinV w' u' (x.skip b) ∧ Keep No w w' := by
  obtain ⟨ao, cap, rfl, hr⟩ := h.form
  have hlow := hp.low
  obtain ⟨a, ha⟩ : ∃ a, a = x.low + 1 := ⟨_, rfl⟩
  have hwa : IntKind.u64.wrap ((x.low : Int) + 1) = (a : Int) := by rw [wraps_u64 _ (by omega) (by omega)]; omega
  by_cases hc : b ≤ a
  · have e : x.skip b = x := by unfold WinS.skip; rw [if_pos (by omega)]
    rw [e]
    have hci : (b : Int) ≤ (a : Int) := by omega
    have kZ : Keep No w ((w.alloc (.cells #[.int .u64 x.low, .int .u64 x.width, .slice ao x.set.length cap] 92)).alloc (.cells #[.int .u64 x.low, .int .u64 x.width, .slice ao x.set.length cap] 92)) := ((Keep.refl _ _).alloc _).alloc _
    have hZ := heap_new (w.alloc (.cells #[.int .u64 x.low, .int .u64 x.width, .slice ao x.set.length cap] 92)) (.cells #[.int .u64 x.low, .int .u64 x.width, .slice ao x.set.length cap] 92)
    rw [World.size_alloc] at hZ
    have z0 := cell_of hZ 0
    have z1 := cell_of hZ 1
    have z2 := cell_of hZ 2
    simp at z0 z1 z2
    have HH := Lib.hid (And.intro kZ (hr.no kZ))
    clear h hr hp hlow hc e hZ kZ ha hbb hb
    go_enter Tryz.func64, Tryz.ntmps64
    go_wp2_with fail
    refine bodyPost_ret (v := .agg #[.int .u64 x.low, .int .u64 x.width, .slice ao x.set.length cap]) (by simp [results, Tryz.results64, go_sem]) rfl ?_
    exact ⟨_, rfl, ⟨_, rfl, HH.out.2⟩, HH.out.1⟩
  · have e : x.skip b = (⟨b - 1, x.width, x.set⟩ : WinS).closed := by unfold WinS.skip; rw [if_neg (by omega)]
    obtain ⟨y, hy⟩ : ∃ y, y = (⟨b - 1, x.width, x.set⟩ : WinS).closed := ⟨_, rfl⟩
    rw [e, ← hy]
    have HY := Lib.hid hy
    have hci : ¬ (b : Int) ≤ (a : Int) := by omega
    obtain ⟨c, hcb⟩ : ∃ c, c = b - 1 := ⟨_, rfl⟩
    have hwb : IntKind.u64.wrap ((b : Int) - 1) = (c : Int) := by rw [wraps_u64 _ (by omega) (by omega)]; omega
    rw [← hcb] at HY
    obtain ⟨W, hW⟩ : ∃ W, W = (w.alloc (.cells #[.int .u64 c, .int .u64 x.width, .slice ao x.set.length cap] 92)).alloc (.cells #[.int .u64 0, .int .u64 0, .slice none 0 0] 92) := ⟨_, rfl⟩
    have kW : Keep No w W := by rw [hW]; exact ((Keep.refl _ _).alloc _).alloc _
    have hA : W.heap[w.heap.size]? = some (.cells #[.int .u64 c, .int .u64 x.width, .slice ao x.set.length cap] 92 (0, 0)) := by
      rw [hW]
      exact ((Keep.refl No _).alloc _).heap (heap_new _ _) (fun e => e)
    have hB : W.heap[w.heap.size + 1]? = some (.cells #[.int .u64 0, .int .u64 0, .slice none 0 0] 92 (0, 0)) := by
      rw [hW]
      have := heap_new (w.alloc (.cells #[.int .u64 c, .int .u64 x.width, .slice ao x.set.length cap] 92)) (.cells #[.int .u64 0, .int .u64 0, .slice none 0 0] 92)
      rw [World.size_alloc] at this
      exact this
    have hcl := wClosed_spec (w := W) (x := ⟨c, x.width, x.set⟩) ⟨_, rfl, hr.no kW⟩ hp.set hp.few (by show c < _; omega) hb
    have HH := Lib.hid (And.intro kW hB)
    clear h hr hp hlow hc e ha hbb hb kW hA hB hcb hy
    go_enter Tryz.func64, Tryz.ntmps64
    go_wp2_with fail
    rw [← hW]
    clear hW
    refine hcl.mono ?_
    rintro e w4 ⟨u4, rfl, hw4, k4⟩
    clear hcl
    rw [← HY.out] at hw4
    obtain ⟨o4, cp4, rfl, hr4⟩ := hw4.form
    have hB4 := k4.heap HH.out.2 (fun e => e)
    have q0 := cell_of hB4 0
    have q1 := cell_of hB4 1
    have q2 := cell_of hB4 2
    have fB := frozen_of hB4
    simp at q0 q1 q2
    have H3 := Lib.hid (And.intro k4 (And.intro hB4 hr4))
    clear hB4 k4 hr4 hw4
    go_wp2_with fail
    have hB := H3.out.2.1
    obtain ⟨hZ, kZ⟩ := win_fin (.int .u64 y.low) (.int .u64 y.width) (.slice o4 y.set.length cp4) hB
    have z0 := cell_of hZ 0
    have z1 := cell_of hZ 1
    have z2 := cell_of hZ 2
    simp at z0 z1 z2
    refine bodyPost_ret (v := .agg #[.int .u64 y.low, .int .u64 y.width, .slice o4 y.set.length cp4]) (by simp [results, Tryz.results64, go_sem, z0, z1, z2]) rfl ?_
    refine ⟨_, rfl, ⟨_, rfl, H3.out.2.2.keep (FootR.block hB (by decide)) kZ⟩, ?_⟩
    exact (HH.out.1.then H3.out.1).trans kZ (fun x hx e => by omega)
theorem wSame_spec {w : World} {ua ub : Value} {x y : WinS} (ha : WinV w ua x) (hb : WinV w ub y) (hx : x.set.length ≤ 268435456) (hy : y.set.length ≤ 268435456) :
    Calls Tryz.prog 42 #[ua, ub] w fun e w' => e = .returned (.bool (decide (x = y))) ∧ Keep No w w' := by
  obtain ⟨ao, ac, rfl, har⟩ := ha.form
  obtain ⟨bo, bc, rfl, hbr⟩ := hb.form
  have kW : Keep No w ((w.alloc (.cells #[.int .u64 x.low, .int .u64 x.width, .slice ao x.set.length ac] 92)).alloc (.cells #[.int .u64 y.low, .int .u64 y.width, .slice bo y.set.length bc] 92)) := ((Keep.refl _ _).alloc _).alloc _
  have hs := rSame_spec (har.no kW) (hbr.no kW) hx hy
  obtain ⟨bb, hbb⟩ : ∃ bb, bb = decide (x = y) := ⟨_, rfl⟩
  rw [← hbb]
  have HH := Lib.hid kW
  obtain ⟨xl, xw, xs⟩ := x
  obtain ⟨yl, yw, ys⟩ := y
  simp only at hs hx hy
  by_cases h1 : xl = yl
  · by_cases h2 : xw = yw
    · subst h1 h2
      have e : decide (xs = ys) = bb := by rw [hbb]; simp
      rw [e] at hs
      clear ha hb har hbr kW hx hy hbb e
      go_enter Tryz.func42, Tryz.ntmps42
      go_wp2_with (go_at_call 92; refine hs.mono ?_; rintro e w' ⟨rfl, k2⟩)
      go_ret
      exact ⟨rfl, HH.out.then k2⟩
    · have hq : ((xw : Int) == (yw : Int)) = false := by simp; omega
      obtain rfl : bb = false := by rw [hbb]; simp [h2]
      subst h1
      clear ha hb har hbr kW hx hy hbb hs h2
      go_enter Tryz.func42, Tryz.ntmps42
      go_wp2_with fail
      go_ret
      exact ⟨rfl, HH.out⟩
  · have hq : ((xl : Int) == (yl : Int)) = false := by simp; omega
    obtain rfl : bb = false := by rw [hbb]; simp [h1]
    clear ha hb har hbr kW hx hy hbb hs h1
    go_enter Tryz.func42, Tryz.ntmps42
    go_wp2_with fail
    go_ret
    exact ⟨rfl, HH.out⟩
end Go.Proofs.YtfdmbomlkpkegaaGreat
