/- Add, without, From. -/
import Derived.Test.YtfdmbomlkpkegaaGreatRunS
namespace Go.Proofs.YtfdmbomlkpkegaaGreat
open Go Go.RowKit

set_option maxHeartbeats 1000000 in
theorem rAdd_spec {w : World} {v : Value} {l : List RunN} (h : RunsAt w v l) (hs : RSet l) (n : Nat) (hl : l.length ≤ 268435456) (hn : n < 18446744073709551616) :
    Calls Tryz.prog 117 #[.agg #[v], .int .u64 n] w fun e w' => ∃ v', e = .returned (.agg #[v']) ∧ RunsAt w' v' (spanR l n n) ∧ Keep No w w' := by
  obtain ⟨ao, cap, rfl, hc, hm⟩ := h.form
  obtain ⟨W, hW⟩ : ∃ W, W = (w.alloc (.cells #[.slice ao l.length cap] 90)).alloc (.cells #[.slice none 0 0] 90) := ⟨_, rfl⟩
  have hsz : (w.alloc (.cells #[.slice ao l.length cap] 90)).heap.size = w.heap.size + 1 := by simp
  have kW : Keep No w W := by rw [hW]; exact ((Keep.refl _ _).alloc _).alloc _
  have hA : W.heap[w.heap.size]? = some (.cells #[.slice ao l.length cap] 90 (0, 0)) := by
    rw [hW]
    exact ((Keep.refl No _).alloc _).heap (heap_new _ _) (fun e => e)
  have hB : W.heap[w.heap.size + 1]? = some (.cells #[.slice none 0 0] 90 (0, 0)) := by
    rw [hW, ← hsz]
    exact heap_new _ _
  have hf := rSpan_spec (h.no kW) hs n n hl (Nat.le_refl _) hn
  have c0 := cell_of hA 0
  simp at c0
  have HH := Lib.hid (And.intro kW hB)
  clear hA kW h hs hl hc hm hn hB hsz
  go_enter Tryz.func117, Tryz.ntmps117
  go_wp2_with fail
  rw [← hW]
  clear hW
  go_wp2_with fail
  refine hf.mono ?_
  rintro e w' ⟨v', rfl, hr, k2⟩
  obtain ⟨o9, c9, rfl, _, _⟩ := hr.form
  have hB := k2.heap HH.out.2 (fun e => e)
  have b0 := cell_of hB 0
  have fb := frozen_of hB
  simp at b0
  go_wp2
  have hZ := heap_setCell_same (i := 0) (u := .slice o9 (spanR l n n).length c9) hB
  have kZ := keep_cell (g := w.heap.size + 1) (i := 0) w' (.slice o9 (spanR l n n).length c9)
  have z0 := cell_of hZ 0
  simp at z0
  refine bodyPost_ret (v := .agg #[.slice o9 (spanR l n n).length c9]) (by simp [results, Tryz.results117, go_sem, z0]) rfl ?_
  exact ⟨_, rfl, hr.keep (fun b hb hr => by obtain ⟨cs, fr, e⟩ := hr; rw [show b = w.heap.size + 1 from hb, hB] at e; simp at e) kZ, (HH.out.1.then k2).trans kZ (fun x hx e => by omega)⟩
theorem pieces_length (a b : Nat) (r : RunN) : (pieces a b r).length ≤ 2 := by unfold pieces; split; simp; split <;> split <;> simp
theorem withoutR_length (l : List RunN) (a b : Nat) : (withoutR l a b).length ≤ 2 * l.length := by
  induction l with
  | nil => simp [withoutR]
  | cons r l ih =>
    have := pieces_length a b r
    simp only [withoutR, List.flatMap_cons, List.length_append, List.length_cons] at ih ⊢
    omega
theorem withoutR_succ {l : List RunN} {a b k : Nat} {r : RunN} (h : l[k]? = some r) : withoutR (l.take (k + 1)) a b = withoutR (l.take k) a b ++ pieces a b r := by
  obtain ⟨hk, rfl⟩ := List.getElem?_eq_some_iff.1 h
  unfold withoutR
  rw [List.take_succ_eq_append_getElem hk, List.flatMap_append]
  simp
/-- A run that was just laid. -/
theorem run_lit (w : World) (a b : Nat) : RunsAt (w.alloc (.cells #[.int .u64 a, .int .u64 b] 96)) (.slice (some ⟨w.heap.size, 0, none⟩) 1 1) [(a, b)] := by
  have hA := heap_new w (.cells #[.int .u64 a, .int .u64 b] 96)
  refine ⟨some ⟨w.heap.size, 0, none⟩, 1, rfl, Nat.le_refl _, by decide, fun e => (by cases e), fun _ => ⟨w.heap.size, 0, rfl, ⟨_, _, hA⟩, fun i r hr => ?_⟩⟩
  match i, hr with
  | 0, hr =>
    simp at hr
    subst hr
    rw [cell_of hA, cell_of hA]
    exact ⟨rfl, rfl⟩
set_option maxRecDepth 100000 in
set_option maxHeartbeats 2000000 in
theorem rWithout_spec {w : World} {v : Value} {l : List RunN} (h : RunsAt w v l) (hs : RSet l) (a b : Nat) (hl : l.length ≤ 268435456) (hab : a ≤ b) (hb : b < 18446744073709551616) :
    Calls Tryz.prog 202 #[.agg #[v], .agg #[.int .u64 a, .int .u64 b]] w fun e w' => ∃ v', e = .returned (.agg #[v']) ∧ RunsAt w' v' (withoutR l a b) ∧ Keep No w w' := by
  obtain ⟨ao, cap, rfl, hc, hm⟩ := h.form
  unfold maxLen at hm
  obtain ⟨W, hW⟩ : ∃ W, W = ((w.alloc (.cells #[.slice ao l.length cap] 90)).alloc (.cells #[.int .u64 a, .int .u64 b] 96)).alloc (.cells #[.slice none 0 0] 90) := ⟨_, rfl⟩
  have hsz : (w.alloc (.cells #[.slice ao l.length cap] 90)).heap.size = w.heap.size + 1 := by simp
  have hsz2 : ((w.alloc (.cells #[.slice ao l.length cap] 90)).alloc (.cells #[.int .u64 a, .int .u64 b] 96)).heap.size = w.heap.size + 1 + 1 := by simp
  have kW : Keep No w W := by rw [hW]; exact (((Keep.refl _ _).alloc _).alloc _).alloc _
  have hA : W.heap[w.heap.size]? = some (.cells #[.slice ao l.length cap] 90 (0, 0)) := by
    rw [hW]
    exact (((Keep.refl No _).alloc _).alloc _).heap (heap_new _ _) (fun e => e)
  have hX : W.heap[w.heap.size + 1]? = some (.cells #[.int .u64 a, .int .u64 b] 96 (0, 0)) := by
    rw [hW, ← hsz]
    exact ((Keep.refl No _).alloc _).heap (heap_new _ _) (fun e => e)
  have hB : W.heap[w.heap.size + 1 + 1]? = some (.cells #[.slice none 0 0] 90 (0, 0)) := by
    rw [hW, ← hsz2]
    exact heap_new _ _
  have c0 := cell_of hA 0
  have x0 := cell_of hX 0
  have x1 := cell_of hX 1
  simp at c0 x0 x1
  have hli : (l.length : Int) ≤ 268435456 := by omega
  have HH := Lib.hid (And.intro kW (And.intro hB (And.intro (h.no kW) (And.intro hs (And.intro hab (And.intro hb (And.intro hl hc)))))))
  clear hA hX kW h hs hl hc hm hB hsz hsz2 hab hb
  go_enter Tryz.func202, Tryz.ntmps202
  go_wp2_with fail
  rw [← hW]
  clear hW
  go_wp2_with fail
  go_loopw [5, 11] (fun ov kv wr => ∃ (k : Nat), kv = .int .i64 k ∧ k ≤ l.length ∧ OwnR wr W.heap.size ov (withoutR (l.take k) a b) ∧ Keep No W wr) (fun _ kv _ => l.length - (intOf kv).toNat)
  case atStart => exact ⟨0, rfl, Nat.zero_le _, by simp [withoutR]; exact OwnR.nil _ _, Keep.refl _ _⟩
  case round =>
    obtain ⟨k, rfl, hk, hown, kr⟩ := hrel
    obtain ⟨oo, oc, rfl, _, _⟩ := hown.form
    have y0 := kr.cell c0 (fun e => e)
    have y1 := kr.cell x0 (fun e => e)
    have y2 := kr.cell x1 (fun e => e)
    by_cases hlt : k < l.length
    · have hr : l[k]? = some l[k] := List.getElem?_eq_getElem hlt
      generalize l[k] = r at hr
      obtain ⟨hr1, hr2⟩ := HH.out.2.2.2.1.run r (List.mem_of_getElem? hr)
      have hsucc := withoutR_succ (a := a) (b := b) hr
      obtain ⟨g, o, rfl, hrow⟩ := HH.out.2.2.1.row (fun e => by rw [e] at hlt; simp at hlt)
      have r0 := kr.cell (hrow k r hr).1 (fun e => e)
      have r1 := kr.cell (hrow k r hr).2 (fun e => e)
      have hki : (k : Int) < (l.length : Int) := by omega
      have hlen := withoutR_length (l.take k) a b
      have hlen2 : (l.take k).length ≤ k := by simp; omega
      obtain ⟨ol, hol⟩ : ∃ ol, ol = withoutR (l.take k) a b := ⟨_, rfl⟩
      rw [← hol] at hown hsucc hlen ⊢
      have kA := fun o => (Keep.refl No wr).alloc o
      have y1A := fun o => (kA o).cell y1 (fun e => e)
      have y2A := fun o => (kA o).cell y2 (fun e => e)
      have hbox := heap_new wr (.cells #[.int .u64 r.1, .int .u64 r.2] 96)
      have ownA := fun o => hown.keep (kA o) (fun _ _ e => e)
      by_cases hc1 : r.2 < a ∨ b < r.1
      · have hp : pieces a b r = [r] := by unfold pieces; rw [if_pos hc1]
        rw [hp] at hsucc
        have hsrc := run_lit (wr.alloc (.cells #[.int .u64 r.1, .int .u64 r.2] 96)) r.1 r.2
        rw [World.size_alloc] at hsrc
        have hown2 := (ownA (.cells #[.int .u64 r.1, .int .u64 r.2] 96)).keep ((Keep.refl No _).alloc (.cells #[.int .u64 r.1, .int .u64 r.2] 96)) (fun _ _ e => e)
        have hlen3 : ol.length + [(r.1, r.2)].length ≤ 1099511627776 := by have := HH.out.2.2.2.2.2.2.1; simp; omega
        have hsz3 : W.heap.size ≤ ((wr.alloc (.cells #[.int .u64 r.1, .int .u64 r.2] 96)).alloc (.cells #[.int .u64 r.1, .int .u64 r.2] 96)).heap.size := by have := kr.size; simp; omega
        have kfin := ((kr.alloc (.cells #[.int .u64 r.1, .int .u64 r.2] 96)).alloc (.cells #[.int .u64 r.1, .int .u64 r.2] 96))
        have HR := Lib.hid (And.intro hsucc (And.intro kfin (And.intro hlt (And.intro hown2 (And.intro hsrc (And.intro hlen3 hsz3))))))
        by_cases hc2 : r.2 < a
        · have hci : (r.2 : Int) < (a : Int) := by omega
          clear hsucc kr hlt hown hown2 hsrc hlen3 hsz3 kfin hlen hlen2 hr hrow hp hc1 hc2 hol hk hr1 hr2 ownA hbox kA
          go_wp2_with (at_builtin; refine wpList_append_runs rfl _ _ rfl HR.out.2.2.2.1 HR.out.2.2.2.2.1 rfl rfl HR.out.2.2.2.2.2.1 HR.out.2.2.2.2.2.2 ?_; intro v' w' hown' hk')
          go_roundw
          case rel => exact ⟨k + 1, by congr 1, by have := HR.out.2.2.1; omega, by rw [HR.out.1]; exact hown', HR.out.2.1.trans hk' (fun x hx e => by have := (HR.out.2.2.2.1.lt x e).1; omega)⟩
          case measure => have := HR.out.2.2.1; simp [intOf]; omega
        · have hci : ¬ (r.2 : Int) < (a : Int) := by omega
          have hci2 : (b : Int) < (r.1 : Int) := by omega
          clear hsucc kr hlt hown hown2 hsrc hlen3 hsz3 kfin hlen hlen2 hr hrow hp hc1 hc2 hol hk hr1 hr2 ownA hbox kA
          go_wp2_with (at_builtin; refine wpList_append_runs rfl _ _ rfl HR.out.2.2.2.1 HR.out.2.2.2.2.1 rfl rfl HR.out.2.2.2.2.2.1 HR.out.2.2.2.2.2.2 ?_; intro v' w' hown' hk')
          go_roundw
          case rel => exact ⟨k + 1, by congr 1, by have := HR.out.2.2.1; omega, by rw [HR.out.1]; exact hown', HR.out.2.1.trans hk' (fun x hx e => by have := (HR.out.2.2.2.1.lt x e).1; omega)⟩
          case measure => have := HR.out.2.2.1; simp [intOf]; omega
      · have hp : pieces a b r = (if r.1 < a then [(r.1, a - 1)] else []) ++ (if b < r.2 then [(b + 1, r.2)] else []) := by unfold pieces; rw [if_neg hc1]
        rw [hp] at hsucc
        have hi1 : ¬ (r.2 : Int) < (a : Int) := by omega
        have hi2 : ¬ (b : Int) < (r.1 : Int) := by omega
        have hli3 : ol.length ≤ 536870912 := by have := HH.out.2.2.2.2.2.2.1; omega
        have hz1 : (wr.alloc (.cells #[.int .u64 r.1, .int .u64 r.2] 96)).heap.size = wr.heap.size + 1 := World.size_alloc _ _
        have hkz := kr.size
        have hbb := HH.out.2.2.2.2.2.1
        by_cases hc2 : r.1 < a
        · rw [if_pos hc2] at hsucc
          have hi3 : (r.1 : Int) < (a : Int) := by omega
          have hwu : IntKind.u64.wrap ((a : Int) - 1) = ((a - 1 : Nat) : Int) := by rw [wraps_u64 _ (by omega) (by omega)]; omega
          obtain ⟨a1, ha1⟩ : ∃ a1, a1 = a - 1 := ⟨_, rfl⟩
          rw [← ha1] at hwu hsucc
          have hwu' := hwu
          have hsrc := run_lit (wr.alloc (.cells #[.int .u64 r.1, .int .u64 r.2] 96)) r.1 a1
          rw [World.size_alloc] at hsrc
          have hown2 := (ownA (.cells #[.int .u64 r.1, .int .u64 r.2] 96)).keep ((Keep.refl No _).alloc (.cells #[.int .u64 r.1, .int .u64 a1] 96)) (fun _ _ e => e)
          have hsz3 : W.heap.size ≤ ((wr.alloc (.cells #[.int .u64 r.1, .int .u64 r.2] 96)).alloc (.cells #[.int .u64 r.1, .int .u64 a1] 96)).heap.size := by simp; omega
          have kfin := ((kr.alloc (.cells #[.int .u64 r.1, .int .u64 r.2] 96)).alloc (.cells #[.int .u64 r.1, .int .u64 a1] 96))
          have hbx := ((Keep.refl No _).alloc (.cells #[.int .u64 r.1, .int .u64 a1] 96)).heap hbox (fun e => e)
          have hy2 := ((Keep.refl No _).alloc (.cells #[.int .u64 r.1, .int .u64 a1] 96)).cell (y2A (.cells #[.int .u64 r.1, .int .u64 r.2] 96)) (fun e => e)
          have hlow : ∀ c, (Value.slice oo ol.length oc).ownBlock = some c → W.heap.size ≤ c ∧ c < wr.heap.size := hown.lt
          have hxlt : w.heap.size + 1 < W.heap.size := World.block_lt_of_cell? _ _ x1
          have hlen3 : ol.length + [(r.1, a1)].length ≤ 1099511627776 := by simp; omega
          have HR := Lib.hid (And.intro hsucc (And.intro kfin (And.intro hlt (And.intro hown2 (And.intro hsrc (And.intro hlen3 (And.intro hsz3 (And.intro hbx (And.intro hy2 (And.intro hlow (And.intro hxlt hli3)))))))))))
          by_cases hc3 : b < r.2
          · rw [if_pos hc3] at HR
            have hi4 : (b : Int) < (r.2 : Int) := by omega
            obtain ⟨b1, hb1⟩ : ∃ b1, b1 = b + 1 := ⟨_, rfl⟩
            rw [← hb1] at HR
            have hwb : IntKind.u64.wrap ((b : Int) + 1) = (b1 : Int) := by rw [wraps_u64 _ (by omega) (by omega)]; omega
            clear kr hlt hown hown2 hsrc hlen3 hsz3 kfin hlen hlen2 hr hrow hp hc1 hc2 hc3 hol hk hr1 hr2 ownA hbox kA hsucc ha1 hz1 hkz hbb hbx hy2 hlow hxlt hli3 hb1
            go_wp2_with (first
              | (at_builtin; refine wpList_append_runs rfl _ _ rfl (own3.keep ((Keep.refl No _).alloc (.cells #[.int .u64 b1, .int .u64 r.2] 96)) (fun _ _ e => e)) (run_lit w3 b1 r.2) rfl rfl (by have := HR.out.2.2.2.2.2.2.2.2.2.2.2; simp; omega) (by have := k3.size; have := HR.out.2.2.2.2.2.2.1; simp; omega) ?_; intro v4 w4 own4 k4)
              | (at_builtin; refine wpList_append_runs rfl _ _ rfl HR.out.2.2.2.1 HR.out.2.2.2.2.1 rfl rfl HR.out.2.2.2.2.2.1 HR.out.2.2.2.2.2.2.1 ?_; intro v3 w3 own3 k3; have q := k3.heap HR.out.2.2.2.2.2.2.2.1 (fun e => by have := HR.out.2.2.2.2.2.2.2.2.2.1 _ e; omega); have q0 := cell_of q 0; have q1 := cell_of q 1; have q2 := k3.cell HR.out.2.2.2.2.2.2.2.2.1 (fun e => by have := HR.out.2.2.2.2.2.2.2.2.2.1 _ e; have := HR.out.2.2.2.2.2.2.2.2.2.2.1; have e2 : W.heap.size ≤ w.heap.size + 1 := (HR.out.2.2.2.2.2.2.2.2.2.1 _ e).1; omega); simp at q0 q1; obtain ⟨o3, c3, rfl, _, _⟩ := own3.form; have own3 := own3; simp only [List.length_append, List.length_singleton] at own3; have k3 := k3))
            go_roundw
            case rel => exact ⟨k + 1, by congr 1, by have := HR.out.2.2.1; omega, by rw [HR.out.1, ← List.append_assoc]; exact own4, ((HR.out.2.1.trans k3 (fun x hx e => by have := (HR.out.2.2.2.2.2.2.2.2.2.1 x e).1; omega)).alloc _).trans k4 (fun x hx e => by have := (own3.lt x e).1; omega)⟩
            case measure => have := HR.out.2.2.1; simp [intOf]; omega
          · rw [if_neg hc3] at HR
            have hi4 : ¬ (b : Int) < (r.2 : Int) := by omega
            clear kr hlt hown hown2 hsrc hlen3 hsz3 kfin hlen hlen2 hr hrow hp hc1 hc2 hc3 hol hk hr1 hr2 ownA hbox kA hsucc ha1 hz1 hkz hbb hbx hy2 hlow hxlt hli3
            go_wp2_with (at_builtin; refine wpList_append_runs rfl _ _ rfl HR.out.2.2.2.1 HR.out.2.2.2.2.1 rfl rfl HR.out.2.2.2.2.2.1 HR.out.2.2.2.2.2.2.1 ?_; intro v3 w3 own3 k3; have q := k3.heap HR.out.2.2.2.2.2.2.2.1 (fun e => by have := HR.out.2.2.2.2.2.2.2.2.2.1 _ e; omega); have q0 := cell_of q 0; have q1 := cell_of q 1; have q2 := k3.cell HR.out.2.2.2.2.2.2.2.2.1 (fun e => by have := HR.out.2.2.2.2.2.2.2.2.2.1 _ e; have := HR.out.2.2.2.2.2.2.2.2.2.2.1; have e2 : W.heap.size ≤ w.heap.size + 1 := (HR.out.2.2.2.2.2.2.2.2.2.1 _ e).1; omega); simp at q0 q1; obtain ⟨o3, c3, rfl, _, _⟩ := own3.form)
            go_roundw
            case rel => exact ⟨k + 1, by congr 1, by have := HR.out.2.2.1; omega, by have h3 := own3; simp only [List.length_append, List.length_singleton] at h3; rw [HR.out.1, List.append_nil]; exact h3, HR.out.2.1.trans k3 (fun x hx e => by have := (HR.out.2.2.2.2.2.2.2.2.2.1 x e).1; omega)⟩
            case measure => have := HR.out.2.2.1; simp [intOf]; omega
        · rw [if_neg hc2] at hsucc
          have hi3 : ¬ (r.1 : Int) < (a : Int) := by omega
          by_cases hc3 : b < r.2
          · rw [if_pos hc3] at hsucc
            have hi4 : (b : Int) < (r.2 : Int) := by omega
            obtain ⟨b1, hb1⟩ : ∃ b1, b1 = b + 1 := ⟨_, rfl⟩
            rw [← hb1] at hsucc
            have hwb : IntKind.u64.wrap ((b : Int) + 1) = (b1 : Int) := by rw [wraps_u64 _ (by omega) (by omega)]; omega
            have hsrc := run_lit (wr.alloc (.cells #[.int .u64 r.1, .int .u64 r.2] 96)) b1 r.2
            rw [World.size_alloc] at hsrc
            have hown2 := (ownA (.cells #[.int .u64 r.1, .int .u64 r.2] 96)).keep ((Keep.refl No _).alloc (.cells #[.int .u64 b1, .int .u64 r.2] 96)) (fun _ _ e => e)
            have hsz3 : W.heap.size ≤ ((wr.alloc (.cells #[.int .u64 r.1, .int .u64 r.2] 96)).alloc (.cells #[.int .u64 b1, .int .u64 r.2] 96)).heap.size := by simp; omega
            have kfin := ((kr.alloc (.cells #[.int .u64 r.1, .int .u64 r.2] 96)).alloc (.cells #[.int .u64 b1, .int .u64 r.2] 96))
            have hlen3 : ol.length + [(b1, r.2)].length ≤ 1099511627776 := by simp; omega
            have HR := Lib.hid (And.intro hsucc (And.intro kfin (And.intro hlt (And.intro hown2 (And.intro hsrc (And.intro hlen3 hsz3))))))
            clear kr hlt hown hown2 hsrc hlen3 hsz3 kfin hlen hlen2 hr hrow hp hc1 hc2 hc3 hol hk hr1 hr2 ownA hbox kA hsucc hb1 hz1 hkz hbb hli3
            go_wp2_with (at_builtin; refine wpList_append_runs rfl _ _ rfl HR.out.2.2.2.1 HR.out.2.2.2.2.1 rfl rfl HR.out.2.2.2.2.2.1 HR.out.2.2.2.2.2.2 ?_; intro v' w' hown' hk')
            go_roundw
            case rel => exact ⟨k + 1, by congr 1, by have := HR.out.2.2.1; omega, by rw [HR.out.1, List.nil_append]; exact hown', HR.out.2.1.trans hk' (fun x hx e => by have := (HR.out.2.2.2.1.lt x e).1; omega)⟩
            case measure => have := HR.out.2.2.1; simp [intOf]; omega
          · rw [if_neg hc3] at hsucc
            have hi4 : ¬ (b : Int) < (r.2 : Int) := by omega
            have HR := Lib.hid (And.intro hsucc (And.intro (kr.alloc (.cells #[.int .u64 r.1, .int .u64 r.2] 96)) (And.intro hlt (ownA (.cells #[.int .u64 r.1, .int .u64 r.2] 96)))))
            clear kr hlt hown hlen hlen2 hr hrow hp hc1 hc2 hc3 hol hk hr1 hr2 ownA hbox kA hsucc hz1 hkz hbb hli3
            go_wp2_with fail
            go_roundw
            case rel => exact ⟨k + 1, by congr 1, by have := HR.out.2.2.1; omega, by rw [HR.out.1, List.append_nil, List.append_nil]; exact HR.out.2.2.2, HR.out.2.1⟩
            case measure => have := HR.out.2.2.1; simp [intOf]; omega
    · have hke : k = l.length := by omega
      have hki : ¬ (k : Int) < (l.length : Int) := by omega
      rw [hke, List.take_of_length_le (Nat.le_refl _)] at hown ⊢
      have hB := kr.heap HH.out.2.1 (fun e => e)
      have b0 := cell_of hB 0
      have fb := frozen_of hB
      simp at b0
      have HR := Lib.hid (And.intro kr (And.intro hown hB))
      clear kr hown hk hlt hB
      subst hke
      go_wp2_with fail
      have hZ := heap_setCell_same (i := 0) (u := .slice oo (withoutR l a b).length oc) HR.out.2.2
      have kZ := keep_cell (g := w.heap.size + 1 + 1) (i := 0) wr (.slice oo (withoutR l a b).length oc)
      have z0 := cell_of hZ 0
      simp at z0
      refine bodyPost_ret (v := .agg #[.slice oo (withoutR l a b).length oc]) (by simp [results, Tryz.results202, go_sem, z0]) rfl ?_
      have hB := HR.out.2.2
      exact ⟨_, rfl, HR.out.2.1.runs.keep (fun c hb hr => by obtain ⟨cs, fr, e⟩ := hr; rw [show c = w.heap.size + 1 + 1 from hb, hB] at e; simp at e) kZ, (HH.out.1.then HR.out.1).trans kZ (fun x hx e => by omega)⟩
set_option maxHeartbeats 1000000 in
theorem rFrom_spec {w : World} {v : Value} {l : List RunN} (h : RunsAt w v l) (hs : RSet l) (n : Nat) (hl : l.length ≤ 268435456) (hn : n < 18446744073709551616) :
    Calls Tryz.prog 169 #[.agg #[v], .int .u64 n] w fun e w' => ∃ v', e = .returned (.agg #[v']) ∧ RunsAt w' v' (fromR l n) ∧ Keep No w w' := by
  obtain ⟨ao, cap, rfl, hc, hm⟩ := h.form
  obtain ⟨W, hW⟩ : ∃ W, W = (w.alloc (.cells #[.slice ao l.length cap] 90)).alloc (.cells #[.slice none 0 0] 90) := ⟨_, rfl⟩
  have hsz : (w.alloc (.cells #[.slice ao l.length cap] 90)).heap.size = w.heap.size + 1 := by simp
  have kW : Keep No w W := by rw [hW]; exact ((Keep.refl _ _).alloc _).alloc _
  have hA : W.heap[w.heap.size]? = some (.cells #[.slice ao l.length cap] 90 (0, 0)) := by
    rw [hW]
    exact ((Keep.refl No _).alloc _).heap (heap_new _ _) (fun e => e)
  have hB : W.heap[w.heap.size + 1]? = some (.cells #[.slice none 0 0] 90 (0, 0)) := by
    rw [hW, ← hsz]
    exact heap_new _ _
  have c0 := cell_of hA 0
  simp at c0
  by_cases h0 : n = 0
  · have e : fromR l n = l := by unfold fromR; rw [if_pos h0]
    rw [e]
    have hZ := heap_new (w.alloc (.cells #[.slice ao l.length cap] 90)) (.cells #[.slice ao l.length cap] 90)
    rw [World.size_alloc] at hZ
    have kZ : Keep No w ((w.alloc (.cells #[.slice ao l.length cap] 90)).alloc (.cells #[.slice ao l.length cap] 90)) := ((Keep.refl _ _).alloc _).alloc _
    have z0 := cell_of hZ 0
    simp at z0
    have HH := Lib.hid (And.intro kZ (h.no kZ))
    subst h0
    clear hA kW h hs hl hc hm hn hB hsz e hZ kZ c0 hW
    go_enter Tryz.func169, Tryz.ntmps169
    go_wp2_with fail
    refine bodyPost_ret (v := .agg #[.slice ao l.length cap]) (by simp [results, Tryz.results169, go_sem]) rfl ?_
    exact ⟨_, rfl, HH.out.2, HH.out.1⟩
  · have e : fromR l n = withoutR l 0 (n - 1) := by unfold fromR; rw [if_neg h0]
    rw [e]
    have hf := rWithout_spec (h.no kW) hs 0 (n - 1) hl (by omega) (by omega)
    have h0i : ((n : Int) == 0) = false := by simp; omega
    have hwu : IntKind.u64.wrap ((n : Int) - 1) = ((n - 1 : Nat) : Int) := by rw [wraps_u64 _ (by omega) (by omega)]; omega
    have HH := Lib.hid (And.intro kW hB)
    obtain ⟨m, hm1⟩ : ∃ m, m = n - 1 := ⟨_, rfl⟩
    rw [← hm1] at hf hwu ⊢
    clear hA kW h hs hl hc hm hn hB hsz e h0 hm1
    go_enter Tryz.func169, Tryz.ntmps169
    go_wp2_with fail
    rw [← hW]
    clear hW
    go_wp2_with fail
    refine hf.mono ?_
    rintro e w' ⟨v', rfl, hr, k2⟩
    obtain ⟨o9, c9, rfl, _, _⟩ := hr.form
    have hB := k2.heap HH.out.2 (fun e => e)
    have b0 := cell_of hB 0
    have fb := frozen_of hB
    simp at b0
    go_wp2
    have hZ := heap_setCell_same (i := 0) (u := .slice o9 (withoutR l 0 m).length c9) hB
    have kZ := keep_cell (g := w.heap.size + 1) (i := 0) w' (.slice o9 (withoutR l 0 m).length c9)
    have z0 := cell_of hZ 0
    simp at z0
    refine bodyPost_ret (v := .agg #[.slice o9 (withoutR l 0 m).length c9]) (by simp [results, Tryz.results169, go_sem, z0]) rfl ?_
    exact ⟨_, rfl, hr.keep (fun b hb hr => by obtain ⟨cs, fr, e⟩ := hr; rw [show b = w.heap.size + 1 from hb, hB] at e; simp at e) kZ, (HH.out.1.then k2).trans kZ (fun x hx e => by omega)⟩
/-- slices.Equal. -/
theorem rEqual_spec {w : World} {va vb : Value} {l m : List RunN} (ha : RunsAt w va l) (hb : RunsAt w vb m) (hl : l.length ≤ 268435456) (_hm : m.length ≤ 268435456) :
    Calls Tryz.prog 131 #[va, vb] w fun e w' => e = .returned (.bool (decide (l = m))) ∧ Keep No w w' := by
  obtain ⟨ao, ac, rfl, hac, ham⟩ := ha.form
  obtain ⟨bo, bc, rfl, hbc, hbm⟩ := hb.form
  have hli : (l.length : Int) ≤ 268435456 := by omega
  obtain ⟨bb, hbb⟩ : ∃ bb, bb = decide (l = m) := ⟨_, rfl⟩
  rw [← hbb]
  by_cases hlm : l.length = m.length
  · have HH := Lib.hid (And.intro ha (And.intro hb hlm))
    have HD := Lib.hid hbb
    clear hbb
    have hcmp : ((l.length : Int) != (m.length : Int)) = false := by simp [hlm]
    clear ha hb hlm hac ham hbc hbm hl _hm
    go_enter Tryz.func131, Tryz.ntmps131
    go_wp2_with fail
    go_loopw [13] (fun iv wr => ∃ (k : Nat), iv = .int .i64 k ∧ k ≤ l.length ∧ l.take k = m.take k ∧ Keep No w wr) (fun iv _ => l.length - (intOf iv).toNat)
    case atStart => exact ⟨0, rfl, Nat.zero_le _, by simp, Keep.refl _ _⟩
    case round =>
      obtain ⟨k, rfl, hk, htk, kr⟩ := hrel
      by_cases hlt : k < l.length
      · have hltm : k < m.length := by rw [← HH.out.2.2]; exact hlt
        have hr : l[k]? = some l[k] := List.getElem?_eq_getElem hlt
        have hs : m[k]? = some m[k] := List.getElem?_eq_getElem hltm
        obtain ⟨r, hre⟩ : ∃ r, r = l[k] := ⟨_, rfl⟩
        obtain ⟨s, hse⟩ : ∃ s, s = m[k] := ⟨_, rfl⟩
        rw [← hre] at hr
        rw [← hse] at hs
        obtain ⟨g, o, rfl, hrow⟩ := HH.out.1.row (fun e => by rw [e] at hlt; simp at hlt)
        obtain ⟨g2, o2, rfl, hrow2⟩ := HH.out.2.1.row (fun e => by rw [e] at hltm; simp at hltm)
        have r0 := kr.cell (hrow k r hr).1 (fun e => e)
        have r1 := kr.cell (hrow k r hr).2 (fun e => e)
        have s0 := kr.cell (hrow2 k s hs).1 (fun e => e)
        have s1 := kr.cell (hrow2 k s hs).2 (fun e => e)
        have hki : (k : Int) < (l.length : Int) := by omega
        have hki2 : (k : Int) < (m.length : Int) := by omega
        have htl : l.take (k + 1) = l.take k ++ [r] := by rw [List.take_succ_eq_append_getElem hlt, hre]
        have htm : m.take (k + 1) = m.take k ++ [s] := by rw [List.take_succ_eq_append_getElem hltm, hse]
        by_cases hrs : r = s
        · subst hrs
          have HR := Lib.hid (And.intro (show l.take (k + 1) = m.take (k + 1) by rw [htl, htm, htk]) (And.intro kr hlt))
          clear htl htm htk kr hlt hltm hr hs hrow hrow2 hk hre hse
          go_wp2_with fail
          go_quiet (fail)
          go_wp2_with fail
          go_roundw
          case rel => exact ⟨k + 1, by congr 1, by have := HR.out.2.2; omega, HR.out.1, HR.out.2.1.drewN _⟩
          case measure => have := HR.out.2.2; simp [intOf]; omega
        · have hne : decide (l = m) = false := by
            simp
            intro e
            apply hrs
            rw [hre, hse]
            subst e
            rfl
          obtain rfl : bb = false := HD.out.trans hne
          obtain ⟨ra, rb⟩ := r
          obtain ⟨sa, sb⟩ := s
          simp only at r0 r1 s0 s1
          have HR := Lib.hid (And.intro kr hlt)
          clear htl htm htk kr hlt hltm hr hs hrow hrow2 hk hre hse hne
          by_cases h1 : ra = sa
          · subst h1
            have h2 : ((rb : Int) == (sb : Int)) = false := by
              simp
              intro e
              apply hrs
              congr 1
              omega
            clear hrs
            go_wp2_with fail
            go_quiet (fail)
            go_wp2_with fail
            go_ret
            exact ⟨rfl, HR.out.1.drewN _⟩
          · have h2 : ((ra : Int) == (sa : Int)) = false := by simp; omega
            clear hrs h1
            go_wp2_with fail
            go_quiet (fail)
            go_wp2_with fail
            go_ret
            exact ⟨rfl, HR.out.1.drewN _⟩
      · have hke : k = l.length := by omega
        have heq : l = m := by
          rw [hke, List.take_of_length_le (Nat.le_refl _)] at htk
          rw [htk, List.take_of_length_le (by rw [HH.out.2.2]; exact Nat.le_refl _)]
        have hde : decide (l = m) = true := by simp [heq]
        obtain rfl : bb = true := HD.out.trans hde
        have hki : ¬ (k : Int) < (l.length : Int) := by omega
        have HR := Lib.hid kr
        clear kr htk hk hlt hde hke heq
        go_wp2_with fail
        go_ret
        exact ⟨rfl, HR.out⟩
  · have hcmp : ((l.length : Int) != (m.length : Int)) = true := by simp; omega
    have hne : decide (l = m) = false := by simp; intro e; exact hlm (by rw [e])
    obtain rfl : bb = false := hbb.trans hne
    clear hbb ha hb hlm hac ham hbc hbm hl _hm hne
    go_enter Tryz.func131, Tryz.ntmps131
    go_wp2_with fail
    go_ret
    exact ⟨rfl, Keep.refl _ _⟩
end Go.Proofs.YtfdmbomlkpkegaaGreat
