/- Span, Add. -/
import Derived.Test.YtfdmbomlkpkegaaGreatRunX
import Derived.Test.YtfdmbomlkpkegaaGreatPack
namespace Go.Proofs.YtfdmbomlkpkegaaGreat
open Go Go.RowKit Go.Dr

theorem RunsAt.sub {w : World} {ao : Option Addr} {n cap lo hi : Nat} {l : List RunN} (h : RunsAt w (.slice ao n cap) l) (h1 : lo ≤ hi) (h2 : hi ≤ n) : RunsAt w (sliced ao lo hi cap 2) ((l.take hi).drop lo) := by
  obtain ⟨ao', cap', hq, h3, h4, h5, h6⟩ := h
  simp only [Value.slice.injEq] at hq
  obtain ⟨rfl, rfl, rfl⟩ := hq
  have hl : ((l.take hi).drop lo).length = hi - lo := by simp; omega
  unfold sliced
  by_cases hc : cap = lo
  · rw [if_pos hc]
    exact ⟨ao, cap - lo, by rw [hl], by omega, by omega, fun _ => by omega, fun hn => by omega⟩
  · rw [if_neg hc]
    cases ao with
    | none => exact absurd (h5 rfl) (by omega)
    | some ad =>
      obtain ⟨g, o, e, hb, hr⟩ := h6 (by omega)
      simp only [Option.some.injEq] at e
      subst e
      refine ⟨some ((⟨g, o, none⟩ : Addr).add (lo * 2)), cap - lo, by rw [hl]; rfl, by omega, by omega, fun h => (by cases h), fun _ => ⟨g, o + lo * 2, by simp [Addr.add], hb, fun i x hx => ?_⟩⟩
      rw [List.getElem?_drop, List.getElem?_take] at hx
      split at hx
      · have := hr (lo + i) x hx
        rw [show o + (lo + i) * 2 = o + lo * 2 + i * 2 by omega] at this
        exact this
      · cases hx
theorem elem_runs : Tryz.prog.underlying 67 = some (.slice (Tryz.prog.elem 67)) := by kernel_rfl
theorem size_runs (w : World) : (sizeOf (Tryz.prog.elem 67)).run Tryz.prog w = .ok 2 w := by kernel_rfl
theorem slice_hR (ao : Option Addr) (n cap hi : Nat) (h2 : hi ≤ n) (h3 : n ≤ cap) :
    ∃ o c, (∀ w, (Instr.slice 67 (.slice ao n cap) none (some (.int .i64 (hi : Int))) none).run Tryz.prog w = .ok (.slice o hi c) w) ∧
      ∀ w l, RunsAt w (.slice ao n cap) l → RunsAt w (.slice o hi c) (l.take hi) := by
  refine ⟨_, _, fun w => ?_, fun w l h => h.sub (Nat.zero_le hi) h2⟩
  rw [run_slice_h w 67 ao n cap elem_runs .i64 _ (by omega) (by omega), Int.toNat_natCast, size_runs]
  rfl
theorem slice_lR (ao : Option Addr) (n cap lo : Nat) (h1 : lo ≤ n) (_h3 : n ≤ cap) :
    ∃ o c, (∀ w, (Instr.slice 67 (.slice ao n cap) (some (.int .i64 (lo : Int))) none none).run Tryz.prog w = .ok (.slice o (n - lo) c) w) ∧
      ∀ w l, RunsAt w (.slice ao n cap) l → RunsAt w (.slice o (n - lo) c) ((l.take n).drop lo) := by
  refine ⟨_, _, fun w => ?_, fun w l h => h.sub h1 (Nat.le_refl _)⟩
  rw [run_slice_l w 67 ao n cap elem_runs .i64 _ (by omega) (by omega), Int.toNat_natCast, size_runs]
  rfl
theorem absorb_cons (r : RunN) (l : List RunN) (f t : Nat) : absorb (r :: l) f t = if r.1 - 1 ≤ t then absorb l (min f r.1) (max t r.2) else (f, t) :: r :: l := rfl
theorem absorb_len : ∀ (l : List RunN) (f t : Nat), (absorb l f t).length ≤ l.length + 1
  | [], f, t => by simp [absorb]
  | r :: l, f, t => by
    unfold absorb
    split
    · have := absorb_len l (min f r.1) (max t r.2); simp; omega
    · simp
set_option maxRecDepth 100000 in
set_option maxHeartbeats 2000000 in
theorem rSpan_spec {w : World} {v : Value} {l : List RunN} (h : RunsAt w v l) (hs : RSet l) (f t : Nat) (hl : l.length ≤ 268435456) (hft : f ≤ t) (ht : t < 18446744073709551616) :
    Calls Tryz.prog 170 #[.agg #[v], .int .u64 f, .int .u64 t] w fun e w' => ∃ v', e = .returned (.agg #[v']) ∧ RunsAt w' v' (spanR l f t) ∧ Keep No w w' := by
  obtain ⟨ao, cap, rfl, hc, hm⟩ := h.form
  obtain ⟨W, hW⟩ : ∃ W, W = (w.alloc (.cells #[.slice ao l.length cap] 90)).alloc (.cells #[.slice none 0 0] 90) := ⟨_, rfl⟩
  have hsz : (w.alloc (.cells #[.slice ao l.length cap] 90)).heap.size = w.heap.size + 1 := by simp
  have kW : Keep No w W := by rw [hW]; exact ((Keep.refl _ _).alloc _).alloc _
  have hA : W.heap[w.heap.size]? = some (.cells #[.slice ao l.length cap] 90 (0, 0)) := by
    rw [hW]
    exact ((Keep.refl No _).alloc _).heap (heap_new _ _) (fun e => e)
  have hB : W.heap[w.heap.size + 1]? = some (.cells #[.slice none 0 0] 90 (0, 0)) := by
    rw [hW, ← hsz]
    exact heap_new _ _
  have hf := rFind_spec (h.no kW) hs (f - 1) (by omega)
  obtain ⟨i, hi⟩ : ∃ i, i = findR l (f - 1) := ⟨_, rfl⟩
  have hil := findR_le l (f - 1)
  have hsp : spanR l f t = l.take i ++ absorb (l.drop i) f t := by unfold spanR; rw [if_neg (by omega), hi]
  rw [← hi] at hf hil
  have c0 := cell_of hA 0
  simp at c0
  have hlt : ¬ (t : Int) < (f : Int) := by omega
  obtain ⟨q, hq⟩ : ∃ q : Nat, q = min f 1 := ⟨_, rfl⟩
  have hmin : (if (1 : Int) < (f : Int) then (1 : Int) else (f : Int)) = (q : Int) := by split <;> omega
  have hw1 : IntKind.u64.wrap ((f : Int) - (q : Int)) = ((f - 1 : Nat) : Int) := by rw [wraps_u64 _ (by omega) (by omega)]; omega
  clear hq
  have HH := Lib.hid (And.intro kW (And.intro hB (And.intro h (And.intro hs (And.intro hsp (And.intro hil (And.intro hm (And.intro hl (And.intro ht hc)))))))))
  clear hA hB kW h hs hsp hil hi hsz hm hl ht hft hc
  go_enter Tryz.func170, Tryz.ntmps170
  go_wp2_with fail
  rw [← hW]
  clear hW
  go_wp2_with fail
  refine hf.mono ?_
  rintro e w1 ⟨rfl, k1⟩
  have c1 := k1.cell c0 (fun e => e)
  clear hf c0
  go_wp2_with fail
  clear hmin hw1 hlt
  go_loopw [1, 2, 8] (fun fv tv kv wr => ∃ (f' t' k : Nat), fv = .int .u64 f' ∧ tv = .int .u64 t' ∧ kv = .int .i64 k ∧ k ≤ l.length ∧ t' < 18446744073709551616 ∧ absorb (l.drop i) f t = absorb (l.drop k) f' t' ∧ Keep No w1 wr) (fun _ _ kv _ => l.length - (intOf kv).toNat)
  case atStart => exact ⟨f, t, i, rfl, rfl, rfl, HH.out.2.2.2.2.2.1, HH.out.2.2.2.2.2.2.2.2.1, rfl, Keep.refl _ _⟩
  case round =>
    obtain ⟨f', t', k, rfl, rfl, rfl, hk, ht', hab, kr⟩ := hrel
    have c2 := kr.cell c1 (fun e => e)
    by_cases hlt : k < l.length
    · have hr : l[k]? = some l[k] := List.getElem?_eq_getElem hlt
      obtain ⟨r, hre⟩ : ∃ r, r = l[k] := ⟨_, rfl⟩
      rw [← hre] at hr
      obtain ⟨hr1, hr2⟩ := HH.out.2.2.2.1.run r (List.mem_of_getElem? hr)
      have hdrop : l.drop k = r :: l.drop (k + 1) := by rw [List.drop_eq_getElem_cons hlt, hre]
      obtain ⟨g, o, rfl, hrow⟩ := HH.out.2.2.1.row (fun e => by rw [e] at hlt; simp at hlt)
      have kall := (HH.out.1.then k1).then kr
      have r0 := kall.cell (hrow k r hr).1 (fun e => e)
      have r1 := kall.cell (hrow k r hr).2 (fun e => e)
      obtain ⟨q, hq⟩ : ∃ q : Nat, q = min r.1 1 := ⟨_, rfl⟩
      have hmin : (if (1 : Int) < (r.1 : Int) then (1 : Int) else (r.1 : Int)) = (q : Int) := by split <;> omega
      obtain ⟨d, hd⟩ : ∃ d, d = r.1 - 1 := ⟨_, rfl⟩
      have hw1 : IntKind.u64.wrap ((r.1 : Int) - (q : Int)) = (d : Int) := by rw [wraps_u64 _ (by omega) (by omega)]; omega
      have hki : (k : Int) < (l.length : Int) := by omega
      have hli : (l.length : Int) ≤ 268435456 := by have := HH.out.2.2.2.2.2.2.2.1; omega
      rw [hdrop, absorb_cons] at hab
      by_cases hc : r.1 - 1 ≤ t'
      · rw [if_pos hc] at hab
        have hci : (d : Int) ≤ (t' : Int) := by omega
        obtain ⟨f2, hf2⟩ : ∃ f2, f2 = min f' r.1 := ⟨_, rfl⟩
        obtain ⟨t2, ht2⟩ : ∃ t2, t2 = max t' r.2 := ⟨_, rfl⟩
        have hmn : (if (r.1 : Int) < (f' : Int) then (r.1 : Int) else (f' : Int)) = (f2 : Int) := by split <;> omega
        have hmx : (if (t' : Int) < (r.2 : Int) then (r.2 : Int) else (t' : Int)) = (t2 : Int) := by split <;> omega
        rw [← hf2, ← ht2] at hab
        have HR := Lib.hid (And.intro hab (And.intro kr (And.intro hlt (And.intro (show t2 < 18446744073709551616 by omega) (And.intro hf2 ht2)))))
        clear hd hq hf2 ht2 hab kr hrow hr hre hdrop kall hc hr1 hr2 ht' hk hlt
        go_wp2_with fail
        go_quiet (fail)
        go_wp2_with fail
        go_quiet (fail)
        go_wp2_with fail
        go_roundw
        case rel => exact ⟨f2, t2, k + 1, by have := HR.out.2.2.2.2.1; congr 1; try (split <;> omega), by have := HR.out.2.2.2.2.2; congr 1; try (split <;> omega), by congr 1, by have := HR.out.2.2.1; omega, HR.out.2.2.2.1, HR.out.1, HR.out.2.1.drewN _⟩
        case measure => have := HR.out.2.2.1; simp [intOf]; omega
      · rw [if_neg hc] at hab
        have hci : ¬ (d : Int) ≤ (t' : Int) := by omega
        have hend : spanR l f t = l.take i ++ ((f', t') :: l.drop k) := by rw [HH.out.2.2.2.2.1, hab, hdrop]
        have HR := Lib.hid (And.intro hend (And.intro kr hk))
        clear hd hq hab kr hrow hr hre hdrop kall hc hr1 hr2 ht' hk hlt hend
        go_wp2_with fail
        go_quiet (fail)
        go_wp2_with fail
        have kd := fun n => (HR.out.2.1.drewN n).drew
        obtain ⟨o1, cp1, hs3, hb3⟩ := slice_hR (some ⟨g, o, none⟩) l.length cap i HH.out.2.2.2.2.2.1 HH.out.2.2.2.2.2.2.2.2.2
        obtain ⟨o2, cp2, hs4, hb4⟩ := slice_lR (some ⟨g, o, none⟩) l.length cap k HR.out.2.2 HH.out.2.2.2.2.2.2.2.2.2
        refine wp_drawN (fun w' => Keep No w1 w') [0, 1, 2, 3, 4, 5, 6, 8, 9, 10, 11] [7, 12, 13] [14, 15] (by kernel_rfl) (by kernel_rfl) (fun _ _ _ _ _ h => h) (kd _) ?_
        iterate 11 (refine earlyN_cons (v := ?_) rfl rfl rfl ?_ ?_; rotate_left; focus (
          intro w' hS
          have c0' := hS.cell c1 (fun e => e)
          go_simp
          try with_reducible rfl))
        have kX := kd nq
        refine earlyN_nil (midN_cons rfl rfl (fun K hK => ?_))
        generalize (wr.drewN nq).drew = X at kX ⊢
        go_simp
        have k7 := kX.alloc (.cells #[.int .u64 f', .int .u64 t'] 96)
        refine hK _ _ k7 ?_
        clear hK K
        refine midN_cons rfl rfl (fun K hK => ?_)
        go_simp
        have k8 := k7.alloc (.cells #[.slice o1 i cp1, .slice (some ⟨X.heap.size, 0, none⟩) 1 1, .slice o2 (l.length - k) cp2] 67)
        have kW8 := (HH.out.1.then k1).then k8
        have hRS : RSlicesAt ((X.alloc (.cells #[.int .u64 f', .int .u64 t'] 96)).alloc (.cells #[.slice o1 i cp1, .slice (some ⟨X.heap.size, 0, none⟩) 1 1, .slice o2 (l.length - k) cp2] 67))
            (.slice (some ⟨X.heap.size + 1, 0, none⟩) 3 3) [l.take i, [(f', t')], l.drop k] := by
          have hA8 : ((X.alloc (.cells #[.int .u64 f', .int .u64 t'] 96)).alloc (.cells #[.slice o1 i cp1, .slice (some ⟨X.heap.size, 0, none⟩) 1 1, .slice o2 (l.length - k) cp2] 67)).heap[X.heap.size]? = some (.cells #[.int .u64 f', .int .u64 t'] 96 (0, 0)) :=
            ((Keep.refl No _).alloc _).heap (heap_new _ _) (fun e => e)
          have hB8 : ((X.alloc (.cells #[.int .u64 f', .int .u64 t'] 96)).alloc (.cells #[.slice o1 i cp1, .slice (some ⟨X.heap.size, 0, none⟩) 1 1, .slice o2 (l.length - k) cp2] 67)).heap[X.heap.size + 1]? = some (.cells #[.slice o1 i cp1, .slice (some ⟨X.heap.size, 0, none⟩) 1 1, .slice o2 (l.length - k) cp2] 67 (0, 0)) := by
            have := heap_new (X.alloc (.cells #[.int .u64 f', .int .u64 t'] 96)) (.cells #[.slice o1 i cp1, .slice (some ⟨X.heap.size, 0, none⟩) 1 1, .slice o2 (l.length - k) cp2] 67)
            simpa using this
          refine ⟨[.slice o1 i cp1, .slice (some ⟨X.heap.size, 0, none⟩) 1 1, .slice o2 (l.length - k) cp2], rfl, fun j u m hu hm => ?_, X.heap.size + 1, 3, rfl, Nat.le_refl _, by decide, fun j u hu => ?_⟩
          · match j, hu, hm with
            | 0, hu, hm =>
              simp at hu hm
              subst hu hm
              exact hb3 _ _ (HH.out.2.2.1.no kW8)
            | 1, hu, hm =>
              simp at hu hm
              subst hu hm
              refine ⟨some ⟨X.heap.size, 0, none⟩, 1, rfl, Nat.le_refl _, by decide, fun e => (by cases e), fun _ => ⟨X.heap.size, 0, rfl, ⟨_, _, hA8⟩, fun i r hr => ?_⟩⟩
              match i, hr with
              | 0, hr =>
                simp at hr
                subst hr
                rw [cell_of hA8, cell_of hA8]
                exact ⟨rfl, rfl⟩
            | 2, hu, hm =>
              simp at hu hm
              subst hu hm
              have := hb4 _ _ (HH.out.2.2.1.no kW8)
              rw [List.take_of_length_le (Nat.le_refl _)] at this
              exact this
          · rw [cell_of hB8]
            simpa using hu
        have hcat := rConcat_spec hRS (by have := HH.out.2.2.2.2.2.2.2.1; simp; omega)
        have hfl : [l.take i, [(f', t')], l.drop k].flatten = spanR l f t := by rw [HR.out.1]; simp
        rw [hfl] at hcat
        clear hRS hfl
        refine hK _ _ k8 ?_
        clear hK K
        refine midN_cons rfl rfl (fun K hK => ?_)
        go_simp
        refine hcat.mono ?_
        rintro e w9 ⟨v9, rfl, own9, k9⟩
        obtain ⟨o9, c9, rfl, _, _⟩ := own9.form
        refine hK _ _ (k8.then k9) ?_
        clear hK K
        have hB9 := (((HH.out.1.then k1).then k8).then k9)
        have hB := (k1.then (k8.then k9)).heap HH.out.2.1 (fun e => e)
        refine midN_nil (tailN_cons rfl (tailN_cons rfl (tailN_nil ?_)))
        have b0 := cell_of hB 0
        have fb := frozen_of hB
        simp at b0
        clear hs3 hs4 hcat hb3 hb4
        go_wp2
        have hZ := heap_setCell_same (i := 0) (u := .slice o9 (spanR l f t).length c9) hB
        have kZ := keep_cell (g := w.heap.size + 1) (i := 0) w9 (.slice o9 (spanR l f t).length c9)
        have z0 := cell_of hZ 0
        simp at z0
        refine bodyPost_ret (v := .agg #[.slice o9 (spanR l f t).length c9]) (by simp [results, Tryz.results170, go_sem, z0]) rfl ?_
        exact ⟨_, rfl, own9.runs.keep (fun b hb hr => by obtain ⟨cs, fr, e⟩ := hr; rw [show b = w.heap.size + 1 from hb, hB] at e; simp at e) kZ, hB9.trans kZ (fun x hx e => by omega)⟩
    · have hke : k = l.length := by omega
      have hki : ¬ (k : Int) < (l.length : Int) := by omega
      have hkd : decide (k < l.length) = false := by simp; omega
      have hkd2 : decide ((k : Int) < (l.length : Int)) = false := by simp; omega
      have hdrop : l.drop k = [] := by rw [hke, List.drop_length]
      have hend : spanR l f t = l.take i ++ ((f', t') :: l.drop k) := by rw [HH.out.2.2.2.2.1, hab, hdrop]; rfl
      have HR := Lib.hid (And.intro hend (And.intro kr hk))
      clear hab kr hke hdrop ht' hk hlt hend
      go_wp2_with fail
      go_quiet (fail)
      go_wp2_with fail
      have kd := fun n => (HR.out.2.1.drewN n).drew
      obtain ⟨o1, cp1, hs3, hb3⟩ := slice_hR ao l.length cap i HH.out.2.2.2.2.2.1 HH.out.2.2.2.2.2.2.2.2.2
      obtain ⟨o2, cp2, hs4, hb4⟩ := slice_lR ao l.length cap k HR.out.2.2 HH.out.2.2.2.2.2.2.2.2.2
      refine wp_drawN (fun w' => Keep No w1 w') [0, 1, 2, 3, 4, 5, 6, 8, 9, 10, 11] [7, 12, 13] [14, 15] (by kernel_rfl) (by kernel_rfl) (fun _ _ _ _ _ h => h) (kd _) ?_
      iterate 11 (refine earlyN_cons (v := ?_) rfl rfl rfl ?_ ?_; rotate_left; focus (
        intro w' hS
        have c0' := hS.cell c1 (fun e => e)
        go_simp
        try with_reducible rfl))
      have kX := kd nq
      refine earlyN_nil (midN_cons rfl rfl (fun K hK => ?_))
      generalize (wr.drewN nq).drew = X at kX ⊢
      go_simp
      have k7 := kX.alloc (.cells #[.int .u64 f', .int .u64 t'] 96)
      refine hK _ _ k7 ?_
      clear hK K
      refine midN_cons rfl rfl (fun K hK => ?_)
      go_simp
      have k8 := k7.alloc (.cells #[.slice o1 i cp1, .slice (some ⟨X.heap.size, 0, none⟩) 1 1, .slice o2 (l.length - k) cp2] 67)
      have kW8 := (HH.out.1.then k1).then k8
      have hRS : RSlicesAt ((X.alloc (.cells #[.int .u64 f', .int .u64 t'] 96)).alloc (.cells #[.slice o1 i cp1, .slice (some ⟨X.heap.size, 0, none⟩) 1 1, .slice o2 (l.length - k) cp2] 67))
          (.slice (some ⟨X.heap.size + 1, 0, none⟩) 3 3) [l.take i, [(f', t')], l.drop k] := by
        have hA8 : ((X.alloc (.cells #[.int .u64 f', .int .u64 t'] 96)).alloc (.cells #[.slice o1 i cp1, .slice (some ⟨X.heap.size, 0, none⟩) 1 1, .slice o2 (l.length - k) cp2] 67)).heap[X.heap.size]? = some (.cells #[.int .u64 f', .int .u64 t'] 96 (0, 0)) :=
          ((Keep.refl No _).alloc _).heap (heap_new _ _) (fun e => e)
        have hB8 : ((X.alloc (.cells #[.int .u64 f', .int .u64 t'] 96)).alloc (.cells #[.slice o1 i cp1, .slice (some ⟨X.heap.size, 0, none⟩) 1 1, .slice o2 (l.length - k) cp2] 67)).heap[X.heap.size + 1]? = some (.cells #[.slice o1 i cp1, .slice (some ⟨X.heap.size, 0, none⟩) 1 1, .slice o2 (l.length - k) cp2] 67 (0, 0)) := by
          have := heap_new (X.alloc (.cells #[.int .u64 f', .int .u64 t'] 96)) (.cells #[.slice o1 i cp1, .slice (some ⟨X.heap.size, 0, none⟩) 1 1, .slice o2 (l.length - k) cp2] 67)
          simpa using this
        refine ⟨[.slice o1 i cp1, .slice (some ⟨X.heap.size, 0, none⟩) 1 1, .slice o2 (l.length - k) cp2], rfl, fun j u m hu hm => ?_, X.heap.size + 1, 3, rfl, Nat.le_refl _, by decide, fun j u hu => ?_⟩
        · match j, hu, hm with
          | 0, hu, hm =>
            simp at hu hm
            subst hu hm
            exact hb3 _ _ (HH.out.2.2.1.no kW8)
          | 1, hu, hm =>
            simp at hu hm
            subst hu hm
            refine ⟨some ⟨X.heap.size, 0, none⟩, 1, rfl, Nat.le_refl _, by decide, fun e => (by cases e), fun _ => ⟨X.heap.size, 0, rfl, ⟨_, _, hA8⟩, fun i r hr => ?_⟩⟩
            match i, hr with
            | 0, hr =>
              simp at hr
              subst hr
              rw [cell_of hA8, cell_of hA8]
              exact ⟨rfl, rfl⟩
          | 2, hu, hm =>
            simp at hu hm
            subst hu hm
            have := hb4 _ _ (HH.out.2.2.1.no kW8)
            rw [List.take_of_length_le (Nat.le_refl _)] at this
            exact this
        · rw [cell_of hB8]
          simpa using hu
      have hcat := rConcat_spec hRS (by have := HH.out.2.2.2.2.2.2.2.1; simp; omega)
      have hfl : [l.take i, [(f', t')], l.drop k].flatten = spanR l f t := by rw [HR.out.1]; simp
      rw [hfl] at hcat
      clear hRS hfl
      refine hK _ _ k8 ?_
      clear hK K
      refine midN_cons rfl rfl (fun K hK => ?_)
      go_simp
      refine hcat.mono ?_
      rintro e w9 ⟨v9, rfl, own9, k9⟩
      obtain ⟨o9, c9, rfl, _, _⟩ := own9.form
      refine hK _ _ (k8.then k9) ?_
      clear hK K
      have hB9 := (((HH.out.1.then k1).then k8).then k9)
      have hB := (k1.then (k8.then k9)).heap HH.out.2.1 (fun e => e)
      refine midN_nil (tailN_cons rfl (tailN_cons rfl (tailN_nil ?_)))
      have b0 := cell_of hB 0
      have fb := frozen_of hB
      simp at b0
      clear hs3 hs4 hcat hb3 hb4
      go_wp2
      have hZ := heap_setCell_same (i := 0) (u := .slice o9 (spanR l f t).length c9) hB
      have kZ := keep_cell (g := w.heap.size + 1) (i := 0) w9 (.slice o9 (spanR l f t).length c9)
      have z0 := cell_of hZ 0
      simp at z0
      refine bodyPost_ret (v := .agg #[.slice o9 (spanR l f t).length c9]) (by simp [results, Tryz.results170, go_sem, z0]) rfl ?_
      exact ⟨_, rfl, own9.runs.keep (fun b hb hr => by obtain ⟨cs, fr, e⟩ := hr; rw [show b = w.heap.size + 1 from hb, hB] at e; simp at e) kZ, hB9.trans kZ (fun x hx e => by omega)⟩
end Go.Proofs.YtfdmbomlkpkegaaGreat
