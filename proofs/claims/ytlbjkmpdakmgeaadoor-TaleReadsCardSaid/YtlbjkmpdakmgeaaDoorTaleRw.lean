/- TaleReads, walked. -/
import Derived.Test.YtlbjkmpdakmgeaaDoorTaleLw
import Derived.Test.YtlbjkmpdakmgeaaDoorTaleRr
namespace Go.Proofs.YtlbjkmpdakmgeaaDoor
open Go Go.RowKit Go.Dr

theorem read_out {base : Nat} {w : World} {R : Option (List EvS)} {e : Ending} {w' : World} (h : ReadPost base w R e w') : Keep No w w' ∧ ∃ ao cap its, e = .returned (.tuple #[.slice ao its.length cap, .int .i64 (if R.isSome then 0 else 10)]) ∧ EvRow base w' w.heap.size (.slice ao its.length cap) its ∧ its.map (·.1) = R.getD [] := by
  cases R with
  | none =>
    obtain ⟨k, rfl⟩ := h
    exact ⟨k, none, 0, [], rfl, EvRow.nil _ _ _, rfl⟩
  | some l =>
    obtain ⟨k, v, its, rfl, hr, hm⟩ := h
    obtain ⟨ao, cap, rfl, _⟩ := row_form hr.row
    exact ⟨k, ao, cap, its, rfl, hr, hm⟩
theorem rread_out {base : Nat} {w : World} {R : Option (List EvS)} {e : Ending} {w' : World} (h : RReadPost base w R e w') : Keep No w w' ∧ ∃ ao cap its, e = .returned (.tuple #[.slice ao its.length cap, .int .i64 (if R.isSome then 0 else 10)]) ∧ DvRow base w' w.heap.size (.slice ao its.length cap) its ∧ its.map (·.1) = R.getD [] := by
  cases R with
  | none =>
    obtain ⟨k, rfl⟩ := h
    exact ⟨k, none, 0, [], rfl, DvRow.nil _ _ _, rfl⟩
  | some l =>
    obtain ⟨k, v, its, rfl, hr, hm⟩ := h
    obtain ⟨ao, cap, rfl, _⟩ := row_form hr.row
    exact ⟨k, ao, cap, its, rfl, hr, hm⟩
theorem reads_cut (S : ByteArray) : ∃ t : List UInt8, t.length ≤ 400 ∧ (400 < S.size → S.extract 0 400 = strB t) ∧ (S.size ≤ 400 → S = strB t) := by
  by_cases h : 400 < S.size
  · refine ⟨S.data.toList.take 400, by simp; omega, fun _ => ?_, fun h' => by omega⟩
    apply ByteArray.ext
    apply Array.ext'
    simp
  · refine ⟨S.data.toList, ?_, fun h' => by omega, fun _ => rfl⟩
    have : S.data.toList.length = S.size := rfl
    omega
theorem slice_400 (S : ByteArray) (h : 400 < S.size) (w : World) : (Instr.slice 9 (.string S) none (some (.int .i64 400)) none).run Tryd.prog w = .ok (.string (S.extract 0 400)) w := by
  have := run_slice_string_h (P := Tryd.prog) (w := w) (t := 9) (s := S) (by kernel_rfl) .i64 400 (by omega) (by omega)
  simpa using this
theorem readL_all : ∀ {ls : List (List UInt8)} {xs : List EvS}, readL ls = some xs → ∀ x ∈ xs, x.kind < 256
  | [], xs, h, x, hx => by
    simp only [readL, Option.some.injEq] at h
    subst h
    simp at hx
  | t :: r, xs, h, x, hx => by
    simp only [readL] at h
    split at h
    · exact readL_all h x hx
    · cases hp : parseF t with
      | none => rw [hp] at h; cases h
      | some y =>
        rw [hp] at h
        cases hr : readL r with
        | none => rw [hr] at h; cases h
        | some ys =>
          rw [hr] at h
          simp only [Option.map_some, Option.some.injEq] at h
          subst h
          rcases List.mem_cons.1 hx with rfl | hx
          · have := (text_parse hp).2.2.1; omega
          · exact readL_all hr x hx
def noteS : List UInt8 := [35, 32, 97, 32, 110, 111, 116, 101]
theorem read_note (s : List UInt8) : readF (noteS ++ 10 :: 10 :: s) = readF s := by
  unfold readF
  rw [splitC_cut _ (by decide), show (10 :: s : List UInt8) = [] ++ 10 :: s from rfl, splitC_cut _ (by simp)]
  rfl
theorem write_plain {l : List EvS} (h : ∀ e ∈ l, e.Ok) : writeF (l.map plainF) = writeF l := by
  induction l with
  | nil => rfl
  | cons e r ih =>
    have e1 : ∀ (x : EvS) (m : List EvS), writeF (x :: m) = (textF x ++ [10]) ++ writeF m := fun _ _ => rfl
    rw [List.map_cons, e1, e1, text_plain (h e (List.mem_cons_self ..)), ih (fun x hx => h x (List.mem_cons_of_mem _ hx))]
set_option maxRecDepth 100000 in
set_option maxHeartbeats 8000000 in
theorem reads_walk {base : Nat} {w : World} (hV : VarsAt w) (hbase : base ≤ w.heap.size) (S : ByteArray) {v : Value} {l : List EvS} (hl : EvsAt base w v l) (hok : ∀ e ∈ l, e.Ok ∧ e.kind < 256) :
    Calls Tryd.prog 7 #[.string S, v] w fun r w' => r = .returned (.bool true) ∧ Keep No w w' := by
  obtain ⟨t, ht, hc1, hc2⟩ := reads_cut S
  obtain ⟨ao, cap, rfl, hlc, hcm, _⟩ := id hl
  have ha := awake_spec hV
  unfold maxLen at hcm
  have hli : (l.length : Int) ≤ 9223372036854775807 := by omega
  obtain ⟨T, hT⟩ : ∃ T, T = strB t := ⟨_, rfl⟩
  rw [← hT] at hc1 hc2
  obtain ⟨big, hbig⟩ : ∃ b : Bool, b = decide (400 < S.size) := ⟨_, rfl⟩
  have hsl : big = true → ∀ w : World, (Instr.slice 9 (.string S) none (some (.int .i64 400)) none).run Tryd.prog w = .ok (.string T) w := fun hb w => by
    rw [hb] at hbig
    have h := of_decide_eq_true hbig.symm
    rw [slice_400 S h, hc1 h]
  have hsm : big = false → S = T := fun hb => by
    rw [hb] at hbig
    have h := of_decide_eq_false hbig.symm
    exact hc2 (by omega)
  have hq : decide ((400 : Int) < (S.size : Int)) = big := by rw [hbig]; apply decide_eq_decide.2; omega
  have hrd := fun (w1 : World) (k : Keep No w w1) => read_spec (base := base) (hV.no k) (Nat.le_trans hbase k.size) t (by omega)
  have hrr := fun (w1 : World) (k : Keep No w w1) => rread_spec (base := base) (w := w1) (Nat.le_trans hbase k.size) t (by omega)
  rw [show strV t = .string T by rw [hT]] at hrd hrr
  obtain ⟨R, hR⟩ : ∃ R, R = readF t := ⟨_, rfl⟩
  rw [← hR] at hrd hrr
  have hRk : ∀ x ∈ R.getD [], x.kind < 256 := by
    cases hr : R with
    | none => simp
    | some xs =>
      intro x hx
      exact readL_all (ls := splitC 10 t) (xs := xs) (hR.symm.trans hr) x (by simpa using hx)
  have HC := Lib.hid (And.intro hrd (And.intro hrr hRk))
  have HH := Lib.hid (And.intro hV (And.intro hbase (And.intro hl hok)))
  clear hc1 hc2 hbig hV hT ht hbase hl hok hrd hrr hR hRk hlc hcm
  cases big
  focus (
    obtain rfl : T = S := (hsm rfl).symm
    clear hsl hsm
    go_enter Tryd.func7, Tryd.ntmps7
    go_wp2_with fail
    refine ha.mono ?_
    rintro r w1 ⟨rfl, k1⟩
    clear ha
    go_wp2_with fail)
  rotate_left
  focus (
    replace hsl := hsl rfl
    clear hsm
    go_enter Tryd.func7, Tryd.ntmps7
    go_wp2_with fail
    refine ha.mono ?_
    rintro r w1 ⟨rfl, k1⟩
    clear ha
    go_wp2_with fail
    clear hsl)
  all_goals
    refine (HC.out.1 _ k1).mono ?_
    intro r w2 h2
    obtain ⟨k2, go, gc, its5, rfl, hr5, hm5⟩ := read_out h2
    have k2' := k1.then k2
    obtain ⟨code, hcode⟩ : ∃ c : Int, c = if R.isSome then 0 else 10 := ⟨_, rfl⟩
    rw [← hcode]
    have HCD := Lib.hid hcode
    clear h2 hcode
    go_wp2_with fail
    refine (HC.out.2.1 _ k2').mono ?_
    intro r w3 h3
    obtain ⟨k3, wo, wc, its7, rfl, hr7, hm7⟩ := rread_out h3
    rw [← HCD.out]
    have hl57 : its7.length = its5.length := by
      have h1 := congrArg List.length hm5
      have h2 := congrArg List.length hm7
      simp at h1 h2
      omega
    have h57 : its7.map (·.1) = its5.map (·.1) := by rw [hm5, hm7]
    have hk5 : ∀ x ∈ its5, x.1.kind < 256 := fun x hx => HC.out.2.2 x.1 (by rw [← hm5]; exact List.mem_map_of_mem hx)
    have k3' := k2'.then k3
    have hln5 : its5.length ≤ maxLen := by
      obtain ⟨_, _, _, h1, h2⟩ := row_form hr5.row
      omega
    unfold maxLen at hln5
    have hli5 : (its5.length : Int) ≤ 9223372036854775807 := by omega
    rw [hl57]
    have HR := Lib.hid (And.intro (hr5.no k3) (And.intro hr7 (And.intro h57 (And.intro k3' (And.intro hl57 hk5)))))
    clear hk5 h3 hr5 hr7 h57 k1 k2 k3 k2' k3' hm5 hm7 hl57 hln5
    go_wp2_with fail
    go_loopw [45] (fun i wr => ∃ j : Nat, j ≤ its5.length ∧ i = .int .i64 j ∧ Keep No w3 wr) (fun i _ => its5.length - (intOf i).toNat)
    case atStart => exact ⟨0, Nat.zero_le _, rfl, Keep.refl _ _⟩
    case round =>
      obtain ⟨j, hj, rfl, hk⟩ := hrel
      by_cases hlt : j < its5.length
      · obtain ⟨⟨P, bv, pv⟩, hx⟩ : ∃ x, its5[j]? = some x := ⟨_, List.getElem?_eq_getElem hlt⟩
        obtain ⟨⟨Q, qb, qp⟩, hx7⟩ : ∃ x, its7[j]? = some x := ⟨_, List.getElem?_eq_getElem (by have := HR.out.2.2.2.2.1; omega)⟩
        obtain rfl : Q = P := by
          have h1 : (its7.map (·.1))[j]? = some Q := by rw [List.getElem?_map, hx7]; rfl
          rw [HR.out.2.2.1, List.getElem?_map, hx] at h1
          simpa using h1.symm
        have hr5 := HR.out.1.no hk
        have hr7 := HR.out.2.1.no hk
        obtain ⟨g, c1, he1, _, _, _, _⟩ := hr5.cells hx
        obtain ⟨g2, c2, he2, _, _, _, _⟩ := hr7.cells hx7
        simp only [Value.slice.injEq] at he1 he2
        obtain ⟨rfl, _, rfl⟩ := he1
        obtain ⟨rfl, _, rfl⟩ := he2
        obtain ⟨hb1, hp1⟩ := hr5.bytes _ (List.mem_of_getElem? hx)
        obtain ⟨hb2, hp2⟩ := hr7.bytes _ (List.mem_of_getElem? hx7)
        simp only at hb1 hp1 hb2 hp2
        obtain ⟨bo, bc, rfl⟩ := BytesAt.form (bn := noBan) hb1
        obtain ⟨po, pc, rfl⟩ := BytesAt.form (bn := noBan) hp1
        obtain ⟨qbo, qbc, rfl⟩ := BytesAt.form (bn := noBan) hb2
        obtain ⟨qpo, qpc, rfl⟩ := BytesAt.form (bn := noBan) hp2
        have hQk : Q.kind < 256 := HR.out.2.2.2.2.2 _ (List.mem_of_getElem? hx)
        have hlti : (j : Int) < (its5.length : Int) := by omega
        have HE := Lib.hid (And.intro hr5 (And.intro hr7 (And.intro hx (And.intro hx7 (And.intro hk (And.intro hlt (And.intro hb1 (And.intro hp1 (And.intro hb2 (And.intro hp2 hQk))))))))))
        clear hr5 hr7 hx hx7 hk hlt hb1 hp1 hb2 hp2 hQk hj
        go_wp2_with fail
        have kd : Keep No wr wr.drew := (Keep.refl _ _).drew
        refine wp_drawN (fun w' => Keep No wr w') [0, 1, 2, 3, 5, 6, 7, 8] [4, 9] [10] (by kernel_rfl) (by kernel_rfl) (fun _ _ _ _ _ h => h) kd ?_
        iterate 8 (refine earlyN_cons (v := ?_) rfl rfl rfl ?_ ?_; rotate_left; focus (
          intro w' hS
          obtain ⟨c0, c1, c2, c3, c4, c5, c6, c7, c8, c9, c10⟩ := (HE.out.1.no hS).at HE.out.2.2.1
          obtain ⟨d0, d1, d2, d3, d4, d5, d6, d7, d8, d9, d10⟩ := (HE.out.2.1.no hS).at HE.out.2.2.2.1
          go_simp
          try with_reducible rfl))
        refine earlyN_nil (midN_cons rfl rfl (fun K hK => ?_))
        go_simp
        have ho := own_spec (w := wr.drew) (e := Q) (bo := bo) (po := po) (bn := Q.body.length) (bc := bc) (pn := Q.p.length) (pc := pc) HE.out.2.2.2.2.2.2.2.2.2.2
        unfold evV at ho
        refine ho.mono ?_
        rintro r w10 ⟨rfl, k10⟩
        clear ho
        have kd := kd.then k10
        unfold dvV
        refine hK _ _ kd ?_
        clear hK K
        refine midN_cons rfl rfl (fun K hK => ?_)
        go_simp
        have hs := same_spec (bn := noBan) (BytesAt.no (bn := noBan) HE.out.2.2.2.2.2.2.1 kd) (BytesAt.no (bn := noBan) HE.out.2.2.2.2.2.2.2.1 kd) (BytesAt.no (bn := noBan) HE.out.2.2.2.2.2.2.2.2.1 kd) (BytesAt.no (bn := noBan) HE.out.2.2.2.2.2.2.2.2.2.1 kd)
        unfold dvV at hs
        refine hs.mono ?_
        rintro r w11 ⟨rfl, k11⟩
        clear hs
        have kd := kd.then k11
        refine hK _ _ kd ?_
        clear hK K
        refine midN_nil (tailN_cons rfl (tailN_nil ?_))
        go_wp2
        go_roundw
        case rel => exact ⟨j + 1, HE.out.2.2.2.2.2.1, by go_num, HE.out.2.2.2.2.1.then kd⟩
        case measure => have := HE.out.2.2.2.2.2.1; simp [intOf]; omega
      · obtain rfl : j = its5.length := by omega
        have hjj : ¬ (its5.length : Int) < (its5.length : Int) := by omega
        have k1 := HR.out.2.2.2.1.then hk
        clear hk hlt hj
        go_wp2_with fail
        go_loopw [10, 62] (fun vs i wr => ∃ (j : Nat) (its : List Item), j ≤ l.length ∧ i = .int .i64 j ∧ its.map (·.1) = someF (l.take j) ∧ EvRow base wr w.heap.size vs its ∧ Keep No w wr) (fun _ i _ => l.length - (intOf i).toNat)
        case atStart => exact ⟨0, [], Nat.zero_le _, rfl, by simp [someF], EvRow.nil _ _ _, k1⟩
        case round =>
          clear k1
          obtain ⟨j, its, hj, rfl, hits, hr, hk⟩ := hrel
          obtain ⟨vo, vc, rfl, hv1, hv2⟩ := row_form hr.row
          by_cases hlt : j < l.length
          · obtain ⟨e, hx⟩ : ∃ x, l[j]? = some x := ⟨_, List.getElem?_eq_getElem hlt⟩
            obtain ⟨g, o, bv, pv, rfl, hb, hp, hcells⟩ := HH.out.2.2.1.at hx
            obtain ⟨bo, bc, rfl⟩ := BytesAt.form (bn := noBan) hb
            obtain ⟨po, pc, rfl⟩ := BytesAt.form (bn := noBan) hp
            obtain ⟨e0, e1, e2, e3, e4, e5, e6, e7, e8, e9, e10⟩ := hcells wr hk
            obtain ⟨heok, hek⟩ := HH.out.2.2.2 e (List.mem_of_getElem? hx)
            have hlti : (j : Int) < (l.length : Int) := by omega
            have hst := someF_step hx
            obtain ⟨W1, hW1⟩ : ∃ W1, W1 = wr.alloc (.cells (evC e (.slice bo e.body.length bc) (.slice po e.p.length pc)) 27) := ⟨_, rfl⟩
            have kA : Keep No wr W1 := by rw [hW1]; exact (Keep.refl _ _).alloc _
            have hA := by have := heap_new wr (.cells (evC e (.slice bo e.body.length bc) (.slice po e.p.length pc)) 27); rw [← hW1] at this; exact this
            have hfew := few_spec (base := base) (w := W1) (Nat.le_trans HH.out.2.1 (hk.then kA).size) (BytesAt.no (bn := noBan) hb (hk.then kA)) (BytesAt.no (bn := noBan) hp (hk.then kA))
            unfold evV at hfew
            have HB := Lib.hid (And.intro hits (And.intro hr (And.intro hk (And.intro hlt (And.intro kA (And.intro hA (And.intro heok (And.intro hek hst))))))))
            clear hits hr hk hlt kA hA heok hek hst hb hp hcells hx hj hv1 hv2
            go_wp2_with fail
            show Calls _ _ _ (wr.alloc (.cells (evC e (.slice bo e.body.length bc) (.slice po e.p.length pc)) 27)) _
            rw [← hW1]
            clear hW1
            refine hfew.mono ?_
            rintro r w2 ⟨k2, bv2, pv2, rfl, hb2, hp2⟩
            clear hfew e0 e1 e2 e3 e4 e5 e6 e7 e8 e9 e10
            obtain ⟨bo2, bc2, rfl⟩ := BytesAt.form (bn := noBan) hb2
            obtain ⟨po2, pc2, rfl⟩ := BytesAt.form (bn := noBan) hp2
            obtain ⟨A, hAe⟩ : ∃ A, A = wr.heap.size := ⟨_, rfl⟩
            obtain ⟨hits, hr, hk, hlt, kA, hA, heok, hek, hst⟩ := HB.out
            rw [← hAe] at hA ⊢
            obtain ⟨f, hf⟩ : ∃ f, f = fewF e := ⟨_, rfl⟩
            rw [← hf] at hb2 hp2 ⊢
            have hA2 := k2.heap hA (fun e => e)
            have kw2 : Keep No wr w2 := kA.then k2
            obtain ⟨Z, hZ⟩ : ∃ Z, Z = w2.setRow A (evC f (.slice bo2 f.body.length bc2) (.slice po2 f.p.length pc2)) := ⟨_, rfl⟩
            have hX := setRow_heap w2 A _ (evC f (.slice bo2 f.body.length bc2) (.slice po2 f.p.length pc2)) _ _ hA2
            have hAb : base ≤ A := by rw [hAe]; exact Nat.le_trans HH.out.2.1 hk.size
            have hF1 : Foot base w2 (· = A) := by
              rintro b rfl
              exact ⟨hAb, heap_lt hA2, fun cs fr e => by rw [hA2] at e; simp at e⟩
            have kR := keep_row (F := No) (evC f (.slice bo2 f.body.length bc2) (.slice po2 f.p.length pc2)) kw2 (g := A) (.inr (by omega))
            have kR' := keep_row (F := (· = A)) (evC f (.slice bo2 f.body.length bc2) (.slice po2 f.p.length pc2)) (Keep.refl _ w2) (.inl rfl)
            rw [← hZ] at hX kR kR'
            have hb4 := BytesAt.keep (bn := noBan) hb2 hF1 kR'
            have hp4 := BytesAt.keep (bn := noBan) hp2 hF1 kR'
            obtain ⟨K, hK⟩ : ∃ K, K = e.kind % 12 := ⟨_, rfl⟩
            have hfk : f.kind = e.kind := by rw [hf]; rfl
            have hkk : k12F e = { f with kind := K } := by rw [hf, hK]; rfl
            obtain ⟨Y, hY⟩ : ∃ Y, Z.setCell ⟨A, 0, none⟩ (.int .u8 K) = Y := ⟨_, rfl⟩
            have kE : Keep (· = A) Z (Z.setCell ⟨A, 0, none⟩ (.int .u8 K)) := Keep.setCell (F := (· = A)) (Keep.refl _ _) (.inl rfl) _
            have hXY : (Z.setCell ⟨A, 0, none⟩ (.int .u8 K)).heap[A]? = some (.cells (evC { f with kind := K } (.slice bo2 f.body.length bc2) (.slice po2 f.p.length pc2)) 27 (0, 0)) := heap_setCell_same (i := 0) (u := .int .u8 K) hX
            have hF2 : Foot base Z (· = A) := by
              rintro b rfl
              exact ⟨hAb, heap_lt hX, fun cs fr e => by rw [hX] at e; simp at e⟩
            have hb5 := BytesAt.keep (bn := noBan) hb4 hF2 kE
            have hp5 := BytesAt.keep (bn := noBan) hp4 hF2 kE
            have kY : Keep No wr (Z.setCell ⟨A, 0, none⟩ (.int .u8 K)) := kR.trans kE (fun x hx e => by have := e; omega)
            rw [hY] at hXY hb5 hp5 kY
            have hq1 : Int.tmod (f.kind : Int) 12 = (K : Int) := by rw [hfk, hK, Int.tmod_eq_emod_of_nonneg (by omega)]; omega
            have hq2 : (f.kind : Int) % 12 = (K : Int) := by rw [hfk, hK]; omega
            have hfi : (f.kind : Int) ≤ 255 := by rw [hfk]; omega
            have hKi : (K : Int) ≤ 11 := by rw [hK]; omega
            obtain ⟨r0, r1, r2, r3, r4, r5, r6, r7, r8, r9, r10⟩ := evCells hX
            have fz := frozen_of hX
            obtain ⟨y0, y1, y2, y3, y4, y5, y6, y7, y8, y9, y10⟩ := evCells hXY
            have H2 := Lib.hid (And.intro hA2 hZ)
            have HC := Lib.hid (And.intro hXY (And.intro hb5 (And.intro hp5 (And.intro kY (And.intro hkk hAe)))))
            clear hA2 hZ hX hXY hb5 hp5 kY hkk hf hb4 hp4 hb2 hp2 kR kR' hF1 hF2 kE hA kw2 hits hr hk hlt kA heok hek hst hK hfk hAb k2 hAe
            by_cases h30 : j < 30
            · have h30i : (j : Int) < 30 := by omega
              have hrY := HB.out.2.1.no HC.out.2.2.2.1
              have kAY := fun o => (Keep.refl No Y).alloc o
              have hil : its.length ≤ 1000000 := by
                have := congrArg List.length HB.out.1
                simp [someF] at this
                omega
              have hsz : w.heap.size ≤ (Y.alloc (.cells (evC { f with kind := K } (.slice bo2 f.body.length bc2) (.slice po2 f.p.length pc2)) 27)).heap.size := ((HB.out.2.2.1.then HC.out.2.2.2.1).then (kAY _)).size
              go_wp2_with (first
                | (at_builtin; refine wpList_append_ev rfl _ _ rfl (hrY.no (kAY _)) { f with kind := K } (.slice bo2 f.body.length bc2) (.slice po2 f.p.length pc2) (heap_new Y (.cells (evC { f with kind := K } (.slice bo2 f.body.length bc2) (.slice po2 f.p.length pc2)) 27)) (BytesAt.no (bn := noBan) HC.out.2.1 (kAY _)) (BytesAt.no (bn := noBan) HC.out.2.2.1 (kAY _)) rfl rfl rfl rfl hil hsz HH.out.2.1 ?_; intro xo xc W7 hr7 k7)
                | (refine wpList_store_row rfl 27 (.tmp 12) _ rfl A (evC f (.slice bo2 f.body.length bc2) (.slice po2 f.p.length pc2)) rfl rfl _ _ H2.out.1 (by kernel_rfl) rfl (by simp [evC, Value.oneCell']) ?_; rw [← H2.out.2]))
              go_roundw
              case rel =>
                refine ⟨j + 1, _, HB.out.2.2.2.1, by go_num, ?_, hr7, ((HB.out.2.2.1.then HC.out.2.2.2.1).then (kAY _)).trans k7 (fun x hx e => by have := (row_kind HB.out.2.1.row x e).1; omega)⟩
                rw [List.map_append, HB.out.1, HB.out.2.2.2.2.2.2.2.2, if_pos h30, HC.out.2.2.2.2.1]
                rfl
              case measure => have := HB.out.2.2.2.1; simp [intOf]; omega
            · have h30i : ¬ (j : Int) < 30 := by omega
              go_wp2_with (refine wpList_store_row rfl 27 (.tmp 12) _ rfl A (evC f (.slice bo2 f.body.length bc2) (.slice po2 f.p.length pc2)) rfl rfl _ _ H2.out.1 (by kernel_rfl) rfl (by simp [evC, Value.oneCell']) ?_; rw [← H2.out.2])
              go_roundw
              case rel =>
                refine ⟨j + 1, its, HB.out.2.2.2.1, by go_num, ?_, HB.out.2.1.no HC.out.2.2.2.1, HB.out.2.2.1.then HC.out.2.2.2.1⟩
                rw [HB.out.1, HB.out.2.2.2.2.2.2.2.2, if_neg h30]
              case measure => have := HB.out.2.2.2.1; simp [intOf]; omega
          · obtain rfl : j = l.length := by omega
            have hjj : ¬ (l.length : Int) < (l.length : Int) := by omega
            rw [List.take_of_length_le (Nat.le_refl _)] at hits
            obtain ⟨L, hL⟩ : ∃ L, L = someF l := ⟨_, rfl⟩
            have hall := someF_all (fun e he => (HH.out.2.2.2 e he).1)
            rw [← hL] at hits hall
            have hLl : L.length ≤ 30 := by rw [hL]; simp [someF]; omega
            have hil : its.length = L.length := by rw [← hits]; simp
            have hws := write_spec (HH.out.1.no hk) hr hk.size (fun x hx => (hall x.1 (by rw [← hits]; exact List.mem_map_of_mem hx)).1) (by omega) (fun x hx => by have := (hall x.1 (by rw [← hits]; exact List.mem_map_of_mem hx)).2.2; omega)
            rw [hits] at hws
            obtain ⟨s, hs⟩ : ∃ s, s = writeF L := ⟨_, rfl⟩
            have hSl : s.length ≤ 9030 := by
              rw [hs]
              have h1 := writeF_len L 300 (fun e he => (hall e he).2.2)
              have h2 := Nat.mul_le_mul_right 301 hLl
              omega
            have hrd : readF (noteS ++ 10 :: 10 :: s) = some (L.map plainF) := by rw [read_note, hs]; exact readF_write (fun e he => ⟨(hall e he).2.1, (hall e he).1.ok⟩)
            have hwp : writeF (L.map plainF) = s := by rw [hs]; exact write_plain (fun e he => (hall e he).1.ok)
            rw [← hs] at hws
            obtain ⟨U, hU⟩ : ∃ U, U = strB s := ⟨_, rfl⟩
            rw [show strV s = .string U by rw [hU]] at hws
            have hUs : U.size ≤ 9030 := by rw [hU, strB_size]; exact hSl
            have hno : ¬ 9223372036854775807 < 10 + U.size := by omega
            have HB := Lib.hid (And.intro hits (And.intro hr (And.intro hk (And.intro hall (And.intro hLl (And.intro hil (And.intro hSl (And.intro hrd (And.intro hwp hU)))))))))
            clear hits hr hk hall hLl hil hSl hrd hwp hU hs hL hlt hj hv1 hv2
            go_wp2_with fail
            refine hws.mono ?_
            rintro r w4 ⟨rfl, k4⟩
            clear hws
            have k4' := HB.out.2.2.1.then k4
            have hcat : strV (noteS ++ 10 :: 10 :: s) = .string ((⟨#[35, 32, 97, 32, 110, 111, 116, 101, 10, 10]⟩ : ByteArray) ++ U) := by
              rw [HB.out.2.2.2.2.2.2.2.2.2]
              exact congrArg Value.string (strB_append [35, 32, 97, 32, 110, 111, 116, 101, 10, 10] s).symm
            have hr2 := read_spec (base := base) (HH.out.1.no k4') (Nat.le_trans HH.out.2.1 k4'.size) (noteS ++ 10 :: 10 :: s) (by have := HB.out.2.2.2.2.2.2.1; simp [noteS]; omega)
            rw [hcat, HB.out.2.2.2.2.2.2.2.1] at hr2
            have HK := Lib.hid (And.intro k4 k4')
            clear hcat k4 k4'
            go_wp2_with fail
            refine hr2.mono ?_
            rintro r w5 ⟨k5, av, itsB, rfl, hrB, hmB⟩
            clear hr2
            obtain ⟨ao2, ac2, rfl, _, _⟩ := row_form hrB.row
            have hilB : itsB.length = its.length := by
              have h1 := congrArg List.length hmB
              have h2 := HB.out.2.2.2.2.2.1
              simp at h1
              omega
            rw [hilB]
            have hl30 : (its.length : Int) ≤ 30 := by have := HB.out.2.2.2.2.1; have := HB.out.2.2.2.2.2.1; omega
            have HR2 := Lib.hid (And.intro hrB (And.intro hmB (And.intro k5 hilB)))
            clear hrB hmB k5 hilB
            go_wp2_with fail
            go_loopw [99] (fun i wr => ∃ j : Nat, j ≤ its.length ∧ i = .int .i64 j ∧ Keep No w5 wr) (fun i _ => its.length - (intOf i).toNat)
            case atStart => exact ⟨0, Nat.zero_le _, rfl, Keep.refl _ _⟩
            case round =>
              obtain ⟨j, hj, rfl, hk⟩ := hrel
              by_cases hlt : j < its.length
              · obtain ⟨⟨e, bv, pv⟩, hx⟩ : ∃ x, its[j]? = some x := ⟨_, List.getElem?_eq_getElem hlt⟩
                have hLj : L[j]? = some e := by rw [← HB.out.1, List.getElem?_map, hx]; rfl
                obtain ⟨⟨P, qb, qp⟩, hx2⟩ : ∃ x, itsB[j]? = some x := ⟨_, List.getElem?_eq_getElem (by have := HR2.out.2.2.2; omega)⟩
                have hPe : P = plainF e := by
                  have h1 : (itsB.map (·.1))[j]? = some P := by rw [List.getElem?_map, hx2]; rfl
                  rw [HR2.out.2.1, List.getElem?_map, hLj] at h1
                  simpa using h1.symm
                obtain ⟨heok, hek, hel⟩ := HB.out.2.2.2.1 e (List.mem_of_getElem? hLj)
                have hr1 := HB.out.2.1.no ((HK.out.1.then HR2.out.2.2.1).then hk)
                have hr2 := HR2.out.1.no hk
                obtain ⟨g, c1, he1, _, _, _, _⟩ := hr1.cells hx
                obtain ⟨g2, c2, he2, _, _, _, _⟩ := hr2.cells hx2
                simp only [Value.slice.injEq] at he1 he2
                obtain ⟨rfl, _, rfl⟩ := he1
                obtain ⟨rfl, _, rfl⟩ := he2
                obtain ⟨hb1, hp1⟩ := hr1.bytes _ (List.mem_of_getElem? hx)
                obtain ⟨hb2, hp2⟩ := hr2.bytes _ (List.mem_of_getElem? hx2)
                simp only at hb1 hp1 hb2 hp2
                obtain ⟨bo, bc, rfl⟩ := BytesAt.form (bn := noBan) hb1
                obtain ⟨po, pc, rfl⟩ := BytesAt.form (bn := noBan) hp1
                obtain ⟨qbo, qbc, rfl⟩ := BytesAt.form (bn := noBan) hb2
                obtain ⟨qpo, qpc, rfl⟩ := BytesAt.form (bn := noBan) hp2
                have hPok : EvOk P := by rw [hPe]; exact plain_evok heok
                have hlti : (j : Int) < (its.length : Int) := by omega
                have HE := Lib.hid (And.intro hr1 (And.intro hr2 (And.intro hx (And.intro hx2 (And.intro hPe (And.intro hPok (And.intro heok (And.intro hk (And.intro hlt (And.intro hb2 (And.intro hp2 (And.intro hb1 hp1))))))))))))
                clear hr1 hr2 hx hx2 hPok heok hk hlt hb2 hp2 hb1 hp1 hPe hLj hek hel hj
                go_wp2_with fail
                have kd : Keep No wr wr.drew := (Keep.refl _ _).drew
                refine wp_drawN (fun w' => Keep No wr w') [0, 1, 2, 3, 5, 6, 7, 8] [4, 9, 10, 11] [12] (by kernel_rfl) (by kernel_rfl) (fun _ _ _ _ _ h => h) kd ?_
                iterate 8 (refine earlyN_cons (v := ?_) rfl rfl rfl ?_ ?_; rotate_left; focus (
                  intro w' hS
                  obtain ⟨c0, c1, c2, c3, c4, c5, c6, c7, c8, c9, c10⟩ := (HE.out.1.no hS).at HE.out.2.2.1
                  obtain ⟨d0, d1, d2, d3, d4, d5, d6, d7, d8, d9, d10⟩ := (HE.out.2.1.no hS).at HE.out.2.2.2.1
                  go_simp
                  try with_reducible rfl))
                refine earlyN_nil (midN_cons rfl rfl (fun K hK => ?_))
                go_simp
                have ho := own_spec (w := wr.drew) (e := P) (bo := qbo) (po := qpo) (bn := P.body.length) (bc := qbc) (pn := P.p.length) (pc := qpc) HE.out.2.2.2.2.2.1.kind
                unfold evV at ho
                refine ho.mono ?_
                rintro r w10 ⟨rfl, k10⟩
                clear ho
                have kd := kd.then k10
                unfold dvV
                refine hK _ _ kd ?_
                clear hK K
                refine midN_cons rfl rfl (fun K hK => ?_)
                go_simp
                have kall := (HK.out.2.then HR2.out.2.2.1).then (HE.out.2.2.2.2.2.2.2.1.then kd)
                have hpl := plain_spec (base := base) (Nat.le_trans HH.out.2.1 kall.size) (BytesAt.no (bn := noBan) HE.out.2.2.2.2.2.2.2.2.2.2.2.1 kd) (BytesAt.no (bn := noBan) HE.out.2.2.2.2.2.2.2.2.2.2.2.2 kd) HE.out.2.2.2.2.2.2.1
                rw [← HE.out.2.2.2.2.1] at hpl
                unfold evV at hpl
                refine hpl.mono ?_
                rintro r w11 ⟨k11, xb, xp, rfl, hxb, hxp⟩
                clear hpl kall
                obtain ⟨xbo, xbc, rfl⟩ := BytesAt.form (bn := noBan) hxb
                obtain ⟨xpo, xpc, rfl⟩ := BytesAt.form (bn := noBan) hxp
                have kd := kd.then k11
                refine hK _ _ kd ?_
                clear hK K
                refine midN_cons rfl rfl (fun K hK => ?_)
                go_simp
                have ho := own_spec (w := w11) (e := P) (bo := xbo) (po := xpo) (bn := P.body.length) (bc := xbc) (pn := P.p.length) (pc := xpc) HE.out.2.2.2.2.2.1.kind
                unfold evV at ho
                refine ho.mono ?_
                rintro r w12 ⟨rfl, k12⟩
                clear ho
                have kd := kd.then k12
                unfold dvV
                refine hK _ _ kd ?_
                clear hK K
                refine midN_cons rfl rfl (fun K hK => ?_)
                go_simp
                have hs := same_spec (bn := noBan) (BytesAt.no (bn := noBan) HE.out.2.2.2.2.2.2.2.2.2.1 kd) (BytesAt.no (bn := noBan) HE.out.2.2.2.2.2.2.2.2.2.2.1 kd) (BytesAt.no (bn := noBan) hxb k12) (BytesAt.no (bn := noBan) hxp k12)
                unfold dvV at hs
                refine hs.mono ?_
                rintro r w13 ⟨rfl, k13⟩
                clear hs
                have kd := kd.then k13
                refine hK _ _ kd ?_
                clear hK K
                refine midN_nil (tailN_cons rfl (tailN_nil ?_))
                go_wp2
                go_roundw
                case rel => exact ⟨j + 1, HE.out.2.2.2.2.2.2.2.2.1, by go_num, HE.out.2.2.2.2.2.2.2.1.then kd⟩
                case measure => have := HE.out.2.2.2.2.2.2.2.2.1; simp [intOf]; omega
              · obtain rfl : j = its.length := by omega
                have hjj2 : ¬ (its.length : Int) < (its.length : Int) := by omega
                have kall := (HK.out.2.then HR2.out.2.2.1).then hk
                have hallB : ∀ x ∈ itsB, EvOk x.1 ∧ (textF x.1).length ≤ 300 := fun x hx => by
                  have h1 : x.1 ∈ L.map plainF := by rw [← HR2.out.2.1]; exact List.mem_map_of_mem hx
                  obtain ⟨e, he, h2⟩ := List.mem_map.1 h1
                  obtain ⟨h3, _, h4⟩ := HB.out.2.2.2.1 e he
                  rw [← h2, text_plain h3.ok]
                  exact ⟨plain_evok h3, h4⟩
                have hwb := write_spec (HH.out.1.no kall) (HR2.out.1.no hk) (Nat.le_trans HR2.out.2.2.1.size hk.size) (fun x hx => (hallB x hx).1) (by have := HR2.out.2.2.2; omega) (fun x hx => Nat.le_trans (hallB x hx).2 (by decide))
                rw [HR2.out.2.1, HB.out.2.2.2.2.2.2.2.2.1, show strV s = .string U by rw [HB.out.2.2.2.2.2.2.2.2.2], HR2.out.2.2.2] at hwb
                have HKA := Lib.hid kall
                clear kall hallB hk hlt hj
                go_wp2_with fail
                refine hwb.mono ?_
                rintro r w14 ⟨rfl, k14⟩
                clear hwb
                go_wp2_with fail
                go_ret
                exact ⟨rfl, HKA.out.then k14⟩
end Go.Proofs.YtlbjkmpdakmgeaaDoor
