/- TaleLines, walked. -/
import Derived.Test.YtlbjkmpdakmgeaaDoorTaleLn
import Derived.Test.YtlbjkmpdakmgeaaDoorTaleC
namespace Go.Proofs.YtlbjkmpdakmgeaaDoor
open Go Go.RowKit Go.Dr

theorem someF_step {l : List EvS} {j : Nat} {e : EvS} (h : l[j]? = some e) : someF (l.take (j + 1)) = if j < 30 then someF (l.take j) ++ [k12F e] else someF (l.take j) := by
  obtain ⟨h1, h2⟩ := List.getElem?_eq_some_iff.1 h
  unfold someF
  rw [List.take_take, List.take_take]
  by_cases hj : j < 30
  · rw [if_pos hj, show min 30 (j + 1) = j + 1 by omega, show min 30 j = j by omega, List.take_succ_eq_append_getElem h1, h2, List.map_append, List.map_singleton]
  · rw [if_neg hj, show min 30 (j + 1) = 30 by omega, show min 30 j = 30 by omega]
theorem EvsAt.at {base : Nat} {w : World} {ao : Option Addr} {n cap : Nat} {l : List EvS} (h : EvsAt base w (.slice ao n cap) l) {j : Nat} {e : EvS} (hj : l[j]? = some e) :
    ∃ g o bv pv, ao = some ⟨g, o, none⟩ ∧ BytesAt (bn := noBan) base w bv e.body ∧ BytesAt (bn := noBan) base w pv e.p ∧ ∀ w', Keep No w w' →
    w'.cell? ⟨g, o + j * 11, none⟩ = some (.int .u8 e.kind) ∧ w'.cell? ⟨g, o + j * 11 + 1, none⟩ = some (.int .i64 e.who) ∧ w'.cell? ⟨g, o + j * 11 + 2, none⟩ = some (.int .i64 e.cls) ∧ w'.cell? ⟨g, o + j * 11 + 3, none⟩ = some bv ∧
    w'.cell? ⟨g, o + j * 11 + 4, none⟩ = some (.int .i64 e.ix) ∧ w'.cell? ⟨g, o + j * 11 + 5, none⟩ = some (.int .i64 e.pos) ∧ w'.cell? ⟨g, o + j * 11 + 6, none⟩ = some (.int .u8 e.val.toNat) ∧ w'.cell? ⟨g, o + j * 11 + 7, none⟩ = some (.int .i64 e.keep) ∧
    w'.cell? ⟨g, o + j * 11 + 8, none⟩ = some (.int .i64 e.torn) ∧ w'.cell? ⟨g, o + j * 11 + 9, none⟩ = some (.bool e.on) ∧ w'.cell? ⟨g, o + j * 11 + 10, none⟩ = some pv := by
  obtain ⟨ao', cap', he, _, _, hr⟩ := h
  simp only [Value.slice.injEq] at he
  obtain ⟨rfl, _, rfl⟩ := he
  rcases hr with rfl | ⟨g, o, _, rfl, hc⟩
  · simp at hj
  · obtain ⟨bv, pv, hb, hp, hc⟩ := hc j e hj
    refine ⟨g, o, bv, pv, rfl, hb, hp, fun w' k => ?_⟩
    have hk := fun (i : Nat) x hx => k.cell (hc i x hx) (fun e => e)
    exact ⟨hk 0 _ rfl, hk 1 _ rfl, hk 2 _ rfl, hk 3 _ rfl, hk 4 _ rfl, hk 5 _ rfl, hk 6 _ rfl, hk 7 _ rfl, hk 8 _ rfl, hk 9 _ rfl, hk 10 _ rfl⟩
set_option maxRecDepth 100000 in
set_option maxHeartbeats 4000000 in
theorem lines_walk {base : Nat} {w : World} (hV : VarsAt w) (hbase : base ≤ w.heap.size) {v : Value} {l : List EvS} (hl : EvsAt base w v l) (hok : ∀ e ∈ l, e.Ok ∧ e.kind < 256) :
    Calls Tryd.prog 6 #[v] w fun r w' => r = .returned (.bool true) ∧ Keep No w w' := by
  obtain ⟨ao, cap, rfl, hlc, hcm, _⟩ := id hl
  have ha := awake_spec hV
  unfold maxLen at hcm
  have hli : (l.length : Int) ≤ 9223372036854775807 := by omega
  have HH := Lib.hid (And.intro hV (And.intro hbase (And.intro hl hok)))
  clear hV hbase hl hok hlc hcm
  go_enter Tryd.func6, Tryd.ntmps6
  go_wp2_with fail
  refine ha.mono ?_
  rintro r w1 ⟨rfl, k1⟩
  clear ha
  go_wp2_with fail
  go_loopw [3, 17] (fun vs i wr => ∃ (j : Nat) (its : List Item), j ≤ l.length ∧ i = .int .i64 j ∧ its.map (·.1) = someF (l.take j) ∧ EvRow base wr w.heap.size vs its ∧ Keep No w wr) (fun _ i _ => l.length - (intOf i).toNat)
  case atStart => exact ⟨0, [], Nat.zero_le _, rfl, by simp [someF], EvRow.nil _ _ _, k1⟩
  case round =>
    clear k1
    obtain ⟨j, its, hj, rfl, hits, hr, hk⟩ := hrel
    obtain ⟨vo, vc, rfl, hv1, hv2⟩ := row_form hr.row
    by_cases hlt : j < l.length
    · obtain ⟨e, hx⟩ : ∃ x, l[j]? = some x := ⟨_, List.getElem?_eq_getElem hlt⟩
      obtain ⟨g, o, bv, pv, rfl, hb, hp, hcells⟩ := HH.out.2.2.1.at hx
      obtain ⟨bo, bc, rfl⟩ := BytesAt.form (bn := noBan) hb
      obtain ⟨po, pc, rfl⟩ := BytesAt.form (bn := noBan) hp
      obtain ⟨e0, e1, e2, e3, e4, e5, e6, e7, e8, e9, e10⟩ := hcells wr hk
      obtain ⟨heok, hek⟩ := HH.out.2.2.2 e (List.mem_of_getElem? hx)
      have hlti : (j : Int) < (l.length : Int) := by omega
      have hst := someF_step hx
      obtain ⟨W1, hW1⟩ : ∃ W1, W1 = wr.alloc (.cells (evC e (.slice bo e.body.length bc) (.slice po e.p.length pc)) 27) := ⟨_, rfl⟩
      have kA : Keep No wr W1 := by rw [hW1]; exact (Keep.refl _ _).alloc _
      have hA := by have := heap_new wr (.cells (evC e (.slice bo e.body.length bc) (.slice po e.p.length pc)) 27); rw [← hW1] at this; exact this
      have hfew := few_spec (base := base) (w := W1) (Nat.le_trans HH.out.2.1 (hk.then kA).size) (BytesAt.no (bn := noBan) hb (hk.then kA)) (BytesAt.no (bn := noBan) hp (hk.then kA))
      unfold evV at hfew
      have HB := Lib.hid (And.intro hits (And.intro hr (And.intro hk (And.intro hlt (And.intro kA (And.intro hA (And.intro heok (And.intro hek hst))))))))
      clear hits hr hk hlt kA hA heok hek hst hb hp hcells hx hj hv1 hv2
      go_wp2_with fail
      show Calls _ _ _ (wr.alloc (.cells (evC e (.slice bo e.body.length bc) (.slice po e.p.length pc)) 27)) _
      rw [← hW1]
      clear hW1
      refine hfew.mono ?_
      rintro r w2 ⟨k2, bv2, pv2, rfl, hb2, hp2⟩
      clear hfew e0 e1 e2 e3 e4 e5 e6 e7 e8 e9 e10
      obtain ⟨bo2, bc2, rfl⟩ := BytesAt.form (bn := noBan) hb2
      obtain ⟨po2, pc2, rfl⟩ := BytesAt.form (bn := noBan) hp2
      obtain ⟨A, hAe⟩ : ∃ A, A = wr.heap.size := ⟨_, rfl⟩
      obtain ⟨hits, hr, hk, hlt, kA, hA, heok, hek, hst⟩ := HB.out
      rw [← hAe] at hA ⊢
      obtain ⟨f, hf⟩ : ∃ f, f = fewF e := ⟨_, rfl⟩
      rw [← hf] at hb2 hp2 ⊢
      have hA2 := k2.heap hA (fun e => e)
      have kw2 : Keep No wr w2 := kA.then k2
      obtain ⟨Z, hZ⟩ : ∃ Z, Z = w2.setRow A (evC f (.slice bo2 f.body.length bc2) (.slice po2 f.p.length pc2)) := ⟨_, rfl⟩
      have hX := setRow_heap w2 A _ (evC f (.slice bo2 f.body.length bc2) (.slice po2 f.p.length pc2)) _ _ hA2
      have hAb : base ≤ A := by rw [hAe]; exact Nat.le_trans HH.out.2.1 hk.size
      have hF1 : Foot base w2 (· = A) := by
        rintro b rfl
        exact ⟨hAb, heap_lt hA2, fun cs fr e => by rw [hA2] at e; simp at e⟩
      have kR := keep_row (F := No) (evC f (.slice bo2 f.body.length bc2) (.slice po2 f.p.length pc2)) kw2 (g := A) (.inr (by omega))
      have kR' := keep_row (F := (· = A)) (evC f (.slice bo2 f.body.length bc2) (.slice po2 f.p.length pc2)) (Keep.refl _ w2) (.inl rfl)
      rw [← hZ] at hX kR kR'
      have hb4 := BytesAt.keep (bn := noBan) hb2 hF1 kR'
      have hp4 := BytesAt.keep (bn := noBan) hp2 hF1 kR'
      obtain ⟨K, hK⟩ : ∃ K, K = e.kind % 12 := ⟨_, rfl⟩
      have hfk : f.kind = e.kind := by rw [hf]; rfl
      have hkk : k12F e = { f with kind := K } := by rw [hf, hK]; rfl
      obtain ⟨Y, hY⟩ : ∃ Y, Z.setCell ⟨A, 0, none⟩ (.int .u8 K) = Y := ⟨_, rfl⟩
      have kE : Keep (· = A) Z (Z.setCell ⟨A, 0, none⟩ (.int .u8 K)) := Keep.setCell (F := (· = A)) (Keep.refl _ _) (.inl rfl) _
      have hXY : (Z.setCell ⟨A, 0, none⟩ (.int .u8 K)).heap[A]? = some (.cells (evC { f with kind := K } (.slice bo2 f.body.length bc2) (.slice po2 f.p.length pc2)) 27 (0, 0)) := heap_setCell_same (i := 0) (u := .int .u8 K) hX
      have hF2 : Foot base Z (· = A) := by
        rintro b rfl
        exact ⟨hAb, heap_lt hX, fun cs fr e => by rw [hX] at e; simp at e⟩
      have hb5 := BytesAt.keep (bn := noBan) hb4 hF2 kE
      have hp5 := BytesAt.keep (bn := noBan) hp4 hF2 kE
      have kY : Keep No wr (Z.setCell ⟨A, 0, none⟩ (.int .u8 K)) := kR.trans kE (fun x hx e => by have := e; omega)
      rw [hY] at hXY hb5 hp5 kY
      have hq1 : Int.tmod (f.kind : Int) 12 = (K : Int) := by rw [hfk, hK, Int.tmod_eq_emod_of_nonneg (by omega)]; omega
      have hq2 : (f.kind : Int) % 12 = (K : Int) := by rw [hfk, hK]; omega
      have hfi : (f.kind : Int) ≤ 255 := by rw [hfk]; omega
      have hKi : (K : Int) ≤ 11 := by rw [hK]; omega
      obtain ⟨r0, r1, r2, r3, r4, r5, r6, r7, r8, r9, r10⟩ := evCells hX
      have fz := frozen_of hX
      obtain ⟨y0, y1, y2, y3, y4, y5, y6, y7, y8, y9, y10⟩ := evCells hXY
      have H2 := Lib.hid (And.intro hA2 hZ)
      have HC := Lib.hid (And.intro hXY (And.intro hb5 (And.intro hp5 (And.intro kY (And.intro hkk hAe)))))
      clear hA2 hZ hX hXY hb5 hp5 kY hkk hf hb4 hp4 hb2 hp2 kR kR' hF1 hF2 kE hA kw2 hits hr hk hlt kA heok hek hst hK hfk hAb k2 hAe
      by_cases h30 : j < 30
      · have h30i : (j : Int) < 30 := by omega
        have hrY := HB.out.2.1.no HC.out.2.2.2.1
        have kAY := fun o => (Keep.refl No Y).alloc o
        have hil : its.length ≤ 1000000 := by
          have := congrArg List.length HB.out.1
          simp [someF] at this
          omega
        have hsz : w.heap.size ≤ (Y.alloc (.cells (evC { f with kind := K } (.slice bo2 f.body.length bc2) (.slice po2 f.p.length pc2)) 27)).heap.size := ((HB.out.2.2.1.then HC.out.2.2.2.1).then (kAY _)).size
        go_wp2_with (first
          | (at_builtin; refine wpList_append_ev rfl _ _ rfl (hrY.no (kAY _)) { f with kind := K } (.slice bo2 f.body.length bc2) (.slice po2 f.p.length pc2) (heap_new Y (.cells (evC { f with kind := K } (.slice bo2 f.body.length bc2) (.slice po2 f.p.length pc2)) 27)) (BytesAt.no (bn := noBan) HC.out.2.1 (kAY _)) (BytesAt.no (bn := noBan) HC.out.2.2.1 (kAY _)) rfl rfl rfl rfl hil hsz HH.out.2.1 ?_; intro xo xc W7 hr7 k7)
          | (refine wpList_store_row rfl 27 (.tmp 5) _ rfl A (evC f (.slice bo2 f.body.length bc2) (.slice po2 f.p.length pc2)) rfl rfl _ _ H2.out.1 (by kernel_rfl) rfl (by simp [evC, Value.oneCell']) ?_; rw [← H2.out.2]))
        go_roundw
        case rel =>
          refine ⟨j + 1, _, HB.out.2.2.2.1, by go_num, ?_, hr7, ((HB.out.2.2.1.then HC.out.2.2.2.1).then (kAY _)).trans k7 (fun x hx e => by have := (row_kind HB.out.2.1.row x e).1; omega)⟩
          rw [List.map_append, HB.out.1, HB.out.2.2.2.2.2.2.2.2, if_pos h30, HC.out.2.2.2.2.1]
          rfl
        case measure => have := HB.out.2.2.2.1; simp [intOf]; omega
      · have h30i : ¬ (j : Int) < 30 := by omega
        go_wp2_with (refine wpList_store_row rfl 27 (.tmp 5) _ rfl A (evC f (.slice bo2 f.body.length bc2) (.slice po2 f.p.length pc2)) rfl rfl _ _ H2.out.1 (by kernel_rfl) rfl (by simp [evC, Value.oneCell']) ?_; rw [← H2.out.2])
        go_roundw
        case rel =>
          refine ⟨j + 1, its, HB.out.2.2.2.1, by go_num, ?_, HB.out.2.1.no HC.out.2.2.2.1, HB.out.2.2.1.then HC.out.2.2.2.1⟩
          rw [HB.out.1, HB.out.2.2.2.2.2.2.2.2, if_neg h30]
        case measure => have := HB.out.2.2.2.1; simp [intOf]; omega
    · obtain rfl : j = l.length := by omega
      have hjj : ¬ (l.length : Int) < (l.length : Int) := by omega
      rw [List.take_of_length_le (Nat.le_refl _)] at hits
      obtain ⟨L, hL⟩ : ∃ L, L = someF l := ⟨_, rfl⟩
      have hall := someF_all (fun e he => (HH.out.2.2.2 e he).1)
      rw [← hL] at hits hall
      have hLl : L.length ≤ 30 := by rw [hL]; simp [someF]; omega
      have hil : its.length = L.length := by rw [← hits]; simp
      have hws := write_spec (HH.out.1.no hk) hr hk.size (fun x hx => (hall x.1 (by rw [← hits]; exact List.mem_map_of_mem hx)).1) (by omega) (fun x hx => by have := (hall x.1 (by rw [← hits]; exact List.mem_map_of_mem hx)).2.2; omega)
      rw [hits] at hws
      obtain ⟨S, hS⟩ : ∃ S, S = writeF L := ⟨_, rfl⟩
      have hSl : S.length ≤ 9030 := by
        rw [hS]
        have h1 := writeF_len L 300 (fun e he => (hall e he).2.2)
        have h2 := Nat.mul_le_mul_right 301 hLl
        omega
      have hsp : splitC 10 S = L.map textF ++ [[]] := by rw [hS]; exact splitC_write L
      have hrd : readF S = some (L.map plainF) := by rw [hS]; exact readF_write (fun e he => ⟨(hall e he).2.1, (hall e he).1.ok⟩)
      rw [← hS] at hws
      obtain ⟨T, hT⟩ : ∃ T, T = strB S := ⟨_, rfl⟩
      rw [show strV S = .string T by rw [hT]] at hws
      have HB := Lib.hid (And.intro hits (And.intro hr (And.intro hk (And.intro hall (And.intro hLl (And.intro hil (And.intro hSl (And.intro hsp (And.intro hrd hT)))))))))
      clear hits hr hk hall hLl hil hSl hsp hrd hT hS hL hlt hj hv1 hv2
      go_wp2_with fail
      refine hws.mono ?_
      rintro r w2 ⟨rfl, k2⟩
      clear hws
      have k2' := HB.out.2.2.1.then k2
      have hls := rlines_spec (w := w2) S (by have := HB.out.2.2.2.2.2.2.1; omega)
      rw [show strV S = .string T by rw [HB.out.2.2.2.2.2.2.2.2.2], HB.out.2.2.2.2.2.2.2.1] at hls
      go_wp2_with fail
      refine hls.mono ?_
      rintro r w3 ⟨lv, rfl, hst, k3⟩
      clear hls
      have k3' := k2'.then k3
      obtain ⟨lg, lc, rfl, hlc1, hlc2, _, hlcell⟩ := hst.cells (by simp)
      have hMl : (L.map textF ++ [[]]).length = its.length + 1 := by have := HB.out.2.2.2.2.2.1; simp; omega
      rw [hMl] at hlc1 ⊢
      have hrs := read_spec (base := base) (HH.out.1.no k3') (Nat.le_trans HH.out.2.1 k3'.size) S (by have := HB.out.2.2.2.2.2.2.1; omega)
      rw [show strV S = .string T by rw [HB.out.2.2.2.2.2.2.2.2.2], HB.out.2.2.2.2.2.2.2.2.1] at hrs
      have HL := Lib.hid (And.intro hlcell (And.intro k3' (k2.then k3)))
      clear hst hMl hlcell k3' k3 k2 k2'
      go_wp2_with fail
      refine hrs.mono ?_
      rintro r w4 ⟨k4, av, its2, rfl, hr2, hm2⟩
      clear hrs
      obtain ⟨ao2, ac2, rfl, _, _⟩ := row_form hr2.row
      have hil2 : its2.length = its.length := by
        have := congrArg List.length hm2
        have := HB.out.2.2.2.2.2.1
        simp at *
        omega
      rw [hil2]
      have hLl := HB.out.2.2.2.2.2.1
      have hlast := k4.cell (HL.out.1 its.length [] (by rw [List.getElem?_append_right (by simp; omega)]; simp [hLl])) (fun e => e)
      have hl30 : (its.length : Int) ≤ 30 := by have := HB.out.2.2.2.2.1; omega
      have HR := Lib.hid (And.intro hr2 (And.intro hm2 (And.intro k4 hil2)))
      clear hr2 hm2 k4 hil2 hLl
      go_wp2_with fail
      go_loopw [71] (fun i wr => ∃ j : Nat, j ≤ its.length ∧ i = .int .i64 j ∧ Keep No w4 wr) (fun i _ => its.length - (intOf i).toNat)
      case atStart => exact ⟨0, Nat.zero_le _, rfl, Keep.refl _ _⟩
      case round =>
        obtain ⟨j, hj, rfl, hk⟩ := hrel
        by_cases hlt : j < its.length
        · obtain ⟨⟨e, bv, pv⟩, hx⟩ : ∃ x, its[j]? = some x := ⟨_, List.getElem?_eq_getElem hlt⟩
          have hLj : L[j]? = some e := by rw [← HB.out.1, List.getElem?_map, hx]; rfl
          obtain ⟨⟨P, qb, qp⟩, hx2⟩ : ∃ x, its2[j]? = some x := ⟨_, List.getElem?_eq_getElem (by have := HR.out.2.2.2; omega)⟩
          have hPe : P = plainF e := by
            have h1 : (its2.map (·.1))[j]? = some P := by rw [List.getElem?_map, hx2]; rfl
            rw [HR.out.2.1, List.getElem?_map, hLj] at h1
            simpa using h1.symm
          obtain ⟨heok, hek, hel⟩ := HB.out.2.2.2.1 e (List.mem_of_getElem? hLj)
          have hr1 := HB.out.2.1.no ((HL.out.2.2.then HR.out.2.2.1).then hk)
          have hr2 := HR.out.1.no hk
          obtain ⟨g, c1, he1, _, _, _, _⟩ := hr1.cells hx
          obtain ⟨g2, c2, he2, _, _, _, _⟩ := hr2.cells hx2
          simp only [Value.slice.injEq] at he1 he2
          obtain ⟨rfl, _, rfl⟩ := he1
          obtain ⟨rfl, _, rfl⟩ := he2
          obtain ⟨hb1, hp1⟩ := hr1.bytes _ (List.mem_of_getElem? hx)
          obtain ⟨hb2, hp2⟩ := hr2.bytes _ (List.mem_of_getElem? hx2)
          simp only at hb1 hp1 hb2 hp2
          obtain ⟨bo, bc, rfl⟩ := BytesAt.form (bn := noBan) hb1
          obtain ⟨po, pc, rfl⟩ := BytesAt.form (bn := noBan) hp1
          obtain ⟨qbo, qbc, rfl⟩ := BytesAt.form (bn := noBan) hb2
          obtain ⟨qpo, qpc, rfl⟩ := BytesAt.form (bn := noBan) hp2
          have hlj := hk.cell (HR.out.2.2.1.cell (HL.out.1 j (textF e) (by rw [List.getElem?_append_left (by have := HB.out.2.2.2.2.2.1; simp; omega), List.getElem?_map, hLj]; rfl)) (fun e => e)) (fun e => e)
          obtain ⟨X, hX⟩ : ∃ X, X = strB (textF e) := ⟨_, rfl⟩
          rw [show strV (textF e) = .string X by rw [hX]] at hlj
          have k04 := HL.out.2.1.then HR.out.2.2.1
          have hps := parse_spec (base := base) (HH.out.1.no (k04.then hk)) (Nat.le_trans HH.out.2.1 (k04.then hk).size) (textF e) (by omega)
          rw [parse_text heok.ok hek, ← hPe, show strV (textF e) = .string X by rw [hX]] at hps
          have hPok : EvOk P := by rw [hPe]; exact plain_evok heok
          have hlti : (j : Int) < (its.length : Int) := by omega
          have hlti1 : (j : Int) < (its.length : Int) + 1 := by omega
          have HE := Lib.hid (And.intro hr1 (And.intro hr2 (And.intro hx (And.intro hx2 (And.intro hX (And.intro hPok (And.intro heok (And.intro hk (And.intro hlt (And.intro hb2 (And.intro hp2 (And.intro hb1 hp1))))))))))))
          clear hr1 hr2 hx hx2 hX hPok heok hk hlt hb2 hp2 hb1 hp1 hPe hLj hek hel k04 hj hlast
          go_wp2_with fail
          refine hps.mono ?_
          rintro r w5 ⟨k5, xb, xp, rfl, hxb, hxp⟩
          have HJ := Lib.hid hlj
          clear hps hlj
          obtain ⟨xbo, xbc, rfl⟩ := BytesAt.form (bn := noBan) hxb
          obtain ⟨xpo, xpc, rfl⟩ := BytesAt.form (bn := noBan) hxp
          have kA : Keep No w5 (w5.alloc (.cells (evC P (.slice xbo P.body.length xbc) (.slice xpo P.p.length xpc)) 27)) := (Keep.refl _ _).alloc _
          have hA := heap_new w5 (.cells (evC P (.slice xbo P.body.length xbc) (.slice xpo P.p.length xpc)) 27)
          have hxb := BytesAt.no (bn := noBan) hxb kA
          have hxp := BytesAt.no (bn := noBan) hxp kA
          have k9 := k5.then kA
          have HY := Lib.hid (And.intro hA (And.intro hxb (And.intro hxp k9)))
          clear hA hxb hxp k9 kA k5
          unfold evV
          go_wp2_with fail
          show Code.wp _ _ _ _ (w5.alloc (.cells (evC P (.slice xbo P.body.length xbc) (.slice xpo P.p.length xpc)) 27))
          obtain ⟨W9, hW9⟩ : ∃ W9, W9 = w5.alloc (.cells (evC P (.slice xbo P.body.length xbc) (.slice xpo P.p.length xpc)) 27) := ⟨_, rfl⟩
          rw [← hW9] at HY ⊢
          clear hW9
          have kd : Keep No W9 W9.drew := (Keep.refl _ _).drew
          refine wp_drawN2 (fun w' => Keep No W9 w') [0, 1, 2, 3, 5, 6, 7, 8] [4, 9, 10, 11, 12, 13] [14, 15, 16, 17, 18, 19, 20, 21] [22, 23, 24] (by kernel_rfl) (by kernel_rfl) (fun _ _ _ _ _ h => h) kd ?_
          iterate 3 (refine earlyN_cons (v := ?_) rfl rfl rfl ?_ ?_; rotate_left; focus (
            intro w' hS
            go_simp
            try with_reducible rfl))
          iterate 5 (refine earlyN_guarded (v := ?_) rfl rfl (by first | kernel_rfl | simp [Region.wanted, yielded, Act.put, undef]) ?_ ?_; rotate_left; focus (
            intro w' hS
            obtain ⟨c0, c1, c2, c3, c4, c5, c6, c7, c8, c9, c10⟩ := evCells (hS.heap HY.out.1 (fun e => e))
            obtain ⟨d0, d1, d2, d3, d4, d5, d6, d7, d8, d9, d10⟩ := (HE.out.2.1.no (HY.out.2.2.2.then hS)).at HE.out.2.2.2.1
            go_simp
            try with_reducible rfl))
          refine earlyN_nil ?_
          refine midN_want rfl (by first | kernel_rfl | simp [Region.wanted, yielded, Act.put, undef]) (fun K hK => ?_)
          go_simp
          have ho := own_spec (w := W9.drew) (e := P) (bo := xbo) (po := xpo) (bn := P.body.length) (bc := xbc) (pn := P.p.length) (pc := xpc) HE.out.2.2.2.2.2.1.kind
          unfold evV at ho
          refine ho.mono ?_
          rintro r w10 ⟨rfl, k10⟩
          clear ho
          have kd := kd.then k10
          unfold dvV
          refine hK _ _ kd ?_
          clear hK K
          refine midN_want rfl (by first | kernel_rfl | simp [Region.wanted, yielded, Act.put, undef]) (fun K hK => ?_)
          go_simp
          have ho := own_spec (w := w10) (e := P) (bo := qbo) (po := qpo) (bn := P.body.length) (bc := qbc) (pn := P.p.length) (pc := qpc) HE.out.2.2.2.2.2.1.kind
          unfold evV at ho
          refine ho.mono ?_
          rintro r w11 ⟨rfl, k11⟩
          clear ho
          have kd := kd.then k11
          unfold dvV
          refine hK _ _ kd ?_
          clear hK K
          refine midN_want rfl (by first | kernel_rfl | simp [Region.wanted, yielded, Act.put, undef]) (fun K hK => ?_)
          go_simp
          have hs := same_spec (bn := noBan) (BytesAt.no (bn := noBan) HY.out.2.1 kd) (BytesAt.no (bn := noBan) HY.out.2.2.1 kd) (BytesAt.no (bn := noBan) HE.out.2.2.2.2.2.2.2.2.2.1 (HY.out.2.2.2.then kd)) (BytesAt.no (bn := noBan) HE.out.2.2.2.2.2.2.2.2.2.2.1 (HY.out.2.2.2.then kd))
          unfold dvV at hs
          refine hs.mono ?_
          rintro r w12 ⟨rfl, k12⟩
          clear hs
          have kd := kd.then k12
          refine hK _ _ kd ?_
          clear hK K
          refine midN_want rfl (by first | kernel_rfl | simp [Region.wanted, yielded, Act.put, undef]) (fun K hK => ?_)
          go_simp
          refine hK _ _ kd ?_
          clear hK K
          iterate 2 (refine midN_cons rfl rfl (fun K hK => ?_); go_simp; refine hK _ _ kd ?_; clear hK K)
          refine midN_nil ?_
          iterate 8 (refine earlyN_guarded (v := ?_) rfl rfl (by first | kernel_rfl | simp [Region.wanted, yielded, Act.put, undef]) ?_ ?_; rotate_left; focus (
            intro w' hS
            have cl := (HY.out.2.2.2.then hS).cell HJ.out (fun e => e)
            obtain ⟨d0, d1, d2, d3, d4, d5, d6, d7, d8, d9, d10⟩ := (HE.out.1.no (HY.out.2.2.2.then hS)).at HE.out.2.2.1
            go_simp
            try with_reducible rfl))
          refine earlyN_nil ?_
          refine midN_want rfl (by first | kernel_rfl | simp [Region.wanted, yielded, Act.put, undef]) (fun K hK => ?_)
          go_simp
          have k9d := HY.out.2.2.2.then kd
          have ht := text_spec (bn := noBan) (HH.out.1.no (((HL.out.2.1.then HR.out.2.2.1).then HE.out.2.2.2.2.2.2.2.1).then k9d)) (BytesAt.no (bn := noBan) HE.out.2.2.2.2.2.2.2.2.2.2.2.1 k9d) (BytesAt.no (bn := noBan) HE.out.2.2.2.2.2.2.2.2.2.2.2.2 k9d) HE.out.2.2.2.2.2.2.1
          rw [show strV (textF e) = .string X by rw [HE.out.2.2.2.2.1]] at ht
          unfold evV at ht
          refine ht.mono ?_
          rintro r w13 ⟨rfl, k13⟩
          clear ht
          have kd := kd.then k13
          refine hK _ _ kd ?_
          clear hK K
          refine midN_want rfl (by first | kernel_rfl | simp [Region.wanted, yielded, Act.put, undef]) (fun K hK => ?_)
          go_simp
          refine hK _ _ kd ?_
          clear hK K
          refine midN_cons rfl rfl (fun K hK => ?_)
          go_simp
          refine hK _ _ kd ?_
          clear hK K
          refine midN_nil ?_
          go_wp2
          go_roundw
          case rel => exact ⟨j + 1, HE.out.2.2.2.2.2.2.2.2.1, by go_num, HE.out.2.2.2.2.2.2.2.1.then (HY.out.2.2.2.then kd)⟩
          case measure => have := HE.out.2.2.2.2.2.2.2.2.1; simp [intOf]; omega
        · obtain rfl : j = its.length := by omega
          have hjj2 : ¬ (its.length : Int) < (its.length : Int) := by omega
          have HK := Lib.hid ((HL.out.2.1.then HR.out.2.2.1).then hk)
          clear hk hlt hj
          go_wp2_with fail
          go_ret
          exact ⟨rfl, HK.out⟩
end Go.Proofs.YtlbjkmpdakmgeaaDoor
