/- The document's words of a line, lines of a text. -/
import Derived.Test.YtlbjkmpdakmgeaaDoorTaleR
namespace Go.Proofs.YtlbjkmpdakmgeaaDoor
open Go Go.RowKit Go.Dr

theorem StrsAt.last {w : World} {B g cap : Nat} {ws : List (List UInt8)} {x y : List UInt8} (h : StrsAt w B (.slice (some ⟨g, 0, none⟩) (ws.length + 1) cap) (ws ++ [x])) :
    StrsAt (w.setCell ⟨g, ws.length, none⟩ (strV y)) B (.slice (some ⟨g, 0, none⟩) (ws.length + 1) cap) (ws ++ [y]) := by
  obtain ⟨h1, ⟨_, h⟩ | ⟨g', cap', cur, e, hB, hg, hc, hm, hs, hcur⟩⟩ := h
  · simp at h
  · simp only [Value.slice.injEq, Option.some.injEq, Addr.mk.injEq] at e
    obtain ⟨⟨rfl, _, _⟩, _, rfl⟩ := e
    have hlen : (ws ++ [y]).length = ws.length + 1 := by simp
    have hlen' : (ws ++ [x]).length = ws.length + 1 := by simp
    rw [hlen'] at hc hcur
    refine ⟨by simp, .inr ⟨g, cap, cur.setIfInBounds ws.length (strV y), by rw [hlen], hB, heap_setCell_same hg, by rw [hlen]; exact hc, hm, by simpa using hs, ?_⟩⟩
    rw [hlen, Nat.mul_one] at *
    have hsz : ws.length < cur.size := by omega
    have e1 : (cur.setIfInBounds ws.length (strV y)).toList = cur.toList.set ws.length (strV y) := by simp
    rw [e1, List.take_set, hcur, List.map_append, List.map_append, List.set_append]
    simp
theorem slice_one (S : ByteArray) (l : List UInt8) (hS : S = strB l) (i : Nat) (x : UInt8) (hx : l[i]? = some x) (w : World) :
    (Instr.slice 9 (.string S) (some (.int .i64 i)) (some (.int .i64 ((i : Int) + 1))) none).run Tryd.prog w = .ok (strV [x]) w := by
  obtain ⟨hi, rfl⟩ := List.getElem?_eq_some_iff.1 hx
  subst hS
  rw [run_slice_string w 9 _ .i64 .i64 i (i + 1) (by kernel_rfl) (by omega) (by omega) (by simp [ByteArray.size]; omega)]
  have e1 : (i : Int).toNat = i := by omega
  have e2 : ((i : Int) + 1).toNat = i + 1 := by omega
  rw [e1, e2]
  congr 2
  apply ByteArray.ext
  apply Array.ext'
  simp
  rw [List.drop_eq_getElem_cons hi]
  rfl
theorem splitC_take_snoc {c x : UInt8} {s : List UInt8} {i : Nat} (hx : s[i]? = some x) : splitC c (s.take (i + 1)) = if x = c then splitC c (s.take i) ++ [[]] else (splitC c (s.take i)).dropLast ++ [(splitC c (s.take i)).getLastD [] ++ [x]] := by
  obtain ⟨hi, rfl⟩ := List.getElem?_eq_some_iff.1 hx
  rw [List.take_succ_eq_append_getElem hi, splitC_snoc]
theorem splitC_last (c : UInt8) (s : List UInt8) : ∃ ws x, splitC c s = ws ++ [x] := by
  refine ⟨(splitC c s).dropLast, (splitC c s).getLast (splitC_ne c s), ?_⟩
  rw [List.dropLast_concat_getLast]
theorem str_lit (w : World) (B : Nat) (hB : B ≤ w.heap.size) : ∀ x, StrsAt (w.alloc (.cells #[strV x] 9)) B (.slice (some ⟨w.heap.size, 0, none⟩) 1 1) [x] := fun x => StrsAt.new [x] (heap_new _ _) hB (by simp)
set_option maxRecDepth 100000 in
set_option maxHeartbeats 400000 in
theorem rwords_spec {w : World} (s : List UInt8) (hs : s.length ≤ 100000) :
    Calls Tryd.prog 33 #[strV s] w fun e w' => ∃ v, e = .returned v ∧ StrsAt w' w.heap.size v (splitC 32 s) ∧ Keep No w w' := by
  obtain ⟨S, hS⟩ : ∃ S, S = strB s := ⟨_, rfl⟩
  have hsz : S.size = s.length := by rw [hS]; simp [ByteArray.size]
  show Calls Tryd.prog 33 #[.string (strB s)] w _
  rw [← hS]
  have hsi : (S.size : Int) = (s.length : Int) := by omega
  have HS := Lib.hid (And.intro hS hs)
  clear hsz hs hS
  go_enter Tryd.func33, Tryd.ntmps33
  go_wp2_with fail
  go_loopw [3, 4] (fun v i wr => ∃ k : Nat, k ≤ s.length ∧ i = .int .i64 k ∧ StrsAt wr w.heap.size v (splitC 32 (s.take k)) ∧ Keep No w wr) (fun _ i _ => s.length - (intOf i).toNat)
  case atStart => exact ⟨0, Nat.zero_le _, rfl, str_lit w _ (Nat.le_refl _) [], (Keep.refl _ _).alloc _⟩
  case round =>
    obtain ⟨k, hk, rfl, hst, hkp⟩ := hrel
    by_cases hlt : k < s.length
    · have hki : (k : Int) < (s.length : Int) := by omega
      obtain ⟨x, hx⟩ : ∃ x, s[k]? = some x := ⟨_, List.getElem?_eq_getElem hlt⟩
      have hix := index_str 9 (by kernel_rfl) s k x hx
      rw [← HS.out.1] at hix
      have hsl := slice_one S s HS.out.1 k x hx
      have hts := splitC_take_snoc (c := 32) hx
      have hsl2 := splitC_len 32 (s.take k)
      have hkl : (s.take k).length ≤ 100000 := by simp; have := HS.out.2; omega
      have hki1 : (k : Int) ≤ 100000 := by have := HS.out.2; omega
      have hBs := hkp.size
      by_cases hxc : x = 32
      · rw [if_pos hxc] at hts
        have hq : ((x.toNat : Int) == 32) = true := by rw [hxc]; rfl
        have HT := Lib.hid hts
        obtain ⟨ao, cap, rfl⟩ := hst.form
        have hlit := fun u => str_lit wr 0 (Nat.zero_le _) u
        have hlit2 : ∀ (j : Nat) y, ([[]] : List (List UInt8))[j]? = some y → (wr.alloc (.cells #[strV []] 9)).cell? ⟨wr.heap.size, 0 + j, none⟩ = some (strV y) := fun j y hj => by
          match j, hj with
          | 0, hj => simp at hj; subst hj; rw [cell_of (heap_new _ _)]; rfl
        clear hts hxc hlit hx hsl
        generalize splitC 32 (s.take k) = ws at *
        go_wp2_with (at_builtin; refine wpList_append_strs rfl _ _ rfl w.heap.size (hst.no ((Keep.refl _ _).alloc _)) hlit2 rfl rfl (by simp; omega) (by simp; omega) ?_; intro v' w3 hst' k4)
        go_roundw
        case rel => exact ⟨k + 1, by omega, by go_num, by rw [HT.out]; exact hst', (hkp.alloc _).trans k4 (fun b hb e => by have := (hst.lt b e).1; omega)⟩
        case measure => simp [intOf]; omega
      · rw [if_neg hxc] at hts
        have hq : ((x.toNat : Int) == 32) = false := by
          rw [beq_eq_false_iff_ne]
          intro e
          exact hxc (UInt8.toNat_inj.1 (by simp; omega))
        obtain ⟨ws, y, hws⟩ := splitC_last 32 (s.take k)
        rw [hws] at hts hst hsl2
        simp only [List.dropLast_concat, List.getLastD_concat] at hts
        have HT := Lib.hid hts
        obtain ⟨g, cap, hv, hcl, hcm, hgl, hgc⟩ := hst.cells (by simp)
        have e1 : (ws ++ [y]).length = ws.length + 1 := by simp
        rw [e1] at hv
        subst hv
        obtain ⟨cur, hgh⟩ := hst.kind (b := g) rfl
        have hfz := frozen_of hgh
        have hgy := hgc ws.length y (by simp)
        obtain ⟨Y, hY⟩ : ∃ Y, Y = strB y := ⟨_, rfl⟩
        replace hgy : wr.cell? ⟨g, ws.length, none⟩ = some (.string Y) := by rw [hY]; exact hgy
        obtain ⟨Z, hZ⟩ : ∃ Z, Z = strB [x] := ⟨_, rfl⟩
        replace hsl : ∀ w : World, (Instr.slice 9 (.string S) (some (.int .i64 k)) (some (.int .i64 ((k : Int) + 1))) none).run Tryd.prog w = .ok (.string Z) w := by rw [hZ]; exact hsl
        have hYs : Y.size ≤ 100000 := by
          have h1 : y ∈ splitC 32 (s.take k) := by rw [hws]; simp
          have := splitC_word_len 32 (s.take k) y h1
          rw [hY]; simp [ByteArray.size]; omega
        have hno : ¬ 9223372036854775807 < Y.size + 1 := by omega
        have hZs : Z.size = 1 := by rw [hZ]; rfl
        have hl := hst.last (y := y ++ [x])
        have hYZ : strV (y ++ [x]) = .string (Y ++ Z) := by rw [hY, hZ, strB_append]
        rw [hYZ] at hl
        have kS : Keep (· = g) wr ((wr.setCell ⟨g, ws.length, none⟩ (.string (Y ++ Z))).drew) := (Keep.setCell (F := (· = g)) (Keep.refl _ _) (.inl rfl) _).drew
        have hgw := (hst.lt g rfl).1
        have HL := Lib.hid (And.intro hl (And.intro kS hst))
        have hn0 : (ws.length : Int) ≤ 100001 := by rw [e1] at hsl2; omega
        clear hts hxc hx hws hl hYZ hY hZ hgc hst kS hgh e1 hcl hcm hsl2
        go_wp2_with fail
        have hb1 : (ws.length : Int) < (ws.length : Int) + 1 := by omega
        have hb2 : (k : Int) + 1 ≤ (s.length : Int) := by omega
        have hb3 : (k : Int) ≤ (k : Int) + 1 := by omega
        have w1 : IntKind.i64.wrap (ws.length : Int) = (ws.length : Int) := IntWalk.i64_in _ (by omega)
        have w2 : IntKind.i64.wrap ((k : Int) + 1) = (k : Int) + 1 := IntWalk.i64_in _ (by omega)
        refine wp_drawN (fun w' => w' = wr.drew) [0, 1, 2, 3, 4, 5, 6, 7, 8, 9, 10, 11] [] [12, 13] (by kernel_rfl) (by kernel_rfl) (fun _ _ _ _ _ h => h) rfl ?_
        iterate 12 (refine earlyN_cons (v := ?_) rfl rfl rfl ?_ ?_; rotate_left; focus (
          rintro w' rfl
          go_simp
          try with_reducible rfl))
        refine earlyN_nil (midN_nil (tailN_cons rfl (tailN_cons rfl (tailN_nil ?_))))
        go_wp2
        go_roundw
        case rel => exact ⟨k + 1, by omega, by go_num, by rw [HT.out]; exact StrsAt.no HL.out.1 (Keep.refl _ _).drew, hkp.trans HL.out.2.1 (fun b hb e => by have := e; omega)⟩
        case measure => simp [intOf]; omega
    · have hki : ¬ (k : Int) < (s.length : Int) := by omega
      obtain rfl : k = s.length := by omega
      rw [List.take_length] at hst
      clear hki hlt hk
      go_wp2
      go_ret
      exact ⟨_, rfl, hst, hkp⟩
set_option maxRecDepth 100000 in
set_option maxHeartbeats 400000 in
theorem rlines_spec {w : World} (s : List UInt8) (hs : s.length ≤ 100000) :
    Calls Tryd.prog 28 #[strV s] w fun e w' => ∃ v, e = .returned v ∧ StrsAt w' w.heap.size v (splitC 10 s) ∧ Keep No w w' := by
  obtain ⟨S, hS⟩ : ∃ S, S = strB s := ⟨_, rfl⟩
  have hsz : S.size = s.length := by rw [hS]; simp [ByteArray.size]
  show Calls Tryd.prog 28 #[.string (strB s)] w _
  rw [← hS]
  have hsi : (S.size : Int) = (s.length : Int) := by omega
  have HS := Lib.hid (And.intro hS hs)
  clear hsz hs hS
  go_enter Tryd.func28, Tryd.ntmps28
  go_wp2_with fail
  go_loopw [3, 4] (fun v i wr => ∃ k : Nat, k ≤ s.length ∧ i = .int .i64 k ∧ StrsAt wr w.heap.size v (splitC 10 (s.take k)) ∧ Keep No w wr) (fun _ i _ => s.length - (intOf i).toNat)
  case atStart => exact ⟨0, Nat.zero_le _, rfl, str_lit w _ (Nat.le_refl _) [], (Keep.refl _ _).alloc _⟩
  case round =>
    obtain ⟨k, hk, rfl, hst, hkp⟩ := hrel
    by_cases hlt : k < s.length
    · have hki : (k : Int) < (s.length : Int) := by omega
      obtain ⟨x, hx⟩ : ∃ x, s[k]? = some x := ⟨_, List.getElem?_eq_getElem hlt⟩
      have hix := index_str 9 (by kernel_rfl) s k x hx
      rw [← HS.out.1] at hix
      have hsl := slice_one S s HS.out.1 k x hx
      have hts := splitC_take_snoc (c := 10) hx
      have hsl2 := splitC_len 10 (s.take k)
      have hkl : (s.take k).length ≤ 100000 := by simp; have := HS.out.2; omega
      have hki1 : (k : Int) ≤ 100000 := by have := HS.out.2; omega
      have hBs := hkp.size
      by_cases hxc : x = 10
      · rw [if_pos hxc] at hts
        have hq : ((x.toNat : Int) == 10) = true := by rw [hxc]; rfl
        have HT := Lib.hid hts
        obtain ⟨ao, cap, rfl⟩ := hst.form
        have hlit := fun u => str_lit wr 0 (Nat.zero_le _) u
        have hlit2 : ∀ (j : Nat) y, ([[]] : List (List UInt8))[j]? = some y → (wr.alloc (.cells #[strV []] 9)).cell? ⟨wr.heap.size, 0 + j, none⟩ = some (strV y) := fun j y hj => by
          match j, hj with
          | 0, hj => simp at hj; subst hj; rw [cell_of (heap_new _ _)]; rfl
        clear hts hxc hlit hx hsl
        generalize splitC 10 (s.take k) = ws at *
        go_wp2_with (at_builtin; refine wpList_append_strs rfl _ _ rfl w.heap.size (hst.no ((Keep.refl _ _).alloc _)) hlit2 rfl rfl (by simp; omega) (by simp; omega) ?_; intro v' w3 hst' k4)
        go_roundw
        case rel => exact ⟨k + 1, by omega, by go_num, by rw [HT.out]; exact hst', (hkp.alloc _).trans k4 (fun b hb e => by have := (hst.lt b e).1; omega)⟩
        case measure => simp [intOf]; omega
      · rw [if_neg hxc] at hts
        have hq : ((x.toNat : Int) == 10) = false := by
          rw [beq_eq_false_iff_ne]
          intro e
          exact hxc (UInt8.toNat_inj.1 (by simp; omega))
        obtain ⟨ws, y, hws⟩ := splitC_last 10 (s.take k)
        rw [hws] at hts hst hsl2
        simp only [List.dropLast_concat, List.getLastD_concat] at hts
        have HT := Lib.hid hts
        obtain ⟨g, cap, hv, hcl, hcm, hgl, hgc⟩ := hst.cells (by simp)
        have e1 : (ws ++ [y]).length = ws.length + 1 := by simp
        rw [e1] at hv
        subst hv
        obtain ⟨cur, hgh⟩ := hst.kind (b := g) rfl
        have hfz := frozen_of hgh
        have hgy := hgc ws.length y (by simp)
        obtain ⟨Y, hY⟩ : ∃ Y, Y = strB y := ⟨_, rfl⟩
        replace hgy : wr.cell? ⟨g, ws.length, none⟩ = some (.string Y) := by rw [hY]; exact hgy
        obtain ⟨Z, hZ⟩ : ∃ Z, Z = strB [x] := ⟨_, rfl⟩
        replace hsl : ∀ w : World, (Instr.slice 9 (.string S) (some (.int .i64 k)) (some (.int .i64 ((k : Int) + 1))) none).run Tryd.prog w = .ok (.string Z) w := by rw [hZ]; exact hsl
        have hYs : Y.size ≤ 100000 := by
          have h1 : y ∈ splitC 10 (s.take k) := by rw [hws]; simp
          have := splitC_word_len 10 (s.take k) y h1
          rw [hY]; simp [ByteArray.size]; omega
        have hno : ¬ 9223372036854775807 < Y.size + 1 := by omega
        have hZs : Z.size = 1 := by rw [hZ]; rfl
        have hl := hst.last (y := y ++ [x])
        have hYZ : strV (y ++ [x]) = .string (Y ++ Z) := by rw [hY, hZ, strB_append]
        rw [hYZ] at hl
        have kS : Keep (· = g) wr ((wr.setCell ⟨g, ws.length, none⟩ (.string (Y ++ Z))).drew) := (Keep.setCell (F := (· = g)) (Keep.refl _ _) (.inl rfl) _).drew
        have hgw := (hst.lt g rfl).1
        have HL := Lib.hid (And.intro hl (And.intro kS hst))
        have hn0 : (ws.length : Int) ≤ 100001 := by rw [e1] at hsl2; omega
        clear hts hxc hx hws hl hYZ hY hZ hgc hst kS hgh e1 hcl hcm hsl2
        go_wp2_with fail
        have hb1 : (ws.length : Int) < (ws.length : Int) + 1 := by omega
        have hb2 : (k : Int) + 1 ≤ (s.length : Int) := by omega
        have hb3 : (k : Int) ≤ (k : Int) + 1 := by omega
        have w1 : IntKind.i64.wrap (ws.length : Int) = (ws.length : Int) := IntWalk.i64_in _ (by omega)
        have w2 : IntKind.i64.wrap ((k : Int) + 1) = (k : Int) + 1 := IntWalk.i64_in _ (by omega)
        refine wp_drawN (fun w' => w' = wr.drew) [0, 1, 2, 3, 4, 5, 6, 7, 8, 9, 10, 11] [] [12, 13] (by kernel_rfl) (by kernel_rfl) (fun _ _ _ _ _ h => h) rfl ?_
        iterate 12 (refine earlyN_cons (v := ?_) rfl rfl rfl ?_ ?_; rotate_left; focus (
          rintro w' rfl
          go_simp
          try with_reducible rfl))
        refine earlyN_nil (midN_nil (tailN_cons rfl (tailN_cons rfl (tailN_nil ?_))))
        go_wp2
        go_roundw
        case rel => exact ⟨k + 1, by omega, by go_num, by rw [HT.out]; exact StrsAt.no HL.out.1 (Keep.refl _ _).drew, hkp.trans HL.out.2.1 (fun b hb e => by have := e; omega)⟩
        case measure => simp [intOf]; omega
    · have hki : ¬ (k : Int) < (s.length : Int) := by omega
      obtain rfl : k = s.length := by omega
      rw [List.take_length] at hst
      clear hki hlt hk
      go_wp2
      go_ret
      exact ⟨_, rfl, hst, hkp⟩
end Go.Proofs.YtlbjkmpdakmgeaaDoor
