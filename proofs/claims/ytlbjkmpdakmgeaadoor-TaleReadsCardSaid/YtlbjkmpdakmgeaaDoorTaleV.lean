/- The library's functions, as the texts of scripts call them; numbers, bytes as words. -/
import Derived.Test.YtlbjkmpdakmgeaaDoorTaleN
import Derived.Test.YtlbjkmpdakmgeaaDoorShelf
namespace Go.Proofs.YtlbjkmpdakmgeaaDoor
open Go Go.RowKit Go.Dr

theorem strB_list (l : List UInt8) : (strB l).data.toList = l := rfl
theorem strB_size (l : List UInt8) : (strB l).size = l.length := by simp [ByteArray.size]
theorem strB_of (s : ByteArray) : ∃ l, s = strB l ∧ l.length = s.size := ⟨s.data.toList, rfl, rfl⟩

/-! ### The variables of the library that are read -/
structure VarsAt (w : World) : Prop where
  syn : ∃ tp p t fr, w.heap[0]? = some (.cells #[.iface tp p] t fr)
  rng : ∃ tp p t fr, w.heap[1]? = some (.cells #[.iface tp p] t fr)
  tab : ∃ t fr, w.heap[3]? = some (.cells (Lib.pow10Tab.map fun z => Value.int .u64 z).toArray t fr)
  max : ∃ m, w.cell? ⟨2, 0, none⟩ = some (.int .i64 m)
theorem VarsAt.no {w w' : World} (h : VarsAt w) (k : Keep No w w') : VarsAt w' := by
  obtain ⟨⟨a, b, c, d, h1⟩, ⟨a', b', c', d', h2⟩, ⟨a3, b3, h3⟩, ⟨m, h4⟩⟩ := h
  exact ⟨⟨a, b, c, d, k.heap h1 (fun e => e)⟩, ⟨a', b', c', d', k.heap h2 (fun e => e)⟩, ⟨a3, b3, k.heap h3 (fun e => e)⟩, ⟨m, k.cell h4 (fun e => e)⟩⟩
theorem Keep.of_below {w w' : World} (h : Below w.heap.size w w') : Keep No w w' := ⟨h.os, h.tape, h.output, h.size, fun b hb _ => h.block b hb⟩

theorem itoa_spec {w : World} (h : VarsAt w) (n : Int) (hn : Int64 n) :
    Calls Tryd.prog 43 #[.int .i64 n] w fun e w' => e = .returned (strV (Lib.itoa n)) ∧ Keep No w w' := by
  obtain ⟨t, fr, ht⟩ := h.tab
  refine (Any.strconv_Itoa Tryd.laysM171 n hn.1 hn.2 w (by
    unfold Lib.TabIs World.var?
    rw [show Program.globalNamed Tryd.prog _ = some 3 by kernel_rfl]
    simp only [Option.bind_some, ht])).mono ?_
  rintro e w' ⟨he, k, os, rfl⟩
  refine ⟨he, (Keep.refl No w).drewN k |>.trans ?_ (fun _ _ e => e)⟩
  refine ⟨rfl, rfl, rfl, by simp [Sort.grow], fun b hb _ => ?_⟩
  simp only [Sort.grow]
  exact Array.getElem?_append_left hb

theorem atoi_spec {w : World} (h : VarsAt w) (s : List UInt8) (hs : s.length ≤ 1099511627776) :
    Calls Tryd.prog 42 #[strV s] w fun e w' => Keep No w w' ∧ ((∃ n, Lib.atoiAll s = .ok n ∧ e = .returned (.tuple #[.int .i64 n, .nilIface])) ∨
      ((∀ n, Lib.atoiAll s ≠ .ok n) ∧ ∃ n tp p, e = .returned (.tuple #[.int .i64 n, .iface tp p]))) := by
  have hsz : (strB s).size ≤ 1099511627776 := by rw [strB_size]; exact hs
  cases ha : Lib.atoiAll s with
  | ok n =>
    refine (Any.strconv_Atoi_ok Tryd.laysC172 (strB s) (by omega) n ha w).mono ?_
    rintro e w' ⟨he, hw⟩
    refine ⟨?_, .inl ⟨n, rfl, he⟩⟩
    rcases hw with rfl | ⟨t, rfl⟩
    · exact Keep.refl _ _
    · exact Keep.of_below (Lib.bytesWorld_below _ _ _)
  | range =>
    obtain ⟨tp, p, t, fr, ht⟩ := h.rng
    refine (Any.strconv_Atoi_range_var Tryd.laysC172 (strB s) (by omega) ha tp p w (by
      unfold World.var?
      rw [show Program.globalNamed Tryd.prog _ = some 1 by kernel_rfl]
      simp only [Option.bind_some, ht])).mono ?_
    rintro e w' ⟨N, he, _, _, hb⟩
    exact ⟨Keep.of_below hb, .inr ⟨fun n hn => (by cases hn), _, _, _, he⟩⟩

  | _ =>
    obtain ⟨tp, p, t, fr, ht⟩ := h.syn
    refine (Any.strconv_Atoi_syntax_var Tryd.laysC172 (strB s) (by omega) ha tp p w (by
      unfold World.var?
      rw [show Program.globalNamed Tryd.prog _ = some 0 by kernel_rfl]
      simp only [Option.bind_some, ht])).mono ?_
    rintro e w' ⟨N, he, _, _, hb⟩
    exact ⟨Keep.of_below hb, .inr ⟨fun n hn => (by cases hn), _, _, _, he⟩⟩
theorem indexByte_spec (s : List UInt8) (c : Nat) (w : World) :
    Calls Tryd.prog 44 #[strV s, .int .u8 c] w fun e w' => e = .returned (.int .i64 (Lib.indexByte s (UInt8.ofNat c))) ∧ w' = w :=
  (Any.strings_IndexByte Tryd.lays137 (strB s) c w).mono fun e w' ⟨he, hw⟩ => ⟨by rw [he]; simp [Int.toNat_natCast, Nat.toUInt8], hw⟩

theorem split_spec {w : World} (h : VarsAt w) (c : UInt8) (s : List UInt8) (hs : s.length ≤ 1000000) :
    Calls Tryd.prog 30 #[strV s, strV [c]] w fun e w' => e = .returned (.slice (some ⟨w.heap.size, 0, none⟩) (splitC c s).length (splitC c s).length) ∧
      w' = w.alloc (.cells ((splitC c s).map strV).toArray 9) := by
  obtain ⟨m, hm⟩ := h.max
  refine (Any.strings_Split Tryd.lays146 (by kernel_rfl) (strB s) (strB [c]) m w (by rw [strB_size]; omega) hm (by simp [ByteArray.size])).mono ?_
  rintro e w' ⟨he, hw⟩
  have e1 : (Lib.splitB (strB [c]) 0 (Lib.countB (strB s) (strB [c])) (strB s)).map (·.data.toList) = splitC c s := by
    rw [Lib.splitB_data]
    exact splitK_eq c s.length s (Nat.le_refl _)
  generalize hX : Lib.splitB (strB [c]) 0 (Lib.countB (strB s) (strB [c])) (strB s) = X at *
  have e2 : X.length = Lib.countB (strB s) (strB [c]) + 1 := by rw [← hX]; exact Lib.splitB_all _ (by simp [ByteArray.size]) 0 _ _ rfl
  have e3 : X.map Value.string = (splitC c s).map strV := by
    rw [← e1, List.map_map]
    rfl
  have e4 : (splitC c s).length = Lib.countB (strB s) (strB [c]) + 1 := by rw [← e1, List.length_map, e2]
  rw [e4, ← e3]
  exact ⟨he, hw⟩

theorem joinC_spec {w : World} (ws : List (List UInt8)) (bk o cap : Nat) (hc : ∀ (j : Nat) x, ws[j]? = some x → w.cell? ⟨bk, o + j, none⟩ = some (strV x)) (hb : bk < w.heap.size)
    (hn : ws.length ≤ cap) (hl : (Lib.join ws [32]).length ≤ 1000000) (hn' : ws.length ≤ 1000000) :
    Calls Tryd.prog 38 #[.slice (some ⟨bk, o, none⟩) ws.length cap, strV [32]] w fun e w' => e = .returned (strV (Lib.join ws [32])) ∧ Keep No w w' := by
  have e : (ws.map strB).map (fun x => x.data.toList) = ws := by rw [List.map_map]; simp [Function.comp_def]
  have h := Any.strings_Join Tryd.lays156 Tryd.Builder_Extra_156 bk o cap (ws.map strB) (strB [32]) w (fun j x hx => by
    rw [List.getElem?_map] at hx
    cases hw : ws[j]? with
    | none => rw [hw] at hx; cases hx
    | some y => rw [hw] at hx; cases hx; exact hc j y hw) hb (by simp; omega) (by simpa using hn) (by rw [e]; simp only; omega)
  rw [e] at h
  simp only [List.length_map] at h
  exact h.mono fun e w' ⟨he, hw⟩ => ⟨he, Keep.of_below hw⟩

theorem lays166 : Lays.n166 Tryd.prog Tryd.lays156_ren := { Tryd.lays156 with }

/-! ### Numbers -/
theorem numF_ok {s : List UInt8} {n : Int} (h : Lib.atoiAll s = .ok n) : numN s = (if Lib.itoa n = s then n else 0) ∧ numB s = decide (Lib.itoa n = s) := by
  unfold numN numB numF
  rw [h]
  simp only
  by_cases e : Lib.itoa n = s
  · simp [e]
  · simp [e]
theorem numF_no {s : List UInt8} (h : ∀ n, Lib.atoiAll s ≠ .ok n) : numN s = 0 ∧ numB s = false := by
  unfold numN numB numF
  cases ha : Lib.atoiAll s with
  | ok n => exact (h n ha).elim
  | range => exact ⟨rfl, rfl⟩
  | _ => exact ⟨rfl, rfl⟩
theorem strB_toList (l : List UInt8) : (strB l).toList = l := ByteArray.toList_mk l
theorem number_spec {w : World} (h : VarsAt w) (s : List UInt8) (hs : s.length ≤ 1000000) :
    Calls Tryd.prog 18 #[strV s] w fun e w' => e = .returned (.tuple #[.int .i64 (numN s), .bool (numB s)]) ∧ Keep No w w' := by
  have hA := atoi_spec h s (by omega)
  have hI := fun {w' : World} (k : Keep No w w') n hn => itoa_spec (h.no k) n hn
  cases ha : Lib.atoiAll s with
  | ok n =>
    have hn : Int64 n := Lib.atoiAll_bounds ha
    have hf := numF_ok ha
    rw [hf.1, hf.2]
    obtain ⟨S, hS⟩ : ∃ S, S = strB s := ⟨_, rfl⟩
    obtain ⟨T, hT⟩ : ∃ T, T = strB (Lib.itoa n) := ⟨_, rfl⟩
    have hA' : Calls Tryd.prog 42 #[.string S] w fun e w' => e = .returned (.tuple #[.int .i64 n, .nilIface]) ∧ Keep No w w' := by
      rw [hS]
      refine hA.mono ?_
      rintro e w' ⟨hk, ⟨m, hm, he⟩ | ⟨hm, _⟩⟩
      · rw [ha] at hm; cases hm; exact ⟨he, hk⟩
      · exact (hm n ha).elim
    have hI' : ∀ {w' : World}, Keep No w w' → Calls Tryd.prog 43 #[.int .i64 n] w' fun e w2 => e = .returned (.string T) ∧ Keep No w' w2 := fun k => by rw [hT]; exact hI k n hn
    show Calls Tryd.prog 18 #[.string (strB s)] w _
    rw [← hS]
    by_cases e : Lib.itoa n = s
    · have hq : (!(T.toList == S.toList)) = false := by rw [hS, hT, strB_toList, strB_toList, e]; simp
      rw [if_pos e, show decide (Lib.itoa n = s) = true from decide_eq_true e]
      clear hA hI hf hS hT ha h hn e hs
      go_enter Tryd.func18, Tryd.ntmps18
      go_wp2_with fail
      refine hA'.mono ?_
      rintro e w1 ⟨rfl, k1⟩
      have hI'' := hI' k1
      clear hA' hI'
      go_wp2_with fail
      refine hI''.mono ?_
      rintro e w2 ⟨rfl, k2⟩
      go_wp2_with fail
      go_ret2
      exact ⟨rfl, k1.then k2⟩
    · have hq : (!(T.toList == S.toList)) = true := by rw [hS, hT, strB_toList, strB_toList]; simpa using e
      rw [if_neg e, show decide (Lib.itoa n = s) = false from decide_eq_false e]
      clear hA hI hf hS hT ha h hn e hs
      go_enter Tryd.func18, Tryd.ntmps18
      go_wp2_with fail
      refine hA'.mono ?_
      rintro e w1 ⟨rfl, k1⟩
      have hI'' := hI' k1
      clear hA' hI'
      go_wp2_with fail
      refine hI''.mono ?_
      rintro e w2 ⟨rfl, k2⟩
      go_wp2_with fail
      go_ret2
      exact ⟨rfl, k1.then k2⟩
  | range =>
    have hno : ∀ n, Lib.atoiAll s ≠ .ok n := fun n e => by rw [ha] at e; cases e
    have hf := numF_no hno
    rw [hf.1, hf.2]
    have hA' : Calls Tryd.prog 42 #[strV s] w fun e w' => (∃ n tp p, e = .returned (.tuple #[.int .i64 n, .iface tp p])) ∧ Keep No w w' := by
      refine hA.mono ?_
      rintro e w' ⟨hk, ⟨m, hm, he⟩ | ⟨_, he⟩⟩
      · exact (hno m hm).elim
      · exact ⟨he, hk⟩
    clear hA hI hf hno ha h hs
    go_enter Tryd.func18, Tryd.ntmps18
    go_wp2_with fail
    refine hA'.mono ?_
    rintro e w1 ⟨⟨n, tp, p, rfl⟩, k1⟩
    go_wp2_with fail
    go_ret2
    exact ⟨rfl, k1⟩

  | _ =>
    have hno : ∀ n, Lib.atoiAll s ≠ .ok n := fun n e => by rw [ha] at e; cases e
    have hf := numF_no hno
    rw [hf.1, hf.2]
    have hA' : Calls Tryd.prog 42 #[strV s] w fun e w' => (∃ n tp p, e = .returned (.tuple #[.int .i64 n, .iface tp p])) ∧ Keep No w w' := by
      refine hA.mono ?_
      rintro e w' ⟨hk, ⟨m, hm, he⟩ | ⟨_, he⟩⟩
      · exact (hno m hm).elim
      · exact ⟨he, hk⟩
    clear hA hI hf hno ha h hs
    go_enter Tryd.func18, Tryd.ntmps18
    go_wp2_with fail
    refine hA'.mono ?_
    rintro e w1 ⟨⟨n, tp, p, rfl⟩, k1⟩
    go_wp2_with fail
    go_ret2
    exact ⟨rfl, k1⟩
theorem who_spec {w : World} (h : VarsAt w) (n : Int) (hn : Int64 n) :
    Calls Tryd.prog 53 #[.int .i64 n] w fun e w' => e = .returned (strV (whoF n)) ∧ Keep No w w' := by
  have hI := itoa_spec h n hn
  unfold whoF
  by_cases e : n = -1
  · subst e
    clear hI
    go_enter Tryd.func53, Tryd.ntmps53
    go_wp2_with fail
    go_ret
    exact ⟨rfl, Keep.refl _ _⟩
  · have hq : (n == -1) = false := by simpa using e
    rw [if_neg e]
    clear e
    generalize Lib.itoa n = T at *
    go_enter Tryd.func53, Tryd.ntmps53
    go_wp2_with fail
    refine hI.mono ?_
    rintro e w1 ⟨rfl, k1⟩
    go_wp2_with fail
    go_ret
    exact ⟨rfl, k1⟩

theorem whomN_of99 {s : List UInt8} (h : s ≠ [99]) : whomN s = numN s ∧ whomB s = (numB s && (numN s != -1)) := by
  unfold whomN whomB numN numB
  rw [if_neg h]
  simp [h]
  rfl
theorem whom_spec {w : World} (h : VarsAt w) (s : List UInt8) (hs : s.length ≤ 1000000) :
    Calls Tryd.prog 51 #[strV s] w fun e w' => e = .returned (.tuple #[.int .i64 (whomN s), .bool (whomB s)]) ∧ Keep No w w' := by
  have hI := number_spec h s hs
  by_cases e : s = [99]
  · subst e
    clear hI
    go_enter Tryd.func51, Tryd.ntmps51
    go_wp2_with fail
    go_ret2
    exact ⟨rfl, Keep.refl _ _⟩
  · obtain ⟨h1, h2⟩ := whomN_of99 e
    rw [h1, h2]
    clear h1 h2
    obtain ⟨S, hS⟩ : ∃ S, S = strB s := ⟨_, rfl⟩
    have hq : (S.toList == [99]) = false := by rw [hS, strB_toList]; simpa using e
    show Calls Tryd.prog 51 #[.string (strB s)] w _
    rw [← hS]
    have hI : Calls Tryd.prog 18 #[.string S] w fun e w' => e = .returned (.tuple #[.int .i64 (numN s), .bool (numB s)]) ∧ Keep No w w' := by rw [hS]; exact hI
    generalize numN s = n at *
    generalize numB s = b at *
    clear hS e hs h
    cases b
    · go_enter Tryd.func51, Tryd.ntmps51
      go_wp2_with fail
      refine hI.mono ?_
      rintro e w1 ⟨rfl, k1⟩
      go_wp2_with fail
      go_ret2
      exact ⟨rfl, k1⟩
    · obtain ⟨c, hc⟩ : ∃ c, (n != -1) = c := ⟨_, rfl⟩
      rw [hc]
      go_enter Tryd.func51, Tryd.ntmps51
      go_wp2_with fail
      refine hI.mono ?_
      rintro e w1 ⟨rfl, k1⟩
      go_wp2_with fail
      go_ret2
      exact ⟨rfl, k1⟩
end Go.Proofs.YtlbjkmpdakmgeaaDoor
