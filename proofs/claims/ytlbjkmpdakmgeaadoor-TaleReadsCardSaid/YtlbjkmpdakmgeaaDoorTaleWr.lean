/- Package tale: Write. -/
import Derived.Test.YtlbjkmpdakmgeaaDoorTaleRd
import Derived.Test.YtlbjkmpdakmgeaaDoorTaleB
namespace Go.Proofs.YtlbjkmpdakmgeaaDoor
open Go Go.RowKit Go.Shelf

def writeF (l : List EvS) : List UInt8 := l.flatMap fun e => textF e ++ [10]
theorem flat_at : ∀ (its : List Item) (j : Nat) (x : Item), its[j]? = some x → ∀ k, k < 11 → (its.flatMap itemL)[j * 11 + k]? = (itemL x)[k]?
  | [], _, _, h, _, _ => by simp at h
  | y :: r, 0, x, h, k, hk => by
    simp at h
    subst h
    rw [List.flatMap_cons, List.getElem?_append_left (by rw [itemL_len]; omega)]
    simp
  | y :: r, j + 1, x, h, k, hk => by
    rw [List.flatMap_cons, List.getElem?_append_right (by rw [itemL_len]; omega), itemL_len]
    have e : (j + 1) * 11 + k - 11 = j * 11 + k := by omega
    rw [e]
    exact flat_at r j x (by simpa using h) k hk
theorem EvRow.cells {base B : Nat} {w : World} {v : Value} {its : List Item} (h : EvRow base w B v its) {j : Nat} {x : Item} (hj : its[j]? = some x) :
    ∃ g cap, v = .slice (some ⟨g, 0, none⟩) its.length cap ∧ B ≤ g ∧ its.length ≤ cap ∧ cap ≤ maxLen ∧ ∀ k y, k < 11 → (itemL x)[k]? = some y → w.cell? ⟨g, j * 11 + k, none⟩ = some y := by
  have hlt := (List.getElem?_eq_some_iff.1 hj).1
  rcases h.row.2 with ⟨_, h0⟩ | ⟨g, cap, cur, rfl, h1, h2, h3, h4, h5, h6⟩
  · omega
  · refine ⟨g, cap, rfl, h1, h3, h4, fun k y hk hy => ?_⟩
    rw [cell_of h2]
    have := flat_at its j x hj k hk
    rw [hy, ← h6, List.getElem?_take] at this
    split at this
    · simpa using this
    · cases this
/-- An event in a row, cell by cell. -/
theorem EvRow.at {base B : Nat} {w : World} {g cap n : Nat} {its : List Item} (h : EvRow base w B (.slice (some ⟨g, 0, none⟩) n cap) its) {j : Nat} {e : EvS} {bv pv : Value} (hj : its[j]? = some (e, bv, pv)) :
    w.cell? ⟨g, j * 11, none⟩ = some (.int .u8 e.kind) ∧ w.cell? ⟨g, j * 11 + 1, none⟩ = some (.int .i64 e.who) ∧ w.cell? ⟨g, j * 11 + 2, none⟩ = some (.int .i64 e.cls) ∧ w.cell? ⟨g, j * 11 + 3, none⟩ = some bv ∧
    w.cell? ⟨g, j * 11 + 4, none⟩ = some (.int .i64 e.ix) ∧ w.cell? ⟨g, j * 11 + 5, none⟩ = some (.int .i64 e.pos) ∧ w.cell? ⟨g, j * 11 + 6, none⟩ = some (.int .u8 e.val.toNat) ∧ w.cell? ⟨g, j * 11 + 7, none⟩ = some (.int .i64 e.keep) ∧
    w.cell? ⟨g, j * 11 + 8, none⟩ = some (.int .i64 e.torn) ∧ w.cell? ⟨g, j * 11 + 9, none⟩ = some (.bool e.on) ∧ w.cell? ⟨g, j * 11 + 10, none⟩ = some pv := by
  obtain ⟨g', cap', he, _, _, _, hc⟩ := h.cells hj
  simp only [Value.slice.injEq, Option.some.injEq, Addr.mk.injEq] at he
  obtain ⟨⟨rfl, _, _⟩, _, _⟩ := he
  exact ⟨hc 0 _ (by decide) rfl, hc 1 _ (by decide) rfl, hc 2 _ (by decide) rfl, hc 3 _ (by decide) rfl, hc 4 _ (by decide) rfl, hc 5 _ (by decide) rfl, hc 6 _ (by decide) rfl, hc 7 _ (by decide) rfl, hc 8 _ (by decide) rfl, hc 9 _ (by decide) rfl, hc 10 _ (by decide) rfl⟩
theorem builder_no {T e : TypeId} {B b : Nat} {bs : List Value} {w w' : World} (h : Lib.IsBuilderF T e B b bs w) (k : Keep No w w') : Lib.IsBuilderF T e B b bs w' := by
  rcases h with ⟨hB, v, h1, h2, h3⟩ | ⟨hB, v, h1, h2, h3⟩
  · refine .inl ⟨hB, v, k.heap h1 (fun e => e), ⟨h2.1, ?_⟩, h3⟩
    rcases h2.2 with h | ⟨g, cap, cur, fr, a1, a2, a3, a4⟩
    · exact .inl h
    · exact .inr ⟨g, cap, cur, fr, a1, a2, k.heap a3 (fun e => e), a4⟩
  · refine .inr ⟨hB, v, k.heap h1 (fun e => e), ⟨h2.1, ?_⟩, h3⟩
    rcases h2.2 with h | ⟨g, cap, cur, fr, a1, a2, a3, a4⟩
    · exact .inl h
    · exact .inr ⟨g, cap, cur, fr, a1, a2, k.heap a3 (fun e => e), a4⟩
theorem writeString_spec {w : World} {B b : Nat} (s t : List UInt8) (h : Lib.IsBuilderF 93 5 B b (Lib.byteCells s) w) (hl : s.length + t.length ≤ 1099511627776) (hB : B ≤ w.heap.size) :
    Calls Tryd.prog 48 #[.pointer (some ⟨b, 0, none⟩), strV t] w fun e w' => (∃ v, e = .returned v) ∧ Lib.IsBuilderF 93 5 B b (Lib.byteCells (s ++ t)) w' ∧ Below B w w' := by
  refine (Any.Builder_WriteString_k lays166 Tryd.Builder_Extra_156 B b (Lib.byteCells s) (strB t) w h (by rw [strB_size]; simp [Lib.byteCells]; omega) hB).mono ?_
  rintro e w' ⟨he, h1, h2, _⟩
  have e2 : Lib.byteCells s ++ Lib.strCells (strB t) = Lib.byteCells (s ++ t) := by simp [Lib.byteCells, Lib.strCells]
  rw [e2] at h1
  exact ⟨⟨_, he⟩, .inr h1, h2⟩
theorem builderString_spec {w : World} {B b : Nat} (s : List UInt8) (h : Lib.IsBuilderF 93 5 B b (Lib.byteCells s) w) (hB : B ≤ w.heap.size) :
    Calls Tryd.prog 49 #[.pointer (some ⟨b, 0, none⟩)] w fun e w' => e = .returned (strV s) ∧ Below B w w' := by
  refine (Any.Builder_String_any_k Tryd.lays169 Tryd.Builder_Extra_169 B b s w h hB).mono ?_
  rintro e w' ⟨he, h1, h2, _⟩
  exact ⟨he, h2⟩

theorem writeF_snoc (l : List EvS) (e : EvS) : writeF (l ++ [e]) = writeF l ++ (textF e ++ [10]) := by simp [writeF]
theorem writeF_len : ∀ (l : List EvS) (m : Nat), (∀ e ∈ l, (textF e).length ≤ m) → (writeF l).length ≤ l.length * (m + 1)
  | [], _, _ => by simp [writeF]
  | e :: r, m, h => by
    have h1 := writeF_len r m (fun x hx => h x (List.mem_cons_of_mem _ hx))
    have h2 := h e (List.mem_cons_self ..)
    have e1 : writeF (e :: r) = (textF e ++ [10]) ++ writeF r := rfl
    rw [e1, List.length_append, List.length_append, List.length_singleton, List.length_cons, Nat.add_mul]
    omega
set_option maxRecDepth 100000 in
set_option maxHeartbeats 2000000 in
theorem write_spec {base : Nat} {w : World} (hV : VarsAt w) {B : Nat} {v : Value} {its : List Item} (hr : EvRow base w B v its) (_hB : B ≤ w.heap.size) (hok : ∀ x ∈ its, EvOk x.1) (hn : its.length ≤ 1000) (hl : ∀ x ∈ its, (textF x.1).length ≤ 100000) :
    Calls Tryd.prog 27 #[v] w fun e w' => e = .returned (strV (writeF (its.map (·.1)))) ∧ Keep No w w' := by
  obtain ⟨vo, vc, rfl, hv1, hv2⟩ := row_form hr.row
  have hni : (its.length : Int) ≤ 1000 := by omega
  have hB0 : Lib.IsBuilderF 93 5 w.heap.size w.heap.size (Lib.byteCells (writeF [])) (w.alloc (.cells #[.pointer none, .slice none 0 0] 93)) :=
    .inl ⟨Nat.le_refl _, .slice none 0 0, heap_new _ _, ⟨rfl, .inl ⟨rfl, rfl⟩⟩, by simp [Value.ownBlock]⟩
  have HH := Lib.hid (And.intro hV (And.intro hr (And.intro hok (And.intro hn (And.intro hl (And.intro hv2 hB0))))))
  clear hV hr hok hl hv1 hv2 hB0 hn
  go_enter Tryd.func27, Tryd.ntmps27
  go_wp2_with fail
  go_loopw [8] (fun i wr => ∃ j : Nat, j ≤ its.length ∧ i = .int .i64 j ∧ Lib.IsBuilderF 93 5 w.heap.size w.heap.size (Lib.byteCells (writeF ((its.map (·.1)).take j))) wr ∧ Keep No w wr) (fun i _ => its.length - (intOf i).toNat)
  case atStart => exact ⟨0, Nat.zero_le _, rfl, HH.out.2.2.2.2.2.2, (Keep.refl _ _).alloc _⟩
  case round =>
    obtain ⟨j, hj, rfl, hb, hk⟩ := hrel
    by_cases hlt : j < its.length
    · obtain ⟨⟨e, bv, pv⟩, hx⟩ : ∃ x, its[j]? = some x := ⟨_, List.getElem?_eq_getElem hlt⟩
      have hrw := HH.out.2.1.no hk
      obtain ⟨g, cap, he, hgB, _, _, _⟩ := hrw.cells hx
      simp only [Value.slice.injEq] at he
      obtain ⟨rfl, _, rfl⟩ := he
      have hmem := List.mem_of_getElem? hx
      obtain ⟨hbb, hpp⟩ := hrw.bytes _ hmem
      simp only at hbb hpp
      obtain ⟨bo, bc, rfl⟩ := BytesAt.form (bn := noBan) hbb
      obtain ⟨po, pc, rfl⟩ := BytesAt.form (bn := noBan) hpp
      obtain ⟨e0, e1, e2, e3, e4, e5, e6, e7, e8, e9, e10⟩ := hrw.at hx
      have hlti : (j : Int) < (its.length : Int) := by omega
      have kA : Keep No wr (wr.alloc (.cells (evC e (.slice bo e.body.length bc) (.slice po e.p.length pc)) 27)) := (Keep.refl _ _).alloc _
      have ht := text_spec (bn := noBan) (HH.out.1.no (hk.then kA)) (BytesAt.no (bn := noBan) hbb kA) (BytesAt.no (bn := noBan) hpp kA) (HH.out.2.2.1 _ hmem)
      obtain ⟨T, hT⟩ : ∃ T, T = strB (textF e) := ⟨_, rfl⟩
      rw [show strV (textF e) = .string T by rw [hT]] at ht
      unfold evV at ht
      have hTl := HH.out.2.2.2.2.1 _ hmem
      have hTs : T.size ≤ 100000 := by rw [hT, strB_size]; exact hTl
      have hno : ¬ 9223372036854775807 < T.size + 1 := by omega
      have HB := Lib.hid (And.intro hb (And.intro hk (And.intro hx (And.intro hlt (And.intro hT kA)))))
      clear hb hk hx hrw hmem hbb hpp hT kA hTl hgB hj
      go_wp2_with fail
      refine ht.mono ?_
      rintro r W2 ⟨rfl, k2⟩
      have kA2 := HB.out.2.2.2.2.2.then k2
      have kw2 := HB.out.2.1.then kA2
      have hb2 := builder_no HB.out.1 kA2
      have hlen : (writeF ((its.map (·.1)).take j)).length ≤ 1000 * 100001 := by
        have h1 := writeF_len ((its.map (·.1)).take j) 100000 (fun e he => by
          obtain ⟨x, hx, rfl⟩ := List.mem_map.1 (List.mem_of_mem_take he)
          exact HH.out.2.2.2.2.1 x hx)
        have h2 : ((its.map (·.1)).take j).length ≤ 1000 := by simp; have := HH.out.2.2.2.1; omega
        exact Nat.le_trans h1 (Nat.mul_le_mul_right _ h2)
      have hws := writeString_spec _ (textF e ++ [10]) hb2 (by rw [List.length_append, List.length_singleton]; have h3 := strB_size (textF e); rw [← HB.out.2.2.2.2.1] at h3; omega) kw2.size
      rw [show strV (textF e ++ [10]) = .string (T ++ ⟨#[10]⟩) by rw [HB.out.2.2.2.2.1, strB_append]] at hws
      have htk : writeF ((its.map (·.1)).take j) ++ (textF e ++ [10]) = writeF ((its.map (·.1)).take (j + 1)) := by
        rw [← writeF_snoc]
        congr 1
        have h1 : (its.map (·.1))[j]? = some e := by rw [List.getElem?_map, HB.out.2.2.1]; rfl
        obtain ⟨h2, h3⟩ := List.getElem?_eq_some_iff.1 h1
        rw [List.take_succ_eq_append_getElem h2, h3]
      rw [htk] at hws
      have HC := Lib.hid kw2
      clear ht k2 kA2 kw2 hb2 hlen htk e0 e1 e2 e3 e4 e5 e6 e7 e8 e9 e10
      go_wp2_with fail
      refine hws.mono ?_
      rintro r W3 ⟨⟨v3, rfl⟩, hb3, kb3⟩
      clear hws
      go_wp2_with fail
      go_roundw
      case rel => exact ⟨j + 1, HB.out.2.2.2.1, by go_num, hb3, HC.out.trans (G := (w.heap.size ≤ ·)) ⟨kb3.os, kb3.tape, kb3.output, kb3.size, fun b _ hn => kb3.block b (by omega)⟩ (fun _ _ e => by omega)⟩
      case measure => have := HB.out.2.2.2.1; simp [intOf]; omega
    · obtain rfl : j = its.length := by omega
      rw [List.take_of_length_le (by simp)] at hb
      have hjj : ¬ (its.length : Int) < (its.length : Int) := by omega
      have hbs := builderString_spec _ hb hk.size
      have HC := Lib.hid hk
      clear hb hk hlt hj
      go_wp2_with fail
      refine hbs.mono ?_
      rintro r W3 ⟨rfl, kb3⟩
      clear hbs
      go_wp2_with fail
      go_ret
      exact ⟨rfl, HC.out.trans (G := (w.heap.size ≤ ·)) ⟨kb3.os, kb3.tape, kb3.output, kb3.size, fun b _ hn => kb3.block b (by omega)⟩ (fun _ _ e => by omega)⟩
end Go.Proofs.YtlbjkmpdakmgeaaDoor
