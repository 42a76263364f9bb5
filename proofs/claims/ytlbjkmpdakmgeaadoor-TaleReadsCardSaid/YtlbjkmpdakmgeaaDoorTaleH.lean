/- Package tale: bytes as words, lines of kinds. -/
import Derived.Test.YtlbjkmpdakmgeaaDoorTaleV
namespace Go.Proofs.YtlbjkmpdakmgeaaDoor
open Go Go.RowKit Go.Dr

theorem index_hex (d : Nat) (hd : d ≤ 15) (w : World) :
    (Instr.index 9 (.string hexS) (.int .u8 d)).run Tryd.prog w = .ok (.int .u8 (hexD d).toNat) w := by
  have : ∀ d : Fin 16, [48, 49, 50, 51, 52, 53, 54, 55, 56, 57, 97, 98, 99, 100, 101, 102][d.val]? = some (hexD d.val) := by decide
  have h := this ⟨d, by omega⟩
  simp only at h
  obtain ⟨hk, he⟩ := List.getElem?_eq_some_iff.1 h
  rw [run_index_string w 9 _ .u8 d (by kernel_rfl), dif_pos (by simp [ByteArray.size]; omega), ← he]
  rfl

def hexP (l : List UInt8) (k : Nat) : List UInt8 := (l.take k).flatMap hexB
theorem hexP_len (l : List UInt8) (k : Nat) : (hexP l k).length ≤ 2 * l.length := by
  unfold hexP
  rw [hexB_len]
  simp
  omega
theorem hexP_succ {l : List UInt8} {k : Nat} {x : UInt8} (h : l[k]? = some x) : hexP l (k + 1) = hexP l k ++ [hexD (x.toNat / 16), hexD (x.toNat % 16)] := by
  obtain ⟨hk, rfl⟩ := List.getElem?_eq_some_iff.1 h
  unfold hexP
  rw [List.take_succ_eq_append_getElem hk, List.flatMap_append]
  simp [hexB]
theorem hexP_all {l : List UInt8} (h : l ≠ []) : hexP l l.length = hexF l := by
  unfold hexP hexF
  rw [if_neg h, List.take_length]
theorem and15 (x : UInt8) : bits .and .u8 (x.toNat : Int) 15 = ((x.toNat % 16 : Nat) : Int) := by
  have : ∀ n : Fin 256, bits .and .u8 ((n.val : Nat) : Int) 15 = ((n.val % 16 : Nat) : Int) := by decide +kernel
  exact this ⟨x.toNat, x.toNat_lt⟩

theorem convert_bytes {w : World} {v : Value} {l : Bytes} (h : BytesAt (bn := noBan) 0 w v l) : (convert 23 9 v).run Tryd.prog w = .ok (strV l) w := by
  obtain ⟨ao, cap, rfl, hlc, hcm, hn, hcell⟩ := h
  rw [run_convert_bytes_string w _ _ 5 _ _ _ (by kernel_rfl) (by kernel_rfl) (by kernel_rfl)]
  have hfold : ∀ (m : List UInt8) (s : ByteArray), (m.map fun x : UInt8 => (x.toNat : Int)).foldl (fun r n => r.push (UInt8.ofNat n.toNat)) s = s ++ strB m := by
    intro m
    induction m with
    | nil => intro s; apply ByteArray.ext; simp
    | cons x m ih =>
      intro s
      rw [List.map_cons, List.foldl_cons, ih]
      apply ByteArray.ext
      simp [ByteArray.data_append]
  cases ao with
  | none =>
    obtain rfl : cap = 0 := hn rfl
    obtain rfl : l = [] := List.eq_nil_of_length_eq_zero (by omega)
    rfl
  | some ad =>
    rw [run_bytesToString w ad l.length cap (l.map fun x => (x.toNat : Int)), hfold]
    · rfl
    · have := run_loadCells_list (P := Tryd.prog) (w := w) ad (l.map u8v) (fun j v hj => by
        rw [List.getElem?_map] at hj
        cases hx : l[j]? with
        | none => rw [hx] at hj; cases hj
        | some x =>
          rw [hx] at hj
          cases hj
          obtain ⟨ad', e, _, hc⟩ := hcell j x hx
          cases e
          exact hc)
      rw [List.length_map] at this
      rw [this, List.map_map]
      rfl

set_option maxRecDepth 100000 in
set_option maxHeartbeats 400000 in
theorem hex_spec [bn : Inhabited Ban] {base : Nat} {w : World} {v : Value} {l : Bytes} (h : BytesAt base w v l) (hl : l.length ≤ 1000000) :
    Calls Tryd.prog 23 #[v] w fun e w' => e = .returned (strV (hexF l)) ∧ Keep No w w' := by
  obtain ⟨ao, cap, rfl, hlc, hcm, _, hcell⟩ := h
  unfold maxLen at hcm
  by_cases h0 : l = []
  · subst h0
    go_enter Tryd.func23, Tryd.ntmps23
    go_wp2
    go_ret
    exact ⟨rfl, Keep.refl _ _⟩
  · have hne : ((l.length : Int) == 0) = false := by
      have := List.length_pos_iff.2 h0
      simp
      omega
    have hln : (l.length : Int) ≤ 1000000 := by omega
    have H0 := Lib.hid h0
    clear h0 hcm hlc hl
    go_enter Tryd.func23, Tryd.ntmps23
    go_wp2
    go_loopw [3, 11] (fun v i wr => ∃ k : Nat, k ≤ l.length ∧ i = .int .i64 k ∧ OwnB wr w.heap.size v (hexP l k) ∧ Keep No w wr) (fun _ i _ => l.length - (intOf i).toNat)
    case atStart => exact ⟨0, Nat.zero_le _, rfl, OwnB.nil _ _, Keep.refl _ _⟩
    case round =>
      obtain ⟨k, hk, rfl, hown, hkp⟩ := hrel
      by_cases hlt : k < l.length
      · have hki : (k : Int) < (l.length : Int) := by omega
        have hlx : l[k]? = some l[k] := List.getElem?_eq_getElem hlt
        obtain ⟨ad, rfl, _, hx⟩ := hcell k l[k] hlx
        have hx := hkp.cell hx (fun e => e)
        generalize l[k] = x at *
        have hxl := x.toNat_lt
        unfold u8v at hx
        obtain ⟨p, q, hp, hq, hp1, hq1⟩ : ∃ p q : Nat, (x.toNat : Int) / 16 = (p : Int) ∧ (x.toNat : Int) % 16 = (q : Int) ∧ p ≤ 15 ∧ q ≤ 15 := ⟨x.toNat / 16, x.toNat % 16, by omega, by omega, by omega, by omega⟩
        have hand := and15 x
        have hs1 := fun W => index_hex p hp1 W
        have hs2 := fun W => index_hex q hq1 W
        have hsc := hexP_succ hlx
        rw [show x.toNat / 16 = p from by omega, show x.toNat % 16 = q from by omega] at hsc
        rw [show x.toNat % 16 = q from by omega] at hand
        rw [← hp] at hs1
        rw [← hand] at hs2
        have hsz := hexP_len l k
        have hlit := fun W : World => bytes_lit W [hexD p, hexD q] (by simp)
        simp only [List.map_cons, List.map_nil, u8v, List.length_cons, List.length_nil] at hlit
        have HS := Lib.hid (And.intro hsc (And.intro hlit hp))
        have hBs := hkp.size
        clear hsc hlit hlx hp hq hcell hand
        generalize hexD p = P at *
        generalize hexD q = R at *
        clear hp1 hq1
        go_wp2
        have hdr : Keep No wr (wr.alloc (.cells #[.int .u8 P.toNat, .int .u8 R.toNat] 5)).drew := ((Keep.refl No _).alloc _).drew
        refine wp_drawN (fun w' => Keep No wr w') [0, 1, 2, 3, 4, 5, 6] [7] [8, 9] (by kernel_rfl) (by kernel_rfl) (fun _ _ _ _ _ h => h) (Keep.refl _ _).drew ?_
        iterate 7 (refine earlyN_cons (v := ?_) rfl rfl rfl ?_ ?_; rotate_left; focus (
          intro w' hS
          go_simp
          try with_reducible rfl))
        refine earlyN_nil (midN_cons rfl rfl (fun K hK => ?_))
        go_simp
        refine hK _ _ hdr ?_
        clear hK K
        refine midN_nil (tailN_cons rfl (tailN_cons rfl (tailN_nil ?_)))
        refine wpList_append_bytes (bn := noBan) rfl _ _ rfl w.heap.size (OwnB.keep hown hdr (fun _ _ h => h)) (base := 0) (u := .slice (some ⟨wr.heap.size, 0, none⟩) 2 2) (m := [P, R]) (BytesAt.no (bn := noBan) (HS.out.2.1 wr) (Keep.refl _ _).drew) rfl rfl (by simp; omega) (by simp; omega) ?_
        intro v' w' hown' hk'
        go_wp2
        go_roundw
        case rel => exact ⟨k + 1, by omega, by go_num, by rw [HS.out.1]; exact hown', ((hkp.then hdr).trans hk' (fun b hb hbb => by have := (hown.lt b hbb).1; omega))⟩
        case measure => simp [intOf]; omega
      · have hki : ¬ (k : Int) < (l.length : Int) := by omega
        obtain rfl : k = l.length := by omega
        have HK := Lib.hid (hexP_all H0.out)
        have hcv := convert_bytes (hown.bytes (base := 0) (bn := noBan) (fun _ => Nat.zero_le _))
        generalize hexP l l.length = S at *
        clear hki hlt hk
        go_wp2
        go_ret
        exact ⟨by rw [HK.out]; rfl, hkp⟩

/-! ### The lines of kinds -/
def lineC (k : LineS) : List Value := [.int .u8 k.kind, strV k.name, strV k.parts]
def lineV (k : LineS) : Value := .agg #[.int .u8 k.kind, strV k.name, strV k.parts]
def linesC : Array Value := (linesF.flatMap lineC).toArray
theorem lines_spec (w : World) : Calls Tryd.prog 31 #[] w fun e w' => e = .returned (.slice (some ⟨w.heap.size, 0, none⟩) 12 12) ∧
    w' = w.alloc (.cells linesC 68) := by
  go_enter Tryd.func31, Tryd.ntmps31
  go_wp2
  go_ret
  exact ⟨rfl, rfl⟩
def lineAt (k : Nat) : LineS := linesF.getD k ⟨0, [], []⟩
theorem lineAt_drop : ∀ k : Nat, k < 12 → linesF.drop k = lineAt k :: linesF.drop (k + 1) := by
  intro k hk
  match k, hk with
  | 0, _ | 1, _ | 2, _ | 3, _ | 4, _ | 5, _ | 6, _ | 7, _ | 8, _ | 9, _ | 10, _ | 11, _ => rfl
theorem lineAt_mem {k : Nat} (hk : k < 12) : lineAt k ∈ linesF := by
  have : lineAt k ∈ linesF.drop k := by rw [lineAt_drop k hk]; exact List.mem_cons_self ..
  exact List.mem_of_mem_drop this
theorem linesC_at : ∀ k : Nat, k < 12 → linesC[k * 3]? = some (.int .u8 (lineAt k).kind) ∧ linesC[k * 3 + 1]? = some (strV (lineAt k).name) ∧ linesC[k * 3 + 2]? = some (strV (lineAt k).parts) := by
  intro k hk
  match k, hk with
  | 0, _ | 1, _ | 2, _ | 3, _ | 4, _ | 5, _ | 6, _ | 7, _ | 8, _ | 9, _ | 10, _ | 11, _ => exact ⟨rfl, rfl, rfl⟩
theorem lines_cells {w : World} {g : Nat} {fr : Nat × Nat} (h : w.heap[g]? = some (.cells linesC 68 fr)) {k : Nat} (hk : k < 12) :
    w.cell? ⟨g, k * 3, none⟩ = some (.int .u8 (lineAt k).kind) ∧ w.cell? ⟨g, k * 3 + 1, none⟩ = some (strV (lineAt k).name) ∧ w.cell? ⟨g, k * 3 + 2, none⟩ = some (strV (lineAt k).parts) := by
  have := linesC_at k hk
  rw [cell_of h, cell_of h, cell_of h]
  exact this
end Go.Proofs.YtlbjkmpdakmgeaaDoor
