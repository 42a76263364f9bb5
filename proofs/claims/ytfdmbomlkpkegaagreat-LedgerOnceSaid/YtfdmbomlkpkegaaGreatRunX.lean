/- Sets of numbers in memory: runs that nobody writes over; find. Has, Gap, Same. Rows of runs of one's own; Concat. -/
import Derived.Test.YtfdmbomlkpkegaaGreatRunP
import Derived.Test.YtfdmbomlkpkegaaGreatFound
import Derived.Test.YtfdmbomlkpkegaaGreatLogX
import Derived.Test.YtfdmbomlkpkegaaGreatWinP

/-! ## RunM -/
namespace Go.Proofs.YtfdmbomlkpkegaaGreat
open Go Go.RowKit

def RunBlock (w : World) (b : Nat) : Prop := ∃ cs fr, w.heap[b]? = some (.cells cs 96 fr)
/-- A slice of runs. -/
def RunsAt (w : World) (v : Value) (l : List RunN) : Prop :=
  ∃ ao cap, v = .slice ao l.length cap ∧ l.length ≤ cap ∧ cap ≤ maxLen ∧ (ao = none → cap = 0) ∧ (cap ≠ 0 → ∃ g o, ao = some ⟨g, o, none⟩ ∧ RunBlock w g ∧
    ∀ (i : Nat) r, l[i]? = some r → w.cell? ⟨g, o + i * 2, none⟩ = some (.int .u64 r.1) ∧ w.cell? ⟨g, o + i * 2 + 1, none⟩ = some (.int .u64 r.2))
/-- Who writes to no block of runs. -/
def FootR (w : World) (F : Nat → Prop) : Prop := ∀ b, F b → ¬ RunBlock w b
theorem FootR.no (w : World) : FootR w No := fun _ h => h.elim
theorem RunBlock.keep {w w' : World} {F : Nat → Prop} {b : Nat} (h : RunBlock w b) (hF : FootR w F) (k : Keep F w w') : RunBlock w' b := by
  obtain ⟨cs, fr, hb⟩ := h
  exact ⟨cs, fr, k.heap hb (fun hf => hF b hf ⟨cs, fr, hb⟩)⟩
theorem RunsAt.keep {w w' : World} {v : Value} {l : List RunN} {F : Nat → Prop} (h : RunsAt w v l) (hF : FootR w F) (k : Keep F w w') : RunsAt w' v l := by
  obtain ⟨ao, cap, h1, h2, h3, h4, h5⟩ := h
  refine ⟨ao, cap, h1, h2, h3, h4, fun hc => ?_⟩
  obtain ⟨g, o, e, hb, hr⟩ := h5 hc
  have hn : ¬ F g := fun hf => hF g hf hb
  exact ⟨g, o, e, hb.keep hF k, fun i r hi => ⟨k.cell (hr i r hi).1 hn, k.cell (hr i r hi).2 hn⟩⟩
theorem RunsAt.no {w w' : World} {v : Value} {l : List RunN} (h : RunsAt w v l) (k : Keep No w w') : RunsAt w' v l := h.keep (FootR.no _) k
theorem RunsAt.nil (w : World) : RunsAt w (.slice none 0 0) [] := ⟨none, 0, rfl, Nat.le_refl _, by decide, fun _ => rfl, fun h => absurd rfl h⟩
theorem RunsAt.form {w : World} {v : Value} {l : List RunN} (h : RunsAt w v l) : ∃ ao cap, v = .slice ao l.length cap ∧ l.length ≤ cap ∧ cap ≤ maxLen := by
  obtain ⟨ao, cap, h1, h2, h3, _⟩ := h
  exact ⟨ao, cap, h1, h2, h3⟩
theorem RunsAt.row {w : World} {ao : Option Addr} {n cap : Nat} {l : List RunN} (h : RunsAt w (.slice ao n cap) l) (hl : l ≠ []) : ∃ g o, ao = some ⟨g, o, none⟩ ∧
    ∀ (i : Nat) r, l[i]? = some r → w.cell? ⟨g, o + i * 2, none⟩ = some (.int .u64 r.1) ∧ w.cell? ⟨g, o + i * 2 + 1, none⟩ = some (.int .u64 r.2) := by
  obtain ⟨ao', cap', h1, h2, h3, h4, h5⟩ := h
  simp only [Value.slice.injEq] at h1
  obtain ⟨rfl, rfl, rfl⟩ := h1
  have := List.length_pos_iff.2 hl
  obtain ⟨g, o, e, _, hr⟩ := h5 (by omega)
  exact ⟨g, o, e, hr⟩

/-- The closure of find. -/
theorem findf_spec {w : World} {bs bnn g o n cap i : Nat} {x y : Nat} (hs : w.cell? ⟨bs, 0, none⟩ = some (.slice (some ⟨g, o, none⟩) n cap)) (hn : w.cell? ⟨bnn, 0, none⟩ = some (.int .u64 x)) (hi : i < n)
    (hc : w.cell? ⟨g, o + i * 2 + 1, none⟩ = some (.int .u64 y)) :
    Calls Tryz.prog 188 #[.int .i64 i, .pointer (some ⟨bs, 0, none⟩), .pointer (some ⟨bnn, 0, none⟩)] w fun e w' => e = .returned (.bool (decide (x ≤ y))) ∧ Keep No w w' := by
  have hiz : (i : Int) < (n : Int) := by omega
  go_enter Tryz.func188, Tryz.ntmps188
  go_wp2_with fail
  go_quiet (fail)
  go_wp2_with fail
  go_ret
  exact ⟨by simp, (Keep.refl _ _).drewN _⟩
/-- sort.Search: of a question that is answered by yes from some place on. -/
theorem search_spec {w : World} {gf : Nat} {cb : Array Value} {n k : Nat} {p : Nat → Bool} (eg : ∀ args w, (callFunc gf args).run Tryz.prog w = .ok (.enter gf args) w) (hn : n ≤ 1099511627776)
    (hf : ∀ (w' : World), Keep No w w' → ∀ (i : Nat), i < n → Calls Tryz.prog gf (#[.int .i64 i] ++ cb) w' fun e w2 => e = .returned (.bool (p i)) ∧ Keep No w' w2)
    (hk : k ≤ n) (h1 : ∀ i, i < k → p i = false) (h2 : ∀ i, k ≤ i → i < n → p i = true) :
    Calls Tryz.prog 187 #[.int .i64 n, .func (.func gf) #[] cb] w fun e w' => e = .returned (.int .i64 k) ∧ Keep No w w' := by
  have HF := Lib.hid (And.intro hf (And.intro h1 (And.intro h2 hk)))
  clear hf h1 h2 hk
  go_enter Tryz.func187, Tryz.ntmps187
  go_wp2_with fail
  go_loopw [5, 6] (fun lo hi wr => ∃ (a b : Nat), lo = .int .i64 a ∧ hi = .int .i64 b ∧ a ≤ k ∧ k ≤ b ∧ b ≤ n ∧ Keep No w wr) (fun lo hi _ => (intOf hi).toNat - (intOf lo).toNat)
  case atStart => exact ⟨0, n, rfl, rfl, Nat.zero_le _, HF.out.2.2.2, Nat.le_refl _, Keep.refl _ _⟩
  case round =>
    obtain ⟨a, b, rfl, rfl, ha, hb, hbn, hkp⟩ := hrel
    have HR := Lib.hid (And.intro ha (And.intro hb (And.intro hbn hkp)))
    by_cases hlt : a < b
    · have hc := HF.out.1 wr hkp ((a + b) / 2) (by omega)
      rw [show (((a + b) / 2 : Nat) : Int) = ((a : Int) + (b : Int)) / 2 by omega] at hc
      have hlti : (a : Int) < (b : Int) := by omega
      have hai : (a : Int) ≤ 1099511627776 := by omega
      have hbi : (b : Int) ≤ 1099511627776 := by omega
      cases hp : p ((a + b) / 2)
      · rw [hp] at hc
        have hmk : (a + b) / 2 < k := by
          rcases Nat.lt_or_ge ((a + b) / 2) k with h | h
          · exact h
          · have := HF.out.2.2.1 _ h (by omega); rw [hp] at this; cases this
        have HM := Lib.hid hmk
        clear hp hmk hlt ha hb hbn hkp
        go_wp2_with (go_at_fn gf; refine hc.mono ?_; rintro e w' ⟨rfl, k2⟩)
        go_roundw
        case rel => exact ⟨(a + b) / 2 + 1, b, by (congr 1 <;> omega), rfl, by have := HM.out; omega, HR.out.2.1, HR.out.2.2.1, HR.out.2.2.2.then k2⟩
        case measure => simp [intOf]; omega
      · rw [hp] at hc
        have hmk : k ≤ (a + b) / 2 := by
          rcases Nat.lt_or_ge ((a + b) / 2) k with h | h
          · have := HF.out.2.1 _ h; rw [hp] at this; cases this
          · exact h
        have HM := Lib.hid (And.intro hmk hlt)
        clear hp hmk hlt ha hb hbn hkp
        go_wp2_with (go_at_fn gf; refine hc.mono ?_; rintro e w' ⟨rfl, k2⟩)
        go_roundw
        case rel => exact ⟨a, (a + b) / 2, rfl, by congr 1, HR.out.1, HM.out.1, by have := HR.out.2.2.1; have := HM.out.2; omega, HR.out.2.2.2.then k2⟩
        case measure => have := HM.out.2; simp [intOf]; omega
    · have he : a = k := by omega
      have hlti : ¬ (a : Int) < (b : Int) := by omega
      clear ha hb hbn hkp hlt
      subst he
      go_wp2_with fail
      go_ret
      exact ⟨rfl, HR.out.2.2.2⟩
theorem findR_false {l : List RunN} {n i : Nat} {r : RunN} (hi : i < findR l n) (hr : l[i]? = some r) : decide (n ≤ r.2) = false := by
  obtain ⟨hl, rfl⟩ := List.getElem?_eq_some_iff.1 hr
  have := List.not_of_lt_findIdx (p := fun r : RunN => decide (n ≤ r.2)) hi
  simpa using this
theorem findR_true {l : List RunN} (h : RSet l) {n i : Nat} {r : RunN} (hi : findR l n ≤ i) (hr : l[i]? = some r) : decide (n ≤ r.2) = true := by
  obtain ⟨hl, rfl⟩ := List.getElem?_eq_some_iff.1 hr
  have hlt : findR l n < l.length := by omega
  have h0 := findR_at h _ (List.getElem?_eq_getElem hlt)
  rcases Nat.lt_or_ge (findR l n) i with hij | hij
  · have := List.pairwise_iff_getElem.1 h.gap _ i hlt hl hij
    have := h.run _ (List.getElem_mem hl)
    simp
    omega
  · have e : findR l n = i := by omega
    simp only [e] at h0
    simpa using h0.1
set_option maxHeartbeats 1000000 in
theorem rFind_spec {w : World} {v : Value} {l : List RunN} (h : RunsAt w v l) (hs : RSet l) (n : Nat) (hl : l.length ≤ 1099511627776) :
    Calls Tryz.prog 136 #[.agg #[v], .int .u64 n] w fun e w' => e = .returned (.int .i64 (findR l n)) ∧ Keep No w w' := by
  obtain ⟨ao, cap, rfl, hc, hm⟩ := h.form
  obtain ⟨W, hW⟩ : ∃ W, W = (w.alloc (.cells #[.slice ao l.length cap] 90)).alloc (.cells #[.int .u64 n] 27) := ⟨_, rfl⟩
  have hsz : (w.alloc (.cells #[.slice ao l.length cap] 90)).heap.size = w.heap.size + 1 := by simp
  have kW : Keep No w W := by rw [hW]; exact ((Keep.refl _ _).alloc _).alloc _
  have hA : W.heap[w.heap.size]? = some (.cells #[.slice ao l.length cap] 90 (0, 0)) := by
    rw [hW]
    exact ((Keep.refl No _).alloc _).heap (heap_new _ _) (fun e => e)
  have hB : W.heap[w.heap.size + 1]? = some (.cells #[.int .u64 n] 27 (0, 0)) := by
    rw [hW, ← hsz]
    exact heap_new _ _
  have hsr := search_spec (w := W) (gf := 188) (cb := #[.pointer (some ⟨w.heap.size, 0, none⟩), .pointer (some ⟨w.heap.size + 1, 0, none⟩)]) (n := l.length) (k := findR l n)
    (p := fun i => match l[i]? with | none => false | some r => decide (n ≤ r.2)) (enters_of Tryz.func188 (by kernel_rfl) rfl) hl (fun w' k i hi => by
      have hi' : l[i]? = some l[i] := List.getElem?_eq_getElem hi
      obtain ⟨g, o, rfl, hr⟩ := h.row (fun e => by subst e; simp at hi)
      have hc := (hr i _ hi').2
      have a1 := k.cell (cell_of hA 0) (fun e => e)
      have b1 := k.cell (cell_of hB 0) (fun e => e)
      have := findf_spec (w := w') (bs := w.heap.size) (bnn := w.heap.size + 1) (n := l.length) (cap := cap) (x := n) a1 b1 hi ((kW.then k).cell hc (fun e => e))
      rw [hi']
      exact this) (findR_le l n) (fun i hi => by
      have hlt : i < l.length := Nat.lt_of_lt_of_le hi (findR_le l n)
      rw [List.getElem?_eq_getElem hlt]
      exact findR_false hi (List.getElem?_eq_getElem hlt)) (fun i h1 h2 => by
      rw [List.getElem?_eq_getElem h2]
      exact findR_true hs h1 (List.getElem?_eq_getElem h2))
  have c0 := cell_of hA 0
  simp at c0
  have HH := Lib.hid kW
  clear hA hB kW h hs hsz hl hc hm
  go_enter Tryz.func136, Tryz.ntmps136
  go_wp2_with fail
  rw [← hW]
  go_wp2_with fail
  refine hsr.mono ?_
  rintro e w' ⟨rfl, k2⟩
  go_wp2_with fail
  go_ret
  exact ⟨rfl, HH.out.then k2⟩
end Go.Proofs.YtfdmbomlkpkegaaGreat

/-! ## RunN -/
namespace Go.Proofs.YtfdmbomlkpkegaaGreat
open Go Go.RowKit

theorem find_none {l : List RunN} {n : Nat} (h : l[findR l n]? = none) : findR l n = l.length := by
  have h1 := findR_le l n
  have h2 := List.getElem?_eq_none_iff.1 h
  omega
theorem find_some {l : List RunN} {n : Nat} {r : RunN} (h : l[findR l n]? = some r) : findR l n < l.length := (List.getElem?_eq_some_iff.1 h).1
set_option maxHeartbeats 1000000 in
theorem rHas_spec {w : World} {v : Value} {l : List RunN} (h : RunsAt w v l) (hs : RSet l) (n : Nat) (hl : l.length ≤ 1099511627776) :
    Calls Tryz.prog 91 #[.agg #[v], .int .u64 n] w fun e w' => e = .returned (.bool (hasB l n)) ∧ Keep No w w' := by
  obtain ⟨ao, cap, rfl, hc, hm⟩ := h.form
  obtain ⟨W, hW⟩ : ∃ W, W = w.alloc (.cells #[.slice ao l.length cap] 90) := ⟨_, rfl⟩
  have kW : Keep No w W := by rw [hW]; exact (Keep.refl _ _).alloc _
  have hA : W.heap[w.heap.size]? = some (.cells #[.slice ao l.length cap] 90 (0, 0)) := by rw [hW]; exact heap_new _ _
  have hf := rFind_spec (h.no kW) hs n hl
  have c0 := cell_of hA 0
  simp at c0
  cases hr : l[findR l n]? with
  | none =>
    have e : hasB l n = false := by unfold hasB; rw [hr]
    rw [find_none hr] at hf
    have HH := Lib.hid kW
    rw [e]
    clear hA kW h hs hl hc hm e hr
    go_enter Tryz.func91, Tryz.ntmps91
    go_wp2_with fail
    rw [← hW]
    go_wp2_with fail
    refine hf.mono ?_
    rintro e w' ⟨rfl, k2⟩
    have c1 := k2.cell c0 (fun e => e)
    go_wp2_with fail
    go_ret
    exact ⟨rfl, HH.out.then k2⟩
  | some r =>
    have e : hasB l n = decide (r.1 ≤ n) := by unfold hasB; rw [hr]
    have hk := find_some hr
    obtain ⟨g, o, rfl, hrow⟩ := h.row (fun e => by subst e; simp at hr)
    have hcell := kW.cell (hrow _ _ hr).1 (fun e => e)
    obtain ⟨k, hke⟩ : ∃ k, k = findR l n := ⟨_, rfl⟩
    rw [← hke] at hf hk hcell
    have hki : (k : Int) < (l.length : Int) := by omega
    have HH := Lib.hid kW
    rw [e]
    clear hA kW h hs hl hc hm e hr hrow hke hk
    go_enter Tryz.func91, Tryz.ntmps91
    go_wp2_with fail
    rw [← hW]
    go_wp2_with fail
    refine hf.mono ?_
    rintro e w' ⟨rfl, k2⟩
    have c1 := k2.cell c0 (fun e => e)
    have c2 := k2.cell hcell (fun e => e)
    go_wp2_with fail
    go_ret
    exact ⟨by simp, HH.out.then k2⟩
set_option maxHeartbeats 1000000 in
/-- Gap, where there is one. -/
theorem rGap_spec {w : World} {v : Value} {l : List RunN} (h : RunsAt w v l) (hs : RSet l) (n m : Nat) (hl : l.length ≤ 1099511627776) (hg : gapR l n = some m) :
    Calls Tryz.prog 168 #[.agg #[v], .int .u64 n] w fun e w' => e = .returned (.tuple #[.int .u64 m, .bool true]) ∧ Keep No w w' := by
  obtain ⟨ao, cap, rfl, hc, hm⟩ := h.form
  obtain ⟨W, hW⟩ : ∃ W, W = w.alloc (.cells #[.slice ao l.length cap] 90) := ⟨_, rfl⟩
  have kW : Keep No w W := by rw [hW]; exact (Keep.refl _ _).alloc _
  have hA : W.heap[w.heap.size]? = some (.cells #[.slice ao l.length cap] 90 (0, 0)) := by rw [hW]; exact heap_new _ _
  have hf := rFind_spec (h.no kW) hs n hl
  have c0 := cell_of hA 0
  simp at c0
  unfold gapR at hg
  cases hr : l[findR l n]? with
  | none =>
    rw [hr] at hg
    simp at hg
    subst hg
    rw [find_none hr] at hf
    have HH := Lib.hid kW
    clear hA kW h hs hl hc hm hr
    go_enter Tryz.func168, Tryz.ntmps168
    go_wp2_with fail
    rw [← hW]
    go_wp2_with fail
    refine hf.mono ?_
    rintro e w' ⟨rfl, k2⟩
    have c1 := k2.cell c0 (fun e => e)
    go_wp2_with fail
    go_ret2
    exact ⟨rfl, HH.out.then k2⟩
  | some r =>
    rw [hr] at hg
    simp only at hg
    have hk := find_some hr
    obtain ⟨g, o, rfl, hrow⟩ := h.row (fun e => by subst e; simp at hr)
    have hcell := kW.cell (hrow _ _ hr).1 (fun e => e)
    have hcell2 := kW.cell (hrow _ _ hr).2 (fun e => e)
    have hr2 := (hs.run r (findR_mem hr)).2
    obtain ⟨k, hke⟩ : ∃ k, k = findR l n := ⟨_, rfl⟩
    rw [← hke] at hf hk hcell hcell2
    have hki : (k : Int) < (l.length : Int) := by omega
    have hkn : ((k : Int) == (l.length : Int)) = false := by simp; omega
    have HH := Lib.hid kW
    by_cases hlt : n < r.1
    · rw [if_pos hlt] at hg
      simp at hg
      subst hg
      have hlti : (n : Int) < (r.1 : Int) := by omega
      clear hA kW h hs hl hc hm hr hrow hke hk hlt hr2
      go_enter Tryz.func168, Tryz.ntmps168
      go_wp2_with fail
      rw [← hW]
      go_wp2_with fail
      refine hf.mono ?_
      rintro e w' ⟨rfl, k2⟩
      have c1 := k2.cell c0 (fun e => e)
      have c2 := k2.cell hcell (fun e => e)
      go_wp2_with fail
      go_ret2
      exact ⟨rfl, HH.out.then k2⟩
    · rw [if_neg hlt] at hg
      split at hg
      · cases hg
      · rename_i hne
        simp at hg
        have hlti : ¬ (n : Int) < (r.1 : Int) := by omega
        have hne2 : ((r.2 : Int) == 18446744073709551615) = false := by simp; omega
        have hw : IntKind.u64.wrap ((r.2 : Int) + 1) = (m : Int) := by rw [wraps_u64 _ (by omega) (by omega)]; omega
        clear hA kW h hs hl hc hm hr hrow hke hk hlt hr2 hne hg
        go_enter Tryz.func168, Tryz.ntmps168
        go_wp2_with fail
        rw [← hW]
        go_wp2_with fail
        refine hf.mono ?_
        rintro e w' ⟨rfl, k2⟩
        have c1 := k2.cell c0 (fun e => e)
        have c2 := k2.cell hcell (fun e => e)
        have c3 := k2.cell hcell2 (fun e => e)
        go_wp2_with fail
        go_ret2
        exact ⟨rfl, HH.out.then k2⟩
end Go.Proofs.YtfdmbomlkpkegaaGreat

/-! ## RunO -/
namespace Go.Proofs.YtfdmbomlkpkegaaGreat
open Go Go.RowKit

def runCell (r : RunN) : List Value := [.int .u64 r.1, .int .u64 r.2]
def runCells (l : List RunN) : List Value := l.flatMap runCell
theorem runCells_append (l m : List RunN) : runCells (l ++ m) = runCells l ++ runCells m := by simp [runCells]
theorem runCells_length (l : List RunN) : (runCells l).length = l.length * 2 := by
  induction l with
  | nil => rfl
  | cons x l ih => simp only [runCells, List.flatMap_cons, List.length_append, List.length_cons] at ih ⊢; rw [ih]; simp [runCell]; omega
theorem runCells_at : ∀ {l : List RunN} {i : Nat} {r : RunN}, l[i]? = some r → (runCells l)[i * 2]? = some (.int .u64 r.1) ∧ (runCells l)[i * 2 + 1]? = some (.int .u64 r.2)
  | [], i, r, h => by simp at h
  | x :: l, 0, r, h => by
    simp at h
    subst h
    exact ⟨rfl, rfl⟩
  | x :: l, i + 1, r, h => by
    obtain ⟨h1, h2⟩ := runCells_at (l := l) (i := i) (r := r) (by simpa using h)
    have e : runCells (x :: l) = .int .u64 x.1 :: .int .u64 x.2 :: runCells l := rfl
    rw [e, show (i + 1) * 2 = i * 2 + 1 + 1 by omega, show i * 2 + 1 + 1 + 1 = (i * 2 + 1) + 1 + 1 by omega]
    simp only [List.getElem?_cons_succ]
    exact ⟨h1, h2⟩
theorem runCells_one (l : List RunN) : ∀ u ∈ runCells l, u.oneCell' = true := by
  intro u hu
  obtain ⟨r, _, hr⟩ := List.mem_flatMap.1 hu
  simp [runCell] at hr
  rcases hr with rfl | rfl <;> rfl
/-- Which run a cell is of. -/
theorem runCells_of {l : List RunN} {j : Nat} {u : Value} (h : (runCells l)[j]? = some u) : ∃ r, l[j / 2]? = some r ∧ (u = if j % 2 = 0 then .int .u64 r.1 else .int .u64 r.2) := by
  have hlt := (List.getElem?_eq_some_iff.1 h).1
  rw [runCells_length] at hlt
  have hr : l[j / 2]? = some l[j / 2] := List.getElem?_eq_getElem (by omega)
  obtain ⟨h1, h2⟩ := runCells_at hr
  refine ⟨_, hr, ?_⟩
  by_cases hj : j % 2 = 0
  · rw [if_pos hj]
    rw [show j / 2 * 2 = j by omega, h] at h1
    exact Option.some.inj h1
  · rw [if_neg hj]
    rw [show j / 2 * 2 + 1 = j by omega, h] at h2
    exact Option.some.inj h2
def OwnR (w : World) (B : Nat) (v : Value) (l : List RunN) : Prop := w.ownsRow B 96 2 v l.length (runCells l)
theorem OwnR.nil (w : World) (B : Nat) : OwnR w B (.slice none 0 0) [] := World.ownsRow_nil _ _ _ _
theorem OwnR.runs {w : World} {B : Nat} {v : Value} {l : List RunN} (h : OwnR w B v l) : RunsAt w v l := by
  rcases h.2 with ⟨rfl, h0⟩ | ⟨g, cap, cur, rfl, hb, hg, h1, h2, h3, h4⟩
  · obtain rfl : l = [] := List.eq_nil_of_length_eq_zero h0
    exact RunsAt.nil _
  · refine ⟨_, cap, rfl, h1, h2, fun e => (by cases e), fun _ => ⟨g, 0, rfl, ⟨_, _, hg⟩, fun i r hi => ?_⟩⟩
    have hlt := (List.getElem?_eq_some_iff.1 hi).1
    obtain ⟨a1, a2⟩ := runCells_at hi
    rw [← h4, List.getElem?_take] at a1 a2
    rw [if_pos (by omega)] at a1 a2
    rw [cell_of hg, cell_of hg]
    simp only [Nat.zero_add]
    exact ⟨by simpa using a1, by simpa using a2⟩
theorem OwnR.form {w : World} {B : Nat} {v : Value} {l : List RunN} (h : OwnR w B v l) : ∃ ao cap, v = .slice ao l.length cap ∧ l.length ≤ cap ∧ cap ≤ maxLen := row_form h
theorem OwnR.lt {w : World} {B : Nat} {v : Value} {l : List RunN} (h : OwnR w B v l) : ∀ b, v.ownBlock = some b → B ≤ b ∧ b < w.heap.size := World.ownsRow.lt h
theorem OwnR.keep {w w' : World} {B : Nat} {v : Value} {l : List RunN} {F : Nat → Prop} (h : OwnR w B v l) (k : Keep F w w') (hF : ∀ b, v.ownBlock = some b → ¬ F b) : OwnR w' B v l := row_keep h k hF
theorem info_run : (Tryz.prog.info? 96).map (fun i => (i.zero, i.size, i.bytes)) = some (some (.agg #[.int .u64 0, .int .u64 0]), 2, 16) := by kernel_rfl
theorem run_append_runs {w : World} (ty : TypeId) {B : Nat} {v u : Value} {l m : List RunN} (hown : OwnR w B v l) (hsrc : RunsAt w u m) (hlen : l.length + m.length ≤ 1099511627776) (hB : B ≤ w.heap.size) :
    ∃ v' w', (Builtin.append_ #[67, 67] ty #[v, u]).run Tryz.prog w = .ok v' w' ∧ OwnR w' B v' (l ++ m) ∧ Keep (fun b => v.ownBlock = some b) w w' := by
  obtain ⟨i0, hi, hz0, hz1, hz2⟩ := info_parts info_run
  obtain ⟨ao, cap, rfl, hc, hm, hn, hcell⟩ := hsrc
  cases ao with
  | none =>
    obtain rfl := hn rfl
    have hm0 : m = [] := List.eq_nil_of_length_eq_zero (by omega)
    subst hm0
    have hrun := run_append_owned_none (P := Tryz.prog) w B 67 ty 96 i0 2 Tryz.underlying67 hi v l.length (runCells l) hown
    exact ⟨v, w, hrun, by rw [List.append_nil]; exact hown, Keep.refl _ _⟩
  | some ad =>
    obtain ⟨v', w', hrun, h1, h2, _⟩ := run_append_own (P := Tryz.prog) w B 67 ty 96 i0 _ 2 16 Tryz.underlying67 hi hz0 hz1 hz2 rfl (by decide) v l.length (runCells l) hown
      ad m.length cap (runCells m) (runCells_length m) (fun j y hj => by
        obtain ⟨r, hr, hy⟩ := runCells_of hj
        have hlt := (List.getElem?_eq_some_iff.1 hr).1
        obtain ⟨g, o, e, _, hrow⟩ := hcell (by omega)
        simp only [Option.some.injEq] at e
        subst e
        obtain ⟨c1, c2⟩ := hrow _ _ hr
        have ea : (⟨g, o, none⟩ : Addr).add j = ⟨g, o + j, none⟩ := by simp [Addr.add]
        rw [ea, hy]
        by_cases hj2 : j % 2 = 0
        · rw [show o + j / 2 * 2 = o + j by omega] at c1
          rw [if_pos hj2]
          exact c1
        · rw [show o + j / 2 * 2 + 1 = o + j by omega] at c2
          rw [if_neg hj2]
          exact c2) (runCells_one m) (by unfold maxLen; omega) (by omega) hB
    refine ⟨v', w', hrun, ?_, (Keep.refl _ w).grown h2 (fun k hk => .inl hk)⟩
    unfold OwnR
    rw [List.length_append, runCells_append]
    exact h1
theorem wp_append_runs {w : World} {o : Oper} {a : Act} {K : Act → World → Prop} {Q : Exit → Act → World → Prop} (s x : Operand)
    (ho : o.op = Op.call { callee := Callee.builtin Builtin.append, args := #[s, x], argTypes := #[67, 67] })
    {B : Nat} {v u : Value} {l m : List RunN} (hown : OwnR w B v l) (hsrc : RunsAt w u m) (hs : a.eval s = v) (hx : a.eval x = u) (hlen : l.length + m.length ≤ 1099511627776) (hB : B ≤ w.heap.size)
    (hK : ∀ v' w', OwnR w' B v' (l ++ m) → Keep (fun b => v.ownBlock = some b) w w' → K (a.put o.dst v') w') : o.wp Tryz.prog a w K Q := by
  obtain ⟨v', w', hr, h1, h2⟩ := run_append_runs o.type hown hsrc hlen hB
  unfold Oper.wp execOp
  simp only [ho, resolve, invoke, builtin, Sem.run_bind, Sem.run_pure, Result.andThen_ok, List.map_toArray, List.map_cons, List.map_nil, hs, hx, hr]
  exact hK _ _ h1 h2
theorem wpList_append_runs {w : World} {ops : Array Oper} {rest : List Oper} {o : Oper} {a : Act} {Q : Exit → Act → World → Prop}
    (hg : o.guard = none) (s x : Operand) (hop : o.op = Op.call { callee := Callee.builtin Builtin.append, args := #[s, x], argTypes := #[67, 67] })
    {B : Nat} {v u : Value} {l m : List RunN} (hown : OwnR w B v l) (hsrc : RunsAt w u m) (hs : a.eval s = v) (hx : a.eval x = u) (hlen : l.length + m.length ≤ 1099511627776) (hB : B ≤ w.heap.size)
    (hK : ∀ v' w', OwnR w' B v' (l ++ m) → Keep (fun b => v.ownBlock = some b) w w' → wpList Tryz.prog ops Q rest (a.put o.dst v') w') :
    wpList Tryz.prog ops Q (o :: rest) a w :=
  wpList_plain hg fun _K hK' => wp_append_runs s x hop hown hsrc hs hx hlen hB (fun v' w' h1 h2 => hK' _ _ (hK v' w' h1 h2))

set_option maxRecDepth 100000 in
/-- slices.Grow of a nil slice. -/
theorem rGrow_spec {w : World} {B : Nat} (n : Nat) (hn : n ≤ 1099511627776) (hB : B ≤ w.heap.size) :
    Calls Tryz.prog 215 #[.slice none 0 0, .int .i64 n] w fun e w' => ∃ v', e = .returned v' ∧ OwnR w' B v' [] ∧ Keep No w w' := by
  obtain ⟨i0, hi, hz0, hz1, hz2⟩ := info_parts info_run
  by_cases h0 : n = 0
  · subst h0
    go_enter Tryz.func215, Tryz.ntmps215
    go_wp2
    go_ret
    exact ⟨_, rfl, OwnR.nil _ _, Keep.refl _ _⟩
  · have hp : (0 : Int) < (n : Int) := by omega
    have hb : (n : Int) ≤ 1099511627776 := by omega
    have hrun := fun ty => Lib.run_append_nil_zeros (P := Tryz.prog) w 67 3 ty 96 i0 _ .i64 .i64 Tryz.underlying67 Tryz.underlying3 hi hz0 n (by omega) (by omega) (by omega) (by rw [hz2]; omega)
    have hc := grownCap_ge w n 0 96
    have hm := grownCap_le_maxLen w n 0 96 (by unfold maxLen; omega)
    generalize grownCap w n 0 96 = cap at hrun hc hm
    obtain ⟨cs, hcs⟩ : ∃ cs, cs = Builtin.zeroCells (Value.agg #[.int .u64 0, .int .u64 0]).cells n ++ Builtin.zeroCells (Value.agg #[.int .u64 0, .int .u64 0]).cells (cap - n) := ⟨_, rfl⟩
    have hsz : cs.size = cap * 2 := by
      rw [hcs, Array.size_append, size_zeroCells, size_zeroCells]
      simp [Value.cells]
      omega
    simp only [← hcs] at hrun
    clear hcs
    have hz := fun (o : Obj) => heap_alloc_new w.drew o
    have hci : (n : Int) ≤ (cap : Int) := by omega
    have hmi : (cap : Int) ≤ 9223372036854775807 := by unfold maxLen at hm; omega
    have HH := Lib.hid (And.intro hsz (And.intro hc hm))
    clear hsz hc hm
    go_enter Tryz.func215, Tryz.ntmps215
    go_wp2_with (at_builtin; refine Lib.wpList_append_run _ rfl _ _ _ _ rfl _ _ rfl rfl _ _ (hrun _) ?_)
    go_ret
    exact ⟨_, rfl, ⟨rfl, .inr ⟨w.heap.size, cap, cs, rfl, hB, hz _, Nat.zero_le _, HH.out.2.2, HH.out.1, by simp [runCells]⟩⟩, (Keep.refl _ _).drew.alloc _⟩
def RSlicesAt (w : World) (v : Value) (ls : List (List RunN)) : Prop :=
  ∃ us : List Value, us.length = ls.length ∧ (∀ (i : Nat) u l, us[i]? = some u → ls[i]? = some l → RunsAt w u l) ∧
    ∃ g cap, v = .slice (some ⟨g, 0, none⟩) ls.length cap ∧ ls.length ≤ cap ∧ cap ≤ maxLen ∧ ∀ (i : Nat) u, us[i]? = some u → w.cell? ⟨g, i, none⟩ = some u
def catR (ls : List (List RunN)) (k : Nat) : List RunN := (ls.take k).flatten
theorem catR_zero (ls : List (List RunN)) : catR ls 0 = [] := by simp [catR]
theorem catR_all (ls : List (List RunN)) : catR ls ls.length = ls.flatten := by simp [catR]
theorem catR_succ {ls : List (List RunN)} {k : Nat} {l : List RunN} (h : ls[k]? = some l) : catR ls (k + 1) = catR ls k ++ l := by
  obtain ⟨hk, rfl⟩ := List.getElem?_eq_some_iff.1 h
  unfold catR
  rw [List.take_succ_eq_append_getElem hk, List.flatten_append, List.flatten_cons, List.flatten_nil, List.append_nil]
theorem catR_le (ls : List (List RunN)) (k : Nat) : (catR ls k).length ≤ ls.flatten.length := by
  unfold catR
  conv => rhs; rw [← List.take_append_drop k ls]
  rw [List.flatten_append, List.length_append]
  omega
set_option maxRecDepth 100000 in
/-- slices.Concat. -/
theorem rConcat_spec {w : World} {v : Value} {ls : List (List RunN)} (h : RSlicesAt w v ls) (hl : ls.flatten.length ≤ 549755813888) :
    Calls Tryz.prog 203 #[v] w fun e w' => ∃ v', e = .returned v' ∧ OwnR w' w.heap.size v' ls.flatten ∧ Keep No w w' := by
  obtain ⟨us, hus, hbs, g, cap, rfl, hlc, hcm, hcells⟩ := h
  unfold maxLen at hcm
  have hn : (ls.length : Int) ≤ 9223372036854775807 := by omega
  have HU := Lib.hid (And.intro hus (And.intro hbs hcells))
  clear hus hbs hcells
  go_enter Tryz.func203, Tryz.ntmps203
  go_wp2
  go_loop [3, 11] (fun s i => ∃ k : Nat, k ≤ ls.length ∧ i = .int .i64 k ∧ s = .int .i64 (catR ls k).length) (fun _ i => ls.length - (intOf i).toNat)
  case atStart => exact ⟨0, Nat.zero_le _, rfl, rfl⟩
  case round =>
    obtain ⟨k, hk, rfl, rfl⟩ := hrel
    by_cases hlt : k < ls.length
    · have hku : k < us.length := by rw [HU.out.1]; exact hlt
      have hc := HU.out.2.2 k us[k] (List.getElem?_eq_getElem hku)
      have hlk : ls[k]? = some ls[k] := List.getElem?_eq_getElem hlt
      obtain ⟨ao1, cap1, hu, _⟩ := (HU.out.2.1 k _ _ (List.getElem?_eq_getElem hku) hlk).form
      have hs := congrArg List.length (catR_succ hlk)
      rw [List.length_append] at hs
      have hle := catR_le ls (k + 1)
      have hb1 : ((catR ls k).length : Int) + (ls[k].length : Int) ≤ 549755813888 := by omega
      have hb2 : (0 : Int) ≤ ((catR ls k).length : Int) + (ls[k].length : Int) := by omega
      have HS := Lib.hid hs
      rw [hu] at hc
      generalize ls[k].length = m at *
      clear hs hle hlk hu
      have hki : (k : Int) < (ls.length : Int) := by omega
      go_wp2
      go_round
      case rel => exact ⟨k + 1, by omega, by go_num, by rw [HS.out]; go_num⟩
      case measure => simp [intOf]; omega
    · have hki : ¬ (k : Int) < (ls.length : Int) := by omega
      obtain rfl : k = ls.length := by omega
      have hle := congrArg List.length (catR_all ls)
      have hb1 : ((catR ls ls.length).length : Int) ≤ 549755813888 := by omega
      clear hle hki hlt hk
      go_wp2_with (go_at_call 215; refine (rGrow_spec (B := w.heap.size) (catR ls ls.length).length (by omega) (Nat.le_refl _)).mono ?_; rintro e w1 ⟨v0, rfl, hown0, hk0⟩)
      go_loopw [6, 27] (fun v i wr => ∃ k : Nat, k ≤ ls.length ∧ i = .int .i64 k ∧ OwnR wr w.heap.size v (catR ls k) ∧ Keep No w wr) (fun _ i _ => ls.length - (intOf i).toNat)
      case atStart => exact ⟨0, Nat.zero_le _, rfl, by rw [catR_zero]; exact hown0, hk0⟩
      case round =>
        clear hown0 hk0
        obtain ⟨k, hk, rfl, hown, hkp⟩ := hrel
        by_cases hlt : k < ls.length
        · have hku : k < us.length := by rw [HU.out.1]; exact hlt
          have hc := hkp.cell (HU.out.2.2 k us[k] (List.getElem?_eq_getElem hku)) (fun h => h)
          have hlk : ls[k]? = some ls[k] := List.getElem?_eq_getElem hlt
          have hb := (HU.out.2.1 k _ _ (List.getElem?_eq_getElem hku) hlk).no hkp
          have hs := catR_succ hlk
          have hle := catR_le ls (k + 1)
          rw [hs, List.length_append] at hle
          have hki : (k : Int) < (ls.length : Int) := by omega
          have HS := Lib.hid hs
          generalize us[k] = u at *
          generalize ls[k] = l at *
          clear hs hlk
          have hBs := hkp.size
          go_wp2_with (at_builtin; refine wpList_append_runs rfl _ _ rfl hown hb rfl rfl (by omega) hBs ?_; intro v' w' hown' hk')
          go_roundw
          case rel => exact ⟨k + 1, by omega, by go_num, by rw [HS.out]; exact hown', hkp.trans hk' (fun x hx hxx => by have := (hown.lt x hxx).1; omega)⟩
          case measure => simp [intOf]; omega
        · have hki : ¬ (k : Int) < (ls.length : Int) := by omega
          obtain rfl : k = ls.length := by omega
          clear hki hlt hk
          go_wp2
          go_ret
          exact ⟨_, rfl, by rw [← catR_all]; exact hown, hkp⟩
end Go.Proofs.YtfdmbomlkpkegaaGreat
