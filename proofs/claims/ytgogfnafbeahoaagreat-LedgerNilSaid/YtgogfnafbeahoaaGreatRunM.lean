/- Sets of numbers in memory: runs that nobody writes over; find. -/
import Derived.Test.YtgogfnafbeahoaaGreatRunP
import Derived.Test.YtgogfnafbeahoaaGreatFound
import Derived.Test.YtgogfnafbeahoaaGreatLogX
namespace Go.Proofs.YtgogfnafbeahoaaGreat
open Go Go.RowKit

abbrev tRun : TypeId := 114
def RunBlock (w : World) (b : Nat) : Prop := ∃ cs fr, w.heap[b]? = some (.cells cs 114 fr)
/-- A slice of runs. -/
def RunsAt (w : World) (v : Value) (l : List RunN) : Prop :=
  ∃ ao cap, v = .slice ao l.length cap ∧ l.length ≤ cap ∧ cap ≤ maxLen ∧ (ao = none → cap = 0) ∧ (cap ≠ 0 → ∃ g o, ao = some ⟨g, o, none⟩ ∧ RunBlock w g ∧
    ∀ (i : Nat) r, l[i]? = some r → w.cell? ⟨g, o + i * 2, none⟩ = some (.int .u64 r.1) ∧ w.cell? ⟨g, o + i * 2 + 1, none⟩ = some (.int .u64 r.2))
/-- Who writes to no block of runs. -/
def FootR (w : World) (F : Nat → Prop) : Prop := ∀ b, F b → ¬ RunBlock w b
theorem FootR.no (w : World) : FootR w No := fun _ h => h.elim
theorem RunBlock.keep {w w' : World} {F : Nat → Prop} {b : Nat} (h : RunBlock w b) (hF : FootR w F) (k : Keep F w w') : RunBlock w' b := by
  obtain ⟨cs, fr, hb⟩ := h
  exact ⟨cs, fr, k.heap hb (fun hf => hF b hf ⟨cs, fr, hb⟩)⟩
theorem RunsAt.keep {w w' : World} {v : Value} {l : List RunN} {F : Nat → Prop} (h : RunsAt w v l) (hF : FootR w F) (k : Keep F w w') : RunsAt w' v l := by
  obtain ⟨ao, cap, h1, h2, h3, h4, h5⟩ := h
  refine ⟨ao, cap, h1, h2, h3, h4, fun hc => ?_⟩
  obtain ⟨g, o, e, hb, hr⟩ := h5 hc
  have hn : ¬ F g := fun hf => hF g hf hb
  exact ⟨g, o, e, hb.keep hF k, fun i r hi => ⟨k.cell (hr i r hi).1 hn, k.cell (hr i r hi).2 hn⟩⟩
theorem RunsAt.no {w w' : World} {v : Value} {l : List RunN} (h : RunsAt w v l) (k : Keep No w w') : RunsAt w' v l := h.keep (FootR.no _) k
theorem RunsAt.nil (w : World) : RunsAt w (.slice none 0 0) [] := ⟨none, 0, rfl, Nat.le_refl _, by decide, fun _ => rfl, fun h => absurd rfl h⟩
theorem RunsAt.form {w : World} {v : Value} {l : List RunN} (h : RunsAt w v l) : ∃ ao cap, v = .slice ao l.length cap ∧ l.length ≤ cap ∧ cap ≤ maxLen := by
  obtain ⟨ao, cap, h1, h2, h3, _⟩ := h
  exact ⟨ao, cap, h1, h2, h3⟩
theorem RunsAt.row {w : World} {ao : Option Addr} {n cap : Nat} {l : List RunN} (h : RunsAt w (.slice ao n cap) l) (hl : l ≠ []) : ∃ g o, ao = some ⟨g, o, none⟩ ∧
    ∀ (i : Nat) r, l[i]? = some r → w.cell? ⟨g, o + i * 2, none⟩ = some (.int .u64 r.1) ∧ w.cell? ⟨g, o + i * 2 + 1, none⟩ = some (.int .u64 r.2) := by
  obtain ⟨ao', cap', h1, h2, h3, h4, h5⟩ := h
  simp only [Value.slice.injEq] at h1
  obtain ⟨rfl, rfl, rfl⟩ := h1
  have := List.length_pos_iff.2 hl
  obtain ⟨g, o, e, _, hr⟩ := h5 (by omega)
  exact ⟨g, o, e, hr⟩

/-- The closure of find. -/
theorem findf_spec {w : World} {bs bnn g o n cap i : Nat} {x y : Nat} (hs : w.cell? ⟨bs, 0, none⟩ = some (.slice (some ⟨g, o, none⟩) n cap)) (hn : w.cell? ⟨bnn, 0, none⟩ = some (.int .u64 x)) (hi : i < n)
    (hc : w.cell? ⟨g, o + i * 2 + 1, none⟩ = some (.int .u64 y)) :
    Calls Tryz.prog 162 #[.int .i64 i, .pointer (some ⟨bs, 0, none⟩), .pointer (some ⟨bnn, 0, none⟩)] w fun e w' => e = .returned (.bool (decide (x ≤ y))) ∧ Keep No w w' := by
  have hiz : (i : Int) < (n : Int) := by omega
  go_enter Tryz.func162, Tryz.ntmps162
  go_wp2_with fail
  go_quiet (fail)
  go_wp2_with fail
  go_ret
  exact ⟨by simp, (Keep.refl _ _).drewN _⟩
/-- sort.Search: of a question that is answered by yes from some place on. -/
theorem search_spec {w : World} {gf : Nat} {cb : Array Value} {n k : Nat} {p : Nat → Bool} (eg : ∀ args w, (callFunc gf args).run Tryz.prog w = .ok (.enter gf args) w) (hn : n ≤ 1099511627776)
    (hf : ∀ (w' : World), Keep No w w' → ∀ (i : Nat), i < n → Calls Tryz.prog gf (#[.int .i64 i] ++ cb) w' fun e w2 => e = .returned (.bool (p i)) ∧ Keep No w' w2)
    (hk : k ≤ n) (h1 : ∀ i, i < k → p i = false) (h2 : ∀ i, k ≤ i → i < n → p i = true) :
    Calls Tryz.prog 161 #[.int .i64 n, .func (.func gf) #[] cb] w fun e w' => e = .returned (.int .i64 k) ∧ Keep No w w' := by
  have HF := Lib.hid (And.intro hf (And.intro h1 (And.intro h2 hk)))
  clear hf h1 h2 hk
  go_enter Tryz.func161, Tryz.ntmps161
  go_wp2_with fail
  go_loopw [5, 6] (fun lo hi wr => ∃ (a b : Nat), lo = .int .i64 a ∧ hi = .int .i64 b ∧ a ≤ k ∧ k ≤ b ∧ b ≤ n ∧ Keep No w wr) (fun lo hi _ => (intOf hi).toNat - (intOf lo).toNat)
  case atStart => exact ⟨0, n, rfl, rfl, Nat.zero_le _, HF.out.2.2.2, Nat.le_refl _, Keep.refl _ _⟩
  case round =>
    obtain ⟨a, b, rfl, rfl, ha, hb, hbn, hkp⟩ := hrel
    have HR := Lib.hid (And.intro ha (And.intro hb (And.intro hbn hkp)))
    by_cases hlt : a < b
    · have hc := HF.out.1 wr hkp ((a + b) / 2) (by omega)
      rw [show (((a + b) / 2 : Nat) : Int) = ((a : Int) + (b : Int)) / 2 by omega] at hc
      have hlti : (a : Int) < (b : Int) := by omega
      have hai : (a : Int) ≤ 1099511627776 := by omega
      have hbi : (b : Int) ≤ 1099511627776 := by omega
      cases hp : p ((a + b) / 2)
      · rw [hp] at hc
        have hmk : (a + b) / 2 < k := by
          rcases Nat.lt_or_ge ((a + b) / 2) k with h | h
          · exact h
          · have := HF.out.2.2.1 _ h (by omega); rw [hp] at this; cases this
        have HM := Lib.hid hmk
        clear hp hmk hlt ha hb hbn hkp
        go_wp2_with (go_at_fn gf; refine hc.mono ?_; rintro e w' ⟨rfl, k2⟩)
        go_roundw
        case rel => exact ⟨(a + b) / 2 + 1, b, by (congr 1 <;> omega), rfl, by have := HM.out; omega, HR.out.2.1, HR.out.2.2.1, HR.out.2.2.2.then k2⟩
        case measure => simp [intOf]; omega
      · rw [hp] at hc
        have hmk : k ≤ (a + b) / 2 := by
          rcases Nat.lt_or_ge ((a + b) / 2) k with h | h
          · have := HF.out.2.1 _ h; rw [hp] at this; cases this
          · exact h
        have HM := Lib.hid (And.intro hmk hlt)
        clear hp hmk hlt ha hb hbn hkp
        go_wp2_with (go_at_fn gf; refine hc.mono ?_; rintro e w' ⟨rfl, k2⟩)
        go_roundw
        case rel => exact ⟨a, (a + b) / 2, rfl, by congr 1, HR.out.1, HM.out.1, by have := HR.out.2.2.1; have := HM.out.2; omega, HR.out.2.2.2.then k2⟩
        case measure => have := HM.out.2; simp [intOf]; omega
    · have he : a = k := by omega
      have hlti : ¬ (a : Int) < (b : Int) := by omega
      clear ha hb hbn hkp hlt
      subst he
      go_wp2_with fail
      go_ret
      exact ⟨rfl, HR.out.2.2.2⟩
theorem findR_false {l : List RunN} {n i : Nat} {r : RunN} (hi : i < findR l n) (hr : l[i]? = some r) : decide (n ≤ r.2) = false := by
  obtain ⟨hl, rfl⟩ := List.getElem?_eq_some_iff.1 hr
  have := List.not_of_lt_findIdx (p := fun r : RunN => decide (n ≤ r.2)) hi
  simpa using this
theorem findR_true {l : List RunN} (h : RSet l) {n i : Nat} {r : RunN} (hi : findR l n ≤ i) (hr : l[i]? = some r) : decide (n ≤ r.2) = true := by
  obtain ⟨hl, rfl⟩ := List.getElem?_eq_some_iff.1 hr
  have hlt : findR l n < l.length := by omega
  have h0 := findR_at h _ (List.getElem?_eq_getElem hlt)
  rcases Nat.lt_or_ge (findR l n) i with hij | hij
  · have := List.pairwise_iff_getElem.1 h.gap _ i hlt hl hij
    have := h.run _ (List.getElem_mem hl)
    simp
    omega
  · have e : findR l n = i := by omega
    simp only [e] at h0
    simpa using h0.1
set_option maxHeartbeats 1000000 in
theorem rFind_spec {w : World} {v : Value} {l : List RunN} (h : RunsAt w v l) (hs : RSet l) (n : Nat) (hl : l.length ≤ 1099511627776) :
    Calls Tryz.prog 125 #[.agg #[v], .int .u64 n] w fun e w' => e = .returned (.int .i64 (findR l n)) ∧ Keep No w w' := by
  obtain ⟨ao, cap, rfl, hc, hm⟩ := h.form
  obtain ⟨W, hW⟩ : ∃ W, W = (w.alloc (.cells #[.slice ao l.length cap] 34)).alloc (.cells #[.int .u64 n] 27) := ⟨_, rfl⟩
  have hsz : (w.alloc (.cells #[.slice ao l.length cap] 34)).heap.size = w.heap.size + 1 := by simp
  have kW : Keep No w W := by rw [hW]; exact ((Keep.refl _ _).alloc _).alloc _
  have hA : W.heap[w.heap.size]? = some (.cells #[.slice ao l.length cap] 34 (0, 0)) := by
    rw [hW]
    exact ((Keep.refl No _).alloc _).heap (heap_new _ _) (fun e => e)
  have hB : W.heap[w.heap.size + 1]? = some (.cells #[.int .u64 n] 27 (0, 0)) := by
    rw [hW, ← hsz]
    exact heap_new _ _
  have hsr := search_spec (w := W) (gf := 162) (cb := #[.pointer (some ⟨w.heap.size, 0, none⟩), .pointer (some ⟨w.heap.size + 1, 0, none⟩)]) (n := l.length) (k := findR l n)
    (p := fun i => match l[i]? with | none => false | some r => decide (n ≤ r.2)) (enters_of Tryz.func162 (by kernel_rfl) rfl) hl (fun w' k i hi => by
      have hi' : l[i]? = some l[i] := List.getElem?_eq_getElem hi
      obtain ⟨g, o, rfl, hr⟩ := h.row (fun e => by subst e; simp at hi)
      have hc := (hr i _ hi').2
      have a1 := k.cell (cell_of hA 0) (fun e => e)
      have b1 := k.cell (cell_of hB 0) (fun e => e)
      have := findf_spec (w := w') (bs := w.heap.size) (bnn := w.heap.size + 1) (n := l.length) (cap := cap) (x := n) a1 b1 hi ((kW.then k).cell hc (fun e => e))
      rw [hi']
      exact this) (findR_le l n) (fun i hi => by
      have hlt : i < l.length := Nat.lt_of_lt_of_le hi (findR_le l n)
      rw [List.getElem?_eq_getElem hlt]
      exact findR_false hi (List.getElem?_eq_getElem hlt)) (fun i h1 h2 => by
      rw [List.getElem?_eq_getElem h2]
      exact findR_true hs h1 (List.getElem?_eq_getElem h2))
  have c0 := cell_of hA 0
  simp at c0
  have HH := Lib.hid kW
  clear hA hB kW h hs hsz hl hc hm
  go_enter Tryz.func125, Tryz.ntmps125
  go_wp2_with fail
  rw [← hW]
  go_wp2_with fail
  refine hsr.mono ?_
  rintro e w' ⟨rfl, k2⟩
  go_wp2_with fail
  go_ret
  exact ⟨rfl, HH.out.then k2⟩
end Go.Proofs.YtgogfnafbeahoaaGreat
