/- The document's disk in memory: segments, calls; Find. -/
import Derived.Test.YtpjggnfiocplmaaSeg6
import Derived.Test.YtpjggnfiocplmaaSame
namespace Go.Proofs.Ytpjggnfiocplmaa
open Go Go.RowKit Go.Dr

def segCells : AMap → List Value → List Value
  | e :: m, u :: us => .int .u64 e.1 :: u :: segCells m us
  | _, _ => []
/-- A slice of segments that the document's functions made. -/
def SegsAt [bn : Inhabited Ban] (base : Nat) (w : World) (v : Value) (m : AMap) : Prop :=
  ∃ us : List Value, us.length = m.length ∧ (∀ (i : Nat) u e, us[i]? = some u → m[i]? = some e → BytesAt base w u e.2) ∧ w.ownsRow base 49 2 v m.length (segCells m us)
theorem SegsAt.nil [bn : Inhabited Ban] (base : Nat) (w : World) : SegsAt base w (.slice none 0 0) [] := ⟨[], rfl, fun i u c h => by simp at h, World.ownsRow_nil _ _ _ _⟩
theorem SegsAt.form [bn : Inhabited Ban] {base : Nat} {w : World} {v : Value} {m : AMap} (h : SegsAt base w v m) : ∃ ao cap, v = .slice ao m.length cap ∧ m.length ≤ cap ∧ cap ≤ maxLen := by
  obtain ⟨us, _, _, _, h⟩ := h
  rcases h with ⟨rfl, h⟩ | ⟨g, cap, cur, rfl, _, _, h1, h2, _⟩
  · exact ⟨none, 0, by rw [h], by omega, by decide⟩
  · exact ⟨_, _, rfl, h1, h2⟩
theorem SegsAt.kind [bn : Inhabited Ban] {base : Nat} {w : World} {v : Value} {m : AMap} (h : SegsAt base w v m) : ∀ b, v.ownBlock = some b → base ≤ b ∧ ∃ cur, w.heap[b]? = some (.cells cur 49 (0, 0)) := by
  intro b hb
  obtain ⟨us, _, _, _, hw⟩ := h
  rcases hw with ⟨rfl, _⟩ | ⟨g, cap, cur, rfl, h1, h2, _⟩
  · simp [Value.ownBlock] at hb
  · simp [Value.ownBlock] at hb
    subst hb
    exact ⟨h1, cur, h2⟩
theorem SegsAt.footOk [bn : Inhabited Ban] {base : Nat} {w : World} {v : Value} {m : AMap} (h : SegsAt base w v m) : Foot base w (fun b => v.ownBlock = some b) := by
  intro b hb
  obtain ⟨h1, cur, h2⟩ := h.kind b hb
  exact ⟨h1, heap_lt h2, fun cs fr e => by rw [h2] at e; simp at e⟩
theorem SegsAt.keep [bn : Inhabited Ban] {base : Nat} {w w' : World} {v : Value} {m : AMap} {F : Nat → Prop} (h : SegsAt base w v m) (hF : Foot base w F) (k : Keep F w w') (hn : ∀ b, v.ownBlock = some b → ¬ F b) : SegsAt base w' v m := by
  obtain ⟨us, h1, h2, h3, h4⟩ := h
  refine ⟨us, h1, fun i u c hu hc => (h2 i u c hu hc).keep hF k, h3, ?_⟩
  rcases h4 with h4 | ⟨g, cap, cur, rfl, h5, h6, h7⟩
  · exact .inl h4
  · exact .inr ⟨g, cap, cur, rfl, h5, k.heap h6 (hn g rfl), h7⟩
theorem SegsAt.no [bn : Inhabited Ban] {base : Nat} {w w' : World} {v : Value} {m : AMap} (h : SegsAt base w v m) (k : Keep No w w') : SegsAt base w' v m := h.keep (Foot.no _ _) k (fun _ _ h => h)
theorem segCells_at : ∀ {m : AMap} {us : List Value}, us.length = m.length → ∀ {i : Nat} {e : Int × Bytes} {u : Value}, m[i]? = some e → us[i]? = some u →
    (segCells m us)[i * 2]? = some (.int .u64 e.1) ∧ (segCells m us)[i * 2 + 1]? = some u := by
  intro m
  induction m with
  | nil => intro us _ i c u h; simp at h
  | cons x m ih =>
    intro us hl i c u h1 h2
    cases us with
    | nil => simp at hl
    | cons v us =>
      cases i with
      | zero => simp at h1 h2; subst h1 h2; simp [segCells]
      | succ i =>
        have e : (i + 1) * 2 = i * 2 + 1 + 1 := by omega
        have := ih (us := us) (by simpa using hl) (i := i) (e := c) (u := u) (by simpa using h1) (by simpa using h2)
        simp only [segCells, e]
        exact ⟨by simpa using this.1, by simpa [Nat.add_assoc] using this.2⟩
theorem SegsAt.cells [bn : Inhabited Ban] {base : Nat} {w : World} {ao : Option Addr} {n cap : Nat} {m : AMap} (h : SegsAt base w (.slice ao n cap) m) (hn : 0 < m.length) :
    ∃ g, ao = some ⟨g, 0, none⟩ ∧ base ≤ g ∧ ∀ i e, m[i]? = some e → ∃ u, BytesAt base w u e.2 ∧ w.cell? ⟨g, i * 2, none⟩ = some (.int .u64 e.1) ∧ w.cell? ⟨g, i * 2 + 1, none⟩ = some u := by
  obtain ⟨us, hus, hb, hx, hw⟩ := h
  rcases hw with ⟨_, h0⟩ | ⟨g, cp, cur, hv, hbg, hg, h1, h2, h3, h4⟩
  · omega
  · simp only [Value.slice.injEq] at hv
    refine ⟨g, hv.1, hbg, fun i c hc => ?_⟩
    have hi : i < m.length := (List.getElem?_eq_some_iff.1 hc).1
    have hu : us[i]? = some us[i] := List.getElem?_eq_getElem (by omega)
    obtain ⟨e0, e1⟩ := segCells_at hus hc hu
    have cell : ∀ j x, (segCells m us)[j]? = some x → w.cell? ⟨g, j, none⟩ = some x := by
      intro j x hj
      rw [cell_of hg]
      rw [← h4, List.getElem?_take] at hj
      split at hj
      · simpa using hj
      · cases hj
    exact ⟨us[i], hb i _ _ hu hc, cell _ _ e0, cell _ _ e1⟩

theorem find6_found {m : AMap} {k : Int} {i : Nat} {e : Int × Bytes} (hi : m[i]? = some e) (he : e.1 = k) (hb : ∀ (j : Nat) (x : Int × Bytes), j < i → m[j]? = some x → x.1 ≠ k) : find6 m k = i := by
  have : m.findIdx? (fun e => e.1 == k) = some i := by
    rw [List.findIdx?_eq_some_iff_getElem]
    obtain ⟨hlt, hq⟩ := List.getElem?_eq_some_iff.1 hi
    refine ⟨hlt, by rw [hq]; simp [he], fun j hj => ?_⟩
    have := hb j _ hj (List.getElem?_eq_getElem (by omega))
    simpa using this
  simp [find6, this]
theorem find6_none {m : AMap} {k : Int} (hb : ∀ (j : Nat) (x : Int × Bytes), m[j]? = some x → x.1 ≠ k) : find6 m k = -1 := by
  have : m.findIdx? (fun e => e.1 == k) = none := by
    rw [List.findIdx?_eq_none_iff]
    intro x hx
    obtain ⟨j, hj, rfl⟩ := List.getElem_of_mem hx
    have := hb j _ (List.getElem?_eq_getElem hj)
    simpa using this
  simp [find6, this]

set_option maxRecDepth 100000 in
set_option maxHeartbeats 1000000 in
theorem find_spec [bn : Inhabited Ban] {base : Nat} {w : World} {v : Value} {m : AMap} (h : SegsAt base w v m) (n : Int) :
    Calls Try.prog 90 #[v, .int .u64 n] w fun e w' => e = .returned (.int .i64 (find6 m n)) ∧ Keep No w w' := by
  obtain ⟨ao, cap, rfl, hlc, hcm⟩ := h.form
  unfold maxLen at hcm
  have hln : (m.length : Int) ≤ 9223372036854775807 := by omega
  clear hlc hcm
  go_enter Try.func90, Try.ntmps90
  go_wp2
  go_loopw [9] (fun i wr => ∃ k : Nat, k ≤ m.length ∧ i = .int .i64 k ∧ (∀ (j : Nat) (x : Int × Bytes), j < k → m[j]? = some x → x.1 ≠ n) ∧ Keep No w wr) (fun i _ => m.length - (intOf i).toNat)
  case atStart => exact ⟨0, Nat.zero_le _, rfl, fun j x hj => by omega, Keep.refl _ _⟩
  case round =>
    obtain ⟨k, hk, rfl, hall, hkp⟩ := hrel
    by_cases hlt : k < m.length
    · obtain ⟨g, rfl, hbg, hcells⟩ := h.cells (by omega)
      have hek : m[k]? = some m[k] := List.getElem?_eq_getElem hlt
      obtain ⟨u, hu, e0, e1⟩ := hcells k _ hek
      generalize m[k] = e at *
      obtain ⟨uo, uc, rfl⟩ := hu.form
      have e0 := hkp.cell e0 (fun e => e)
      have e1 := hkp.cell e1 (fun e => e)
      have hki : (k : Int) < (m.length : Int) := by omega
      have HX := Lib.hid (And.intro hall (And.intro hek hlt))
      have HU := Lib.hid hu
      clear hall hek hlt hcells hu
      by_cases hen : e.1 = n
      · have hf : find6 m n = k := find6_found HX.out.2.1 hen HX.out.1
        have HF := Lib.hid hf
        obtain ⟨ek, el⟩ := e
        simp only at hen e0 e1
        subst hen
        clear hf
        go_wp2
        go_ret
        exact ⟨by rw [HF.out]; rfl, hkp.alloc _⟩
      · have HN := Lib.hid hen
        have hq : (e.1 == n) = false := by simpa using hen
        clear hen
        go_wp2
        go_roundw
        case rel =>
          refine ⟨k + 1, by have := HX.out.2.2; omega, by go_num, fun j x hj hx => ?_, hkp.alloc _⟩
          by_cases hjk : j = k
          · subst hjk
            rw [HX.out.2.1] at hx
            simp at hx
            subst hx
            exact HN.out
          · exact HX.out.1 j x (by omega) hx
        case measure => have := HX.out.2.2; simp [intOf]; omega
    · have hki : ¬ (k : Int) < (m.length : Int) := by omega
      have hf : find6 m n = -1 := find6_none (fun j x hx => hall j x (by have := (List.getElem?_eq_some_iff.1 hx).1; omega) hx)
      have HF := Lib.hid hf
      clear hf hall hlt hk
      go_wp2
      go_ret
      exact ⟨by rw [HF.out]; rfl, hkp⟩
end Go.Proofs.Ytpjggnfiocplmaa
