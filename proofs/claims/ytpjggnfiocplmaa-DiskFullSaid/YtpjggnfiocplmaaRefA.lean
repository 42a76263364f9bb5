/- sumpterref01: Join, Cut. -/
import Derived.Test.YtpjggnfiocplmaaDiskF
namespace Go.Proofs.Ytpjggnfiocplmaa
open Go Go.RowKit Go.Dr

set_option maxRecDepth 100000 in
theorem join_spec [bn : Inhabited Ban] {base : Nat} {w : World} {v : Value} {ls : List Bytes} (h : SlicesAt base w v ls) (hl : ls.flatten.length ≤ 35184372088832) :
    Calls Try.prog 32 #[v] w fun e w' => ∃ v', e = .returned v' ∧ OwnB w' w.heap.size v' ls.flatten ∧ Keep No w w' := by
  obtain ⟨us, hus, hbs, ao, cap, rfl, hlc, hcm, hcells⟩ := h
  unfold maxLen at hcm
  have hn : (ls.length : Int) ≤ 9223372036854775807 := by omega
  have HU := Lib.hid hus
  clear hus
  go_enter Try.func32, Try.ntmps32
  go_wp2
  go_loopw [3, 8] (fun v i wr => ∃ k : Nat, k ≤ ls.length ∧ i = .int .i64 k ∧ OwnB wr w.heap.size v (catB ls k) ∧ Keep No w wr) (fun _ i _ => ls.length - (intOf i).toNat)
  case atStart => exact ⟨0, Nat.zero_le _, rfl, by rw [catB_zero]; exact OwnB.nil _ _, Keep.refl _ _⟩
  case round =>
    obtain ⟨k, hk, rfl, hown, hkp⟩ := hrel
    by_cases hlt : k < ls.length
    · rcases hcells with rfl | ⟨g, o, rfl, hcells⟩
      · simp at hlt
      · have hku : k < us.length := by have := HU.out; omega
        have hc := hkp.cell (hcells k us[k] (List.getElem?_eq_getElem hku)) (fun h => h)
        have hlk : ls[k]? = some ls[k] := List.getElem?_eq_getElem hlt
        have hb := (hbs k _ _ (List.getElem?_eq_getElem hku) hlk).no hkp
        have hs := catB_succ hlk
        have hle := catLen_le ls (k + 1)
        rw [catLen_succ hlk] at hle
        unfold catLen at hle
        have hki : (k : Int) < (ls.length : Int) := by omega
        have HS := Lib.hid hs
        generalize us[k] = u at *
        generalize ls[k] = l at *
        clear hs hbs hcells hlk
        have hBs := hkp.size
        go_wp2_with (at_builtin; refine wpList_append_bytes rfl _ _ rfl w.heap.size hown hb rfl rfl (by omega) hBs ?_; intro v' w' hown' hk')
        go_roundw
        case rel => exact ⟨k + 1, by omega, by go_num, by rw [HS.out]; exact hown', hkp.trans hk' (fun x hx hxx => by have := (hown.lt x hxx).1; omega)⟩
        case measure => simp [intOf]; omega
    · have hki : ¬ (k : Int) < (ls.length : Int) := by omega
      obtain rfl : k = ls.length := by omega
      clear hki hlt hk
      go_wp2
      go_ret
      exact ⟨_, rfl, by rw [← catB_all]; exact hown, hkp⟩

set_option maxRecDepth 100000 in
theorem cut_spec [bn : Inhabited Ban] {base : Nat} {w : World} {v : Value} {l : Bytes} (h : BytesAt base w v l) (most : Nat) (hm : most ≤ 1000000) :
    Calls Try.prog 16 #[v, .int .i64 most] w fun e w' => ∃ v', e = .returned v' ∧ OwnB w' w.heap.size v' (l.take most) ∧ Keep No w w' := by
  obtain ⟨ao, cap, rfl⟩ := h.form
  have hcap : l.length ≤ cap ∧ cap ≤ maxLen := by obtain ⟨_, _, hq, h1, h2, _⟩ := h; simp at hq; omega
  unfold maxLen at hcap
  obtain ⟨hc1, hc2⟩ := hcap
  have hmi : (most : Int) ≤ 1000000 := by omega
  have hfin : ∀ (n : Nat) (l' : Bytes), BytesAt base w (.slice ao n cap) l' → l'.length ≤ 35184372088832 → Hid (Calls Try.prog 32 #[.slice (some ⟨w.heap.size, 0, none⟩) 1 1] (w.alloc (.cells #[.slice ao n cap] 27)) fun e w' => ∃ v', e = .returned v' ∧ OwnB w' (w.heap.size + 1) v' l' ∧ Keep No w w') := by
    intro n l' hb hl'
    have hk : Keep No w (w.alloc (.cells #[.slice ao n cap] 27)) := (Keep.refl _ _).alloc _
    have hs : SlicesAt base (w.alloc (.cells #[.slice ao n cap] 27)) (.slice (some ⟨w.heap.size, 0, none⟩) 1 1) [l'] :=
      SlicesAt.of_block (heap_new w _) [l'] rfl (by simp [maxLen]) (fun i u l'' h1 h2 => by
        match i, h1, h2 with
        | 0, h1, h2 => simp at h1 h2; subst h1 h2; exact hb.no hk)
    refine (join_spec hs (by simpa using hl')).mono ?_
    rintro e w' ⟨v', he, ho, hk'⟩
    exact ⟨v', he, by simpa using ho, hk.then hk'⟩
  by_cases hlt : most < l.length
  · have hli : (most : Int) < (l.length : Int) := by omega
    have HF := hfin most (l.take most) (h.take most (by omega)) (by simp; omega)
    have hci : (most : Int) ≤ (cap : Int) := by omega
    clear hfin h
    go_enter Try.func16, Try.ntmps16
    go_wp2_with (go_at_call 32; refine HF.out.mono ?_; rintro e w2 ⟨v2, rfl, ho, hk⟩)
    go_ret
    exact ⟨_, rfl, ⟨ho.1, by
      rcases ho.2 with ho | ⟨g, cap', cur, hv, hb, hr⟩
      · exact .inl ho
      · exact .inr ⟨g, cap', cur, hv, by omega, hr⟩⟩, hk⟩
  · have hli : ¬ (most : Int) < (l.length : Int) := by omega
    have e : l.take most = l := List.take_of_length_le (by omega)
    rw [e]
    have HF := hfin l.length l h (by omega)
    clear hfin h e
    go_enter Try.func16, Try.ntmps16
    go_wp2_with (go_at_call 32; refine HF.out.mono ?_; rintro e w2 ⟨v2, rfl, ho, hk⟩)
    go_ret
    exact ⟨_, rfl, ⟨ho.1, by
      rcases ho.2 with ho | ⟨g, cap', cur, hv, hb, hr⟩
      · exact .inl ho
      · exact .inr ⟨g, cap', cur, hv, by omega, hr⟩⟩, hk⟩
end Go.Proofs.Ytpjggnfiocplmaa
