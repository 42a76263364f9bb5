/- slices.Sort, Collect, Sorted at the keys of a map; disk.Segs. -/
import Derived.Test.YtpjggnfiocplmaaSeqC
namespace Go.Proofs.Ytpjggnfiocplmaa
open Go Go.RowKit Go.Shelf Go.Sort

set_option maxRecDepth 100000 in
set_option maxHeartbeats 1000000 in
theorem ins_nil (w : World) : Calls Try.prog 106 #[.slice none 0 0, .int .i64 0, .int .i64 0] w fun e w' => e = .returned (.tuple #[]) ∧ w' = w := by
  go_enter Try.func106, Try.ntmps106
  go_wp2
  go_loopw [6] (fun vi wr => vi = .int .i64 1 ∧ wr = w) (fun _ _ => 0)
  case atStart => exact ⟨rfl, rfl⟩
  case round =>
    obtain ⟨rfl, rfl⟩ := hrel
    go_wp2
    go_end0
    exact ⟨rfl, rfl⟩
set_option maxRecDepth 100000 in
set_option maxHeartbeats 1000000 in
theorem pdq_nil (w : World) : Calls Try.prog 102 #[.slice none 0 0, .int .i64 0, .int .i64 0, .int .i64 0] w fun e w' => e = .returned (.tuple #[]) ∧ w' = w := by
  go_enter Try.func102, Try.ntmps102
  go_wp2
  go_loopw [1, 2, 3, 8, 9] (fun va vb _ _ _ wr => va = .int .i64 0 ∧ vb = .int .i64 0 ∧ wr = w) (fun _ _ _ _ _ _ => 0)
  case atStart => exact ⟨rfl, rfl, rfl⟩
  case round =>
    obtain ⟨rfl, rfl, rfl⟩ := hrel
    go_wp2_with (go_at_call 106; refine (ins_nil _).mono ?_; rintro e w2 ⟨rfl, rfl⟩)
    refine bodyPost_ret (results_none rfl _ _ _) rfl ?_
    exact ⟨rfl, rfl⟩
set_option maxRecDepth 100000 in
set_option maxHeartbeats 1000000 in
theorem sort_nil (w : World) : Calls Try.prog 92 #[.slice none 0 0] w fun e w' => e = .returned (.tuple #[]) ∧ w' = w := by
  have hl : ∀ w, Calls Try.prog 103 #[.int .u64 0] w fun e w' => e = .returned (.int .i64 0) ∧ w' = w := fun w => by
    have := len_spec 0 (by decide) (by decide) w
    exact this
  go_enter Try.func92, Try.ntmps92
  go_wp2_with (first
    | (go_at_call 103; refine (hl _).mono ?_; rintro e w1 ⟨rfl, rfl⟩)
    | (go_at_call 102; refine (pdq_nil _).mono ?_; rintro e w2 ⟨rfl, rfl⟩))
  go_end0
  exact ⟨rfl, rfl⟩
set_option maxRecDepth 100000 in
set_option maxHeartbeats 1000000 in
theorem sort_spec {w : World} {g cap : Nat} {d : Array Int} (h : Row64 w g 0 d) (HSZ : Hid (d.size < 65536)) :
    Calls Try.prog 92 #[.slice (some ⟨g, 0, none⟩) d.size cap] w fun e w' => e = .returned (.tuple #[]) ∧ ∃ d', PermIn 0 d.size d d' ∧ SortedIn ltInt 0 d.size d' ∧ Row64 w' g 0 d' ∧ Keep (· = g) w w' := by
  have hl : ∀ w, Calls Try.prog 103 #[.int .u64 d.size] w fun e w' => e = .returned (.int .i64 (bitsLen d.size)) ∧ w' = w := fun w => by
    have := len_spec (d.size : Int) (by omega) (by have := HSZ.out; omega) w
    simpa using this
  have hb : bitsLen d.size ≤ 1000 := Nat.le_trans ((bitsLen_le_iff d.size 17).2 (by have := HSZ.out; omega)) (by decide)
  have hp := pdq_spec (g := g) (off := 0) (cap := cap) d.size w d 0 d.size (bitsLen d.size) (by omega) h (Nat.zero_le _) (Nat.le_refl _) HSZ hb (Or.inl rfl)
  have hsz : (d.size : Int) ≤ 1099511627776 := by have := HSZ.out; omega
  clear hb h
  go_enter Try.func92, Try.ntmps92
  go_wp2_with (first
    | (go_at_call 103; refine (hl _).mono ?_; rintro e w1 ⟨rfl, rfl⟩)
    | (go_at_call 102; refine hp.mono ?_; rintro e w2 ⟨rfl, hq⟩))
  go_end0
  exact ⟨rfl, hq⟩

theorem perm_mergeSort {a b : List Int} (h : a.Perm b) : a.mergeSort (fun x y => decide (x ≤ y)) = b.mergeSort (fun x y => decide (x ≤ y)) := by
  have hs : ∀ l : List Int, (l.mergeSort (fun x y => decide (x ≤ y))).Pairwise (fun x y => x ≤ y) := fun l => by
    have := List.pairwise_mergeSort (le := fun x y : Int => decide (x ≤ y)) (fun x y z h1 h2 => by simp at h1 h2 ⊢; omega) (fun x y => by simp; omega) l
    exact this.imp (fun h => by simpa using h)
  exact (((List.mergeSort_perm a _).trans h).trans (List.mergeSort_perm b _).symm).eq_of_pairwise (le := fun x y => x ≤ y) (fun x y _ _ h1 h2 => Int.le_antisymm h1 h2) (hs a) (hs b)
theorem sorted_list {d d' : Array Int} (h1 : PermIn 0 d.size d d') (h2 : SortedIn ltInt 0 d.size d') : d'.toList = d.toList.mergeSort (fun x y => decide (x ≤ y)) := by
  have := sorted_unique_holds swo_ltInt (fun x y hx hy => by simp [ltInt] at hx hy; omega) d d' h1 h2
  rw [this]
  congr 1
  funext x y
  simp only [ltInt]
  by_cases h : y < x
  · have h' : ¬ x ≤ y := by omega
    simp [h, h']
  · have h' : x ≤ y := by omega
    simp [h, h']

theorem Below.keepNo {w w' : World} (h : Go.RowKit.Below w.heap.size w w') : Keep No w w' := ⟨h.os, h.tape, h.output, h.size, fun b hb _ => h.block b hb⟩

set_option maxRecDepth 100000 in
set_option maxHeartbeats 1000000 in
theorem collect_spec {w : World} {Bm r : Nat} {es : Array MapEntry} {clock : Nat} {ks : List Int} (hb : w.heap[r]? = some (.map es clock)) (he : KeyEnts es.toList clock ks) (hBl : Bm < w.heap.size) (hm : w.cell? ⟨Bm, 0, none⟩ = some (.map (some r)))
    (hlen : ks.length ≤ 1099511627776) :
    Calls Try.prog 91 #[.func (.func 93) #[] #[.pointer (some ⟨Bm, 0, none⟩)]] w fun e W' => ∃ v, ∃ ss : List Int, e = .returned v ∧ ss.Perm ks ∧
      W'.ownsRow w.heap.size 26 1 v ss.length (ss.map (.int .u64 ·)) ∧ (v = .slice none 0 0 ↔ ss = []) ∧ Keep No w W' := by
  have hap := (callsIn_wide (n := 6)).1 (appseq_spec 6 (by omega) hb he hBl hm hlen)
  clear hb hm
  go_enter Try.func91, Try.ntmps91
  go_wp2_with (go_at_call 101; refine hap.mono ?_; rintro e w2 ⟨v, ss, rfl, h1, h2, h3, h4⟩)
  go_ret
  exact ⟨v, ss, rfl, h1, h2, h3, Below.keepNo h4⟩

set_option maxRecDepth 100000 in
set_option maxHeartbeats 2000000 in
theorem sorted_spec {w : World} {Bm r : Nat} {es : Array MapEntry} {clock : Nat} {ks : List Int} (hb : w.heap[r]? = some (.map es clock)) (he : KeyEnts es.toList clock ks) (hBl : Bm < w.heap.size) (hm : w.cell? ⟨Bm, 0, none⟩ = some (.map (some r)))
    (HSZ : Hid (ks.length < 65536)) :
    Calls Try.prog 68 #[.func (.func 93) #[] #[.pointer (some ⟨Bm, 0, none⟩)]] w fun e W' => ∃ v, e = .returned v ∧ NumsAt W' v (ks.mergeSort (fun x y => decide (x ≤ y))) ∧ Keep No w W' := by
  have hco := collect_spec hb he hBl hm (by have := HSZ.out; omega)
  clear hb hm he
  go_enter Try.func68, Try.ntmps68
  go_wp2_with (go_at_call 91; refine hco.mono ?_; rintro e w1 ⟨v, ss, rfl, hperm, hrow, hnil, hk⟩)
  have hlen := hperm.length_eq
  rcases hrow.2 with ⟨rfl, h0⟩ | ⟨g, cap, cur, rfl, hbg, hg, h1, h2, h3, h4⟩
  · have hss : ss = [] := List.eq_nil_of_length_eq_zero h0
    subst hss
    have hks : ks = [] := by simpa using hperm.symm.eq_nil
    subst hks
    go_wp2_with (go_at_call 92; refine (sort_nil _).mono ?_; rintro e w2 ⟨rfl, rfl⟩)
    go_ret
    exact ⟨_, rfl, ⟨none, 0, by simp, by simp, by decide, .inl (by simp)⟩, hk⟩
  · have hR : Row64 w1 g 0 ss.toArray := by
      refine ⟨cur, hg, fun j hj => ?_⟩
      have hj' : j < ss.length := by simpa using hj
      have e1 : (cur.toList.take (ss.length * 1))[j]? = (ss.map (Value.int .u64 ·))[j]? := by rw [h4]
      rw [List.getElem?_take, if_pos (by omega), List.getElem?_map, Array.getElem?_toList] at e1
      rw [Nat.zero_add, e1, List.getElem?_eq_getElem hj']
      have e2 : ss.toArray[j]! = ss[j] := by rw [getElem!_pos ss.toArray j hj]; simp
      rw [e2]
      rfl
    have hso := sort_spec (cap := cap) hR (by have := HSZ.out; exact Lib.hid (by simp; omega))
    have hsz : ss.toArray.size = ss.length := by simp
    rw [hsz] at hso
    have HP := Lib.hid (And.intro hperm (And.intro hlen (And.intro h1 h2)))
    clear hR hrow h1 h2 h3 h4 hg hnil hco hperm hlen hsz
    go_wp2_with (go_at_call 92; refine hso.mono ?_; rintro e w2 ⟨rfl, d', hp, hs, hR2, hk2⟩)
    go_ret
    have hsl := sorted_list (d := ss.toArray) (by simpa using hp) (by simpa using hs)
    have hml : ks.mergeSort (fun x y => decide (x ≤ y)) = d'.toList := by rw [hsl, ← perm_mergeSort HP.out.1]
    have hl2 : d'.toList.length = ss.length := by rw [hsl, (List.mergeSort_perm _ _).length_eq]
    rw [hml]
    refine ⟨.slice (some ⟨g, 0, none⟩) ss.length cap, rfl, ⟨some ⟨g, 0, none⟩, cap, by rw [hl2], by rw [hl2]; exact HP.out.2.2.1, HP.out.2.2.2, .inr ⟨g, rfl, by simpa using hR2⟩⟩, hk.absorb hk2 (fun b e => by rw [e]; exact hbg)⟩

set_option maxRecDepth 100000 in
set_option maxHeartbeats 1000000 in
/-- disk.Segs: the map's keys, sorted. -/
theorem dsegs_spec [bn : Inhabited Ban] {base : Nat} {w : World} {p n s : Nat} {wv : Value} {d : DiskS} (h : DiskAt base w p n s wv d) (hl : d.now.length ≤ 10000) :
    Calls Try.prog 31 #[.pointer (some ⟨p, 0, none⟩)] w fun e w' => ∃ v, e = .returned v ∧ NumsAt w' v (sortedKeys d.now) ∧ Keep No w w' := by
  have c2 := cell_of h.blk 2
  simp at c2
  obtain ⟨es, clock, hb, he⟩ := h.now.keyEnts
  have kA : Keep No w (w.alloc (.cells #[.map (some n)] 96)) := (Keep.refl _ _).alloc _
  have hks := (callsIn_wide (n := 6)).1 (keys_spec 6 (some n) w)
  have hso := sorted_spec (w := w.alloc (.cells #[.map (some n)] 96)) (Bm := w.heap.size) (kA.heap hb (fun e => e)) he (by simp) (by simp) (Lib.hid (by simp; omega))
  have HK := Lib.hid kA
  clear hb he kA h
  go_enter Try.func31, Try.ntmps31
  go_wp2_with (first
    | (go_at_call 69; refine hks.mono ?_; rintro e w1 ⟨rfl, rfl⟩)
    | (go_at_call 68; refine hso.mono ?_; rintro e w2 ⟨v, rfl, hN, hk⟩))
  go_ret
  exact ⟨v, rfl, hN, HK.out.then hk⟩
end Go.Proofs.Ytpjggnfiocplmaa
