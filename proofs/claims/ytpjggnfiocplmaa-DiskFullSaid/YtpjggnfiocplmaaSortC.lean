/- Sorting numbers: sift down, heap sort. -/
import Derived.Test.YtpjggnfiocplmaaSortB
import Derived.Deep.CutBlock
namespace Go.Proofs.Ytpjggnfiocplmaa
open Go Go.RowKit Go.Sort

theorem bigChild_cases (hi first root : Nat) (d : Array Int) : bigChild hi first root d = 2 * root + 1 ∨ (bigChild hi first root d = 2 * root + 2 ∧ 2 * root + 2 < hi) := by
  unfold bigChild
  split
  · rename_i h; simp at h; exact .inr ⟨rfl, by omega⟩
  · exact .inl rfl

set_option maxRecDepth 100000 in
set_option maxHeartbeats 2000000 in
theorem sift_spec {w : World} {g off cap lo hi first : Nat} {d : Array Int} (h : Row64 w g off d) (hb : first + hi ≤ d.size) (hlo : lo ≤ d.size) (hsz : d.size ≤ 1099511627776) :
    Calls Try.prog 117 #[.slice (some ⟨g, off, none⟩) d.size cap, .int .i64 lo, .int .i64 hi, .int .i64 first] w fun e w' => e = .returned (.tuple #[]) ∧ Row64 w' g off (siftDown ltInt hi first lo d) ∧ Keep (· = g) w w' := by
  go_enter Try.func117, Try.ntmps117
  go_wp2
  go_loopw [8] (fun vr wr => ∃ (root : Nat) (dk : Array Int), vr = .int .i64 root ∧ root ≤ d.size ∧ dk.size = d.size ∧ Row64 wr g off dk ∧ Keep (· = g) w wr ∧ siftDown ltInt hi first root dk = siftDown ltInt hi first lo d) (fun vr _ => hi - (intOf vr).toNat)
  case atStart => exact ⟨lo, d, rfl, hlo, rfl, h, Keep.refl _ _, rfl⟩
  case round =>
    clear h
    obtain ⟨root, dj, rfl, hrs, hsj, hR, hK, hI⟩ := hrel
    obtain ⟨G, hG⟩ : ∃ G : Nat → Int, ∀ t, G t = dj[t]! := ⟨fun t => dj[t]!, fun _ => rfl⟩
    have hcw : ∀ t, t < d.size → wr.cell? ⟨g, off + t, none⟩ = some (.int .u64 (G t)) := fun t ht => by rw [hG]; exact hR.cell (by omega)
    by_cases hend : hi ≤ 2 * root + 1
    · have he : (hi : Int) ≤ 2 * (root : Int) + 1 := by omega
      have HI := Lib.hid (And.intro hI (And.intro hR hK))
      clear hI hR hK hcw hG
      go_wp2
      go_end0
      exact ⟨rfl, by rw [← HI.out.1, siftDown_end _ _ _ _ hend]; exact HI.out.2.1, HI.out.2.2⟩
    · have he : ¬ (hi : Int) ≤ 2 * (root : Int) + 1 := by omega
      obtain ⟨c, hc⟩ : ∃ c, c = bigChild hi first root dj := ⟨_, rfl⟩
      have hcc := bigChild_cases hi first root dj
      rw [← hc] at hcc
      have hstop := siftDown_stop hi first root dj hend
      have hstep := siftDown_step hi first root dj hend
      rw [← hc] at hstop hstep
      have hcd : c = if 2 * root + 1 + 1 < hi && ltInt (G (first + (2 * root + 1))) (G (first + (2 * root + 1) + 1)) then 2 * root + 2 else 2 * root + 1 := by rw [hc, hG, hG]; rfl
      have HI := Lib.hid (And.intro hI (And.intro hG (And.intro hR (And.intro hK (And.intro hstop hstep)))))
      clear hI hG hR hK hstop hstep hc
      obtain ⟨cb, hcb⟩ : ∃ cb : Bool, cb = (decide (2 * root + 1 + 1 < hi) && ltInt (G (first + (2 * root + 1))) (G (first + (2 * root + 1) + 1))) := ⟨_, rfl⟩
      go_upto_region 3 with fail
      go_cut [36] (fun v wx => v = .bool cb ∧ Keep No wr wx)
      case first =>
        by_cases h2 : 2 * root + 1 + 1 < hi
        · have h2' : 2 * (root : Int) + 1 + 1 < (hi : Int) := by omega
          have hcb' : cb = ltInt (G (first + (2 * root + 1))) (G (first + (2 * root + 1) + 1)) := by rw [hcb]; simp [h2]
          have HC := Lib.hid hcb'
          clear hcb hcd hcb'
          go_quiet (first | (go_at_call 112; refine Calls.quiet_of_same (less_spec _ _ _)))
          go_wp2
          go_meet
          exact ⟨by rw [HC.out, show first + (2 * root + 1) + 1 = first + 2 * root + 2 by omega, show first + (2 * root + 1) = first + 2 * root + 1 by omega], (Keep.refl _ _).drewN _⟩
        · have h2' : ¬ 2 * (root : Int) + 1 + 1 < (hi : Int) := by omega
          have hcb' : cb = false := by rw [hcb]; simp [h2]
          have HC := Lib.hid hcb'
          clear hcb hcd hcb'
          go_quiet (first | (go_at_call 112; refine Calls.quiet_of_same (less_spec _ _ _)))
          go_wp2
          go_meet
          exact ⟨by rw [HC.out], (Keep.refl _ _).drewN _⟩
      case rest =>
        obtain ⟨rfl, k1⟩ := hcut
        generalize wc = w1 at *
        have hR1 := HI.out.2.2.1.keep k1 (fun e => e)
        have hK1 := HI.out.2.2.2.1.trans k1 (fun _ _ e => e.elim)
        have hcw : ∀ t, t < d.size → w1.cell? ⟨g, off + t, none⟩ = some (.int .u64 (G t)) := fun t ht => by rw [HI.out.2.1]; exact hR1.cell (by omega)
        have hfw : ∀ t, t < d.size → w1.frozen? ⟨g, off + t, none⟩ = false := fun t _ => hR1.frozen t
        rw [← hcb] at hcd
        have HJ := Lib.hid (And.intro hR1 (And.intro hK1 (And.intro hcd hcc)))
        clear hR1 hK1 hcb
        go_upto_if 36 with fail
        go_cut [9] (fun v wx => v = .int .i64 c ∧ wx = w1)
        case first =>
          cases cb with
          | true =>
            have e : c = 2 * root + 2 := hcd
            clear hcd hcc
            go_wp2
            go_meet
            exact ⟨by congr 1; omega, rfl⟩
          | false =>
            have e : c = 2 * root + 1 := hcd
            clear hcd hcc
            go_wp2
            go_meet
            exact ⟨by congr 1; omega, rfl⟩
        case rest =>
          obtain ⟨rfl, rfl⟩ := hcut
          have hcl : first + c < d.size := by have := HJ.out.2.2.2; omega
          have hrl : first + root < d.size := by omega
          have hrc : root < c := by omega
          clear hcd hcc he
          go_wp2
          go_quiet (first | (go_at_call 112; refine Calls.quiet_of_same (less_spec _ _ _)))
          go_wp2
          · have hl0 : (!ltInt (G (first + root)) (G (first + c))) = true := by assumption
            have hl : ltInt (G (first + root)) (G (first + c)) = false := by simpa using hl0
            refine bodyPost_ret (results_none rfl _ _ _) rfl ?_
            refine ⟨rfl, ?_, HJ.out.2.1.drewN _⟩
            rw [← HI.out.1, HI.out.2.2.2.2.1 (by rw [← HI.out.2.1, ← HI.out.2.1]; exact hl)]
            exact HJ.out.1.keep ((Keep.refl No _).drewN _) (fun e => e)
          · have hl0 : (!ltInt (G (first + root)) (G (first + c))) = false := by assumption
            have hl : ltInt (G (first + root)) (G (first + c)) = true := by simpa using hl0
            go_region
            all_goals go_wp2
            go_roundw
            case rel =>
              have hsw := (HJ.out.1.keep ((Keep.refl No _).drewN (nq + 1)) (fun e => e)).swap (i := first + root) (j := first + c) (by omega) (by omega)
              rw [← HI.out.2.1, ← HI.out.2.1] at hsw
              refine ⟨c, swp dj (first + root) (first + c), rfl, by omega, by rw [size_swp]; exact hsj, hsw.1, ((HJ.out.2.1.drewN (nq + 1)).trans hsw.2 (fun _ _ e => e)), ?_⟩
              rw [← HI.out.1, HI.out.2.2.2.2.2 (by rw [← HI.out.2.1, ← HI.out.2.1]; exact hl)]
            case measure =>
              have := HJ.out.2.2.2
              simp [intOf]; omega

theorem siftDown_size (hi first : Nat) : ∀ (n root : Nat) (d : Array Int), hi - root ≤ n → (siftDown ltInt hi first root d).size = d.size := by
  intro n
  induction n with
  | zero => intro root d h; rw [siftDown_end _ _ _ _ (by omega)]
  | succ n ih =>
    intro root d h
    by_cases he : hi ≤ 2 * root + 1
    · rw [siftDown_end _ _ _ _ he]
    · cases hl : ltInt d[first + root]! d[first + bigChild hi first root d]! with
      | false => rw [siftDown_stop _ _ _ _ he hl]
      | true =>
        rw [siftDown_step _ _ _ _ he hl, ih _ _ (by have := bigChild_cases hi first root d; omega), size_swp]

set_option maxRecDepth 100000 in
set_option maxHeartbeats 2000000 in
theorem heap_spec {w : World} {g off cap a b : Nat} {d : Array Int} (h : Row64 w g off d) (hab : a < b) (hb : b ≤ d.size) (hsz : d.size ≤ 1099511627776) :
    Calls Try.prog 107 #[.slice (some ⟨g, off, none⟩) d.size cap, .int .i64 a, .int .i64 b] w fun e w' => e = .returned (.tuple #[]) ∧ Row64 w' g off (heapSort ltInt d a b) ∧ Keep (· = g) w w' := by
  obtain ⟨n, hna⟩ : ∃ n : Nat, b - a = n := ⟨_, rfl⟩
  have hbuild : ∀ (k : Nat) (d : Array Int), heapBuild ltInt n a (k + 1) d = heapBuild ltInt n a k (siftDown ltInt n a k d) := fun k d => rfl
  have hpop : ∀ (k : Nat) (d : Array Int), heapPop ltInt a (k + 1) d = heapPop ltInt a k (siftDown ltInt k a 0 (swp d a (a + k))) := fun k d => rfl
  have hq : ((n : Int) - 1).tdiv 2 = (((n - 1) / 2 : Nat) : Int) := by
    have e : (n : Int) - 1 = ((n - 1 : Nat) : Int) := by omega
    rw [e]
    rfl
  obtain ⟨m, hm⟩ : ∃ m : Nat, m = (n - 1) / 2 := ⟨_, rfl⟩
  rw [← hm] at hq
  have hmn : m ≤ n := by omega
  have hn1 : (n : Int) ≤ 1099511627776 := by omega
  have hn0 : (1 : Int) ≤ (n : Int) := by omega
  have e0 : (b : Int) - (a : Int) = (n : Int) := by omega
  have han : a + n ≤ d.size := by omega
  unfold heapSort
  rw [hna, ← hm]
  have HB := Lib.hid (And.intro hbuild hpop)
  clear hbuild hpop hna hab hb
  go_enter Try.func107, Try.ntmps107
  go_upto_block 0 with fail
  go_cut [9] (fun _ wx => Row64 wx g off (heapBuild ltInt n a (m + 1) d) ∧ (heapBuild ltInt n a (m + 1) d).size = d.size ∧ Keep (· = g) w wx)
  case first =>
    go_wp2
    go_loopw [9] (fun vi wr => ∃ (k : Nat) (dk : Array Int), vi = .int .i64 ((k : Int) - 1) ∧ k ≤ n + 1 ∧ dk.size = d.size ∧ Row64 wr g off dk ∧ Keep (· = g) w wr ∧ heapBuild ltInt n a k dk = heapBuild ltInt n a (m + 1) d) (fun vi _ => (intOf vi + 1).toNat)
    case atStart => exact ⟨m + 1, d, by go_num, by omega, rfl, h, Keep.refl _ _, rfl⟩
    case round =>
      clear h
      obtain ⟨k, dk, rfl, hkn, hsk, hR, hK, hI⟩ := hrel
      cases k with
      | zero =>
        have e : heapBuild ltInt n a 0 dk = dk := rfl
        have HI := Lib.hid (And.intro hI (And.intro hR (And.intro hK e)))
        clear hI hR hK e
        have hneg : ¬ (0 : Int) ≤ (0 : Int) - 1 := by omega
        go_wp2
        go_meet
        rw [← HI.out.1, HI.out.2.2.2]
        exact ⟨HI.out.2.1, hsk, HI.out.2.2.1⟩
      | succ k =>
        have hk1 : ((k + 1 : Nat) : Int) - 1 = (k : Int) := by omega
        rw [hk1]
        have HI := Lib.hid hI
        clear hI
        have hsift := sift_spec (cap := cap) hR (lo := k) (hi := n) (first := a) (by omega) (by omega) (by omega)
        rw [hsk] at hsift
        clear hR hk1
        go_wp2_with (go_at_call 117; refine hsift.mono ?_; rintro e w2 ⟨rfl, hR2, hK2⟩)
        go_roundw
        case rel => exact ⟨k, siftDown ltInt n a k dk, by go_num, by omega, by rw [siftDown_size n a (n - k) k dk (Nat.le_refl _)]; exact hsk, hR2, hK.trans hK2 (fun _ _ e => e), by rw [← HB.out.1]; exact HI.out⟩
        case measure => simp [intOf]
  case rest =>
    obtain ⟨hR, hs, hK⟩ := hcut
    generalize wc = w1 at *
    obtain ⟨D1, hD1⟩ : ∃ D1, D1 = heapBuild ltInt n a (m + 1) d := ⟨_, rfl⟩
    rw [← hD1] at hR hs
    have HD := Lib.hid hD1
    clear hD1 h hq hm
    go_wp2
    go_loopw [10] (fun vi wr => ∃ (k : Nat) (dk : Array Int), vi = .int .i64 ((k : Int) - 1) ∧ k ≤ n ∧ dk.size = d.size ∧ Row64 wr g off dk ∧ Keep (· = g) w wr ∧ heapPop ltInt a k dk = heapPop ltInt a n D1) (fun vi _ => (intOf vi + 1).toNat)
    case atStart => exact ⟨n, D1, by go_num, Nat.le_refl _, hs, hR, hK, rfl⟩
    case round =>
      clear hR hs hK
      obtain ⟨k, dk, rfl, hkn, hsk, hR, hK, hI⟩ := hrel
      cases k with
      | zero =>
        have e : heapPop ltInt a 0 dk = dk := rfl
        have HI := Lib.hid (And.intro hI (And.intro hR (And.intro hK e)))
        clear hI hR hK e
        have hneg : ¬ (0 : Int) ≤ (0 : Int) - 1 := by omega
        go_wp2
        go_end0
        rw [← HD.out, ← HI.out.1, HI.out.2.2.2]
        exact ⟨rfl, HI.out.2.1, HI.out.2.2.1⟩
      | succ k =>
        obtain ⟨G, hG⟩ : ∃ G : Nat → Int, ∀ t, G t = dk[t]! := ⟨fun t => dk[t]!, fun _ => rfl⟩
        have hcw : ∀ t, t < d.size → wr.cell? ⟨g, off + t, none⟩ = some (.int .u64 (G t)) := fun t ht => by rw [hG]; exact hR.cell (by omega)
        have hfw : ∀ t, t < d.size → wr.frozen? ⟨g, off + t, none⟩ = false := fun t _ => hR.frozen t
        have hstep := HB.out.2 k dk
        have hsw := (hR.keep ((Keep.refl No wr).drewN 1) (fun e => e)).swap (i := a) (j := a + k) (by omega) (by omega)
        have hszs : (swp dk a (a + k)).size = d.size := by rw [size_swp]; exact hsk
        have hsift := sift_spec (cap := cap) hsw.1 (lo := 0) (hi := k) (first := a) (by omega) (by omega) (by omega)
        rw [hszs] at hsift
        rw [← hG, ← hG] at hsift hsw
        have hK2 := (hK.drewN 1).trans hsw.2 (fun _ _ e => e)
        have HI := Lib.hid (And.intro hI (And.intro hstep (And.intro hszs hK2)))
        have HS := Lib.hid hsift
        clear hI hG hR hK hstep hsw hszs hK2 hsift
        have hk1 : ((k + 1 : Nat) : Int) - 1 = (k : Int) := by omega
        rw [hk1]
        have fin : ∀ w2, Row64 w2 g off (siftDown ltInt k a 0 (swp dk a (a + k))) → Keep (· = g) w w2 → ∃ (k' : Nat) (dk' : Array Int), Value.int .i64 ((k : Int) - 1) = .int .i64 ((k' : Int) - 1) ∧ k' ≤ n ∧ dk'.size = d.size ∧ Row64 w2 g off dk' ∧ Keep (· = g) w w2 ∧ heapPop ltInt a k' dk' = heapPop ltInt a n D1 := fun w2 h1 h2 =>
          ⟨k, siftDown ltInt k a 0 (swp dk a (a + k)), rfl, by omega, by rw [siftDown_size k a k 0 _ (by omega)]; exact HI.out.2.2.1, h1, h2, by rw [← HI.out.1]; exact HI.out.2.1.symm⟩
        have FIN := Lib.hid fin
        clear fin hk1
        by_cases hk0 : k = 0
        · subst hk0
          go_wp2
          go_region
          all_goals go_wp2_with (go_at_call 117; refine HS.out.mono ?_; rintro e w2 ⟨rfl, hR2, hK2⟩)
          go_roundw
          case rel => exact FIN.out _ hR2 (HI.out.2.2.2.trans hK2 (fun _ _ e => e))
          case measure => simp [intOf]
        · have hka : a < a + k := by omega
          go_wp2
          go_region
          all_goals go_wp2_with (go_at_call 117; refine HS.out.mono ?_; rintro e w2 ⟨rfl, hR2, hK2⟩)
          go_roundw
          case rel => exact FIN.out _ hR2 (HI.out.2.2.2.trans hK2 (fun _ _ e => e))
          case measure => simp [intOf]
end Go.Proofs.Ytpjggnfiocplmaa
