/- Package seglog: what is needed, the end. -/
import Derived.Test.YtpjggnfiocplmaaLogZ
namespace Go.Proofs.Ytpjggnfiocplmaa
open Go Go.RowKit Go.Dr

def neededB (s : SegV) (n : Nat) (last : Bool) : Bool := s.headed && (last || (decide (0 < s.count) && decide (n < s.first + s.count)))
def segAgg (s : SegV) : Value := .agg #[.int .u64 s.n, .int .u64 s.first, .int .u64 s.count, .int .i64 s.size, .bool s.whole, .bool s.headed]

set_option maxRecDepth 100000 in
set_option maxHeartbeats 1000000 in
theorem lneeded_spec (w : World) (s : SegV) (n : Nat) (last : Bool) (hs : s.first + s.count ≤ 9223372036854775807) :
    Calls Try.prog 79 #[segAgg s, .int .u64 n, .bool last] w fun e w' => e = .returned (.bool (neededB s n last)) ∧ Keep No w w' := by
  unfold segAgg neededB
  have hw : IntKind.u64.wrap ((s.first : Int) + (s.count : Int)) = ((s.first + s.count : Nat) : Int) := by rw [IntKind.wrap_u64]; omega
  have hlt : decide ((n : Int) < ((s.first + s.count : Nat) : Int)) = decide (n < s.first + s.count) := by
    rw [decide_eq_decide]; omega
  generalize s.first + s.count = fc at *
  have HS := Lib.hid hs
  clear hs
  cases hd : s.headed with
  | false =>
    go_enter Try.func79, Try.ntmps79
    go_wp2
    go_ret
    exact ⟨rfl, (Keep.refl _ _).alloc _⟩
  | true =>
    cases last with
    | true =>
      go_enter Try.func79, Try.ntmps79
      go_wp2
      go_ret
      exact ⟨rfl, (Keep.refl _ _).alloc _⟩
    | false =>
      by_cases hc : 0 < s.count
      · have hci : (0 : Int) < (s.count : Int) := by omega
        have hcd : decide (0 < s.count) = true := decide_eq_true hc
        rw [hcd]
        clear hc
        go_enter Try.func79, Try.ntmps79
        go_wp2
        go_ret
        exact ⟨by simp, (Keep.refl _ _).alloc _⟩
      · have hci : ¬ (0 : Int) < (s.count : Int) := by omega
        have hcd : decide (0 < s.count) = false := decide_eq_false hc
        rw [hcd]
        clear hc
        go_enter Try.func79, Try.ntmps79
        go_wp2
        go_ret
        exact ⟨rfl, (Keep.refl _ _).alloc _⟩

/-- The place of the last segment with a head, of the first k; -1: there is none. -/
def endOf (l : List SegV) : Nat → Int
  | 0 => -1
  | k + 1 => if (l[k]?.map (·.headed)).getD false then (k : Int) else endOf l k

set_option maxRecDepth 100000 in
set_option maxHeartbeats 1000000 in
theorem lend_spec [bn : Inhabited Ban] {base : Nat} {w : World} {g p : Nat} {sv lv : Value} {L : LogS} (h : LogAt base w g p sv lv L) (hfew : L.segs.length ≤ 1000000) :
    Calls Try.prog 78 #[.pointer (some ⟨g, 0, none⟩)] w fun e w' => e = .returned (.int .i64 (endOf L.segs L.segs.length)) ∧ w' = w := by
  obtain ⟨ao, cap, rfl, _, _⟩ := h.segs.form
  have c2 := cell_of h.blk 2
  simp at c2
  have hli : (L.segs.length : Int) ≤ 1099511627776 := by omega
  have hcells := fun (i : Nat) (s : SegV) (hi : L.segs[i]? = some s) => h.segs.cell hi
  have HH := Lib.hid hcells
  clear hcells h hfew
  generalize hl : L.segs = l at *
  go_enter Try.func78, Try.ntmps78
  go_wp2_with fail
  go_loop [3] (fun i => ∃ j : Nat, j ≤ l.length ∧ i = .int .i64 ((j : Int) - 1) ∧ endOf l l.length = endOf l j) (fun i => (intOf i + 1).toNat)
  case atStart => exact ⟨l.length, Nat.le_refl _, by go_num, rfl⟩
  case round =>
    obtain ⟨j, hj, rfl, he⟩ := hrel
    rcases j with _ | j
    · have hji : ¬ (0 : Int) ≤ ((0 : Nat) : Int) - 1 := by decide
      rw [he]
      go_wp2
      go_ret
      exact ⟨rfl, rfl⟩
    · have hj1 : ((j + 1 : Nat) : Int) - 1 = (j : Int) := by omega
      have hj0 : (0 : Int) ≤ (j : Int) := by omega
      have hlj : l[j]? = some l[j] := List.getElem?_eq_getElem (by omega)
      obtain ⟨r, rfl, _, _, _, _, _, s5⟩ := HH.out j _ hlj
      have he2 : endOf l (j + 1) = if l[j].headed then (j : Int) else endOf l j := by
        show (if (l[j]?.map (·.headed)).getD false then (j : Int) else endOf l j) = _
        rw [hlj]; rfl
      have hji : (j : Int) < (l.length : Int) := by omega
      rw [he2] at he
      rw [hj1]
      generalize l[j] = s at *
      have HJ := Lib.hid (And.intro hj he)
      cases hd : s.headed with
      | true =>
        rw [hd] at s5
        have he3 : endOf l l.length = (j : Int) := by rw [HJ.out.2, hd]; rfl
        have HE := Lib.hid he3
        clear he he2 he3 hj hj1 hlj
        go_wp2
        go_ret
        exact ⟨by rw [HE.out]; rfl, rfl⟩
      | false =>
        rw [hd] at s5
        have he3 : endOf l l.length = endOf l j := by rw [HJ.out.2, hd]; rfl
        have HE := Lib.hid he3
        clear he he2 he3 hj hj1 hlj
        go_wp2
        go_round
        case rel => exact ⟨j, by have := HJ.out.1; omega, by go_num, HE.out⟩
        case measure => simp [intOf]
end Go.Proofs.Ytpjggnfiocplmaa
