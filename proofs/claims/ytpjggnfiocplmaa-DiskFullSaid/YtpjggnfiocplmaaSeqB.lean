/- maps.Keys and its iterator: the walks. -/
import Derived.Test.YtpjggnfiocplmaaSeqA
import Derived.Shelf.AbstractIn
import Derived.RegionIn
import Derived.Sort.MapsRangeIn
namespace Go.Proofs.Ytpjggnfiocplmaa
open Go Go.RowKit Go.Shelf Go.Maps
attribute [local go_sem] Oper.semAt_some

set_option maxRecDepth 100000 in
set_option maxHeartbeats 4000000 in
theorem keysIt_stops (n : Nat) (hn : 1 ≤ n) {w : World} {Bm r : Nat} {es : Array MapEntry} {clock : Nat} {ks : List Int} (hb : w.heap[r]? = some (.map es clock)) (he : KeyEnts es.toList clock ks) (hBl : Bm < w.heap.size) (hm : w.cell? ⟨Bm, 0, none⟩ = some (.map (some r))) :
    SeqStops Fence.wide n Try.prog 93 #[.pointer (some ⟨Bm, 0, none⟩)] (fun x : Int => .int .u64 x) (fun ss => ss.Perm ks) (fun _ => True) ks.length w := by
  intro l J Jx W hW hJ _ hY h0
  have hrl : r < w.heap.size := heap_lt hb
  have hbW : W.heap[r]? = some (.map es clock) := (hW.block r hrl).trans hb
  have hmW : W.cell? ⟨Bm, 0, none⟩ = some (.map (some r)) := (hW.cell (p := ⟨Bm, 0, none⟩) hBl).trans hm
  obtain ⟨hrun, hI0⟩ := range_keys hbW he
  have hJ0 : J [] (W.alloc (.mapIter (some r) clock #[] clock)) := hJ [] W _ none h0 (World.grownBy_alloc W _ none) (fun r e => by cases e)
  have HP := Lib.hid (And.intro hJ hY)
  clear hJ hY hW h0 hb hm
  refine callsIn_of_wp Try.func93 rfl trivial ?_ rfl
  simp only [Try.ntmps93, List.size_toArray, List.length_cons, List.length_nil, Nat.reduceAdd, Nat.reduceSub, Array.replicate_succ, Array.replicate_zero, List.push_toArray, List.append_toArray, List.nil_append, List.cons_append]
  gi_wp2

  gi_loopw [3] (fun _ wr => ∃ (left ss : List Int), IterK wr W.heap.size r ks left ∧ left.Nodup ∧ (ss ++ left).Perm ks ∧ J ss wr) (fun _ wr => leftNum wr W.heap.size)
  case atStart => exact ⟨ks, [], hI0, he.nodup, by simp, hJ0⟩
  case round =>
    clear hI0 hJ0 hrun
    obtain ⟨left, ss, hI, hnd, hperm, hJs⟩ := hrel
    have hlen : ss.length + left.length = ks.length := by rw [← List.length_append]; exact hperm.length_eq
    rcases next_keys hI 0 with ⟨rfl, hrun⟩ | ⟨k, hk, v, w2, hrun, hent, hI2, hkeep⟩
    · have HF := Lib.hid (And.intro hperm hJs)
      clear hI hnd hperm hJs
      gi_wp2
      go_end0
      exact ⟨⟨_, rfl⟩, .inl ⟨ss, by simpa using HF.out.1, HF.out.2⟩⟩
    · have hit : ∃ o : Obj, wr.heap[W.heap.size]? = some o ∧ o.isWalk = true := by
        obtain ⟨es', c', seen', h1, _⟩ := hI.ex
        exact ⟨_, h1, rfl⟩
      have hJ2 : J ss w2 := HP.out.1 ss wr w2 (some W.heap.size) hJs hkeep.grownIt (fun r e => by cases e; exact ⟨Nat.le_refl _, hit⟩)
      have hpos : 0 < left.length := List.length_pos_of_mem hk
      obtain ⟨fn, tmps, assign, body, hy, hR⟩ := HP.out.2 ss k w2 hJ2 (by omega)
      have hp2 := perm_filter_ne hk hnd
      have hn1 := hI.num
      have HF := Lib.hid (And.intro hI2 (And.intro (hnd.sublist (List.filter_sublist (p := fun x => x != k))) (And.intro hp2 (And.intro hperm hn1))))
      clear hI hnd hperm hJs hI2 hkeep hit hJ2 hp2 hn1 hlen hpos hk
      gi_wp2
      refine hR.mono ?_
      rintro e W3 (⟨rfl, hJ3, hk3⟩ | ⟨rfl, hJx3⟩)
      · gi_wp2
        go_roundw
        case rel =>
          refine ⟨left.filter (fun x => x != k), ss ++ [k], HF.out.1.walks hk3, HF.out.2.1, ?_, hJ3⟩
          rw [List.append_assoc]
          exact (List.Perm.append_left ss HF.out.2.2.1).trans HF.out.2.2.2.1
        case measure =>
          have h1 := HF.out.2.2.1.length_eq
          rw [(HF.out.1.walks hk3).num, HF.out.2.2.2.2]
          simp only [List.length_cons] at h1
          omega
      · gi_wp2
        refine bodyPost_ret (results_none rfl _ _ _) rfl ?_
        exact ⟨⟨_, rfl⟩, .inr ⟨ss ++ [k], trivial, hJx3⟩⟩

set_option maxHeartbeats 1000000 in
theorem keys_spec (n : Nat) (mb : Option Nat) (w : World) :
    Go.CallsIn Fence.wide n Try.prog 69 #[.map mb] w fun e w' => e = .returned (.func (.func 93) #[] #[.pointer (some ⟨w.heap.size, 0, none⟩)]) ∧ w' = w.alloc (.cells #[.map mb] 96) := by
  refine callsIn_of_wp Try.func69 rfl trivial ?_ rfl
  simp only [Try.ntmps69, List.size_toArray, List.length_cons, List.length_nil, Nat.reduceAdd, Nat.reduceSub, Array.replicate_succ, Array.replicate_zero, List.push_toArray, List.append_toArray, List.nil_append, List.cons_append]
  gi_wp2
  go_ret
  exact ⟨rfl, rfl⟩
end Go.Proofs.Ytpjggnfiocplmaa
