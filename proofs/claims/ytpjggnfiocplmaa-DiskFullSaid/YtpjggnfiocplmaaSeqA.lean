/- Ranging over a map's keys: the iterator that maps.Keys hands back. -/
import Derived.Test.YtpjggnfiocplmaaNums
import Derived.RangeFuncNested
import Derived.RangeFuncBound
import Derived.RangeFuncCalls
import Derived.RangeFuncLeaves
import Derived.Shelf.Abstract
import Derived.Shelf.RegionOpen
import Derived.WalkKit
import Derived.OwnWalkIn
import Derived.TacticsInMore
import Derived.LoopNIn
import Derived.LoopIn
namespace Go.Proofs.Ytpjggnfiocplmaa
open Go Go.RowKit Go.Shelf
attribute [local go_sem] Oper.semAt_some

/-- The keys of a map's entries. -/
structure KeyEnts (es : List MapEntry) (clock : Nat) (ks : List Int) : Prop where
  keys : es.map (·.key) = ks.map (.int .u64 ·)
  born : es.Pairwise (fun a b => a.born < b.born)
  clock : ∀ e ∈ es, e.born < clock
  nodup : ks.Nodup
theorem MapAt.keyEnts [bn : Inhabited Ban] {base : Nat} {w : World} {r : Nat} {m : AMap} (h : MapAt base w r m) : ∃ es clock, w.heap[r]? = some (.map es clock) ∧ KeyEnts es.toList clock (m.map (·.1)) := by
  obtain ⟨es, clock, hb, he⟩ := h
  refine ⟨es, clock, hb, ?_, he.born, he.clock, he.keys.nodup⟩
  have e1 : es.toList = (es.toList.zip m).map (·.1) := (List.map_fst_zip (by rw [he.len]; exact Nat.le_refl _)).symm
  have e2 : m = (es.toList.zip m).map (·.2) := (List.map_snd_zip (by rw [he.len]; exact Nat.le_refl _)).symm
  conv => lhs; rw [e1]
  conv => rhs; rw [e2]
  rw [List.map_map, List.map_map, List.map_map]
  exact List.map_congr_left (fun p hp => (he.all p hp).1)
structure IterK (w : World) (it r : Nat) (ks left : List Int) : Prop where
  ex : ∃ es clock seen, w.heap[it]? = some (.mapIter (some r) clock seen clock) ∧ w.heap[r]? = some (.map es clock) ∧ KeyEnts es.toList clock ks ∧
    left = ((es.toList.zip ks).filter (fun p => !seen.contains p.1.born)).map (·.2)
theorem KeyEnts.len {es : List MapEntry} {clock : Nat} {ks : List Int} (h : KeyEnts es clock ks) : es.length = ks.length := by
  have := congrArg List.length h.keys
  simpa using this
theorem KeyEnts.at_ {es : List MapEntry} {clock : Nat} {ks : List Int} (h : KeyEnts es clock ks) {p : MapEntry × Int} (hp : p ∈ es.zip ks) : p.1.key = .int .u64 p.2 := by
  obtain ⟨i, hi⟩ := List.mem_iff_getElem?.1 hp
  rw [List.getElem?_zip_eq_some] at hi
  have h1 : (es.map (·.key))[i]? = some p.1.key := by rw [List.getElem?_map, hi.1]; rfl
  rw [h.keys, List.getElem?_map, hi.2] at h1
  simpa using h1.symm
theorem range_keys {w : World} {r : Nat} {es : Array MapEntry} {clock : Nat} {ks : List Int} (hb : w.heap[r]? = some (.map es clock)) (he : KeyEnts es.toList clock ks) :
    (Instr.range 96 (.map (some r))).run Try.prog w = .ok (.pointer (some ⟨w.heap.size, 0, none⟩)) (w.alloc (.mapIter (some r) clock #[] clock)) ∧ IterK (w.alloc (.mapIter (some r) clock #[] clock)) w.heap.size r ks ks := by
  have hk : Keep No w (w.alloc (.mapIter (some r) clock #[] clock)) := (Keep.refl _ w).alloc _
  refine ⟨?_, ⟨es, clock, #[], heap_new w _, hk.heap hb (fun h => h), he, ?_⟩⟩
  · simp [Instr.range, run_underlying Try.underlying96, MapKept.run_getObj_map hb, newObj, Sem.run, Result.andThen]
  · have e : (es.toList.zip ks).filter (fun p => !(#[] : Array Nat).contains p.1.born) = es.toList.zip ks := List.filter_eq_self.2 (fun p _ => by simp)
    rw [e]
    exact (List.map_snd_zip (by rw [he.len]; exact Nat.le_refl _)).symm
theorem IterK.num {w : World} {it r : Nat} {ks left : List Int} (h : IterK w it r ks left) : leftNum w it = left.length := by
  obtain ⟨es, clock, seen, hi, hb, he, hl⟩ := h.ex
  have e : es.toList = (es.toList.zip ks).map (·.1) := (List.map_fst_zip (by rw [he.len]; exact Nat.le_refl _)).symm
  have h1 : (leftOf es seen).toList = es.toList.filter (fun e => !seen.contains e.born) := by simp [leftOf]
  have h2 : (leftOf es seen).size = left.length := by
    rw [← Array.length_toList, h1, hl, List.length_map]
    conv => lhs; rw [e]
    rw [List.filter_map, List.length_map]
    rfl
  simp only [leftNum, hi, hb, h2]
theorem next_keys {w : World} {it r : Nat} {ks left : List Int} (h : IterK w it r ks left) (ty : TypeId) :
    (left = [] ∧ (Instr.next (.pointer (some ⟨it, 0, none⟩)) false ty).run Try.prog w = .ok (.tuple #[.bool false]) w) ∨
    ∃ k ∈ left, ∃ v w', (Instr.next (.pointer (some ⟨it, 0, none⟩)) false ty).run Try.prog w = .ok (.tuple #[.bool true, .int .u64 k, v]) w' ∧
      (Instr.entry (.pointer (some ⟨it, 0, none⟩))).run Try.prog w' = .ok (.tuple #[.int .u64 k, v]) w' ∧
      IterK w' it r ks (left.filter (fun x => x != k)) ∧ Keep (· = it) w w' := by
  obtain ⟨es, clock, seen, hi, hb, he, hl⟩ := h.ex
  have hrne : r ≠ it := by rintro rfl; rw [hi] at hb; cases hb
  have hleft : (leftOf es seen).toList = ((es.toList.zip ks).filter (fun p => !seen.contains p.1.born)).map (·.1) := by
    have e : es.toList = (es.toList.zip ks).map (·.1) := (List.map_fst_zip (by rw [he.len]; exact Nat.le_refl _)).symm
    have : (leftOf es seen).toList = es.toList.filter (fun e => !seen.contains e.born) := by simp [leftOf]
    rw [this]
    conv => lhs; rw [e]
    rw [List.filter_map]
    rfl
  rcases run_next_at (P := Try.prog) w ty it r clock clock seen es clock hi hb he.clock (Nat.le_refl _) with ⟨h0, hrun⟩ | ⟨e, hel, w1, hw1, hrun⟩
  · left
    refine ⟨?_, hrun⟩
    have : (leftOf es seen).toList = [] := List.eq_nil_of_length_eq_zero (by simpa using h0)
    rw [hleft] at this
    rw [hl, List.map_eq_nil_iff.1 this]
    rfl
  · right
    rw [hleft] at hel
    obtain ⟨p, hp, rfl⟩ := List.mem_map.1 hel
    obtain ⟨hpz, hps⟩ := List.mem_filter.1 hp
    have hpk := he.at_ hpz
    have hk : Keep (· = it) w (ChangeMaps.setBlock w1 it (.mapIter (some r) clock (seen.push p.1.born) clock)) := by
      rcases hw1 with rfl | rfl
      · exact Keep.setObj (F := (· = it)) (Keep.refl _ w1) (r := it) (.inl rfl) _
      · exact Keep.setObj (F := (· = it)) (Keep.drew (Keep.refl _ w)) (r := it) (.inl rfl) _
    have hil : it < w1.heap.size := by rcases hw1 with rfl | rfl <;> exact heap_lt hi
    have hi' : (ChangeMaps.setBlock w1 it (.mapIter (some r) clock (seen.push p.1.born) clock)).heap[it]? = some (.mapIter (some r) clock (seen.push p.1.born) clock) := by
      simp [ChangeMaps.setBlock, hil]
    have hb' := hk.heap hb hrne
    have hnd : (es.toList.map (fun e : MapEntry => e.born)).Nodup := by
      rw [List.nodup_iff_pairwise_ne, List.pairwise_map]
      exact he.born.imp (fun h => Nat.ne_of_lt h)
    rw [hpk] at hrun
    refine ⟨p.2, by rw [hl]; exact List.mem_map_of_mem hp, p.1.val, _, hrun, ?_, ⟨es, clock, seen.push p.1.born, hi', hb', he, ?_⟩, hk⟩
    · rw [run_entry_at _ it r clock seen es clock p.1 hi' hb' (List.of_mem_zip (a := p.1) (b := p.2) hpz).1 hnd, hpk]
    · rw [hl, List.filter_map]
      congr 1
      rw [List.filter_filter]
      apply List.filter_congr
      intro q hq
      have hborn : (es.toList.zip ks).Pairwise (fun a b => a.1.born ≠ b.1.born) := by
        have := he.born.imp (S := fun a b : MapEntry => a.born ≠ b.born) (fun h => Nat.ne_of_lt h)
        have e : es.toList = (es.toList.zip ks).map (·.1) := (List.map_fst_zip (by rw [he.len]; exact Nat.le_refl _)).symm
        rw [e, List.pairwise_map] at this
        exact this
      have hkeys : (es.toList.zip ks).Pairwise (fun a b => a.2 ≠ b.2) := by
        have := he.nodup
        have e : ks = (es.toList.zip ks).map (·.2) := (List.map_snd_zip (by rw [he.len]; exact Nat.le_refl _)).symm
        rw [e, List.nodup_iff_pairwise_ne, List.pairwise_map] at this
        exact this
      have hiff : q.1.born = p.1.born ↔ q.2 = p.2 := by
        constructor
        · intro h; rw [pairwise_inj (f := fun a : MapEntry × Int => a.1.born) hborn q hq p hpz h]
        · intro h; rw [pairwise_inj (f := fun a : MapEntry × Int => a.2) hkeys q hq p hpz h]
      by_cases h1 : q.1.born = p.1.born
      · simp [h1, hiff.1 h1]
      · have h2 : ¬ q.2 = p.2 := fun h => h1 (hiff.2 h)
        simp [h1, h2]
theorem IterK.walks {w w' : World} {it r : Nat} {ks left : List Int} (h : IterK w it r ks left) (k : KeepsWalks w w') : IterK w' it r ks left := by
  obtain ⟨es, clock, seen, hi, hb, he, hl⟩ := h.ex
  exact ⟨es, clock, seen, k.same _ _ hi rfl, k.same _ _ hb rfl, he, hl⟩
theorem Keep.grownIt {w w' : World} {it : Nat} (k : Keep (· = it) w w') : w.grownBy w' (some it) :=
  ⟨k.os, k.tape, k.output, k.size, fun b hb hn => k.block b hb (fun e => hn (by rw [e]))⟩
theorem perm_filter_ne {left : List Int} {k : Int} (hk : k ∈ left) (hn : left.Nodup) : (k :: left.filter (fun x => x != k)).Perm left := by
  refine (List.perm_ext_iff_of_nodup ?_ hn).2 (fun x => ?_)
  · exact List.nodup_cons.2 ⟨by simp, hn.sublist List.filter_sublist⟩
  · simp only [List.mem_cons, List.mem_filter, bne_iff_ne]
    constructor
    · rintro (rfl | h)
      · exact hk
      · exact h.1
    · intro h
      by_cases e : x = k
      · exact .inl e
      · exact .inr ⟨h, e⟩
end Go.Proofs.Ytpjggnfiocplmaa
