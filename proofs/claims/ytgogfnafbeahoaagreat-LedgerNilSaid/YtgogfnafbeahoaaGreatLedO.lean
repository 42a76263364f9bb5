/- The map of the spans' places. -/
import Derived.Test.YtgogfnafbeahoaaGreatLedN
namespace Go.Proofs.YtgogfnafbeahoaaGreat
open Go Go.RowKit

theorem check_id (w : World) (em : Bool) (a n : Int) : (Instr.checkKey em 10000 67 (.agg #[.int .i64 a, .int .u64 n])).run Tryz.prog w = .ok () w := by kernel_rfl
theorem equal_id (w : World) (a n b k : Int) : (Op.equal 67 (.agg #[.int .i64 a, .int .u64 n]) (.agg #[.int .i64 b, .int .u64 k])).run Tryz.prog w = .ok ((a == b) && (n == k)) w := by
  have hw : (Op.equal 67 (.agg #[.int .i64 a, .int .u64 n]) (.agg #[.int .i64 b, .int .u64 k])).run Tryz.prog w = (Op.equalIn (9999 + 1) 67 (.agg #[.int .i64 a, .int .u64 n]) (.agg #[.int .i64 b, .int .u64 k])).run Tryz.prog w := rfl
  rw [hw]
  cases h1 : (a == b) <;> cases h2 : (n == k) <;> go_simp
def posR (l : List RecS) (a : Int) (n : Nat) : Option Nat := l.findIdx? (fun r => ((r.who : Int) == a) && ((r.n : Int) == (n : Int)))
theorem findAsking_id (w : World) (a : Int) (n : Nat) : ∀ (es : List MapEntry) (l : List RecS) (i : Nat), es.length = l.length → (∀ (j : Nat) r, l[j]? = some r → (es[j]?).map (fun e => (e.key, e.val)) = some (idV r, .int .i64 ((i + j : Nat) : Int))) →
    (Instr.findAsking 67 (.agg #[.int .i64 a, .int .u64 n]) es i).run Tryz.prog w = .ok ((posR l a n).map (fun j => (i + j, .int .i64 ((i + j : Nat) : Int)))) w
  | [], [], i, _, _ => rfl
  | [], _ :: _, i, h, _ => by simp at h
  | _ :: _, [], i, h, _ => by simp at h
  | e :: es, r :: l, i, h, hk => by
    have h0 := hk 0 r rfl
    simp only [List.getElem?_cons_zero, Option.map_some, Option.some.injEq, Prod.mk.injEq] at h0
    have ih := findAsking_id w a n es l (i + 1) (by simpa using h) (fun j x hx => by
      have := hk (j + 1) x (by simpa using hx)
      simp only [List.getElem?_cons_succ] at this
      rw [this, show i + (j + 1) = i + 1 + j by omega])
    have he := equal_id w a n (r.who : Int) (r.n : Int)
    have hek : e.key = .agg #[.int .i64 (r.who : Int), .int .u64 (r.n : Int)] := h0.1
    unfold Instr.findAsking
    rw [hek]
    simp only [Sem.run_bind, he, Result.andThen_ok]
    unfold posR
    rw [List.findIdx?_cons]
    have hsym : (((r.who : Int) == a) && ((r.n : Int) == (n : Int))) = ((a == (r.who : Int)) && ((n : Int) == (r.n : Int))) := by
      rw [Bool.eq_iff_iff]
      simp only [Bool.and_eq_true, beq_iff_eq]
      exact ⟨fun h => ⟨h.1.symm, h.2.symm⟩, fun h => ⟨h.1.symm, h.2.symm⟩⟩
    rw [hsym]
    cases hc : ((a == (r.who : Int)) && ((n : Int) == (r.n : Int)))
    · simp only [Bool.false_eq_true, if_false]
      rw [ih]
      unfold posR
      have hfun : (fun j => (i + 1 + j, Value.int .i64 ((i + 1 + j : Nat) : Int))) = (fun j => (i + j, Value.int .i64 ((i + j : Nat) : Int))) ∘ (fun j => j + 1) := by
        funext j
        simp only [Function.comp]
        rw [show i + 1 + j = i + (j + 1) by omega]
      rw [Option.map_map, ← hfun]
    · simp only [if_true, Sem.run_pure, Option.map_some, h0.2, Nat.add_zero]
theorem findKey_id (w : World) (a : Int) (n : Nat) (es : List MapEntry) (l : List RecS) (h : es.length = l.length) (hk : ∀ (j : Nat) r, l[j]? = some r → (es[j]?).map (fun e => (e.key, e.val)) = some (idV r, .int .i64 (j : Int))) :
    (Instr.findKey 67 (.agg #[.int .i64 a, .int .u64 n]) es).run Tryz.prog w = .ok ((posR l a n).map (fun j => (j, .int .i64 (j : Int)))) w := by
  have h1 := findAsking_id w a n es l 0 h (fun j r hr => by rw [hk j r hr, Nat.zero_add])
  simp only [Nat.zero_add] at h1
  rw [← h1]
  unfold Instr.findKey
  cases es with
  | nil => simp [run_underlying Tryz.underlying67, Instr.findNow, Instr.findAsking]
  | cons e es => simp [run_underlying Tryz.underlying67, Instr.findNow, Instr.sameNow]
theorem zero_int (w : World) : (zeroValue 3).run Tryz.prog w = .ok (.int .i64 0) w := by kernel_rfl
/-- A look-up. -/
theorem ByAt.look {w : World} {m : Nat} {l : List RecS} (h : ByAt w m l) (a : Int) (n : Nat) :
    (Instr.lookup 108 (.map (some m)) (.agg #[.int .i64 a, .int .u64 n]) true).run Tryz.prog w = .ok (.tuple #[.int .i64 (((posR l a n).getD 0 : Nat) : Int), .bool (posR l a n).isSome]) w := by
  obtain ⟨es, clock, hb, hl, hk⟩ := h
  have hf := findKey_id w a n es.toList l (by simpa using hl) (fun j r hr => by have := hk j r hr; simpa using this)
  unfold Instr.lookup
  simp only [Sem.run_bind, run_underlying Tryz.underlying108, Result.andThen_ok, MapKept.run_getObj_map hb, check_id, hf, Sem.run_pure]
  cases posR l a n with
  | none => simp
  | some j => simp
theorem posR_none {l : List RecS} {a n : Nat} (h : ∀ x ∈ l, ¬ (x.who = a ∧ x.n = n)) : posR l (a : Int) n = none := by
  unfold posR
  rw [List.findIdx?_eq_none_iff]
  intro x hx
  have := h x hx
  rw [Bool.eq_false_iff]
  intro hc
  simp at hc
  exact this ⟨by omega, by omega⟩
/-- A new one's place. -/
theorem ByAt.push {w : World} {m : Nat} {l : List RecS} (h : ByAt w m l) (r : RecS) (hn : ∀ x ∈ l, ¬ (x.who = r.who ∧ x.n = r.n)) :
    ∃ w', (Instr.mapUpdate 108 (.map (some m)) (.agg #[.int .i64 r.who, .int .u64 r.n]) (.int .i64 (l.length : Int))).run Tryz.prog w = .ok () w' ∧ ByAt w' m (l ++ [r]) ∧ Keep (· = m) w w' := by
  obtain ⟨es, clock, hb, hl, hk⟩ := h
  have hlt := heap_lt hb
  have hf := findKey_id w (r.who : Int) r.n es.toList l (by simpa using hl) (fun j r hr => by have := hk j r hr; simpa using this)
  rw [posR_none hn] at hf
  refine ⟨_, ?_, ⟨es.push { key := idV r, val := .int .i64 (l.length : Int), born := clock }, clock + 1, ?_, by simp [hl], fun i x hx => ?_⟩, Keep.setObj (F := (· = m)) (Keep.refl _ w) (r := m) (.inl rfl) (.map (es.push { key := idV r, val := .int .i64 (l.length : Int), born := clock }) (clock + 1))⟩
  · unfold Instr.mapUpdate
    simp only [Sem.run_bind, run_underlying Tryz.underlying108, Result.andThen_ok, MapKept.run_getObj_map hb, check_id, hf, Option.map_none, MapKept.run_setObj_map _ hb]
    rfl
  · simp [hlt]
  · by_cases hi : i < l.length
    · rw [List.getElem?_append_left hi] at hx
      have := hk i x hx
      rw [Array.getElem?_push]
      rw [if_neg (by omega)]
      exact this
    · rw [List.getElem?_append_right (by omega)] at hx
      have h0 := (List.getElem?_eq_some_iff.1 hx).1
      simp at h0
      have hi0 : i - l.length = 0 := by omega
      rw [hi0] at hx
      simp at hx
      subst hx
      rw [Array.getElem?_push, if_pos (by omega), show i = l.length by omega]
      rfl
end Go.Proofs.YtgogfnafbeahoaaGreat
