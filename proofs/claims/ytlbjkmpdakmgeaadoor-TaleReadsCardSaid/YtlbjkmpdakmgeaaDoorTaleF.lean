/- TaleParses, walked. -/
import Derived.Test.YtlbjkmpdakmgeaaDoorTaleA
import Derived.Test.YtlbjkmpdakmgeaaDoorTaleW
import Derived.Test.YtlbjkmpdakmgeaaDoorTaleX
namespace Go.Dr
open Go
theorem midN_want {P : Program} {ops : Array Oper} {Q : Exit → Act → World → Prop} {S : World → Prop} {K : Act → World → Prop} {i : Nat} {r : List Nat} {a : Act} {w : World} {o : Oper} (hi : ops.toList[i]? = some o) (hw : Region.wanted o (yielded ops a.tmps) = true)
    (h : ∀ K' : Act → World → Prop, (∀ a w, S w → midN P ops Q S K r a w → K' a w) → o.wp P a w K' Q) : midN P ops Q S K (i :: r) a w := by
  unfold midN
  refine ⟨o, hi, ?_⟩
  rw [if_pos hw]
  exact h _ (fun a w hS h => ⟨hS, h⟩)
end Go.Dr
namespace Go.Proofs.YtlbjkmpdakmgeaaDoor
open Go Go.RowKit Go.Dr

theorem parse_len {s : List UInt8} {x : EvS} (h : parseF s = some x) : x.body.length ≤ s.length ∧ x.p.length ≤ s.length := by
  obtain ⟨n, r, hnr⟩ : ∃ n r, splitC 32 s = n :: r := by
    cases h : splitC 32 s with
    | nil => exact (splitC_ne 32 s h).elim
    | cons n r => exact ⟨n, r, rfl⟩
  have hmem : ∀ u ∈ r, u.length ≤ s.length := fun u hu => splitC_word_len 32 s u (by rw [hnr]; exact List.mem_cons_of_mem _ hu)
  rcases kindUpto_all n with ⟨k, hk, hn, _⟩ | ⟨_, hn⟩
  · have hl := rparse_law hnr hk hn (l1 := r.getD 0 []) (l2 := r.getD 1 []) (l3 := r.getD 2 []) (l4 := r.getD 3 []) (l5 := r.getD 4 []) (fun i u hu hi => by
      match i, hi with
      | 0, _ | 1, _ | 2, _ | 3, _ | 4, _ => simp [List.getD, hu])
    rw [h] at hl
    have hd : ∀ i, (r.getD i []).length ≤ s.length := fun i => by
      rw [List.getD]
      cases hx : r[i]? with
      | none => simp
      | some u => simpa using hmem u (List.mem_of_getElem? hx)
    split at hl
    · have e : x = candF k (r.getD 0 []) (r.getD 1 []) (r.getD 2 []) (r.getD 3 []) (r.getD 4 []) := by simpa using hl
      have := cand_len k (r.getD 0 []) (r.getD 1 []) (r.getD 2 []) (r.getD 3 []) (r.getD 4 [])
      rw [← e] at this
      exact ⟨Nat.le_trans this.1 (hd _), Nat.le_trans this.2 (hd _)⟩
    · cases hl
  · rw [rparse_none hnr hn] at h
    cases h
theorem parse_evok {s : List UInt8} {x : EvS} (h : parseF s = some x) (hs : s.length ≤ 100000) : EvOk x := by
  obtain ⟨_, _, hk, hok⟩ := text_parse h
  have := parse_len h
  exact ⟨hok, by omega, by omega, by omega⟩
theorem str_cut (S : ByteArray) : ∃ t : List UInt8, t.length ≤ 120 ∧ (120 < S.size → S.extract 0 120 = strB t) ∧ (S.size ≤ 120 → S = strB t) := by
  by_cases h : 120 < S.size
  · refine ⟨S.data.toList.take 120, by simp; omega, fun _ => ?_, fun h' => by omega⟩
    apply ByteArray.ext
    apply Array.ext'
    simp
  · refine ⟨S.data.toList, ?_, fun h' => by omega, fun _ => rfl⟩
    have : S.data.toList.length = S.size := rfl
    omega
theorem evCellsO {w : World} {g : Nat} {e : EvS} {bv pv : Value} {t : TypeId} {fr : Nat × Nat} (h : w.heap[g]? = some (.cells (evC e bv pv) t fr)) :
    (∀ o, (w.alloc o).cell? ⟨g, 0, none⟩ = some (.int .u8 e.kind)) ∧ (∀ o, (w.alloc o).cell? ⟨g, 1, none⟩ = some (.int .i64 e.who)) ∧ (∀ o, (w.alloc o).cell? ⟨g, 2, none⟩ = some (.int .i64 e.cls)) ∧ (∀ o, (w.alloc o).cell? ⟨g, 3, none⟩ = some (bv)) ∧ (∀ o, (w.alloc o).cell? ⟨g, 4, none⟩ = some (.int .i64 e.ix)) ∧ (∀ o, (w.alloc o).cell? ⟨g, 5, none⟩ = some (.int .i64 e.pos)) ∧ (∀ o, (w.alloc o).cell? ⟨g, 6, none⟩ = some (.int .u8 e.val.toNat)) ∧ (∀ o, (w.alloc o).cell? ⟨g, 7, none⟩ = some (.int .i64 e.keep)) ∧ (∀ o, (w.alloc o).cell? ⟨g, 8, none⟩ = some (.int .i64 e.torn)) ∧ (∀ o, (w.alloc o).cell? ⟨g, 9, none⟩ = some (.bool e.on)) ∧ (∀ o, (w.alloc o).cell? ⟨g, 10, none⟩ = some (pv)) := by
  have hh : ∀ o, (w.alloc o).heap[g]? = some (.cells (evC e bv pv) t fr) := fun o => ((Keep.refl No _).alloc o).heap h (fun e => e)
  exact ⟨fun o => (evCells (hh o)).1, fun o => (evCells (hh o)).2.1, fun o => (evCells (hh o)).2.2.1, fun o => (evCells (hh o)).2.2.2.1, fun o => (evCells (hh o)).2.2.2.2.1, fun o => (evCells (hh o)).2.2.2.2.2.1, fun o => (evCells (hh o)).2.2.2.2.2.2.1, fun o => (evCells (hh o)).2.2.2.2.2.2.2.1, fun o => (evCells (hh o)).2.2.2.2.2.2.2.2.1, fun o => (evCells (hh o)).2.2.2.2.2.2.2.2.2.1, fun o => (evCells (hh o)).2.2.2.2.2.2.2.2.2.2⟩
end Go.Proofs.YtlbjkmpdakmgeaaDoor
