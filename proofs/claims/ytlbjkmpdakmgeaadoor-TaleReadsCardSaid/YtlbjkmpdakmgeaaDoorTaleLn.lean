/- TaleLines: the plain law; some events of those that came in. -/
import Derived.Test.YtlbjkmpdakmgeaaDoorTaleWr
namespace Go.Proofs.YtlbjkmpdakmgeaaDoor
open Go Go.RowKit

theorem wpList_append_ev {w : World} {ops : Array Oper} {rest : List Oper} {o : Oper} {a : Act} {Q : Exit → Act → World → Prop}
    (hg : o.guard = none) (s x : Operand) (hop : o.op = Op.call { callee := Callee.builtin Builtin.append, args := #[s, x], argTypes := #[51, 51] })
    {base B : Nat} {v : Value} {its : List Item} (hr : EvRow base w B v its) (e : EvS) (bv pv : Value) {g : Nat} {fr : Nat × Nat} (hz : w.heap[g]? = some (.cells (evC e bv pv) 27 fr))
    (hbv : BytesAt (bn := noBan) base w bv e.body) (hpv : BytesAt (bn := noBan) base w pv e.p) (hf1 : bv.oneCell' = true) (hf2 : pv.oneCell' = true)
    (hs : a.eval s = v) (hx : a.eval x = .slice (some ⟨g, 0, none⟩) 1 1) (hlen : its.length ≤ 1000000) (hB : B ≤ w.heap.size) (hbB : base ≤ B)
    (hK : ∀ vo vc w', EvRow base w' B (.slice vo (its.length + 1) vc) (its ++ [(e, bv, pv)]) → Keep (fun b => v.ownBlock = some b) w w' → wpList Tryd.prog ops Q rest (a.put o.dst (.slice vo (its.length + 1) vc)) w') :
    wpList Tryd.prog ops Q (o :: rest) a w := by
  refine wpList_plain hg fun K hK' => ?_
  obtain ⟨i0, hi, hz0, hz1, hz2⟩ := info_parts info_event
  have h1c : ∀ u ∈ itemL (e, bv, pv), u.oneCell' = true := by
    intro u hu
    replace hu : u ∈ [Value.int .u8 e.kind, .int .i64 e.who, .int .i64 e.cls, bv, .int .i64 e.ix, .int .i64 e.pos, .int .u8 e.val.toNat, .int .i64 e.keep, .int .i64 e.torn, .bool e.on, pv] := hu
    simp only [List.mem_cons, List.not_mem_nil, or_false] at hu
    rcases hu with rfl | rfl | rfl | rfl | rfl | rfl | rfl | rfl | rfl | rfl | rfl <;> first | rfl | assumption
  obtain ⟨v', w', hrun, h1, h2, _⟩ := run_append_own (P := Tryd.prog) w B 51 o.type 27 i0 _ 11 120 Tryd.underlying51 hi hz0 hz1 hz2 rfl (by decide) v its.length (its.flatMap itemL) hr.row
      ⟨g, 0, none⟩ 1 1 (itemL (e, bv, pv)) rfl (World.news_of_block (cs := evC e bv pv) hz) h1c (by unfold maxLen; omega) (by omega) hB
  obtain ⟨vo, vc, rfl, _, _⟩ := row_form h1
  unfold Oper.wp
  simp [execOp, hop, resolve, invoke, builtin, hs, hx, hrun, Result.andThen]
  have k := own_grown h2
  have hF : Foot base w (fun b => v.ownBlock = some b) := fun b hb => by
    obtain ⟨q1, cu, q2⟩ := row_kind hr.row b hb
    exact ⟨by omega, heap_lt q2, fun cs fr e => by rw [q2] at e; simp at e⟩
  refine hK' _ _ (hK vo vc w' ⟨by simpa using h1, fun z hz => ?_⟩ k)
  rcases List.mem_append.1 hz with hz | hz
  · exact ⟨BytesAt.keep (bn := noBan) (hr.bytes z hz).1 hF k, BytesAt.keep (bn := noBan) (hr.bytes z hz).2 hF k⟩
  · simp at hz
    subst hz
    exact ⟨BytesAt.keep (bn := noBan) hbv hF k, BytesAt.keep (bn := noBan) hpv hF k⟩

/-! ### What is written is read again -/
theorem splitC_write : ∀ l : List EvS, splitC 10 (writeF l) = l.map textF ++ [[]]
  | [] => rfl
  | e :: r => by
    have e1 : writeF (e :: r) = textF e ++ 10 :: writeF r := by simp [writeF]
    rw [e1, splitC_cut _ (fun h => by have := text_ge 10 h; simp at this), splitC_write r]
    rfl
theorem skip_text {e : EvS} (h : e.kind < 12) : skipF (textF e) = false := by
  obtain ⟨h1, h2⟩ := text_head h
  unfold skipF
  cases ht : textF e with
  | nil => exact absurd ht h1
  | cons c r => rw [ht] at h2; simpa using h2
theorem readL_texts : ∀ l : List EvS, (∀ e ∈ l, e.kind < 12 ∧ e.Ok) → readL (l.map textF) = some (l.map plainF)
  | [], _ => rfl
  | e :: r, h => by
    obtain ⟨h1, h2⟩ := h e (List.mem_cons_self ..)
    simp only [List.map_cons, readL, skip_text h1, parse_text h2 h1, readL_texts r (fun x hx => h x (List.mem_cons_of_mem _ hx))]
    rfl
theorem readF_write {l : List EvS} (h : ∀ e ∈ l, e.kind < 12 ∧ e.Ok) : readF (writeF l) = some (l.map plainF) := by
  unfold readF
  rw [splitC_write]
  exact readL_skip (readL_texts l h) rfl
/-- As the laws take them. -/
def k12F (e : EvS) : EvS := { fewF e with kind := e.kind % 12 }
def someF (l : List EvS) : List EvS := (l.take 30).map k12F
theorem k12_ok {e : EvS} (h : e.Ok) : EvOk (k12F e) ∧ (k12F e).kind < 12 := by
  have hk : (k12F e).kind < 12 := Nat.mod_lt _ (by decide)
  exact ⟨⟨⟨h.who, h.cls, h.ix, h.pos, h.keep, h.torn⟩, by omega, by simp [k12F, fewF]; omega, by simp [k12F, fewF]; omega⟩, hk⟩
theorem k12_len {e : EvS} (h : e.Ok) : (textF (k12F e)).length ≤ 300 := by
  have := text_len (k12_ok h).1.ok
  have hb : (k12F e).body.length ≤ 40 := by simp [k12F, fewF]; omega
  have hp : (k12F e).p.length ≤ 60 := by simp [k12F, fewF]; omega
  omega
theorem someF_all {l : List EvS} (h : ∀ e ∈ l, e.Ok) : ∀ e ∈ someF l, EvOk e ∧ e.kind < 12 ∧ (textF e).length ≤ 300 := by
  intro e he
  obtain ⟨x, hx, rfl⟩ := List.mem_map.1 he
  have hx := h x (List.mem_of_mem_take hx)
  exact ⟨(k12_ok hx).1, (k12_ok hx).2, k12_len hx⟩
end Go.Proofs.YtlbjkmpdakmgeaaDoor
