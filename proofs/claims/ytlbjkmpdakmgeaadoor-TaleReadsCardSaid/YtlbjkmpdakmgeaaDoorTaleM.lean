/- Package tale: an event in memory, the words of its parts. -/
import Derived.Test.YtlbjkmpdakmgeaaDoorTaleL
namespace Go.Proofs.YtlbjkmpdakmgeaaDoor
open Go Go.RowKit Go.Dr

/-! ### Strings in a row -/
def StrsAt (w : World) (B : Nat) (v : Value) (ws : List (List UInt8)) : Prop := w.ownsRow B 9 1 v ws.length (ws.map strV)
theorem StrsAt.form {w : World} {B : Nat} {v : Value} {ws : List (List UInt8)} (h : StrsAt w B v ws) : ∃ ao cap, v = .slice ao ws.length cap := by
  obtain ⟨_, ⟨rfl, h⟩ | ⟨g, cap, cur, rfl, _⟩⟩ := h
  · exact ⟨none, 0, by rw [h]⟩
  · exact ⟨_, _, rfl⟩
theorem StrsAt.keep {w w' : World} {B : Nat} {v : Value} {ws : List (List UInt8)} {F : Nat → Prop} (h : StrsAt w B v ws) (k : Keep F w w') (hF : ∀ b, v.ownBlock = some b → ¬ F b) : StrsAt w' B v ws := by
  obtain ⟨h1, h2⟩ := h
  refine ⟨h1, ?_⟩
  rcases h2 with h2 | ⟨g, cap, cur, rfl, hb, hg, hr⟩
  · exact .inl h2
  · exact .inr ⟨g, cap, cur, rfl, hb, k.heap hg (hF g rfl), hr⟩
theorem StrsAt.no {w w' : World} {B : Nat} {v : Value} {ws : List (List UInt8)} (h : StrsAt w B v ws) (k : Keep No w w') : StrsAt w' B v ws := h.keep k (fun _ _ e => e)
theorem StrsAt.lt {w : World} {B : Nat} {v : Value} {ws : List (List UInt8)} (h : StrsAt w B v ws) : ∀ k, v.ownBlock = some k → B ≤ k ∧ k < w.heap.size := World.ownsRow.lt h
theorem StrsAt.cells {w : World} {B : Nat} {v : Value} {ws : List (List UInt8)} (h : StrsAt w B v ws) (hne : ws ≠ []) : ∃ g cap, v = .slice (some ⟨g, 0, none⟩) ws.length cap ∧ ws.length ≤ cap ∧ cap ≤ maxLen ∧ g < w.heap.size ∧ ∀ (j : Nat) x, ws[j]? = some x → w.cell? ⟨g, j, none⟩ = some (strV x) := by
  obtain ⟨h1, ⟨_, h⟩ | ⟨g, cap, cur, rfl, _, hg, hc, hm, hs, hcur⟩⟩ := h
  · exact (hne (List.length_eq_zero_iff.1 h)).elim
  · refine ⟨g, cap, rfl, hc, hm, heap_lt hg, fun j x hx => ?_⟩
    rw [cell_of hg]
    have hl : j < ws.length := (List.getElem?_eq_some_iff.1 hx).1
    have := congrArg (fun l => l[j]?) hcur
    simp only [List.getElem?_map, hx, Option.map_some] at this
    rw [← this, List.getElem?_take]
    simp [hl]
theorem StrsAt.nil (w : World) (B : Nat) : StrsAt w B (.slice none 0 0) [] := World.ownsRow_nil _ _ _ _
theorem StrsAt.new {w : World} {B g : Nat} (ws : List (List UInt8)) (h : w.heap[g]? = some (.cells (ws.map strV).toArray 9 (0, 0))) (hB : B ≤ g) (hl : ws.length ≤ 1000000) : StrsAt w B (.slice (some ⟨g, 0, none⟩) ws.length ws.length) ws := by
  refine ⟨by simp, .inr ⟨g, ws.length, _, rfl, hB, h, Nat.le_refl _, by unfold maxLen; omega, by simp, ?_⟩⟩
  simp [List.take_of_length_le]

theorem info_str : (Tryd.prog.info? 9).map (fun i => (i.zero, i.size, i.bytes)) = some (some (.string ⟨#[]⟩), 1, 16) := by kernel_rfl
theorem wpList_append_strs {w : World} {ops : Array Oper} {rest : List Oper} {o : Oper} {a : Act} {Q : Exit → Act → World → Prop}
    (hg : o.guard = none) (s x : Operand) (hop : o.op = Op.call { callee := Callee.builtin Builtin.append, args := #[s, x], argTypes := #[57, 57] })
    (B : Nat) {v : Value} {l m : List (List UInt8)} {g off cap : Nat} (hown : StrsAt w B v l) (hsrc : ∀ (j : Nat) x, m[j]? = some x → w.cell? ⟨g, off + j, none⟩ = some (strV x))
    (hs : a.eval s = v) (hx : a.eval x = .slice (some ⟨g, off, none⟩) m.length cap)
    (hlen : l.length + m.length ≤ 1000000) (hB : B ≤ w.heap.size)
    (hK : ∀ v' w', StrsAt w' B v' (l ++ m) → Keep (fun b => v.ownBlock = some b) w w' → wpList Tryd.prog ops Q rest (a.put o.dst v') w') :
    wpList Tryd.prog ops Q (o :: rest) a w := by
  refine wpList_plain hg fun K hK' => ?_
  obtain ⟨i0, hi, hz0, hz1, hz2⟩ := info_parts info_str
  obtain ⟨v', w', hrun, h1, h2, _⟩ := run_append_own (P := Tryd.prog) w B 57 o.type 9 i0 (.string ⟨#[]⟩) 1 16 Tryd.underlying57 hi hz0 hz1 hz2 rfl (by decide) v l.length (l.map strV) hown
      ⟨g, off, none⟩ m.length cap (m.map strV) (by simp) (fun j y hj => by
        rw [List.getElem?_map] at hj
        cases hmj : m[j]? with
        | none => simp [hmj] at hj
        | some z =>
          simp [hmj] at hj
          rw [← hj]
          have := hsrc j z hmj
          have e : (⟨g, off, none⟩ : Addr).add j = ⟨g, off + j, none⟩ := by
            by_cases h0 : j = 0
            · simp [Addr.add, h0]
            · simp [Addr.add, h0]
          rw [e]
          exact this) (by simp [Value.oneCell']) (by unfold maxLen; omega) (by omega) hB
  unfold Oper.wp
  simp [execOp, hop, resolve, invoke, builtin, hs, hx, hrun, Result.andThen]
  refine hK' _ _ (hK v' w' ?_ ((Keep.refl _ w).grown h2 (fun k hk => .inl hk)))
  unfold StrsAt
  rw [List.length_append, List.map_append]
  exact h1

/-! ### A range over a text of plain letters -/
def iterAt (w : World) (g : Nat) (s : ByteArray) (p : Nat) : World := { w with heap := w.heap.setIfInBounds g (.stringIter s p) }
theorem iterAt_keep (w : World) (g : Nat) (s : ByteArray) (p : Nat) : Keep (· = g) w (iterAt w g s p) := Keep.setObj (F := (· = g)) (Keep.refl _ _) (.inl rfl) _
theorem iterAt_heap {w : World} {g : Nat} {s s' : ByteArray} {p p' : Nat} (h : w.heap[g]? = some (.stringIter s' p')) : (iterAt w g s p).heap[g]? = some (.stringIter s p) := by
  have := (Array.getElem?_eq_some_iff.1 h).1
  simp [iterAt, this]
theorem run_next_at {w : World} {g : Nat} {s : ByteArray} {pos : Nat} {c : UInt8} (ty : TypeId) (hg : w.heap[g]? = some (.stringIter s pos)) (hc : s.data.toList[pos]? = some c) (ha : c.toNat < 128) :
    (Instr.next (.pointer (some ⟨g, 0, none⟩)) true ty).run Tryd.prog w = .ok (.tuple #[.bool true, .int .i64 pos, .int .i32 c.toNat]) (iterAt w g s (pos + 1)) := by
  obtain ⟨h, he⟩ := List.getElem?_eq_some_iff.1 hc
  have h' : pos < s.size := h
  have he' : s[pos]'h' = c := he
  have hd := decode_ascii s pos h' (by rw [he']; exact ha)
  rw [he'] at hd
  simp only [Instr.next, getObj, setObj, Sem.run_bind, Sem.run, hg, Result.andThen, h', if_true, hd]
  simp [goInt, iterAt]
theorem run_next_over {w : World} {g : Nat} {s : ByteArray} {pos : Nat} (ty : TypeId) (hg : w.heap[g]? = some (.stringIter s pos)) (h : s.data.toList.length ≤ pos) :
    (Instr.next (.pointer (some ⟨g, 0, none⟩)) true ty).run Tryd.prog w = .ok (.tuple #[.bool false]) w := by
  have h' : ¬ pos < s.size := by
    have : s.size = s.data.toList.length := rfl
    omega
  simp [Instr.next, getObj, Sem.run, hg, h']

/-! ### Events -/
def evV (e : EvS) (bv pv : Value) : Value := .agg #[.int .u8 e.kind, .int .i64 e.who, .int .i64 e.cls, bv, .int .i64 e.ix, .int .i64 e.pos, .int .u8 e.val.toNat, .int .i64 e.keep, .int .i64 e.torn, .bool e.on, pv]
def evC (e : EvS) (bv pv : Value) : Array Value := #[.int .u8 e.kind, .int .i64 e.who, .int .i64 e.cls, bv, .int .i64 e.ix, .int .i64 e.pos, .int .u8 e.val.toNat, .int .i64 e.keep, .int .i64 e.torn, .bool e.on, pv]
structure EvOk (e : EvS) : Prop where
  ok : e.Ok
  kind : e.kind < 256
  body : e.body.length ≤ 100000
  p : e.p.length ≤ 100000
theorem on_spec (w : World) (b : Bool) : Calls Tryd.prog 52 #[.bool b] w fun e w' => e = .returned (strV (onF b)) ∧ w' = w := by
  cases b
  all_goals
    go_enter Tryd.func52, Tryd.ntmps52
    go_wp2
    go_ret
    exact ⟨rfl, rfl⟩

theorem u8_int64 (x : UInt8) : Int64 (x.toNat : Int) := by have := x.toNat_lt; constructor <;> omega
def WordsPost (w : World) (ws : List (List UInt8)) (e : Ending) (w' : World) : Prop :=
  ∃ g, e = .returned (.slice (some ⟨g, 0, none⟩) ws.length ws.length) ∧ w.heap.size ≤ g ∧ w'.heap[g]? = some (.cells (ws.map strV).toArray 9 (0, 0)) ∧ Keep No w w'
theorem itoa_val {w : World} (hV : VarsAt w) (n : Int) (hn : Int64 n) : Calls Tryd.prog 43 #[.int .i64 n] w fun e w' => e = .returned (strV (Lib.itoa n)) ∧ Keep No w w' := itoa_spec hV n hn
set_option maxRecDepth 100000 in
theorem words_119 [_bn : Inhabited Ban] {base : Nat} {w : World} (hV : VarsAt w) {e : EvS} {bv pv : Value} (_hb : BytesAt base w bv e.body) (_hp : BytesAt base w pv e.p) (hok : EvOk e) :
    Calls Tryd.prog 37 #[evV e bv pv, .int .i32 119] w (WordsPost w (wordsF e 119)) := by
  have hws : wordsF e 119 = [whoF e.who] := rfl
  rw [hws]
  unfold evV
  go_enter Tryd.func37, Tryd.ntmps37
  go_wp2_with fail
  refine (who_spec (hV.no ((Keep.refl _ _).alloc _)) _ hok.ok.who).mono ?_
  rintro r w1 ⟨rfl, k1⟩
  go_wp2_with fail
  go_ret
  refine ⟨w1.heap.size, rfl, by have := k1.size; simp at this; omega, ?_, ((Keep.refl _ _).alloc _).then (k1.then ((Keep.refl _ _).alloc _))⟩
  exact heap_new _ _
set_option maxRecDepth 100000 in
theorem words_107 [_bn : Inhabited Ban] {base : Nat} {w : World} (hV : VarsAt w) {e : EvS} {bv pv : Value} (_hb : BytesAt base w bv e.body) (_hp : BytesAt base w pv e.p) (hok : EvOk e) :
    Calls Tryd.prog 37 #[evV e bv pv, .int .i32 107] w (WordsPost w (wordsF e 107)) := by
  have hws : wordsF e 107 = [Lib.itoa e.keep] := rfl
  rw [hws]
  unfold evV
  go_enter Tryd.func37, Tryd.ntmps37
  go_wp2_with fail
  refine (itoa_spec (hV.no ((Keep.refl _ _).alloc _)) _ hok.ok.keep).mono ?_
  rintro r w1 ⟨rfl, k1⟩
  go_wp2_with fail
  go_ret
  refine ⟨w1.heap.size, rfl, by have := k1.size; simp at this; omega, ?_, ((Keep.refl _ _).alloc _).then (k1.then ((Keep.refl _ _).alloc _))⟩
  exact heap_new _ _
set_option maxRecDepth 100000 in
theorem words_116 [_bn : Inhabited Ban] {base : Nat} {w : World} (hV : VarsAt w) {e : EvS} {bv pv : Value} (_hb : BytesAt base w bv e.body) (_hp : BytesAt base w pv e.p) (hok : EvOk e) :
    Calls Tryd.prog 37 #[evV e bv pv, .int .i32 116] w (WordsPost w (wordsF e 116)) := by
  have hws : wordsF e 116 = [Lib.itoa e.torn] := rfl
  rw [hws]
  unfold evV
  go_enter Tryd.func37, Tryd.ntmps37
  go_wp2_with fail
  refine (itoa_spec (hV.no ((Keep.refl _ _).alloc _)) _ hok.ok.torn).mono ?_
  rintro r w1 ⟨rfl, k1⟩
  go_wp2_with fail
  go_ret
  refine ⟨w1.heap.size, rfl, by have := k1.size; simp at this; omega, ?_, ((Keep.refl _ _).alloc _).then (k1.then ((Keep.refl _ _).alloc _))⟩
  exact heap_new _ _
set_option maxRecDepth 100000 in
theorem words_105 [_bn : Inhabited Ban] {base : Nat} {w : World} (hV : VarsAt w) {e : EvS} {bv pv : Value} (_hb : BytesAt base w bv e.body) (_hp : BytesAt base w pv e.p) (hok : EvOk e) :
    Calls Tryd.prog 37 #[evV e bv pv, .int .i32 105] w (WordsPost w (wordsF e 105)) := by
  have hws : wordsF e 105 = [Lib.itoa e.ix] := rfl
  rw [hws]
  unfold evV
  go_enter Tryd.func37, Tryd.ntmps37
  go_wp2_with fail
  refine (itoa_spec (hV.no ((Keep.refl _ _).alloc _)) _ hok.ok.ix).mono ?_
  rintro r w1 ⟨rfl, k1⟩
  go_wp2_with fail
  go_ret
  refine ⟨w1.heap.size, rfl, by have := k1.size; simp at this; omega, ?_, ((Keep.refl _ _).alloc _).then (k1.then ((Keep.refl _ _).alloc _))⟩
  exact heap_new _ _
set_option maxRecDepth 100000 in
theorem words_97 [_bn : Inhabited Ban] {base : Nat} {w : World} (hV : VarsAt w) {e : EvS} {bv pv : Value} (_hb : BytesAt base w bv e.body) (_hp : BytesAt base w pv e.p) (hok : EvOk e) :
    Calls Tryd.prog 37 #[evV e bv pv, .int .i32 97] w (WordsPost w (wordsF e 97)) := by
  have hws : wordsF e 97 = [Lib.itoa e.pos] := rfl
  rw [hws]
  unfold evV
  go_enter Tryd.func37, Tryd.ntmps37
  go_wp2_with fail
  refine (itoa_spec (hV.no ((Keep.refl _ _).alloc _)) _ hok.ok.pos).mono ?_
  rintro r w1 ⟨rfl, k1⟩
  go_wp2_with fail
  go_ret
  refine ⟨w1.heap.size, rfl, by have := k1.size; simp at this; omega, ?_, ((Keep.refl _ _).alloc _).then (k1.then ((Keep.refl _ _).alloc _))⟩
  exact heap_new _ _
set_option maxRecDepth 100000 in
theorem words_121 [_bn : Inhabited Ban] {base : Nat} {w : World} (hV : VarsAt w) {e : EvS} {bv pv : Value} (_hb : BytesAt base w bv e.body) (_hp : BytesAt base w pv e.p) (_hok : EvOk e) :
    Calls Tryd.prog 37 #[evV e bv pv, .int .i32 121] w (WordsPost w (wordsF e 121)) := by
  have hws : wordsF e 121 = [Lib.itoa (e.val.toNat : Int)] := rfl
  rw [hws]
  unfold evV
  have hv0 : (e.val.toNat : Int) ≤ 255 := by have := e.val.toNat_lt; omega
  go_enter Tryd.func37, Tryd.ntmps37
  go_wp2_with fail
  refine (itoa_spec (hV.no ((Keep.refl _ _).alloc _)) _ (u8_int64 _)).mono ?_
  rintro r w1 ⟨rfl, k1⟩
  go_wp2_with fail
  go_ret
  refine ⟨w1.heap.size, rfl, by have := k1.size; simp at this; omega, ?_, ((Keep.refl _ _).alloc _).then (k1.then ((Keep.refl _ _).alloc _))⟩
  exact heap_new _ _
set_option maxRecDepth 100000 in
theorem words_111 [_bn : Inhabited Ban] {base : Nat} {w : World} (_hV : VarsAt w) {e : EvS} {bv pv : Value} (_hb : BytesAt base w bv e.body) (_hp : BytesAt base w pv e.p) (_hok : EvOk e) :
    Calls Tryd.prog 37 #[evV e bv pv, .int .i32 111] w (WordsPost w (wordsF e 111)) := by
  have hws : wordsF e 111 = [onF e.on] := rfl
  rw [hws]
  unfold evV
  go_enter Tryd.func37, Tryd.ntmps37
  go_wp2_with fail
  refine (on_spec _ _).mono ?_
  rintro r w1 ⟨rfl, rfl⟩
  have k1 : Keep No (w.alloc (.cells (evC e bv pv) 27)) (w.alloc (.cells (evC e bv pv) 27)) := Keep.refl _ _
  go_wp2_with fail
  go_ret
  refine ⟨(w.heap.size + 1), rfl, by have := k1.size; simp at this; omega, ?_, ((Keep.refl _ _).alloc _).then (k1.then ((Keep.refl _ _).alloc _))⟩
  have hh := heap_new (w.alloc (.cells (evC e bv pv) 27)) (.cells #[strV (onF e.on)] 9)
  rw [World.size_alloc] at hh
  exact hh
set_option maxRecDepth 100000 in
theorem words_104 [bn : Inhabited Ban] {base : Nat} {w : World} (_hV : VarsAt w) {e : EvS} {bv pv : Value} (_hb : BytesAt base w bv e.body) (hp : BytesAt base w pv e.p) (hok : EvOk e) :
    Calls Tryd.prog 37 #[evV e bv pv, .int .i32 104] w (WordsPost w (wordsF e 104)) := by
  have hws : wordsF e 104 = [hexF e.p] := rfl
  rw [hws]
  unfold evV
  go_enter Tryd.func37, Tryd.ntmps37
  go_wp2_with fail
  refine (hex_spec (hp.no ((Keep.refl _ _).alloc _)) (by have := hok.p; omega)).mono ?_
  rintro r w1 ⟨rfl, k1⟩
  go_wp2_with fail
  go_ret
  refine ⟨w1.heap.size, rfl, by have := k1.size; simp at this; omega, ?_, ((Keep.refl _ _).alloc _).then (k1.then ((Keep.refl _ _).alloc _))⟩
  exact heap_new _ _
set_option maxRecDepth 100000 in
theorem words_115 [bn : Inhabited Ban] {base : Nat} {w : World} (hV : VarsAt w) {e : EvS} {bv pv : Value} (hb : BytesAt base w bv e.body) (_hp : BytesAt base w pv e.p) (hok : EvOk e) :
    Calls Tryd.prog 37 #[evV e bv pv, .int .i32 115] w (WordsPost w (wordsF e 115)) := by
  have hws : wordsF e 115 = [Lib.itoa e.cls, hexF e.body] := rfl
  rw [hws]
  unfold evV
  go_enter Tryd.func37, Tryd.ntmps37
  go_wp2_with fail
  obtain ⟨W, hW⟩ : ∃ W, W = w.alloc (.cells (evC e bv pv) 27) := ⟨_, rfl⟩
  have hbx := heap_new w (.cells (evC e bv pv) 27)
  have kW : Keep No w W := by rw [hW]; exact (Keep.refl _ _).alloc _
  rw [← hW] at hbx
  show Code.wp _ _ _ _ (w.alloc (.cells (evC e bv pv) 27))
  rw [← hW]
  clear hW
  have c2 := cell_of hbx 2
  have c3 := cell_of hbx 3
  simp [evC] at c2 c3
  refine wp_drawN (fun w' => Keep No W w') [0, 1, 2, 4, 5, 6] [3, 7] [8, 9] (by kernel_rfl) (by kernel_rfl) (fun _ _ _ _ _ h => h) (Keep.refl _ _).drew ?_
  iterate 6 (refine earlyN_cons (v := ?_) rfl rfl rfl ?_ ?_; rotate_left; focus (
    intro w' hS
    have c2' := hS.cell c2 (fun e => e)
    have c3' := hS.cell c3 (fun e => e)
    go_simp
    try with_reducible rfl))
  refine earlyN_nil (midN_cons rfl rfl (fun K hK => ?_))
  have kd : Keep No W W.drew := (Keep.refl _ _).drew
  go_simp
  refine (itoa_spec (hV.no (kW.then kd)) _ hok.ok.cls).mono ?_
  rintro r w1 ⟨rfl, k1⟩
  have kd := kd.then k1
  refine hK _ _ kd ?_
  clear hK K
  refine midN_cons rfl rfl (fun K hK => ?_)
  go_simp
  refine (hex_spec (hb.no (kW.then kd)) (by have := hok.body; omega)).mono ?_
  rintro r w2 ⟨rfl, k2⟩
  have kd := kd.then k2
  refine hK _ _ kd ?_
  clear hK K
  refine midN_nil (tailN_cons rfl (tailN_cons rfl (tailN_nil ?_)))
  go_wp2
  go_ret
  exact ⟨w2.heap.size, rfl, by have := kW.size; have := kd.size; omega, heap_new _ _, (kW.then kd).then ((Keep.refl _ _).alloc _)⟩
theorem words_spec [bn : Inhabited Ban] {base : Nat} {w : World} (hV : VarsAt w) {e : EvS} {bv pv : Value} (hb : BytesAt base w bv e.body) (hp : BytesAt base w pv e.p) (hok : EvOk e) {c : UInt8} (hc : c ∈ signsF) :
    Calls Tryd.prog 37 #[evV e bv pv, .int .i32 c.toNat] w (WordsPost w (wordsF e c)) := by
  simp only [signsF, List.mem_cons, List.not_mem_nil, or_false] at hc
  rcases hc with rfl | rfl | rfl | rfl | rfl | rfl | rfl | rfl | rfl
  · exact words_119 hV hb hp hok
  · exact words_115 hV hb hp hok
  · exact words_104 hV hb hp hok
  · exact words_111 hV hb hp hok
  · exact words_107 hV hb hp hok
  · exact words_116 hV hb hp hok
  · exact words_105 hV hb hp hok
  · exact words_97 hV hb hp hok
  · exact words_121 hV hb hp hok
end Go.Proofs.YtlbjkmpdakmgeaaDoor
