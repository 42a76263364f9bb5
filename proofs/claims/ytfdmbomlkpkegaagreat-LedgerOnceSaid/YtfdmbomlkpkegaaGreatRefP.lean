/- The document's segments: Read, Next, begins, Append. -/
import Derived.Test.YtfdmbomlkpkegaaGreatLogZ
import Derived.Test.YtfdmbomlkpkegaaGreatRefO
import Derived.Test.YtfdmbomlkpkegaaGreatRef6
namespace Go.Proofs.YtfdmbomlkpkegaaGreat
open Go Go.RowKit Go.Dr

theorem rone_spec [bn : Inhabited Ban] {base : Nat} {w : World} {pv : Value} {s : SegL} (hp : BytesAt base w pv s.bytes) (ho : s.Ok) (hb : base ≤ w.heap.size) (hT : ban.top ≤ w.heap.size)
    (hrl : s.recs.length ≤ 1000000) (hz : s.bytes.length ≤ 1099511627776) :
    Calls Tryz.prog 175 #[.int .u64 s.n, pv] w (R7One base w s) := by
  cases hd : s.headed with
  | false => exact rone_bare hp ho hd
  | true => exact rone_head hp ho hd hb hT hrl hz

/-! ### The document's segments in memory -/
def r7Cells (ps : List (SegL × Value)) : List Value := ps.flatMap fun x => r7Cell x.1 x.2
theorem r7Cells_append (ps : List (SegL × Value)) (x : SegL × Value) : r7Cells (ps ++ [x]) = r7Cells ps ++ r7Cell x.1 x.2 := by simp [r7Cells]
theorem r7Cells_at : ∀ {l : List (SegL × Value)} {i : Nat} {s : SegL × Value}, l[i]? = some s → ∀ f, f < 6 → (r7Cells l)[i * 6 + f]? = (r7Cell s.1 s.2)[f]? := by
  intro l
  induction l with
  | nil => intro i s h; simp at h
  | cons x l ih =>
    intro i s h f hf
    cases i with
    | zero =>
      simp at h
      subst h
      simp only [r7Cells, List.flatMap_cons]
      rw [List.getElem?_append_left (by simp [r7Cell]; omega)]
      simp
    | succ i =>
      have h2 := ih (i := i) (by simpa using h) f hf
      rw [← h2]
      simp only [r7Cells, List.flatMap_cons]
      rw [List.getElem?_append_right (by simp [r7Cell]; omega)]
      congr 1
      simp [r7Cell]
      omega
theorem r7Cells_length (l : List (SegL × Value)) : (r7Cells l).length = l.length * 6 := by
  induction l with
  | nil => rfl
  | cons x l ih => simp only [r7Cells, List.flatMap_cons, List.length_append, List.length_cons] at ih ⊢; rw [ih]; simp [r7Cell]; omega
structure R7At [bn : Inhabited Ban] (base : Nat) (w : World) (v : Value) (ps : List (SegL × Value)) : Prop where
  recs : ∀ x ∈ ps, LRecsAt base w x.2 x.1.recs
  row : w.ownsRow base 282 6 v ps.length (r7Cells ps)
def R7 [bn : Inhabited Ban] (base : Nat) (w : World) (v : Value) (ss : List SegL) : Prop := ∃ ps, ps.map (·.1) = ss ∧ R7At base w v ps
section
variable [bn : Inhabited Ban] {base : Nat} {w w' : World} {v : Value} {ps : List (SegL × Value)}
theorem R7At.nil : R7At base w (.slice none 0 0) [] := ⟨by simp, World.ownsRow_nil _ _ _ _⟩
theorem R7At.form (h : R7At base w v ps) : ∃ ao cap, v = .slice ao ps.length cap ∧ ps.length ≤ cap ∧ cap ≤ maxLen := row_form h.row
theorem R7At.no (h : R7At base w v ps) (k : Keep No w w') : R7At base w' v ps := ⟨fun x hx => (h.recs x hx).keep (Foot.no _ _) k (fun _ _ e => e), row_keep h.row k (fun _ _ e => e)⟩
theorem R7.no {ss : List SegL} (h : R7 base w v ss) (k : Keep No w w') : R7 base w' v ss := by
  obtain ⟨ps, h1, h2⟩ := h
  exact ⟨ps, h1, h2.no k⟩
theorem R7At.cell {ao : Option Addr} {n cap : Nat} (h : R7At base w (.slice ao n cap) ps) {i : Nat} {x : SegL × Value} (hi : ps[i]? = some x) :
    ∃ g, ao = some ⟨g, 0, none⟩ ∧ w.cell? ⟨g, i * 6, none⟩ = some (.int .u64 x.1.n) ∧ w.cell? ⟨g, i * 6 + 1, none⟩ = some (.bool x.1.headed) ∧ w.cell? ⟨g, i * 6 + 2, none⟩ = some (.int .u64 (if x.1.headed then (x.1.first : Int) else 0)) ∧
      w.cell? ⟨g, i * 6 + 3, none⟩ = some x.2 ∧ w.cell? ⟨g, i * 6 + 4, none⟩ = some (.bool (x.1.headed && !x.1.tail.isEmpty)) ∧ w.cell? ⟨g, i * 6 + 5, none⟩ = some (.int .i64 x.1.bytes.length) := by
  obtain ⟨ao', cap', hq, _⟩ := h.form
  simp only [Value.slice.injEq] at hq
  obtain ⟨rfl, rfl, rfl⟩ := hq
  have hl := r7Cells_length ps
  have c := fun (f : Nat) (hf : f < 6) (y : Value) (hx : (r7Cell x.1 x.2)[f]? = some y) => row_cell h.row (j := i * 6 + f) (x := y) (by rw [r7Cells_at hi f hf]; exact hx) hl
  obtain ⟨g, rfl, c0⟩ := c 0 (by decide) _ rfl
  refine ⟨g, rfl, c0, ?_, ?_, ?_, ?_, ?_⟩
  · obtain ⟨_, e, h⟩ := c 1 (by decide) _ rfl; simp at e; subst e; exact h
  · obtain ⟨_, e, h⟩ := c 2 (by decide) _ rfl; simp at e; subst e; exact h
  · obtain ⟨_, e, h⟩ := c 3 (by decide) _ rfl; simp at e; subst e; exact h
  · obtain ⟨_, e, h⟩ := c 4 (by decide) _ rfl; simp at e; subst e; exact h
  · obtain ⟨_, e, h⟩ := c 5 (by decide) _ rfl; simp at e; subst e; exact h
end
theorem info_r7 : (Tryz.prog.info? 282).map (fun i => (i.zero, i.size, i.bytes)) = some (some (.agg #[.int .u64 0, .bool false, .int .u64 0, .slice none 0 0, .bool false, .int .i64 0]), 6, 64) := by kernel_rfl
theorem wp_append_r7 [bn : Inhabited Ban] {base : Nat} {w : World} {o : Oper} {a : Act} {K : Act → World → Prop} {Q : Exit → Act → World → Prop} (s x : Operand)
    (ho : o.op = .call { callee := .builtin .append, args := #[s, x], argTypes := #[236, 236] }) {v : Value} {ps : List (SegL × Value)} (h : R7At base w v ps) (hs : a.eval s = v) {B : Nat} {c : SegL} {u : Value}
    (hu : LRecsAt base w u c.recs) (hB : w.heap[B]? = some (.cells (r7Cell c u).toArray 282 (0, 0)))
    (hx : a.eval x = .slice (some ⟨B, 0, none⟩) 1 1) (hl : ps.length ≤ 1099511627776) (hb : base ≤ w.heap.size)
    (hK : ∀ v' w', R7At base w' v' (ps ++ [(c, u)]) → Keep (fun b => v.ownBlock = some b) w w' → (∀ b, v'.ownBlock = some b → v.ownBlock = some b ∨ w.heap.size ≤ b) → K (a.put o.dst v') w') : o.wp Tryz.prog a w K Q := by
  obtain ⟨i0, hi0, hz0, hz1, hz2⟩ := info_parts info_r7
  obtain ⟨lo, lc, rfl, _, _⟩ := hu.form
  refine wp_append_lies w s x 236 ho base 282 i0 _ 6 64 Tryz.underlying236 hi0 hz0 hz1 hz2 rfl (by omega) v ps.length (r7Cells ps) hs h.row
    ⟨B, 0, none⟩ 1 1 (r7Cell c (.slice lo c.recs.length lc)) hx rfl (World.news_of_block (cs := (r7Cell c (.slice lo c.recs.length lc)).toArray) (t := 282) (fr := (0, 0)) hB) (by simp [r7Cell, Value.oneCell']) (by omega) (by unfold maxLen; omega) (by omega) hb w.heap.size rfl ?_
  intro g cap w' hown hg hat hlt
  have k := own_grown hg
  have hF : Foot base w (fun b => v.ownBlock = some b) := fun b hb => by
    obtain ⟨h1, cur, hz⟩ := row_kind h.row b hb
    exact ⟨h1, heap_lt hz, fun cs fr e => by rw [hz] at e; simp at e⟩
  have hkeep : ∀ {u : Value} {rs : List Bytes}, LRecsAt base w u rs → LRecsAt base w' u rs := fun {u rs} hr => hr.keep hF k (fun b e1 e2 => by
    obtain ⟨us, _, _, hrr⟩ := hr
    obtain ⟨_, cur, hz⟩ := row_kind hrr b e1
    obtain ⟨_, cur', hz'⟩ := row_kind h.row b e2
    rw [hz] at hz'; simp at hz')
  refine hK _ _ ⟨fun y hy => ?_, ?_⟩ k (fun b hc => ?_)
  · rcases List.mem_append.1 hy with hy | hy
    · exact hkeep (h.recs y hy)
    · simp at hy; subst hy; exact hkeep hu
  · rw [r7Cells_append]
    simpa using hown
  · simp [Value.ownBlock] at hc
    subst hc
    rcases hat with hat | rfl
    · exact .inl hat
    · exact .inr (Nat.le_refl _)
theorem wpList_append_r7 [bn : Inhabited Ban] {base : Nat} {w : World} {ops : Array Oper} {rest : List Oper} {o : Oper} {a : Act} {Q : Exit → Act → World → Prop} (hg : o.guard = none) (s x : Operand)
    (ho : o.op = .call { callee := .builtin .append, args := #[s, x], argTypes := #[236, 236] }) {v : Value} {ps : List (SegL × Value)} (h : R7At base w v ps) (hs : a.eval s = v) {B : Nat} {c : SegL} {u : Value}
    (hu : LRecsAt base w u c.recs) (hB : w.heap[B]? = some (.cells (r7Cell c u).toArray 282 (0, 0)))
    (hx : a.eval x = .slice (some ⟨B, 0, none⟩) 1 1) (hl : ps.length ≤ 1099511627776) (hb : base ≤ w.heap.size)
    (hK : ∀ v' w', R7At base w' v' (ps ++ [(c, u)]) → Keep (fun b => v.ownBlock = some b) w w' → (∀ b, v'.ownBlock = some b → v.ownBlock = some b ∨ w.heap.size ≤ b) → wpList Tryz.prog ops Q rest (a.put o.dst v') w') : wpList Tryz.prog ops Q (o :: rest) a w :=
  wpList_plain hg fun _ hK' => wp_append_r7 s x ho h hs hu hB hx hl hb fun v' w' h1 h2 h3 => hK' _ _ (hK v' w' h1 h2 h3)

/-- In Read's loop. -/
def ReadR [bn : Inhabited Ban] (base : Nat) (w : World) (ss : List SegL) (sv : Value) (ov nv iv : Value) (wr : World) : Prop :=
  ∃ (j : Nat) (ps : List (SegL × Value)), j ≤ ss.length ∧ iv = .int .i64 j ∧ nv = .int .u64 (nextOf 0 (ss.take j) : Nat) ∧ ps.map (·.1) = ss.take j ∧ R7At base wr ov ps ∧ (∀ b, ov.ownBlock = some b → w.heap.size ≤ b) ∧ Keep No w wr ∧ SegsAt base wr sv (segMap ss)
/-- What a disk of the document's has to hold that Read finds the segments. -/
structure SegsOk (ss : List SegL) : Prop where
  ok : ∀ s ∈ ss, s.Ok
  chain : ∀ (i : Nat) s, ss[i]? = some s → s.headed = true → nextOf 0 (ss.take i) = 0 ∨ s.first = nextOf 0 (ss.take i)
  few : ss.length ≤ 10000
  recs : (recsOf ss).length ≤ 1000000
  sum : msum (segMap ss) ≤ 1099511627776

set_option maxRecDepth 100000 in
set_option maxHeartbeats 4000000 in
theorem rRead_spec [bn : Inhabited Ban] {base : Nat} {w : World} {q : Nat} {lv : Value} {x : RDiskS} {ss : List SegL} (h : RDiskAt base w q lv x) (hb : base ≤ w.heap.size) (hT : ban.top ≤ w.heap.size) (hl : x.l.length ≤ 1000) (hs : wsum x.l ≤ 1099511627776)
    (hm : segs6 x.l = segMap ss) (ho : SegsOk ss) :
    Calls Tryz.prog 125 #[.pointer (some ⟨q, 0, none⟩)] w fun e w' => ∃ v, e = .returned (.tuple #[v, .int .i64 0]) ∧ R7 base w' v ss ∧ (∀ b, v.ownBlock = some b → w.heap.size ≤ b) ∧ Keep No w w' := by
  have hsg := segs_spec h.calls hb hl hs
  rw [hm] at hsg
  have d2 := cell_of h.blk 2
  simp at d2
  have HH := Lib.hid (And.intro hb (And.intro hT ho))
  clear h hb hT hl hs hm ho
  go_enter Tryz.func125, Tryz.ntmps125
  go_upto_block 0 with (go_at_call 80; refine hsg.mono ?_; rintro e w1 ⟨sv, rfl, hS, k1, _⟩; obtain ⟨so, sc, rfl, hsc, hsm⟩ := hS.form)
  have hlen : (segMap ss).length = ss.length := by unfold segMap; simp
  rw [hlen] at hS ⊢
  have hst : ReadR base w ss (.slice so ss.length sc) (.slice none 0 0) (.int .u64 0) (.int .i64 0) w1 := ⟨0, [], Nat.zero_le _, rfl, rfl, rfl, R7At.nil, by simp [Value.ownBlock], k1, hS⟩
  have hsl : ss.length ≤ 10000 := HH.out.2.2.few
  have hsi : (ss.length : Int) ≤ 1099511627776 := by omega
  have HSL := Lib.hid hsl
  clear hsg hS k1 hsc hsm hlen hsl
  go_wp2_with fail
  go_loopw [4, 5, 16] (fun ov nv iv wr => ReadR base w ss (.slice so ss.length sc) ov nv iv wr) (fun _ _ iv _ => ss.length - (intOf iv).toNat)
  case atStart => exact hst
  case round =>
    clear hst
    obtain ⟨j, ps, hj, rfl, rfl, hps, hR, hO, hK, hS⟩ := hrel
    by_cases hlt : j < ss.length
    · have hsj : ss[j]? = some ss[j] := List.getElem?_eq_getElem hlt
      have hchain := HH.out.2.2.chain j _ hsj
      have hok := HH.out.2.2.ok _ (List.getElem_mem hlt)
      have htk : ss.take (j + 1) = ss.take j ++ [ss[j]] := by rw [List.take_add_one, hsj]; rfl
      have hnx : nextOf 0 (ss.take (j + 1)) = if ss[j].headed then ss[j].first + ss[j].recs.length else nextOf 0 (ss.take j) := by rw [htk, nextOf_append]; rfl
      have hmj : (segMap ss)[j]? = some (ss[j].n, ss[j].bytes) := by unfold segMap; rw [List.getElem?_map, hsj]; rfl
      have hrl : ss[j].recs.length ≤ 1000000 := by
        have h1 := HH.out.2.2.recs
        have h2 : ss[j].recs ∈ ss.map (·.recs) := List.mem_map.2 ⟨_, List.getElem_mem hlt, rfl⟩
        obtain ⟨a, b, e⟩ := List.append_of_mem h2
        unfold recsOf at h1
        rw [e] at h1
        simp at h1
        omega
      have hz := msum_mem hmj
      have hz2 := HH.out.2.2.sum
      generalize ss[j] = s at *
      obtain ⟨g, rfl, _, hcs⟩ := hS.cells (by unfold segMap; simp; omega)
      obtain ⟨u, hu, s0, s1⟩ := hcs j _ hmj
      obtain ⟨uo, uc, rfl⟩ := hu.form
      dsimp only at s0 s1 hu
      have hone := fun (w' : World) (k : Keep No wr w') => rone_spec (hu.no k) hok (Nat.le_trans HH.out.1 (hK.then k).size) (Nat.le_trans HH.out.2.1 (hK.then k).size) hrl (by dsimp only at hz; omega)
      obtain ⟨tb, htb⟩ : ∃ tb, (s.headed && !s.tail.isEmpty) = tb := ⟨_, rfl⟩
      have hpl : ps.length = j := by have := congrArg List.length hps; rw [List.length_map, List.length_take] at this; omega
      have hji : (j : Int) < (ss.length : Int) := by omega
      obtain ⟨nx, hnxe⟩ : ∃ nx, nextOf 0 (ss.take j) = nx := ⟨_, rfl⟩
      rw [hnxe] at hnx hchain ⊢
      have HC := Lib.hid (And.intro hps (And.intro htk (And.intro hnx (And.intro hpl (And.intro hlt hnxe)))))
      have HR := Lib.hid (And.intro hR (And.intro hO (And.intro hK hS)))
      clear hps htk hnx hpl hlt hnxe hsj hmj hz hz2 hcs hj
      cases hd : s.headed with
      | false =>
        clear hrl
        have hc : ∀ lv, (r7Cell s lv).toArray = #[.int .u64 s.n, .bool false, .int .u64 0, lv, .bool tb, .int .i64 s.bytes.length] := by intro lv; unfold r7Cell; rw [htb, hd]; rfl
        have kA : Keep No wr (wr.alloc (.cells #[.int .u64 s.n, .slice uo s.bytes.length uc] 182)) := (Keep.refl _ _).alloc _
        have hone1 := hone _ kA
        obtain ⟨oo, oc, rfl, _, _⟩ := HR.out.1.form
        clear hone
        go_upto_region 7 with (go_at_call 175; refine hone1.mono ?_; rintro e w2 ⟨lv, he, hLr, hLo, k2⟩; obtain ⟨lo, lc, rfl, _, _⟩ := hLr.form; rw [hc] at he; subst he)
        have k3 : Keep No wr ((w2.alloc (.cells #[.int .u64 s.n, .bool false, .int .u64 0, .slice lo s.recs.length lc, .bool tb, .int .i64 s.bytes.length] 282)).alloc (.cells #[.int .u64 s.n, .bool false, .int .u64 0, .slice lo s.recs.length lc, .bool tb, .int .i64 s.bytes.length] 282)) := ((kA.then k2).alloc _).alloc _
        have hR3 := HR.out.1.no k3
        have hL3 := hLr.keep (Foot.no _ _) (((Keep.refl No w2).alloc (.cells #[.int .u64 s.n, .bool false, .int .u64 0, .slice lo s.recs.length lc, .bool tb, .int .i64 s.bytes.length] 282)).alloc (.cells #[.int .u64 s.n, .bool false, .int .u64 0, .slice lo s.recs.length lc, .bool tb, .int .i64 s.bytes.length] 282)) (fun _ _ e => e)
        have hB3 : ((w2.alloc (.cells #[.int .u64 s.n, .bool false, .int .u64 0, .slice lo s.recs.length lc, .bool tb, .int .i64 s.bytes.length] 282)).alloc (.cells #[.int .u64 s.n, .bool false, .int .u64 0, .slice lo s.recs.length lc, .bool tb, .int .i64 s.bytes.length] 282)).heap[w2.heap.size + 1]? = some (.cells (r7Cell s (.slice lo s.recs.length lc)).toArray 282 (0, 0)) := by
          rw [hc]
          have hq := heap_new (w2.alloc (.cells #[.int .u64 s.n, .bool false, .int .u64 0, .slice lo s.recs.length lc, .bool tb, .int .i64 s.bytes.length] 282)) (.cells #[.int .u64 s.n, .bool false, .int .u64 0, .slice lo s.recs.length lc, .bool tb, .int .i64 s.bytes.length] 282)
          simp only [World.size_alloc] at hq
          exact hq
        have hpl3 : ps.length ≤ 1099511627776 := by have h1 := HC.out.2.2.2.1; have h2 := HC.out.2.2.2.2.1; have h3 := HSL.out; omega
        have hbs := Nat.le_trans HH.out.1 (HR.out.2.2.1.then k3).size
        have H3 := Lib.hid (And.intro k3 (And.intro hR3 (And.intro hL3 (And.intro hB3 (And.intro hpl3 hbs)))))
        clear k3 hR3 hL3 hB3 hpl3 hbs hLr hLo hone1 kA k2
        go_wp2_with (at_builtin; refine wpList_append_r7 rfl _ _ rfl H3.out.2.1 rfl H3.out.2.2.1 H3.out.2.2.2.1 rfl H3.out.2.2.2.2.1 H3.out.2.2.2.2.2 ?_; intro v9 w9 hR9 k9 o9)
        have hszk := H3.out.1.size
        have hszw := HR.out.2.2.1.size
        have hF3 : Foot base _ (fun b => (Value.slice oo ps.length oc).ownBlock = some b) := fun b hb => by
          obtain ⟨h1, cur, hz⟩ := row_kind H3.out.2.1.row b hb
          exact ⟨h1, heap_lt hz, fun cs fr e => by rw [hz] at e; simp at e⟩
        go_roundw
        case rel =>
          refine ⟨j + 1, ps ++ [(s, _)], HC.out.2.2.2.2.1, by go_num, by rw [HC.out.2.2.1, hd]; rfl, by rw [List.map_append, HC.out.1, HC.out.2.1]; rfl, hR9, fun b hb => ?_, ?_, ?_⟩
          · rcases o9 b hb with h | h
            · exact HR.out.2.1 b h
            · exact Nat.le_trans hszw (Nat.le_trans hszk h)
          · exact (HR.out.2.2.1.then H3.out.1).absorb k9 (fun b e => HR.out.2.1 b e)
          · refine (HR.out.2.2.2.no H3.out.1).keep hF3 k9 (fun b e1 e2 => ?_)
            obtain ⟨_, cur, hz⟩ := (HR.out.2.2.2.no H3.out.1).kind b e1
            obtain ⟨_, cur', hz'⟩ := row_kind H3.out.2.1.row b e2
            rw [hz] at hz'; simp at hz'
        case measure =>
          have := HC.out.2.2.2.2.1
          simp [intOf]
          omega
      | true =>
        have hc : ∀ lv, (r7Cell s lv).toArray = #[.int .u64 s.n, .bool true, .int .u64 s.first, lv, .bool tb, .int .i64 s.bytes.length] := by intro lv; unfold r7Cell; rw [htb, hd]; rfl
        obtain ⟨hf1, hf2, _, _⟩ := hok.head hd
        have hi1 : decide ((s.first : Int) < 1) = false := decide_eq_false (by omega)
        have hi2 : decide ((4611686018427387904 : Int) ≤ (s.first : Int)) = false := decide_eq_false (by omega)
        have hi3 : decide ((0 : Int) < (s.first : Int)) = true := decide_eq_true (by omega)
        have hi4 : decide (0 < s.first) = true := decide_eq_true (by omega)
        have hw1 : IntKind.u64.wrap (s.recs.length : Int) = (s.recs.length : Int) := by rw [IntKind.wrap_u64]; omega
        have hw2 : IntKind.u64.wrap ((s.first : Int) + (s.recs.length : Int)) = ((s.first + s.recs.length : Nat) : Int) := by rw [IntKind.wrap_u64]; omega
        have hch := hchain hd
        clear hf1 hf2 hchain hrl hok
        rcases hch with rfl | rfl
        all_goals
          have kA : Keep No wr (wr.alloc (.cells #[.int .u64 s.n, .slice uo s.bytes.length uc] 182)) := (Keep.refl _ _).alloc _
          have hone1 := hone _ kA
          obtain ⟨oo, oc, rfl, _, _⟩ := HR.out.1.form
          clear hone
          go_upto_region 7 with (go_at_call 175; refine hone1.mono ?_; rintro e w2 ⟨lv, he, hLr, hLo, k2⟩; obtain ⟨lo, lc, rfl, _, _⟩ := hLr.form; rw [hc] at he; subst he)
          have k3 : Keep No wr ((w2.alloc (.cells #[.int .u64 s.n, .bool true, .int .u64 s.first, .slice lo s.recs.length lc, .bool tb, .int .i64 s.bytes.length] 282)).alloc (.cells #[.int .u64 s.n, .bool true, .int .u64 s.first, .slice lo s.recs.length lc, .bool tb, .int .i64 s.bytes.length] 282)) := ((kA.then k2).alloc _).alloc _
          have hR3 := HR.out.1.no k3
          have hL3 := hLr.keep (Foot.no _ _) (((Keep.refl No w2).alloc (.cells #[.int .u64 s.n, .bool true, .int .u64 s.first, .slice lo s.recs.length lc, .bool tb, .int .i64 s.bytes.length] 282)).alloc (.cells #[.int .u64 s.n, .bool true, .int .u64 s.first, .slice lo s.recs.length lc, .bool tb, .int .i64 s.bytes.length] 282)) (fun _ _ e => e)
          have hB3 : ((w2.alloc (.cells #[.int .u64 s.n, .bool true, .int .u64 s.first, .slice lo s.recs.length lc, .bool tb, .int .i64 s.bytes.length] 282)).alloc (.cells #[.int .u64 s.n, .bool true, .int .u64 s.first, .slice lo s.recs.length lc, .bool tb, .int .i64 s.bytes.length] 282)).heap[w2.heap.size + 1]? = some (.cells (r7Cell s (.slice lo s.recs.length lc)).toArray 282 (0, 0)) := by
            rw [hc]
            have hq := heap_new (w2.alloc (.cells #[.int .u64 s.n, .bool true, .int .u64 s.first, .slice lo s.recs.length lc, .bool tb, .int .i64 s.bytes.length] 282)) (.cells #[.int .u64 s.n, .bool true, .int .u64 s.first, .slice lo s.recs.length lc, .bool tb, .int .i64 s.bytes.length] 282)
            simp only [World.size_alloc] at hq
            exact hq
          have hpl3 : ps.length ≤ 1099511627776 := by have h1 := HC.out.2.2.2.1; have h2 := HC.out.2.2.2.2.1; have h3 := HSL.out; omega
          have hbs := Nat.le_trans HH.out.1 (HR.out.2.2.1.then k3).size
          have H3 := Lib.hid (And.intro k3 (And.intro hR3 (And.intro hL3 (And.intro hB3 (And.intro hpl3 hbs)))))
          clear k3 hR3 hL3 hB3 hpl3 hbs hLr hLo hone1 kA k2
          go_wp2_with (at_builtin; refine wpList_append_r7 rfl _ _ rfl H3.out.2.1 rfl H3.out.2.2.1 H3.out.2.2.2.1 rfl H3.out.2.2.2.2.1 H3.out.2.2.2.2.2 ?_; intro v9 w9 hR9 k9 o9)
          have hszk := H3.out.1.size
          have hszw := HR.out.2.2.1.size
          have hF3 : Foot base _ (fun b => (Value.slice oo ps.length oc).ownBlock = some b) := fun b hb => by
            obtain ⟨h1, cur, hz⟩ := row_kind H3.out.2.1.row b hb
            exact ⟨h1, heap_lt hz, fun cs fr e => by rw [hz] at e; simp at e⟩
          go_roundw
          case rel =>
            refine ⟨j + 1, ps ++ [(s, _)], HC.out.2.2.2.2.1, by go_num, by rw [HC.out.2.2.1, hd]; rfl, by rw [List.map_append, HC.out.1, HC.out.2.1]; rfl, hR9, fun b hb => ?_, ?_, ?_⟩
            · rcases o9 b hb with h | h
              · exact HR.out.2.1 b h
              · exact Nat.le_trans hszw (Nat.le_trans hszk h)
            · exact (HR.out.2.2.1.then H3.out.1).absorb k9 (fun b e => HR.out.2.1 b e)
            · refine (HR.out.2.2.2.no H3.out.1).keep hF3 k9 (fun b e1 e2 => ?_)
              obtain ⟨_, cur, hz⟩ := (HR.out.2.2.2.no H3.out.1).kind b e1
              obtain ⟨_, cur', hz'⟩ := row_kind H3.out.2.1.row b e2
              rw [hz] at hz'; simp at hz'
          case measure =>
            have := HC.out.2.2.2.2.1
            simp [intOf]
            omega
    · obtain rfl : j = ss.length := by omega
      rw [List.take_length] at *
      have HR := Lib.hid (And.intro hps (And.intro hR (And.intro hO hK)))
      have hji : ¬ ((ss.length : Int) < (ss.length : Int)) := by omega
      clear hps hR hO hK hlt hj hS
      go_wp2
      go_ret2
      exact ⟨_, rfl, ⟨ps, HR.out.1, HR.out.2.1⟩, HR.out.2.2.1, HR.out.2.2.2⟩

set_option maxRecDepth 100000 in
set_option maxHeartbeats 4000000 in
theorem rNext_spec [bn : Inhabited Ban] {base : Nat} {w : World} {v : Value} {ss : List SegL} (h : R7 base w v ss) (ho : SegsOk ss) :
    Calls Tryz.prog 150 #[v] w fun e w' => e = .returned (.int .u64 (max (nextOf 0 ss) 1 : Nat)) ∧ Keep No w w' := by
  obtain ⟨ps, hps, hR⟩ := h
  obtain ⟨ao, cap, rfl, _, _⟩ := hR.form
  have hpl : ps.length = ss.length := by rw [← hps, List.length_map]
  rw [hpl] at hR ⊢
  have hsl := ho.few
  have hsi : (ss.length : Int) ≤ 1099511627776 := by omega
  have HH := Lib.hid (And.intro hps (And.intro ho (And.intro hpl hR)))
  clear hps ho hpl hR hsl
  go_enter Tryz.func150, Tryz.ntmps150
  go_wp2_with fail
  go_loopw [3, 8] (fun nv iv wr => ∃ j : Nat, j ≤ ss.length ∧ iv = .int .i64 j ∧ nv = .int .u64 (max (nextOf 0 (ss.take j)) 1 : Nat) ∧ Keep No w wr) (fun _ iv _ => ss.length - (intOf iv).toNat)
  case atStart => exact ⟨0, Nat.zero_le _, rfl, rfl, Keep.refl _ _⟩
  case round =>
    obtain ⟨j, hj, rfl, rfl, hK⟩ := hrel
    by_cases hlt : j < ss.length
    · have hsj : ss[j]? = some ss[j] := List.getElem?_eq_getElem hlt
      have hpj : ∃ u, ps[j]? = some (ss[j], u) := by
        have h1 : j < ps.length := by rw [HH.out.2.2.1]; exact hlt
        have h2 : (ps.map (·.1))[j]? = some ss[j] := by rw [HH.out.1]; exact hsj
        rw [List.getElem?_map, List.getElem?_eq_getElem h1] at h2
        simp only [Option.map_some, Option.some.injEq] at h2
        refine ⟨ps[j].2, ?_⟩
        rw [List.getElem?_eq_getElem h1]
        exact congrArg some (Prod.ext h2 rfl)
      obtain ⟨u, hpj⟩ := hpj
      have htk : ss.take (j + 1) = ss.take j ++ [ss[j]] := by rw [List.take_add_one, hsj]; rfl
      have hnx : nextOf 0 (ss.take (j + 1)) = if ss[j].headed then ss[j].first + ss[j].recs.length else nextOf 0 (ss.take j) := by rw [htk, nextOf_append]; rfl
      have hrl : ss[j].recs.length ≤ 1000000 := by
        have h1 := HH.out.2.1.recs
        have h2 : ss[j].recs ∈ ss.map (·.recs) := List.mem_map.2 ⟨_, List.getElem_mem hlt, rfl⟩
        obtain ⟨a, b, e⟩ := List.append_of_mem h2
        unfold recsOf at h1
        rw [e] at h1
        simp at h1
        omega
      have hok := HH.out.2.1.ok _ (List.getElem_mem hlt)
      generalize ss[j] = s at *
      have hRr := HH.out.2.2.2.no hK
      have hlu := hRr.recs _ (List.mem_of_getElem? hpj)
      dsimp only at hlu
      obtain ⟨lo, lc, rfl, _, _⟩ := hlu.form
      obtain ⟨g, rfl, c0, c1, c2, c3, c4, c5⟩ := hRr.cell hpj
      dsimp only at c0 c1 c2 c3 c4 c5
      have hji : (j : Int) < (ss.length : Int) := by omega
      have HC := Lib.hid (And.intro hnx (And.intro hlt hK))
      generalize (s.headed && !s.tail.isEmpty) = tb at *
      generalize s.bytes.length = bl at *
      clear hnx hlt hK htk hpj hsj hRr hlu hj
      cases hd : s.headed with
      | false =>
        rw [hd] at c1 c2
        simp only [Bool.false_eq_true, if_false] at c2
        clear hok hrl
        go_wp2
        go_roundw
        case rel => exact ⟨j + 1, HC.out.2.1, by go_num, by rw [HC.out.1, hd]; rfl, HC.out.2.2.alloc _⟩
        case measure => have := HC.out.2.1; simp [intOf]; omega
      | true =>
        rw [hd] at c1 c2
        simp only [if_true] at c2
        obtain ⟨hf1, hf2, _, _⟩ := hok.head hd
        have hw1 : IntKind.u64.wrap (s.recs.length : Int) = (s.recs.length : Int) := by rw [IntKind.wrap_u64]; omega
        have hw2 : IntKind.u64.wrap ((s.first : Int) + (s.recs.length : Int)) = ((s.first + s.recs.length : Nat) : Int) := by rw [IntKind.wrap_u64]; omega
        have HM := Lib.hid hf1
        clear hf1 hf2 hok hrl
        go_wp2
        go_roundw
        case rel => exact ⟨j + 1, HC.out.2.1, by go_num, by rw [HC.out.1, hd]; have := HM.out; simp only [if_true]; rw [Nat.max_eq_left (by omega)]; go_num, HC.out.2.2.alloc _⟩
        case measure => have := HC.out.2.1; simp [intOf]; omega
    · obtain rfl : j = ss.length := by omega
      rw [List.take_length] at *
      have hji : ¬ ((ss.length : Int) < (ss.length : Int)) := by omega
      clear hlt hj
      go_wp2
      go_ret
      exact ⟨rfl, hK⟩
end Go.Proofs.YtfdmbomlkpkegaaGreat
