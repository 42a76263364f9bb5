/- Rows of runs of one's own; Concat. -/
import Derived.Test.YtgogfnafbeahoaaGreatRunN
namespace Go.Proofs.YtgogfnafbeahoaaGreat
open Go Go.RowKit

def runCell (r : RunN) : List Value := [.int .u64 r.1, .int .u64 r.2]
def runCells (l : List RunN) : List Value := l.flatMap runCell
theorem runCells_append (l m : List RunN) : runCells (l ++ m) = runCells l ++ runCells m := by simp [runCells]
theorem runCells_length (l : List RunN) : (runCells l).length = l.length * 2 := by
  induction l with
  | nil => rfl
  | cons x l ih => simp only [runCells, List.flatMap_cons, List.length_append, List.length_cons] at ih ⊢; rw [ih]; simp [runCell]; omega
theorem runCells_at : ∀ {l : List RunN} {i : Nat} {r : RunN}, l[i]? = some r → (runCells l)[i * 2]? = some (.int .u64 r.1) ∧ (runCells l)[i * 2 + 1]? = some (.int .u64 r.2)
  | [], i, r, h => by simp at h
  | x :: l, 0, r, h => by
    simp at h
    subst h
    exact ⟨rfl, rfl⟩
  | x :: l, i + 1, r, h => by
    obtain ⟨h1, h2⟩ := runCells_at (l := l) (i := i) (r := r) (by simpa using h)
    have e : runCells (x :: l) = .int .u64 x.1 :: .int .u64 x.2 :: runCells l := rfl
    rw [e, show (i + 1) * 2 = i * 2 + 1 + 1 by omega, show i * 2 + 1 + 1 + 1 = (i * 2 + 1) + 1 + 1 by omega]
    simp only [List.getElem?_cons_succ]
    exact ⟨h1, h2⟩
theorem runCells_one (l : List RunN) : ∀ u ∈ runCells l, u.oneCell' = true := by
  intro u hu
  obtain ⟨r, _, hr⟩ := List.mem_flatMap.1 hu
  simp [runCell] at hr
  rcases hr with rfl | rfl <;> rfl
/-- Which run a cell is of. -/
theorem runCells_of {l : List RunN} {j : Nat} {u : Value} (h : (runCells l)[j]? = some u) : ∃ r, l[j / 2]? = some r ∧ (u = if j % 2 = 0 then .int .u64 r.1 else .int .u64 r.2) := by
  have hlt := (List.getElem?_eq_some_iff.1 h).1
  rw [runCells_length] at hlt
  have hr : l[j / 2]? = some l[j / 2] := List.getElem?_eq_getElem (by omega)
  obtain ⟨h1, h2⟩ := runCells_at hr
  refine ⟨_, hr, ?_⟩
  by_cases hj : j % 2 = 0
  · rw [if_pos hj]
    rw [show j / 2 * 2 = j by omega, h] at h1
    exact Option.some.inj h1
  · rw [if_neg hj]
    rw [show j / 2 * 2 + 1 = j by omega, h] at h2
    exact Option.some.inj h2
def OwnR (w : World) (B : Nat) (v : Value) (l : List RunN) : Prop := w.ownsRow B 114 2 v l.length (runCells l)
theorem OwnR.nil (w : World) (B : Nat) : OwnR w B (.slice none 0 0) [] := World.ownsRow_nil _ _ _ _
theorem OwnR.runs {w : World} {B : Nat} {v : Value} {l : List RunN} (h : OwnR w B v l) : RunsAt w v l := by
  rcases h.2 with ⟨rfl, h0⟩ | ⟨g, cap, cur, rfl, hb, hg, h1, h2, h3, h4⟩
  · obtain rfl : l = [] := List.eq_nil_of_length_eq_zero h0
    exact RunsAt.nil _
  · refine ⟨_, cap, rfl, h1, h2, fun e => (by cases e), fun _ => ⟨g, 0, rfl, ⟨_, _, hg⟩, fun i r hi => ?_⟩⟩
    have hlt := (List.getElem?_eq_some_iff.1 hi).1
    obtain ⟨a1, a2⟩ := runCells_at hi
    rw [← h4, List.getElem?_take] at a1 a2
    rw [if_pos (by omega)] at a1 a2
    rw [cell_of hg, cell_of hg]
    simp only [Nat.zero_add]
    exact ⟨by simpa using a1, by simpa using a2⟩
theorem OwnR.form {w : World} {B : Nat} {v : Value} {l : List RunN} (h : OwnR w B v l) : ∃ ao cap, v = .slice ao l.length cap ∧ l.length ≤ cap ∧ cap ≤ maxLen := row_form h
theorem OwnR.lt {w : World} {B : Nat} {v : Value} {l : List RunN} (h : OwnR w B v l) : ∀ b, v.ownBlock = some b → B ≤ b ∧ b < w.heap.size := World.ownsRow.lt h
theorem OwnR.keep {w w' : World} {B : Nat} {v : Value} {l : List RunN} {F : Nat → Prop} (h : OwnR w B v l) (k : Keep F w w') (hF : ∀ b, v.ownBlock = some b → ¬ F b) : OwnR w' B v l := row_keep h k hF
theorem info_run : (Tryz.prog.info? 114).map (fun i => (i.zero, i.size, i.bytes)) = some (some (.agg #[.int .u64 0, .int .u64 0]), 2, 16) := by kernel_rfl
theorem run_append_runs {w : World} (ty : TypeId) {B : Nat} {v u : Value} {l m : List RunN} (hown : OwnR w B v l) (hsrc : RunsAt w u m) (hlen : l.length + m.length ≤ 1099511627776) (hB : B ≤ w.heap.size) :
    ∃ v' w', (Builtin.append_ #[32, 32] ty #[v, u]).run Tryz.prog w = .ok v' w' ∧ OwnR w' B v' (l ++ m) ∧ Keep (fun b => v.ownBlock = some b) w w' := by
  obtain ⟨i0, hi, hz0, hz1, hz2⟩ := info_parts info_run
  obtain ⟨ao, cap, rfl, hc, hm, hn, hcell⟩ := hsrc
  cases ao with
  | none =>
    obtain rfl := hn rfl
    have hm0 : m = [] := List.eq_nil_of_length_eq_zero (by omega)
    subst hm0
    have hrun := run_append_owned_none (P := Tryz.prog) w B 32 ty 114 i0 2 Tryz.underlying32 hi v l.length (runCells l) hown
    exact ⟨v, w, hrun, by rw [List.append_nil]; exact hown, Keep.refl _ _⟩
  | some ad =>
    obtain ⟨v', w', hrun, h1, h2, _⟩ := run_append_own (P := Tryz.prog) w B 32 ty 114 i0 _ 2 16 Tryz.underlying32 hi hz0 hz1 hz2 rfl (by decide) v l.length (runCells l) hown
      ad m.length cap (runCells m) (runCells_length m) (fun j y hj => by
        obtain ⟨r, hr, hy⟩ := runCells_of hj
        have hlt := (List.getElem?_eq_some_iff.1 hr).1
        obtain ⟨g, o, e, _, hrow⟩ := hcell (by omega)
        simp only [Option.some.injEq] at e
        subst e
        obtain ⟨c1, c2⟩ := hrow _ _ hr
        have ea : (⟨g, o, none⟩ : Addr).add j = ⟨g, o + j, none⟩ := by simp [Addr.add]
        rw [ea, hy]
        by_cases hj2 : j % 2 = 0
        · rw [show o + j / 2 * 2 = o + j by omega] at c1
          rw [if_pos hj2]
          exact c1
        · rw [show o + j / 2 * 2 + 1 = o + j by omega] at c2
          rw [if_neg hj2]
          exact c2) (runCells_one m) (by unfold maxLen; omega) (by omega) hB
    refine ⟨v', w', hrun, ?_, (Keep.refl _ w).grown h2 (fun k hk => .inl hk)⟩
    unfold OwnR
    rw [List.length_append, runCells_append]
    exact h1
theorem wp_append_runs {w : World} {o : Oper} {a : Act} {K : Act → World → Prop} {Q : Exit → Act → World → Prop} (s x : Operand)
    (ho : o.op = Op.call { callee := Callee.builtin Builtin.append, args := #[s, x], argTypes := #[32, 32] })
    {B : Nat} {v u : Value} {l m : List RunN} (hown : OwnR w B v l) (hsrc : RunsAt w u m) (hs : a.eval s = v) (hx : a.eval x = u) (hlen : l.length + m.length ≤ 1099511627776) (hB : B ≤ w.heap.size)
    (hK : ∀ v' w', OwnR w' B v' (l ++ m) → Keep (fun b => v.ownBlock = some b) w w' → K (a.put o.dst v') w') : o.wp Tryz.prog a w K Q := by
  obtain ⟨v', w', hr, h1, h2⟩ := run_append_runs o.type hown hsrc hlen hB
  unfold Oper.wp execOp
  simp only [ho, resolve, invoke, builtin, Sem.run_bind, Sem.run_pure, Result.andThen_ok, List.map_toArray, List.map_cons, List.map_nil, hs, hx, hr]
  exact hK _ _ h1 h2
theorem wpList_append_runs {w : World} {ops : Array Oper} {rest : List Oper} {o : Oper} {a : Act} {Q : Exit → Act → World → Prop}
    (hg : o.guard = none) (s x : Operand) (hop : o.op = Op.call { callee := Callee.builtin Builtin.append, args := #[s, x], argTypes := #[32, 32] })
    {B : Nat} {v u : Value} {l m : List RunN} (hown : OwnR w B v l) (hsrc : RunsAt w u m) (hs : a.eval s = v) (hx : a.eval x = u) (hlen : l.length + m.length ≤ 1099511627776) (hB : B ≤ w.heap.size)
    (hK : ∀ v' w', OwnR w' B v' (l ++ m) → Keep (fun b => v.ownBlock = some b) w w' → wpList Tryz.prog ops Q rest (a.put o.dst v') w') :
    wpList Tryz.prog ops Q (o :: rest) a w :=
  wpList_plain hg fun _K hK' => wp_append_runs s x hop hown hsrc hs hx hlen hB (fun v' w' h1 h2 => hK' _ _ (hK v' w' h1 h2))

set_option maxRecDepth 100000 in
/-- slices.Grow of a nil slice. -/
theorem rGrow_spec {w : World} {B : Nat} (n : Nat) (hn : n ≤ 1099511627776) (hB : B ≤ w.heap.size) :
    Calls Tryz.prog 163 #[.slice none 0 0, .int .i64 n] w fun e w' => ∃ v', e = .returned v' ∧ OwnR w' B v' [] ∧ Keep No w w' := by
  obtain ⟨i0, hi, hz0, hz1, hz2⟩ := info_parts info_run
  by_cases h0 : n = 0
  · subst h0
    go_enter Tryz.func163, Tryz.ntmps163
    go_wp2
    go_ret
    exact ⟨_, rfl, OwnR.nil _ _, Keep.refl _ _⟩
  · have hp : (0 : Int) < (n : Int) := by omega
    have hb : (n : Int) ≤ 1099511627776 := by omega
    have hrun := fun ty => Lib.run_append_nil_zeros (P := Tryz.prog) w 32 3 ty 114 i0 _ .i64 .i64 Tryz.underlying32 Tryz.underlying3 hi hz0 n (by omega) (by omega) (by omega) (by rw [hz2]; omega)
    have hc := grownCap_ge w n 0 114
    have hm := grownCap_le_maxLen w n 0 114 (by unfold maxLen; omega)
    generalize grownCap w n 0 114 = cap at hrun hc hm
    obtain ⟨cs, hcs⟩ : ∃ cs, cs = Builtin.zeroCells (Value.agg #[.int .u64 0, .int .u64 0]).cells n ++ Builtin.zeroCells (Value.agg #[.int .u64 0, .int .u64 0]).cells (cap - n) := ⟨_, rfl⟩
    have hsz : cs.size = cap * 2 := by
      rw [hcs, Array.size_append, size_zeroCells, size_zeroCells]
      simp [Value.cells]
      omega
    simp only [← hcs] at hrun
    clear hcs
    have hz := fun (o : Obj) => heap_alloc_new w.drew o
    have hci : (n : Int) ≤ (cap : Int) := by omega
    have hmi : (cap : Int) ≤ 9223372036854775807 := by unfold maxLen at hm; omega
    have HH := Lib.hid (And.intro hsz (And.intro hc hm))
    clear hsz hc hm
    go_enter Tryz.func163, Tryz.ntmps163
    go_wp2_with (at_builtin; refine Lib.wpList_append_run _ rfl _ _ _ _ rfl _ _ rfl rfl _ _ (hrun _) ?_)
    go_ret
    exact ⟨_, rfl, ⟨rfl, .inr ⟨w.heap.size, cap, cs, rfl, hB, hz _, Nat.zero_le _, HH.out.2.2, HH.out.1, by simp [runCells]⟩⟩, (Keep.refl _ _).drew.alloc _⟩
def RSlicesAt (w : World) (v : Value) (ls : List (List RunN)) : Prop :=
  ∃ us : List Value, us.length = ls.length ∧ (∀ (i : Nat) u l, us[i]? = some u → ls[i]? = some l → RunsAt w u l) ∧
    ∃ g cap, v = .slice (some ⟨g, 0, none⟩) ls.length cap ∧ ls.length ≤ cap ∧ cap ≤ maxLen ∧ ∀ (i : Nat) u, us[i]? = some u → w.cell? ⟨g, i, none⟩ = some u
def catR (ls : List (List RunN)) (k : Nat) : List RunN := (ls.take k).flatten
theorem catR_zero (ls : List (List RunN)) : catR ls 0 = [] := by simp [catR]
theorem catR_all (ls : List (List RunN)) : catR ls ls.length = ls.flatten := by simp [catR]
theorem catR_succ {ls : List (List RunN)} {k : Nat} {l : List RunN} (h : ls[k]? = some l) : catR ls (k + 1) = catR ls k ++ l := by
  obtain ⟨hk, rfl⟩ := List.getElem?_eq_some_iff.1 h
  unfold catR
  rw [List.take_succ_eq_append_getElem hk, List.flatten_append, List.flatten_cons, List.flatten_nil, List.append_nil]
theorem catR_le (ls : List (List RunN)) (k : Nat) : (catR ls k).length ≤ ls.flatten.length := by
  unfold catR
  conv => rhs; rw [← List.take_append_drop k ls]
  rw [List.flatten_append, List.length_append]
  omega
set_option maxRecDepth 100000 in
/-- slices.Concat. -/
theorem rConcat_spec {w : World} {v : Value} {ls : List (List RunN)} (h : RSlicesAt w v ls) (hl : ls.flatten.length ≤ 549755813888) :
    Calls Tryz.prog 127 #[v] w fun e w' => ∃ v', e = .returned v' ∧ OwnR w' w.heap.size v' ls.flatten ∧ Keep No w w' := by
  obtain ⟨us, hus, hbs, g, cap, rfl, hlc, hcm, hcells⟩ := h
  unfold maxLen at hcm
  have hn : (ls.length : Int) ≤ 9223372036854775807 := by omega
  have HU := Lib.hid (And.intro hus (And.intro hbs hcells))
  clear hus hbs hcells
  go_enter Tryz.func127, Tryz.ntmps127
  go_wp2
  go_loop [3, 11] (fun s i => ∃ k : Nat, k ≤ ls.length ∧ i = .int .i64 k ∧ s = .int .i64 (catR ls k).length) (fun _ i => ls.length - (intOf i).toNat)
  case atStart => exact ⟨0, Nat.zero_le _, rfl, rfl⟩
  case round =>
    obtain ⟨k, hk, rfl, rfl⟩ := hrel
    by_cases hlt : k < ls.length
    · have hku : k < us.length := by rw [HU.out.1]; exact hlt
      have hc := HU.out.2.2 k us[k] (List.getElem?_eq_getElem hku)
      have hlk : ls[k]? = some ls[k] := List.getElem?_eq_getElem hlt
      obtain ⟨ao1, cap1, hu, _⟩ := (HU.out.2.1 k _ _ (List.getElem?_eq_getElem hku) hlk).form
      have hs := congrArg List.length (catR_succ hlk)
      rw [List.length_append] at hs
      have hle := catR_le ls (k + 1)
      have hb1 : ((catR ls k).length : Int) + (ls[k].length : Int) ≤ 549755813888 := by omega
      have hb2 : (0 : Int) ≤ ((catR ls k).length : Int) + (ls[k].length : Int) := by omega
      have HS := Lib.hid hs
      rw [hu] at hc
      generalize ls[k].length = m at *
      clear hs hle hlk hu
      have hki : (k : Int) < (ls.length : Int) := by omega
      go_wp2
      go_round
      case rel => exact ⟨k + 1, by omega, by go_num, by rw [HS.out]; go_num⟩
      case measure => simp [intOf]; omega
    · have hki : ¬ (k : Int) < (ls.length : Int) := by omega
      obtain rfl : k = ls.length := by omega
      have hle := congrArg List.length (catR_all ls)
      have hb1 : ((catR ls ls.length).length : Int) ≤ 549755813888 := by omega
      clear hle hki hlt hk
      go_wp2_with (go_at_call 163; refine (rGrow_spec (B := w.heap.size) (catR ls ls.length).length (by omega) (Nat.le_refl _)).mono ?_; rintro e w1 ⟨v0, rfl, hown0, hk0⟩)
      go_loopw [6, 27] (fun v i wr => ∃ k : Nat, k ≤ ls.length ∧ i = .int .i64 k ∧ OwnR wr w.heap.size v (catR ls k) ∧ Keep No w wr) (fun _ i _ => ls.length - (intOf i).toNat)
      case atStart => exact ⟨0, Nat.zero_le _, rfl, by rw [catR_zero]; exact hown0, hk0⟩
      case round =>
        clear hown0 hk0
        obtain ⟨k, hk, rfl, hown, hkp⟩ := hrel
        by_cases hlt : k < ls.length
        · have hku : k < us.length := by rw [HU.out.1]; exact hlt
          have hc := hkp.cell (HU.out.2.2 k us[k] (List.getElem?_eq_getElem hku)) (fun h => h)
          have hlk : ls[k]? = some ls[k] := List.getElem?_eq_getElem hlt
          have hb := (HU.out.2.1 k _ _ (List.getElem?_eq_getElem hku) hlk).no hkp
          have hs := catR_succ hlk
          have hle := catR_le ls (k + 1)
          rw [hs, List.length_append] at hle
          have hki : (k : Int) < (ls.length : Int) := by omega
          have HS := Lib.hid hs
          generalize us[k] = u at *
          generalize ls[k] = l at *
          clear hs hlk
          have hBs := hkp.size
          go_wp2_with (at_builtin; refine wpList_append_runs rfl _ _ rfl hown hb rfl rfl (by omega) hBs ?_; intro v' w' hown' hk')
          go_roundw
          case rel => exact ⟨k + 1, by omega, by go_num, by rw [HS.out]; exact hown', hkp.trans hk' (fun x hx hxx => by have := (hown.lt x hxx).1; omega)⟩
          case measure => simp [intOf]; omega
        · have hki : ¬ (k : Int) < (ls.length : Int) := by omega
          obtain rfl : k = ls.length := by omega
          clear hki hlt hk
          go_wp2
          go_ret
          exact ⟨_, rfl, by rw [← catR_all]; exact hown, hkp⟩
end Go.Proofs.YtgogfnafbeahoaaGreat
