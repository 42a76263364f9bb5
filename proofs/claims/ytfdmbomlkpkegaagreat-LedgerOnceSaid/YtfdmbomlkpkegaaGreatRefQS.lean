/- The document's 'begins'. Slices of records: a part, a copy, one more. The document's All. -/
import Derived.Test.YtfdmbomlkpkegaaGreatRefP
import Derived.Test.YtfdmbomlkpkegaaGreatSeqY
import Derived.Test.YtfdmbomlkpkegaaGreatRefO

/-! ## RefQ -/
namespace Go.Proofs.YtfdmbomlkpkegaaGreat
open Go Go.RowKit Go.Dr

theorem R7At.at {ps : List (SegL × Value)} {ss : List SegL} (hps : ps.map (·.1) = ss) {j : Nat} {s : SegL} (hs : ss[j]? = some s) : ∃ u, ps[j]? = some (s, u) := by
  subst hps
  rw [List.getElem?_map] at hs
  cases h : ps[j]? with
  | none => rw [h] at hs; cases hs
  | some x => rw [h] at hs; exact ⟨x.2, by simp at hs; rw [← hs]⟩

/-- What 'begins' says. -/
def freshD (size : Int) (ss : List SegL) : Bool := freshB (logD size ss) (lastN (logD size ss))
theorem freshD_nil (size : Int) : freshD size [] = true := rfl
theorem freshD_last (size : Int) (ini : List SegL) (s : SegL) : freshD size (ini ++ [s]) = (!s.headed || ((s.headed && !s.tail.isEmpty) || decide (size ≤ (s.bytes.length : Int)))) := by
  unfold freshD freshB lastN
  rw [logD_last]
  show (!s.headed || (!(s.headed && s.tail.isEmpty) || decide (size ≤ (s.bytes.length : Int)))) = _
  cases s.headed <;> simp

set_option maxRecDepth 100000 in
set_option maxHeartbeats 4000000 in
theorem rbegins_spec [bn : Inhabited Ban] {base : Nat} {w : World} {v : Value} {ss : List SegL} (h : R7 base w v ss) (hfew : ss.length ≤ 10000) (size : Int) (hn : ∀ s ∈ ss, 0 ≤ s.n ∧ s.n ≤ 1000000) :
    Calls Tryz.prog 148 #[v, .int .i64 size] w fun e w' => e = .returned (.tuple #[.bool (freshD size ss), .int .u64 (appS (logD size ss)).n]) ∧ Keep No w w' := by
  obtain ⟨ps, hps, hR⟩ := h
  obtain ⟨ao, cap, rfl, _, _⟩ := hR.form
  have hpl : ps.length = ss.length := by rw [← hps, List.length_map]
  rw [hpl] at hR ⊢
  rcases List.eq_nil_or_concat ss with rfl | ⟨ini, s, rfl⟩
  · rw [freshD_nil, show (appS (logD size [])).n = 1 from rfl]
    clear hps hR hpl hn hfew
    go_enter Tryz.func148, Tryz.ntmps148
    go_wp2
    go_ret2
    exact ⟨rfl, Keep.refl _ _⟩
  · rw [List.concat_eq_append] at *
    obtain ⟨u, hpj⟩ := R7At.at hps (j := ini.length) (s := s) (by simp)
    have hlu := hR.recs _ (List.mem_of_getElem? hpj)
    dsimp only at hlu
    obtain ⟨lo, lc, rfl, _, _⟩ := hlu.form
    clear hlu
    obtain ⟨g, rfl, c0, c1, c2, c3, c4, c5⟩ := hR.cell hpj
    dsimp only at c0 c1 c2 c3 c4 c5
    have hfr := freshD_last size ini s
    have hap : (appS (logD size (ini ++ [s]))).n = if freshD size (ini ++ [s]) then s.n + 1 else s.n := by
      unfold appS freshD newSeg
      rw [logD_last]
      cases freshB (logD size (ini ++ [s])) (lastN (logD size (ini ++ [s]))) <;> rfl
    rw [hap, hfr]
    have hlen : (ini ++ [s]).length = ini.length + 1 := by simp
    have hsn := hn s (by simp)
    rw [hlen] at hfew ⊢
    generalize ini.length = k at *
    have hk1 : IntKind.i64.wrap ((k : Int) + 1 - 1) = (k : Int) := by rw [show ((k : Int) + 1 - 1) = (k : Int) by omega]; exact IntWalk.i64_in _ (by omega)
    have hki : (k : Int) ≤ 1099511627776 := by omega
    have hkn : ¬ ((k : Int) + 1 = 0) := by omega
    have hw1 : IntKind.u64.wrap (s.n + 1) = s.n + 1 := by rw [IntKind.wrap_u64]; omega
    clear hfr hap hlen hn hps hR hpl hpj hfew hsn
    generalize (if s.headed = true then (s.first : Int) else 0) = fi at *
    generalize s.headed = hd at *
    generalize s.tail.isEmpty = te at *
    generalize s.bytes.length = bl at *
    generalize s.n = sn at *
    generalize s.recs.length = rl at *
    have hx0 : ∀ v1 v2 v3 v4 v5, (w.alloc (.cells #[.int .u64 sn, v1, v2, v3, v4, v5] 282)).cell? ⟨w.heap.size, 0, none⟩ = some (.int .u64 sn) := fun v1 v2 v3 v4 v5 => by rw [cell_of (heap_new w _) 0]; rfl
    by_cases hb : size ≤ (bl : Int)
    · have hbd : decide (size ≤ (bl : Int)) = true := decide_eq_true hb
      rw [hbd]
      cases hd <;> cases te
      all_goals
        simp only [Bool.not_true, Bool.not_false, Bool.and_true, Bool.and_false, Bool.or_true, if_true] at c4 ⊢
        go_enter Tryz.func148, Tryz.ntmps148
        go_wp2_with fail
        refine wp_drawN (fun w' => Keep No w w' ∧ w'.cell? ⟨w.heap.size, 0, none⟩ = some (.int .u64 sn)) [0, 1, 2, 3, 4] [] [] (by kernel_rfl) (by kernel_rfl) (fun _ _ _ _ _ h => h) ⟨((Keep.refl _ _).alloc _).drew, (Keep.refl No _).drew.cell (hx0 _ _ _ _ _) (fun e => e)⟩ ?_
        iterate 5 (refine earlyN_cons (v := ?_) rfl rfl rfl ?_ ?_; rotate_left; focus (
          intro w' hq
          have c0' := hq.2
          go_simp
          try with_reducible rfl))
        refine earlyN_nil ?_
        refine midN_nil (tailN_nil ?_)
        go_wp2
        go_ret2
        exact ⟨rfl, ((Keep.refl _ _).alloc _).drew⟩
    · have hbd : decide (size ≤ (bl : Int)) = false := decide_eq_false hb
      rw [hbd]
      cases hd <;> cases te
      case true.true =>
        simp only [Bool.not_true, Bool.and_false, Bool.or_false, Bool.false_eq_true, if_false] at c4 ⊢
        go_enter Tryz.func148, Tryz.ntmps148
        go_wp2_with fail
        refine wp_drawN (fun w' => Keep No w w' ∧ w'.cell? ⟨w.heap.size, 0, none⟩ = some (.int .u64 sn)) [0, 1, 2, 3] [] [] (by kernel_rfl) (by kernel_rfl) (fun _ _ _ _ _ h => h) ⟨((Keep.refl _ _).alloc _).drew, (Keep.refl No _).drew.cell (hx0 _ _ _ _ _) (fun e => e)⟩ ?_
        iterate 4 (refine earlyN_cons (v := ?_) rfl rfl rfl ?_ ?_; rotate_left; focus (
          intro w' hq
          have c0' := hq.2
          go_simp
          try with_reducible rfl))
        refine earlyN_nil ?_
        refine midN_nil (tailN_nil ?_)
        go_wp2
        go_ret2
        exact ⟨rfl, ((Keep.refl _ _).alloc _).drew⟩
      all_goals
        simp only [Bool.not_true, Bool.not_false, Bool.and_true, Bool.and_false, Bool.or_true, Bool.or_false, if_true] at c4 ⊢
        go_enter Tryz.func148, Tryz.ntmps148
        go_wp2_with fail
        refine wp_drawN (fun w' => Keep No w w' ∧ w'.cell? ⟨w.heap.size, 0, none⟩ = some (.int .u64 sn)) [0, 1, 2, 3, 4] [] [] (by kernel_rfl) (by kernel_rfl) (fun _ _ _ _ _ h => h) ⟨((Keep.refl _ _).alloc _).drew, (Keep.refl No _).drew.cell (hx0 _ _ _ _ _) (fun e => e)⟩ ?_
        iterate 5 (refine earlyN_cons (v := ?_) rfl rfl rfl ?_ ?_; rotate_left; focus (
          intro w' hq
          have c0' := hq.2
          go_simp
          try with_reducible rfl))
        refine earlyN_nil ?_
        refine midN_nil (tailN_nil ?_)
        go_wp2
        go_ret2
        exact ⟨rfl, ((Keep.refl _ _).alloc _).drew⟩
end Go.Proofs.YtfdmbomlkpkegaaGreat

/-! ## HoldsA -/
namespace Go.Proofs.YtfdmbomlkpkegaaGreat
open Go Go.RowKit Go.Dr

theorem recs_nil [bn : Inhabited Ban] (base : Nat) (w : World) : LRecsAt base w (.slice none 0 0) [] := ⟨[], rfl, fun i u b h => by simp at h, World.ownsRow_nil _ _ _ _⟩
/-- append(v, x...). -/
theorem wp_append_recs [bn : Inhabited Ban] {base : Nat} {w : World} {o : Oper} {a : Act} {K : Act → World → Prop} {Q : Exit → Act → World → Prop} (s t : Operand)
    (hop : o.op = Op.call { callee := Callee.builtin Builtin.append, args := #[s, t], argTypes := #[128, 128] }) {v x : Value} {m m2 : List Bytes} (hs : a.eval s = v) (ht : a.eval t = x)
    (h : LRecsAt base w v m) (hx : LRecsAt base w x m2) (hlen : m.length + m2.length ≤ 1000000) (hb : base ≤ w.heap.size)
    (hK : ∀ v' w', LRecsAt base w' v' (m ++ m2) → Keep (fun b => v.ownBlock = some b) w w' → (∀ b, v'.ownBlock = some b → v.ownBlock = some b ∨ b = w.heap.size) → K (a.put o.dst v') w') : o.wp Tryz.prog a w K Q := by
  have hfo := h.foot
  obtain ⟨us, hus, hub, hown⟩ := h
  obtain ⟨us2, hus2, hub2, hown2⟩ := hx
  obtain ⟨i0, hi0, hz0, hz1, hz2⟩ := info_parts info_bytes
  have key : ∃ v' w', (Builtin.append_ #[128, 128] o.type #[v, x]).run Tryz.prog w = .ok v' w' ∧ LRecsAt base w' v' (m ++ m2) ∧ Keep (fun b => v.ownBlock = some b) w w' ∧ (∀ b, v'.ownBlock = some b → v.ownBlock = some b ∨ b = w.heap.size) := by
    rcases hown2.2 with ⟨rfl, h0⟩ | ⟨g, cap, cur, rfl, _, hz, h4, h5, h6, h7⟩
    · obtain rfl : m2 = [] := List.eq_nil_of_length_eq_zero h0
      refine ⟨v, w, ?_, ⟨us, by simpa using hus, by simpa using hub, by simpa using hown⟩, Keep.refl _ _, fun b hb => .inl hb⟩
      exact run_append_owned_none (P := Tryz.prog) w base 128 o.type 59 i0 1 Tryz.underlying128 hi0 v m.length us hown
    · have hone2 : ∀ u ∈ us2, u.oneCell' = true := by
        intro u hu
        obtain ⟨i, hi, rfl⟩ := List.getElem_of_mem hu
        obtain ⟨_, _, e⟩ := (hub2 i us2[i] m2[i] (List.getElem?_eq_getElem hi) (List.getElem?_eq_getElem (by omega))).form
        rw [e]; rfl
      have hcells : ∀ (j : Nat) y, us2[j]? = some y → w.cell? ((⟨g, 0, none⟩ : Addr).add j) = some y := by
        intro j y hy
        rw [Addr.add_lit, cell_of hz, Nat.zero_add]
        rw [← h7, List.getElem?_take] at hy
        split at hy
        · simpa using hy
        · cases hy
      obtain ⟨v', w', hrun, o1, g1, _, l1⟩ := run_append_own_at (P := Tryz.prog) w base 128 o.type 59 i0 _ 1 24 Tryz.underlying128 hi0 hz0 hz1 hz2 rfl (by omega) v m.length us hown
        ⟨g, 0, none⟩ m2.length cap us2 (by rw [hus2]; omega) hcells hone2 (by unfold maxLen; omega) (by omega) hb
      have hk : Keep (fun b => v.ownBlock = some b) w w' := (Keep.refl _ _).grown g1 (fun k hk => .inl hk)
      refine ⟨v', w', hrun, ⟨us ++ us2, by simp [hus, hus2], ?_, ?_⟩, hk, fun b hb => ?_⟩
      · intro i u e h1 h2
        by_cases hi : i < us.length
        · rw [List.getElem?_append_left hi] at h1
          rw [List.getElem?_append_left (by omega)] at h2
          exact (hub i u e h1 h2).keep hfo hk
        · rw [List.getElem?_append_right (by omega)] at h1
          rw [List.getElem?_append_right (by omega)] at h2
          rw [hus] at h1
          exact (hub2 _ u e h1 h2).keep hfo hk
      · rw [List.length_append]
        exact o1
      · rcases l1 with l1 | l1
        · exact .inl (by rw [← l1]; exact hb)
        · right; rw [l1] at hb; simp at hb; exact hb.symm
  obtain ⟨v', w', hrun, h1, h2, h3⟩ := key
  unfold Oper.wp
  simp [execOp, hop, resolve, invoke, builtin, hs, ht, hrun, Result.andThen]
  exact hK v' w' h1 h2 h3
theorem wpList_append_recs [bn : Inhabited Ban] {base : Nat} {w : World} {ops : Array Oper} {rest : List Oper} {o : Oper} {a : Act} {Q : Exit → Act → World → Prop} (hg : o.guard = none) (s t : Operand)
    (hop : o.op = Op.call { callee := Callee.builtin Builtin.append, args := #[s, t], argTypes := #[128, 128] }) {v x : Value} {m m2 : List Bytes} (hs : a.eval s = v) (ht : a.eval t = x)
    (h : LRecsAt base w v m) (hx : LRecsAt base w x m2) (hlen : m.length + m2.length ≤ 1000000) (hb : base ≤ w.heap.size)
    (hK : ∀ v' w', LRecsAt base w' v' (m ++ m2) → Keep (fun b => v.ownBlock = some b) w w' → (∀ b, v'.ownBlock = some b → v.ownBlock = some b ∨ b = w.heap.size) → wpList Tryz.prog ops Q rest (a.put o.dst v') w') : wpList Tryz.prog ops Q (o :: rest) a w :=
  wpList_plain hg fun _ hK' => wp_append_recs s t hop hs ht h hx hlen hb fun v' w' h1 h2 h3 => hK' _ _ (hK v' w' h1 h2 h3)
end Go.Proofs.YtfdmbomlkpkegaaGreat

/-! ## RefS -/
namespace Go.Proofs.YtfdmbomlkpkegaaGreat
open Go Go.RowKit Go.Dr

set_option maxRecDepth 100000 in
set_option maxHeartbeats 4000000 in
theorem rAll_spec [bn : Inhabited Ban] {base : Nat} {w : World} {v : Value} {ss : List SegL} (h : R7 base w v ss) (hb : base ≤ w.heap.size) (hfew : ss.length ≤ 10000) (hrec : (recsOf ss).length ≤ 400000) :
    Calls Tryz.prog 126 #[v] w fun e w' => ∃ v', e = .returned v' ∧ LRecsAt base w' v' (recsOf ss) ∧ Keep No w w' := by
  obtain ⟨ps, hps, hR⟩ := h
  obtain ⟨ao, cap, rfl, _, _⟩ := hR.form
  have hpl : ps.length = ss.length := by rw [← hps, List.length_map]
  rw [hpl] at hR ⊢
  have hli : (ss.length : Int) ≤ 1099511627776 := by omega
  have HR := Lib.hid (And.intro hps (And.intro hR (And.intro hb hrec)))
  clear hps hR hb hpl hfew hrec
  go_enter Tryz.func126, Tryz.ntmps126
  go_wp2_with fail
  go_loopw [3, 8] (fun ov iv wr => ∃ j : Nat, j ≤ ss.length ∧ iv = .int .i64 j ∧ LRecsAt base wr ov (recsOf (ss.take j)) ∧ (∀ b, ov.ownBlock = some b → w.heap.size ≤ b) ∧ Keep No w wr) (fun _ iv _ => ss.length - (intOf iv).toNat)
  case atStart => exact ⟨0, Nat.zero_le _, rfl, by rw [List.take_zero]; exact recs_nil _ _, by simp [Value.ownBlock], Keep.refl _ _⟩
  case round =>
    obtain ⟨j, hj, rfl, hL, ho, hK⟩ := hrel
    obtain ⟨oo, oc, rfl, _, _⟩ := hL.form
    by_cases hlt : j < ss.length
    · have hsj : ss[j]? = some ss[j] := List.getElem?_eq_getElem hlt
      obtain ⟨u, hpj⟩ := R7At.at HR.out.1 hsj
      have hRr := HR.out.2.1.no hK
      have hst : recsOf (ss.take (j + 1)) = recsOf (ss.take j) ++ (ss[j]).recs := by
        rw [List.take_add_one, hsj, Option.toList_some, recsOf_append]; simp [recsOf]
      have hle : (recsOf (ss.take j)).length + (ss[j]).recs.length ≤ 1000000 := by
        have h1 : (recsOf (ss.take (j + 1))).length ≤ (recsOf ss).length := by
          have : recsOf ss = recsOf (ss.take (j + 1)) ++ recsOf (ss.drop (j + 1)) := by rw [← recsOf_append, List.take_append_drop]
          rw [this, List.length_append]; omega
        rw [hst, List.length_append] at h1
        have := HR.out.2.2.2
        omega
      generalize ss[j] = s at *
      have hlu := hRr.recs _ (List.mem_of_getElem? hpj)
      dsimp only at hlu
      obtain ⟨lo, lc, rfl, _, _⟩ := hlu.form
      obtain ⟨g, rfl, c0, c1, c2, c3, c4, c5⟩ := hRr.cell hpj
      dsimp only at c0 c1 c2 c3 c4 c5
      have hji : (j : Int) < (ss.length : Int) := by omega
      generalize (if s.headed = true then (s.first : Int) else 0) = fi at *
      generalize (s.headed && !s.tail.isEmpty) = tb at *
      generalize s.bytes.length = bl at *
      have kA : Keep No wr (wr.alloc (.cells #[.int .u64 s.n, .bool s.headed, .int .u64 fi, .slice lo s.recs.length lc, .bool tb, .int .i64 bl] 282)) := (Keep.refl _ _).alloc _
      have hLA := hL.keep (Foot.no _ _) kA (fun _ _ e => e)
      have huA := hlu.keep (Foot.no _ _) kA (fun _ _ e => e)
      have hbA := Nat.le_trans HR.out.2.2.1 (hK.then kA).size
      have HC := Lib.hid (And.intro hst (And.intro hlt (And.intro (hK.then kA) ho)))
      clear hst hlt hK ho hL hpj hsj hRr hlu hj kA
      go_wp2_with (at_builtin; refine wpList_append_recs rfl _ _ rfl rfl rfl hLA huA hle hbA ?_; intro v9 w9 hR9 k9 o9)
      go_roundw
      case rel =>
        refine ⟨j + 1, HC.out.2.1, by go_num, by rw [HC.out.1]; exact hR9, fun b hb => ?_, HC.out.2.2.1.absorb k9 (fun b hb => HC.out.2.2.2 b hb)⟩
        rcases o9 b hb with h | h
        · exact HC.out.2.2.2 b h
        · rw [h]; exact HC.out.2.2.1.size
      case measure => have := HC.out.2.1; simp [intOf]; omega
    · obtain rfl : j = ss.length := by omega
      have hji : ¬ ((ss.length : Int) < (ss.length : Int)) := by omega
      rw [List.take_length] at hL
      rw [List.take_length]
      have HE := Lib.hid (And.intro hL hK)
      clear hlt hj hL hK ho
      go_wp2
      go_ret
      exact ⟨_, rfl, HE.out.1, HE.out.2⟩
end Go.Proofs.YtfdmbomlkpkegaaGreat
