/- disk.Crash. -/
import Derived.Test.YtpjggnfiocplmaaDiskE
namespace Go.Proofs.Ytpjggnfiocplmaa
open Go Go.RowKit Go.Dr

theorem run_min (w : World) (ts : Array TypeId) (ty : TypeId) (x y : Int) : (Builtin.min_ ts ty #[.int .i64 x, .int .i64 y]).run Try.prog w = .ok (.int .i64 (min x y)) w := by
  by_cases h : y < x
  · have e : min x y = y := by omega
    rw [e]
    simp [Builtin.min_, Builtin.min2, go_sem, h]
  · have e : min x y = x := by omega
    rw [e]
    simp [Builtin.min_, Builtin.min2, go_sem, h]
theorem wpList_min {w : World} {ops : Array Oper} {rest : List Oper} {o : Oper} {a : Act} {Q : Exit → Act → World → Prop} (x y : Int)
    (hg : o.guard = none) (s t : Operand) (hop : o.op = Op.call { callee := Callee.builtin Builtin.min, args := #[s, t], argTypes := #[3, 3] })
    (hs : a.eval s = .int .i64 x) (ht : a.eval t = .int .i64 y)
    (hK : wpList Try.prog ops Q rest (a.put o.dst (.int .i64 (min x y))) w) : wpList Try.prog ops Q (o :: rest) a w := by
  refine wpList_plain hg fun K hK' => ?_
  unfold Oper.wp
  simp [execOp, hop, resolve, invoke, builtin, hs, ht, run_min, Result.andThen]
  exact hK' _ _ hK
theorem run_max (w : World) (ts : Array TypeId) (ty : TypeId) (x y : Int) : (Builtin.max_ ts ty #[.int .i64 x, .int .i64 y]).run Try.prog w = .ok (.int .i64 (max x y)) w := by
  by_cases h : x < y
  · have e : max x y = y := by omega
    rw [e]
    simp [Builtin.max_, Builtin.max2, go_sem, h]
  · have e : max x y = x := by omega
    rw [e]
    simp [Builtin.max_, Builtin.max2, go_sem, h]
theorem wpList_max {w : World} {ops : Array Oper} {rest : List Oper} {o : Oper} {a : Act} {Q : Exit → Act → World → Prop} (x y : Int)
    (hg : o.guard = none) (s t : Operand) (hop : o.op = Op.call { callee := Callee.builtin Builtin.max, args := #[s, t], argTypes := #[3, 3] })
    (hs : a.eval s = .int .i64 x) (ht : a.eval t = .int .i64 y)
    (hK : wpList Try.prog ops Q rest (a.put o.dst (.int .i64 (max x y))) w) : wpList Try.prog ops Q (o :: rest) a w := by
  refine wpList_plain hg fun K hK' => ?_
  unfold Oper.wp
  simp [execOp, hop, resolve, invoke, builtin, hs, ht, run_max, Result.andThen]
  exact hK' _ _ hK

def wsum : List CallS → Nat
  | [] => 0
  | c :: l => c.p.length + wsum l
theorem msum_set (m : AMap) (k : Int) (l : Bytes) : msum (mset m k l) + ((mget m k).getD []).length = msum m + l.length := by
  induction m with
  | nil => simp [mset, msum, mget]
  | cons e m ih =>
    simp only [mget, List.find?_cons, mset] at ih ⊢
    cases h : (e.1 == k) with
    | true => simp [msum]; omega
    | false =>
      simp only [msum]
      simp only [Bool.false_eq_true, if_false, msum]
      omega
theorem msum_del (m : AMap) (k : Int) : msum (mdel m k) ≤ msum m := by
  induction m with
  | nil => simp [mdel, msum]
  | cons e m ih =>
    simp only [mdel]
    split
    · simp [msum]
    · simp [msum]; omega
theorem msum_done (c : CallS) (m : AMap) : msum (c.done m) ≤ msum m + c.p.length := by
  unfold CallS.done
  split
  · have := msum_del m c.seg; omega
  · have := msum_set m c.seg ((mget m c.seg).getD [] ++ c.p)
    simp at this ⊢
    omega
def doneAll (l : List CallS) (m : AMap) : AMap := l.foldl (fun m c => c.done m) m
theorem doneAll_take {l : List CallS} {k : Nat} {c : CallS} (h : l[k]? = some c) (m : AMap) : doneAll (l.take (k + 1)) m = c.done (doneAll (l.take k) m) := by
  obtain ⟨hk, rfl⟩ := List.getElem?_eq_some_iff.1 h
  unfold doneAll
  rw [List.take_succ_eq_append_getElem hk, List.foldl_append]
  rfl
theorem wsum_take {l : List CallS} {k : Nat} {c : CallS} (h : l[k]? = some c) : wsum (l.take (k + 1)) = wsum (l.take k) + c.p.length := by
  induction l generalizing k with
  | nil => simp at h
  | cons x l ih =>
    cases k with
    | zero => simp at h; subst h; simp [wsum]
    | succ k => simp [wsum, ih (by simpa using h)]; omega
theorem wsum_take_le (l : List CallS) (k : Nat) : wsum (l.take k) ≤ wsum l := by
  induction l generalizing k with
  | nil => simp [wsum]
  | cons x l ih =>
    cases k with
    | zero => simp [wsum]
    | succ k => simp [wsum]; exact ih k
theorem msum_doneAll (l : List CallS) (m : AMap) (k : Nat) : msum (doneAll (l.take k) m) ≤ msum m + wsum (l.take k) := by
  induction k with
  | zero => simp [doneAll]
  | succ k ih =>
    cases h : l[k]? with
    | none =>
      have : l.take (k + 1) = l.take k := by
        rw [List.take_of_length_le (by have := List.getElem?_eq_none_iff.1 h; omega), List.take_of_length_le (List.getElem?_eq_none_iff.1 h)]
      rw [this]; exact ih
    | some c =>
      rw [doneAll_take h, wsum_take h]
      have := msum_done c (doneAll (l.take k) m)
      omega

/-- What a crash leaves. -/
def crashMap (d : DiskS) (k : Nat) (torn : Int) : AMap :=
  match d.wait[k]? with
  | none => doneAll (d.wait.take k) d.safe
  | some c => if c.drop = false ∧ 0 < min torn ((c.p.length : Int) - 1) then CallS.done ⟨c.seg, c.p.take (min torn ((c.p.length : Int) - 1)).toNat, false⟩ (doneAll (d.wait.take k) d.safe) else doneAll (d.wait.take k) d.safe
def keepNum (d : DiskS) (keep : Int) : Nat := (min (max keep 0) (d.wait.length : Int)).toNat
def DiskS.crash (d : DiskS) (keep torn : Int) : DiskS :=
  { room := d.room, full := d.full, now := crashMap d (keepNum d keep) torn, safe := crashMap d (keepNum d keep) torn, wait := [] }

theorem callCells_at : ∀ {l : List CallS} {us : List Value}, us.length = l.length → ∀ {i : Nat} {c : CallS} {u : Value}, l[i]? = some c → us[i]? = some u →
    (callCells l us)[i * 3]? = some (.int .u64 c.seg) ∧ (callCells l us)[i * 3 + 1]? = some u ∧ (callCells l us)[i * 3 + 2]? = some (.bool c.drop) := by
  intro l
  induction l with
  | nil => intro us _ i c u h; simp at h
  | cons x l ih =>
    intro us hl i c u h1 h2
    cases us with
    | nil => simp at hl
    | cons v us =>
      cases i with
      | zero => simp at h1 h2; subst h1 h2; simp [callCells]
      | succ i =>
        have e : (i + 1) * 3 = i * 3 + 1 + 1 + 1 := by omega
        have := ih (us := us) (by simpa using hl) (i := i) (c := c) (u := u) (by simpa using h1) (by simpa using h2)
        simp only [callCells, e]
        refine ⟨?_, ?_, ?_⟩
        · simpa using this.1
        · simpa [Nat.add_assoc] using this.2.1
        · simpa [Nat.add_assoc] using this.2.2

theorem WaitAt.cap [bn : Inhabited Ban] {base : Nat} {w : World} {ao : Option Addr} {n cap : Nat} {l : List CallS} (h : WaitAt base w (.slice ao n cap) l) : l.length ≤ cap ∧ cap ≤ maxLen := by
  obtain ⟨us, _, _, _, hw⟩ := h
  rcases hw with ⟨h1, h0⟩ | ⟨g, cp, cur, hv, hbg, hg, h1, h2, h3, h4⟩
  · simp at h1; omega
  · simp at hv; omega
/-- The cells of what waits. -/
theorem WaitAt.cells [bn : Inhabited Ban] {base : Nat} {w : World} {ao : Option Addr} {n cap : Nat} {l : List CallS} (h : WaitAt base w (.slice ao n cap) l) (hn : 0 < l.length) :
    ∃ g, ao = some ⟨g, 0, none⟩ ∧ base ≤ g ∧ ∀ i c, l[i]? = some c → ∃ u, BytesAt base w u c.p ∧ w.cell? ⟨g, i * 3, none⟩ = some (.int .u64 c.seg) ∧ w.cell? ⟨g, i * 3 + 1, none⟩ = some u ∧ w.cell? ⟨g, i * 3 + 2, none⟩ = some (.bool c.drop) := by
  obtain ⟨us, hus, hb, hx, hw⟩ := h
  rcases hw with ⟨_, h0⟩ | ⟨g, cp, cur, hv, hbg, hg, h1, h2, h3, h4⟩
  · omega
  · simp only [Value.slice.injEq] at hv
    refine ⟨g, hv.1, hbg, fun i c hc => ?_⟩
    have hi : i < l.length := (List.getElem?_eq_some_iff.1 hc).1
    have hu : us[i]? = some us[i] := List.getElem?_eq_getElem (by omega)
    obtain ⟨e0, e1, e2⟩ := callCells_at hus hc hu
    have cell : ∀ j x, (callCells l us)[j]? = some x → w.cell? ⟨g, j, none⟩ = some x := by
      intro j x hj
      rw [cell_of hg]
      rw [← h4, List.getElem?_take] at hj
      split at hj
      · simpa using hj
      · cases hj
    exact ⟨us[i], hb i _ _ hu hc, cell _ _ e0, cell _ _ e1, cell _ _ e2⟩

set_option maxRecDepth 100000 in
set_option maxHeartbeats 2000000 in
theorem crash_spec [bn : Inhabited Ban] {base : Nat} {w : World} {p n s : Nat} {wv : Value} {d : DiskS} (h : DiskAt base w p n s wv d) (hb : base ≤ w.heap.size) (hs : msum d.safe + wsum d.wait ≤ 1099511627776) (hw : d.wait.length ≤ 1000000) (keep torn : Int)
    (_ht : (Lit.int .i64 torn).wf = true) :
    Calls Try.prog 20 #[.pointer (some ⟨p, 0, none⟩), .int .i64 keep, .int .i64 torn] w (NewDisk base w (d.crash keep torn)) := by
  obtain ⟨wo, wc, rfl⟩ := h.wait.form
  have c0 := cell_of h.blk 0
  have c1 := cell_of h.blk 1
  have c3 := cell_of h.blk 3
  have c4 := cell_of h.blk 4
  simp at c0 c1 c3 c4
  obtain ⟨k, hk⟩ : ∃ k : Nat, min (max keep 0) (d.wait.length : Int) = (k : Int) := ⟨(min (max keep 0) (d.wait.length : Int)).toNat, by omega⟩
  have hkn : keepNum d keep = k := by unfold keepNum; omega
  have hkl : k ≤ d.wait.length := by omega
  unfold DiskS.crash
  rw [hkn]
  clear hkn
  have HK := Lib.hid hk
  clear hk
  have hkc : (k : Int) ≤ (wc : Int) := by have := h.wait.cap.1; omega
  have hcm := h.wait.cap.2
  unfold maxLen at hcm
  have hcm' : (wc : Int) ≤ 9223372036854775807 := by omega
  go_enter Try.func20, Try.ntmps20
  go_wp2_with fail
  refine (mclone_spec h.safe).mono ?_
  rintro e w1 ⟨r, rfl, hm, hr, hsz, hk1⟩
  have hrw : w.heap.size ≤ r := by omega
  have HR := Lib.hid hr
  clear hr hsz
  have d0 := hk1.cell c0 (fun e => e)
  have d1 := hk1.cell c1 (fun e => e)
  have d4 := hk1.cell c4 (fun e => e)
  go_wp2_with (first | (refine wpList_max _ _ rfl _ _ rfl rfl rfl ?_) | (refine wpList_min _ _ rfl _ _ rfl rfl rfl ?_; rw [HK.out]))
  clear c0 c1 c3 c4
  go_loopw [34] (fun i wr => ∃ j : Nat, j ≤ k ∧ i = .int .i64 j ∧ MapAt base wr r (doneAll (d.wait.take j) d.safe) ∧ Keep No w wr) (fun i _ => k - (intOf i).toNat)
  case atStart => exact ⟨0, Nat.zero_le _, rfl, by simpa [doneAll] using hm, hk1⟩
  case round =>
    clear hm hk1 d0 d1 d4
    obtain ⟨j, hj, rfl, hm, hkp⟩ := hrel
    by_cases hlt : j < k
    · obtain ⟨g, rfl, hbg, hcells⟩ := h.wait.cells (by omega)
      have hcj : d.wait[j]? = some d.wait[j] := List.getElem?_eq_getElem (by omega)
      have hdt := doneAll_take hcj d.safe
      have hms := msum_doneAll d.wait d.safe j
      have hwt := wsum_take hcj
      have hwl := wsum_take_le d.wait (j + 1)
      obtain ⟨u, hu, e0, e1, e2⟩ := hcells j _ hcj
      generalize d.wait[j] = c at *
      have hmg := mget_le (doneAll (d.wait.take j) d.safe) c.seg
      have hbnd : ((mget (doneAll (d.wait.take j) d.safe) c.seg).getD []).length + c.p.length ≤ 17592186044416 := by omega
      generalize doneAll (d.wait.take j) d.safe = M at *
      obtain ⟨uo, uc, rfl⟩ := hu.form
      have e0 := hkp.cell e0 (fun e => e)
      have e1 := hkp.cell e1 (fun e => e)
      have e2 := hkp.cell e2 (fun e => e)
      have hu := hu.no hkp
      have hjk : (j : Int) < (k : Int) := by omega
      have hrb : base ≤ r := by omega
      have HX := Lib.hid (And.intro hdt (And.intro hbnd hlt))
      clear hdt hms hwt hwl hmg hcells hcj hbnd hlt hs hw
      go_wp2_with fail
      refine (done_spec c (hm.no ?_) hrb (hu.no ?_) HX.out.2.1).mono ?_
      · exact (Keep.refl _ _).alloc _
      · exact (Keep.refl _ _).alloc _
      rintro e w3 ⟨rfl, hm3, hk3⟩
      go_wp2
      go_roundw
      case rel => exact ⟨j + 1, by have := HX.out.2.2; omega, by go_num, by rw [HX.out.1]; exact hm3, (hkp.alloc _).trans hk3 (fun y hy e => by have e : y = r := e; omega)⟩
      case measure => have := HX.out.2.2; simp [intOf]; omega
    · obtain rfl : j = k := by omega
      clear hj hlt
      have c0 := cell_of h.blk 0
      have c1 := cell_of h.blk 1
      have c4 := cell_of h.blk 4
      simp at c0 c1 c4
      have d4 := hkp.cell c4 (fun e => e)
      have hrb : base ≤ r := by omega
      cases hcj : d.wait[j]? with
      | none =>
        have hge := List.getElem?_eq_none_iff.1 hcj
        have hjl : ¬ (j : Int) < (d.wait.length : Int) := by omega
        have hmF : MapAt base wr r (crashMap d j torn) := by
          have e : crashMap d j torn = doneAll (d.wait.take j) d.safe := by simp [crashMap, hcj]
          rw [e]; exact hm
        have hkF : Keep No w wr := hkp
        clear hm hge hcj hkl hkp
        go_wp2
        clear d4 c4 hjl hkc hcm hcm'
        have hWF : base ≤ wr.heap.size := Nat.le_trans hb hkF.size
        refine wp_drawN (fun w' => Keep No wr w') [0, 1, 2, 3, 4, 5, 6, 7, 8, 9] [10] [11, 12, 13] (by kernel_rfl) (by kernel_rfl) (fun _ _ _ _ _ h => h) (Keep.refl _ _).drew ?_
        have f0 := hkF.cell c0 (fun e => e)
        have f1 := hkF.cell c1 (fun e => e)
        iterate 10 (refine earlyN_cons (v := ?_) rfl rfl rfl ?_ ?_; rotate_left; focus (
          intro w' hS
          have f0' := hS.cell f0 (fun e => e)
          have f1' := hS.cell f1 (fun e => e)
          go_simp
          try with_reducible rfl))
        refine earlyN_nil (midN_cons rfl rfl (fun K hK => ?_))
        go_simp
        have hkD : Keep No wr wr.drew := (Keep.refl _ _).drew
        refine (mclone_spec (hmF.no hkD)).mono ?_
        rintro e w5 ⟨r5, rfl, hm5, hr5, hsz5, hk5⟩
        have hk6 := hkD.then hk5
        refine hK _ _ hk6 ?_
        clear hK K
        refine midN_nil (tailN_cons rfl (tailN_cons rfl (tailN_cons rfl (tailN_nil ?_))))
        have hmG := hmF.no hk6
        have hkG := hkF.then hk6
        have h5 : w.heap.size ≤ r5 := by rw [hr5]; exact Nat.le_trans hkF.size hkD.size
        have hrr5 : r ≠ r5 := by have := hmF.lt; have := hkD.size; omega
        have hb5 : base ≤ w5.heap.size := Nat.le_trans hb hkG.size
        have hbb := hkG.size
        clear hr5 hsz5 hkD hk5 hk6 hmF hkF f0 f1 hWF
        go_wp2
        go_ret
        have hkN : Keep No w5 (w5.alloc (.cells #[.int .i64 d.room, .bool d.full, .map (some r), .map (some r5), .slice none 0 0] 99)) := (Keep.refl _ _).alloc _
        refine ⟨w5.heap.size, r, r5, .slice none 0 0, rfl, ⟨heap_new w5 _, hmG.no hkN, hm5.no hkN, WaitAt.nil _ _, hb5, hrb, by omega, hrr5⟩, hkG.then hkN, ?_⟩
        rintro b (rfl | rfl | rfl | hq)
        · exact hbb
        · exact hrw
        · exact h5
        · simp [Value.ownBlock] at hq
      | some c =>
        have hlt := (List.getElem?_eq_some_iff.1 hcj).1
        obtain ⟨g, rfl, hbg, hcells⟩ := h.wait.cells (by omega)
        have hms := msum_doneAll d.wait d.safe j
        have hwt := wsum_take hcj
        have hwl := wsum_take_le d.wait (j + 1)
        obtain ⟨u, hu, e0, e1, e2⟩ := hcells j _ hcj
        have hmg := mget_le (doneAll (d.wait.take j) d.safe) c.seg
        have hbnd : ((mget (doneAll (d.wait.take j) d.safe) c.seg).getD []).length + c.p.length ≤ 17592186044416 := by omega
        obtain ⟨uo, uc, rfl⟩ := hu.form
        have e0 := hkp.cell e0 (fun e => e)
        have e1 := hkp.cell e1 (fun e => e)
        have e2 := hkp.cell e2 (fun e => e)
        have hu := hu.no hkp
        have hjk : (j : Int) < (d.wait.length : Int) := by omega
        have hkB : Keep No wr (wr.alloc (.cells #[.int .u64 c.seg, .slice uo c.p.length uc, .bool c.drop] 102)) := (Keep.refl _ _).alloc _
        have hp0 : (0 : Int) ≤ (c.p.length : Int) := by omega
        have hp1 : (c.p.length : Int) ≤ 1099511627776 := by omega
        obtain ⟨x, hx⟩ : ∃ x, min torn ((c.p.length : Int) - 1) = x := ⟨_, rfl⟩
        have HX := Lib.hid hx
        have hxl : x ≤ (c.p.length : Int) - 1 := by omega
        have hWF0 : base ≤ wr.heap.size := Nat.le_trans hb hkp.size
        cases hd : c.drop with
        | true =>
          have hmF : MapAt base (wr.alloc (.cells #[.int .u64 c.seg, .slice uo c.p.length uc, .bool true] 102)) r (crashMap d j torn) := by
            have e : crashMap d j torn = doneAll (d.wait.take j) d.safe := by simp [crashMap, hcj, hd]
            rw [e]; rw [hd] at hkB; exact hm.no hkB
          have hkF : Keep No w (wr.alloc (.cells #[.int .u64 c.seg, .slice uo c.p.length uc, .bool true] 102)) := by rw [hd] at hkB; exact hkp.then hkB
          rw [hd] at e2
          clear hm hlt hcells hms hwt hwl hmg hbnd hcj hkl hkB hx hd hs hw hxl
          go_wp2_with (refine wpList_min _ _ rfl _ _ rfl rfl rfl ?_; rw [HX.out])
          clear d4 c4 hkc hcm hcm' e0 e1 e2 hu hjk hp0 hp1 hkp
          generalize wr.alloc (.cells #[.int .u64 c.seg, .slice uo c.p.length uc, .bool true] 102) = W1 at hmF hkF ⊢
          have hWF : base ≤ W1.heap.size := Nat.le_trans hb hkF.size
          refine wp_drawN (fun w' => Keep No W1 w') [0, 1, 2, 3, 4, 5, 6, 7, 8, 9] [10] [11, 12, 13] (by kernel_rfl) (by kernel_rfl) (fun _ _ _ _ _ h => h) (Keep.refl _ _).drew ?_
          have f0 := hkF.cell c0 (fun e => e)
          have f1 := hkF.cell c1 (fun e => e)
          iterate 10 (refine earlyN_cons (v := ?_) rfl rfl rfl ?_ ?_; rotate_left; focus (
            intro w' hS
            have f0' := hS.cell f0 (fun e => e)
            have f1' := hS.cell f1 (fun e => e)
            go_simp
            try with_reducible rfl))
          refine earlyN_nil (midN_cons rfl rfl (fun K hK => ?_))
          go_simp
          have hkD : Keep No W1 W1.drew := (Keep.refl _ _).drew
          refine (mclone_spec (hmF.no hkD)).mono ?_
          rintro e w5 ⟨r5, rfl, hm5, hr5, hsz5, hk5⟩
          have hk6 := hkD.then hk5
          refine hK _ _ hk6 ?_
          clear hK K
          refine midN_nil (tailN_cons rfl (tailN_cons rfl (tailN_cons rfl (tailN_nil ?_))))
          have hmG := hmF.no hk6
          have hkG := hkF.then hk6
          have h5 : w.heap.size ≤ r5 := by rw [hr5]; exact Nat.le_trans hkF.size hkD.size
          have hrr5 : r ≠ r5 := by have := hmF.lt; have := hkD.size; omega
          have hb5 : base ≤ w5.heap.size := Nat.le_trans hb hkG.size
          have hbb := hkG.size
          clear hr5 hsz5 hkD hk5 hk6 hmF hkF f0 f1 hWF
          go_wp2
          go_ret
          have hkN : Keep No w5 (w5.alloc (.cells #[.int .i64 d.room, .bool d.full, .map (some r), .map (some r5), .slice none 0 0] 99)) := (Keep.refl _ _).alloc _
          refine ⟨w5.heap.size, r, r5, .slice none 0 0, rfl, ⟨heap_new w5 _, hmG.no hkN, hm5.no hkN, WaitAt.nil _ _, hb5, hrb, by omega, hrr5⟩, hkG.then hkN, ?_⟩
          rintro b (rfl | rfl | rfl | hq)
          · exact hbb
          · exact hrw
          · exact h5
          · simp [Value.ownBlock] at hq
        | false =>
          rw [hd] at e2 hkB
          by_cases hx0 : 0 < x
          · obtain ⟨xn, rfl⟩ : ∃ xn : Nat, x = (xn : Int) := ⟨x.toNat, by omega⟩
            have hxc : (xn : Int) ≤ (uc : Int) := by obtain ⟨ao, cp, hq, hq1, _⟩ := hu; simp at hq; omega
            have hut := (hu.no hkB).take xn (by omega)
            have hmB := hm.no hkB
            have e : crashMap d j torn = CallS.done ⟨c.seg, c.p.take xn, false⟩ (doneAll (d.wait.take j) d.safe) := by simp [crashMap, hcj, hd, hx]; intro h; omega
            have HE := Lib.hid e
            have hB0 : ((mget (doneAll (d.wait.take j) d.safe) c.seg).getD []).length + (c.p.take xn).length ≤ 17592186044416 := by simp; omega
            have hbox := heap_new wr (.cells #[.int .u64 c.seg, .slice uo c.p.length uc, .bool false] 102)
            have hkB2 := hkp.then hkB
            clear hm hlt hcells hms hwt hwl hmg hbnd hcj hkl hx hd hs hw hxl e
            go_wp2_with (refine wpList_min _ _ rfl _ _ rfl rfl rfl ?_; rw [HX.out])
            clear d4 c4 hkc hcm hcm' e0 e1 e2 hu hjk hp0 hp1 hkp hkB
            generalize hWW : wr.alloc (.cells #[.int .u64 c.seg, .slice uo c.p.length uc, .bool false] 102) = W1 at hut hmB hkB2 hbox ⊢
            have hdr : Keep No W1 W1.drew := (Keep.refl _ _).drew
            have b0 := cell_of hbox 0
            have b1 := cell_of hbox 1
            simp at b0 b1
            refine wp_drawN (fun w' => w' = W1.drew) [0, 1, 2, 3, 4, 5, 6, 7] [] [8] (by kernel_rfl) (by kernel_rfl) (fun _ _ _ _ _ h => h) rfl ?_
            iterate 8 (refine earlyN_cons (v := ?_) rfl rfl rfl ?_ ?_; rotate_left; focus (
              rintro w' rfl
              go_simp
              try with_reducible rfl))
            refine earlyN_nil (midN_nil (tailN_cons rfl (tailN_nil ?_)))
            have HD := Lib.hid (done_spec ⟨c.seg, c.p.take xn, false⟩ (hmB.no hdr) hrb (hut.no hdr) hB0)
            have hkB3 := hkB2.then hdr
            clear b0 b1 hbox hWW hut hmB hdr hkB2
            go_wp2_with (go_at_call 61; refine HD.out.mono ?_; rintro e w3 ⟨rfl, hm3, hk3⟩)
            have hmF : MapAt base w3 r (crashMap d j torn) := by rw [HE.out]; exact hm3
            have hkF : Keep No w w3 := hkB3.trans hk3 (fun y hy e => by have e : y = r := e; omega)
            have hWF : base ≤ w3.heap.size := Nat.le_trans hb hkF.size
            clear hm3 hk3 hkB3 hxc hx0
            refine wp_drawN (fun w' => Keep No w3 w') [0, 1, 2, 3, 4, 5, 6, 7, 8, 9] [10] [11, 12, 13] (by kernel_rfl) (by kernel_rfl) (fun _ _ _ _ _ h => h) (Keep.refl _ _).drew ?_
            have f0 := hkF.cell c0 (fun e => e)
            have f1 := hkF.cell c1 (fun e => e)
            iterate 10 (refine earlyN_cons (v := ?_) rfl rfl rfl ?_ ?_; rotate_left; focus (
              intro w' hS
              have f0' := hS.cell f0 (fun e => e)
              have f1' := hS.cell f1 (fun e => e)
              go_simp
              try with_reducible rfl))
            refine earlyN_nil (midN_cons rfl rfl (fun K hK => ?_))
            go_simp
            have hkD : Keep No w3 w3.drew := (Keep.refl _ _).drew
            refine (mclone_spec (hmF.no hkD)).mono ?_
            rintro e w5 ⟨r5, rfl, hm5, hr5, hsz5, hk5⟩
            have hk6 := hkD.then hk5
            refine hK _ _ hk6 ?_
            clear hK K
            refine midN_nil (tailN_cons rfl (tailN_cons rfl (tailN_cons rfl (tailN_nil ?_))))
            have hmG := hmF.no hk6
            have hkG := hkF.then hk6
            have h5 : w.heap.size ≤ r5 := by rw [hr5]; exact Nat.le_trans hkF.size hkD.size
            have hrr5 : r ≠ r5 := by have := hmF.lt; have := hkD.size; omega
            have hb5 : base ≤ w5.heap.size := Nat.le_trans hb hkG.size
            have hbb := hkG.size
            clear hr5 hsz5 hkD hk5 hk6 hmF hkF f0 f1 hWF
            go_wp2
            go_ret
            have hkN : Keep No w5 (w5.alloc (.cells #[.int .i64 d.room, .bool d.full, .map (some r), .map (some r5), .slice none 0 0] 99)) := (Keep.refl _ _).alloc _
            refine ⟨w5.heap.size, r, r5, .slice none 0 0, rfl, ⟨heap_new w5 _, hmG.no hkN, hm5.no hkN, WaitAt.nil _ _, hb5, hrb, by omega, hrr5⟩, hkG.then hkN, ?_⟩
            rintro b (rfl | rfl | rfl | hq)
            · exact hbb
            · exact hrw
            · exact h5
            · simp [Value.ownBlock] at hq
          · have hmF : MapAt base (wr.alloc (.cells #[.int .u64 c.seg, .slice uo c.p.length uc, .bool false] 102)) r (crashMap d j torn) := by
              have e : crashMap d j torn = doneAll (d.wait.take j) d.safe := by simp [crashMap, hcj, hd, hx, hx0]
              rw [e]; exact hm.no hkB
            have hkF : Keep No w (wr.alloc (.cells #[.int .u64 c.seg, .slice uo c.p.length uc, .bool false] 102)) := hkp.then hkB
            clear hm hlt hcells hms hwt hwl hmg hbnd hcj hkl hkB hx hd hs hw hxl
            go_wp2_with (refine wpList_min _ _ rfl _ _ rfl rfl rfl ?_; rw [HX.out])
            clear d4 c4 hkc hcm hcm' e0 e1 e2 hu hjk hp0 hp1 hkp hx0
            generalize wr.alloc (.cells #[.int .u64 c.seg, .slice uo c.p.length uc, .bool false] 102) = W1 at hmF hkF ⊢
            have hWF : base ≤ W1.heap.size := Nat.le_trans hb hkF.size
            refine wp_drawN (fun w' => Keep No W1 w') [0, 1, 2, 3, 4, 5, 6, 7, 8, 9] [10] [11, 12, 13] (by kernel_rfl) (by kernel_rfl) (fun _ _ _ _ _ h => h) (Keep.refl _ _).drew ?_
            have f0 := hkF.cell c0 (fun e => e)
            have f1 := hkF.cell c1 (fun e => e)
            iterate 10 (refine earlyN_cons (v := ?_) rfl rfl rfl ?_ ?_; rotate_left; focus (
              intro w' hS
              have f0' := hS.cell f0 (fun e => e)
              have f1' := hS.cell f1 (fun e => e)
              go_simp
              try with_reducible rfl))
            refine earlyN_nil (midN_cons rfl rfl (fun K hK => ?_))
            go_simp
            have hkD : Keep No W1 W1.drew := (Keep.refl _ _).drew
            refine (mclone_spec (hmF.no hkD)).mono ?_
            rintro e w5 ⟨r5, rfl, hm5, hr5, hsz5, hk5⟩
            have hk6 := hkD.then hk5
            refine hK _ _ hk6 ?_
            clear hK K
            refine midN_nil (tailN_cons rfl (tailN_cons rfl (tailN_cons rfl (tailN_nil ?_))))
            have hmG := hmF.no hk6
            have hkG := hkF.then hk6
            have h5 : w.heap.size ≤ r5 := by rw [hr5]; exact Nat.le_trans hkF.size hkD.size
            have hrr5 : r ≠ r5 := by have := hmF.lt; have := hkD.size; omega
            have hb5 : base ≤ w5.heap.size := Nat.le_trans hb hkG.size
            have hbb := hkG.size
            clear hr5 hsz5 hkD hk5 hk6 hmF hkF f0 f1 hWF
            go_wp2
            go_ret
            have hkN : Keep No w5 (w5.alloc (.cells #[.int .i64 d.room, .bool d.full, .map (some r), .map (some r5), .slice none 0 0] 99)) := (Keep.refl _ _).alloc _
            refine ⟨w5.heap.size, r, r5, .slice none 0 0, rfl, ⟨heap_new w5 _, hmG.no hkN, hm5.no hkN, WaitAt.nil _ _, hb5, hrb, by omega, hrr5⟩, hkG.then hkN, ?_⟩
            rintro b (rfl | rfl | rfl | hq)
            · exact hbb
            · exact hrw
            · exact h5
            · simp [Value.ownBlock] at hq
end Go.Proofs.Ytpjggnfiocplmaa
