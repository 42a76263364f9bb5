/- Slices of ints; Log.Fits, and what it counts. -/
import Derived.Test.YtpjggnfiocplmaaTrimY
namespace Go.Proofs.Ytpjggnfiocplmaa
open Go Go.RowKit Go.Dr

theorem info_int : (Try.prog.info? 3).map (fun i => (i.zero, i.size, i.bytes)) = some (some (.int .i64 0), 1, 8) := by kernel_rfl
def intV (n : Nat) : Value := .int .i64 (n : Int)
def IntsAt (base : Nat) (w : World) (v : Value) (l : List Nat) : Prop := w.ownsRow base 3 1 v l.length (l.map intV)
theorem IntsAt.no {base : Nat} {w w' : World} {v : Value} {l : List Nat} (h : IntsAt base w v l) (k : Keep No w w') : IntsAt base w' v l := row_keep h k (fun _ _ e => e)
theorem IntsAt.form {base : Nat} {w : World} {v : Value} {l : List Nat} (h : IntsAt base w v l) : ∃ ao cap, v = .slice ao l.length cap ∧ l.length ≤ cap ∧ cap ≤ maxLen := row_form h
theorem IntsAt.cell {base : Nat} {w : World} {ao : Option Addr} {n cap : Nat} {l : List Nat} (h : IntsAt base w (.slice ao n cap) l) {i k : Nat} (hi : l[i]? = some k) : ∃ g, ao = some ⟨g, 0, none⟩ ∧ w.cell? ⟨g, i, none⟩ = some (.int .i64 (k : Int)) := by
  obtain ⟨ao', cap', hq, _⟩ := h.form
  simp only [Value.slice.injEq] at hq
  obtain ⟨rfl, rfl, rfl⟩ := hq
  exact row_cell h (j := i) (x := intV k) (by rw [List.getElem?_map, hi]; rfl) (by rw [List.length_map, Nat.mul_one])
/-- append(v, n). -/
theorem wp_append_int {base : Nat} {w : World} {o : Oper} {a : Act} {K : Act → World → Prop} {Q : Exit → Act → World → Prop} (s x : Operand)
    (ho : o.op = .call { callee := .builtin .append, args := #[s, x], argTypes := #[82, 82] }) {v : Value} {l : List Nat} (h : IntsAt base w v l) (hs : a.eval s = v) {B n : Nat} (hB : w.heap[B]? = some (.cells #[.int .i64 (n : Int)] 3 (0, 0)))
    (hx : a.eval x = .slice (some ⟨B, 0, none⟩) 1 1) (hl : l.length ≤ 1099511627776) (hb : base ≤ w.heap.size)
    (hK : ∀ v' w', IntsAt base w' v' (l ++ [n]) → Keep (fun b => v.ownBlock = some b) w w' → (∀ b, v'.ownBlock = some b → v.ownBlock = some b ∨ w.heap.size ≤ b) → K (a.put o.dst v') w') : o.wp Try.prog a w K Q := by
  obtain ⟨i0, hi0, hz0, hz1, hz2⟩ := info_parts info_int
  refine wp_append_lies w s x 82 ho base 3 i0 _ 1 8 Try.underlying82 hi0 hz0 hz1 hz2 rfl (by omega) v l.length (l.map intV) hs h
    ⟨B, 0, none⟩ 1 1 [intV n] hx rfl (World.news_of_block (cs := #[.int .i64 (n : Int)]) (t := 3) (fr := (0, 0)) hB) (by simp [Value.oneCell', intV]) (by omega) (by unfold maxLen; omega) (by omega) hb w.heap.size rfl ?_
  intro g cap w' hown hg hat hlt
  refine hK _ _ (by unfold IntsAt; simpa using hown) (own_grown hg) (fun c hc => ?_)
  simp [Value.ownBlock] at hc
  subst hc
  rcases hat with hat | rfl
  · exact .inl hat
  · exact .inr (Nat.le_refl _)

/-- What Fits counts. -/
def fitsF (size : Int) : Int → Nat → Bool → List Nat → Bool
  | _, _, _, [] => true
  | room, last, b, n :: l =>
    if (if b then room - 12 else room) - (8 + (n : Int)) < 0 then false
    else fitsF size ((if b then room - 12 else room) - (8 + (n : Int))) ((if b then 12 else last) + (8 + n)) (decide (size ≤ (((if b then 12 else last) + (8 + n) : Nat) : Int))) l

theorem fitsF_cons (size room : Int) (last : Nat) (b : Bool) (n : Nat) (l : List Nat) : fitsF size room last b (n :: l) =
    if (if b then room - 12 else room) - (8 + (n : Int)) < 0 then false
    else fitsF size ((if b then room - 12 else room) - (8 + (n : Int))) ((if b then 12 else last) + (8 + n)) (decide (size ≤ (((if b then 12 else last) + (8 + n) : Nat) : Int))) l := rfl
/-! ### What the log's append takes -/
theorem appB_len (L : LogS) (r : Bytes) : (appB L r).length = (if freshB L (lastN L) then 12 else 0) + (8 + r.length) := by
  unfold appB
  split <;> simp [headB_length, recB_length] <;> omega
theorem append_last (L : LogS) (r : Bytes) : lastN (L.append r) = (if freshB L (lastN L) then 12 else lastN L) + (8 + r.length) := by
  have h1 : (L.append r).segs.getLast? = some { appS L with count := (appS L).count + 1, size := (appS L).size + (appB L r).length } := by simp [LogS.append]
  have h2 : lastN (L.append r) = (appS L).size + (appB L r).length := by unfold lastN; rw [h1]
  rw [h2, appB_len]
  unfold appS
  cases hf : freshB L (lastN L) with
  | true => simp [newSeg]
  | false =>
    cases hl : L.segs.getLast? with
    | none => simp [freshB, hl] at hf
    | some s => simp [lastN, hl]
theorem append_fresh (L : LogS) (r : Bytes) : freshB (L.append r) (lastN (L.append r)) = decide (L.size ≤ (lastN (L.append r) : Int)) := by
  have h1 : (L.append r).segs.getLast? = some { appS L with count := (appS L).count + 1, size := (appS L).size + (appB L r).length } := by simp [LogS.append]
  have h3 : (appS L).headed = true ∧ (appS L).whole = true := by
    unfold appS
    cases hf : freshB L (lastN L) with
    | true => simp [newSeg]
    | false =>
      cases hl : L.segs.getLast? with
      | none => simp [freshB, hl] at hf
      | some s => simp [freshB, hl] at hf; simpa using ⟨hf.1, hf.2.1⟩
  have h4 : (L.append r).size = L.size := rfl
  unfold freshB
  rw [h1, h4]
  simp [h3.1, h3.2]
/-- One record more: it is taken just if it is counted. -/
theorem fits_step {d : DiskS} (L : LogS) (r : Bytes) (l : List Nat) (hf : d.full = false) :
    ((d.append (appS L).n (appB L r)).2 = 5 → fitsF L.size (d.room - (msum d.now : Int)) (lastN L) (freshB L (lastN L)) (r.length :: l) = false) ∧
    ((d.append (appS L).n (appB L r)).2 = 0 → (d.append (appS L).n (appB L r)).1.full = false ∧
      fitsF L.size (d.room - (msum d.now : Int)) (lastN L) (freshB L (lastN L)) (r.length :: l) = fitsF L.size ((d.append (appS L).n (appB L r)).1.room - (msum (d.append (appS L).n (appB L r)).1.now : Int)) (lastN (L.append r)) (freshB (L.append r) (lastN (L.append r))) l) := by
  have hB := appB_len L r
  have hm := msum_put d.now (appS L).n (appB L r)
  unfold DiskS.append
  rw [hf, append_fresh, append_last]
  simp only [Bool.false_eq_true, if_false]
  simp only [fitsF]
  generalize freshB L (lastN L) = fb at *
  have hcond : (d.room - (msum d.now : Int) < ((appB L r).length : Int)) ↔ ((if fb then d.room - (msum d.now : Int) - 12 else d.room - (msum d.now : Int)) - (8 + (r.length : Int)) < 0) := by
    rw [hB]; cases fb <;> simp <;> omega
  by_cases hc : d.room - (msum d.now : Int) < ((appB L r).length : Int)
  · rw [if_pos hc]
    exact ⟨fun _ => by rw [if_pos (hcond.1 hc)], fun e => by simp at e⟩
  · rw [if_neg hc]
    refine ⟨fun e => by simp at e, fun _ => ⟨hf, ?_⟩⟩
    rw [if_neg (fun e => hc (hcond.2 e))]
    have he : (d.put ⟨(appS L).n, appB L r, false⟩).room - (msum (d.put ⟨(appS L).n, appB L r, false⟩).now : Int) = (if fb then d.room - (msum d.now : Int) - 12 else d.room - (msum d.now : Int)) - (8 + (r.length : Int)) := by
      have : msum (d.put ⟨(appS L).n, appB L r, false⟩).now = msum d.now + (appB L r).length := by rw [← hm]; rfl
      show d.room - _ = _
      rw [this, hB]
      cases fb <;> simp <;> omega
    rw [he]

set_option maxRecDepth 100000 in
set_option maxHeartbeats 4000000 in
theorem lFits_spec [bn : Inhabited Ban] {base : Nat} {w : World} {g p n s : Nat} {wv sv lv : Value} {L : LogS} {d : DiskS} (hl : LogAt base w g p sv lv L) (hd : DiskAt base w p n s wv d) (hb : base ≤ w.heap.size)
    (h0 : 0 ≤ d.room) (h1 : d.room ≤ 1000000) (hs : msum d.now ≤ 1000000) (hla : lastN L ≤ 1000000) {v : Value} {l : List Nat} (hv : IntsAt base w v l) (hlen : l.length ≤ 20) (hl255 : ∀ k ∈ l, k ≤ 255) :
    Calls Try.prog 43 #[.pointer (some ⟨g, 0, none⟩), v] w fun e w' => e = .returned (.bool (fitsF L.size (d.room - (msum d.now : Int)) (lastN L) (freshB L (lastN L)) l)) ∧ Keep No w w' := by
  obtain ⟨ao, cap, rfl, _, _⟩ := hv.form
  have b0 := cell_of hl.blk 0
  have b1 := cell_of hl.blk 1
  simp at b0 b1
  have HA := Lib.hid (And.intro (fun w' (k : Keep No w w') => room_spec (hd.no k)) (And.intro (fun w' (k : Keep No w w') => used_spec (hd.no k) (Nat.le_trans hb k.size) (by omega)) (And.intro (fun w' (k : Keep No w w') => llast_spec (hl.no k)) (fun w' (k : Keep No w w') => lfresh_spec (hl.no k) (lastN L)))))
  obtain ⟨r0, hr0⟩ : ∃ r0, d.room - (msum d.now : Int) = r0 := ⟨_, rfl⟩
  have hwr : IntKind.i64.wrap (d.room - (msum d.now : Int)) = r0 := by rw [← hr0]; exact IntWalk.i64_in _ (by omega)
  have hrb : -1000000 ≤ r0 ∧ r0 ≤ 1000000 := by omega
  rw [hr0]
  clear hl hd hs h0 h1 hr0
  have hli : (l.length : Int) ≤ 1099511627776 := by omega
  generalize freshB L (lastN L : Int) = b at *
  obtain ⟨t0, ht0⟩ : ∃ t0, lastN L = t0 := ⟨_, rfl⟩
  rw [ht0] at HA hla ⊢
  clear ht0
  generalize msum d.now = ud at *
  generalize d.room = rd at *
  have HV := Lib.hid (And.intro hv (And.intro hlen (And.intro hl255 (And.intro hrb hla))))
  clear hv hlen hl255 hrb hla hb
  go_enter Try.func43, Try.ntmps43
  go_upto_region 3 with fail
  refine wp_drawS (fun w' => Keep No w w') [([0, 1, 2, 3, 5, 6, 7, 8, 11, 13, 14], [4, 9]), ([10], [12, 15, 16, 17, 18, 19])] (by kernel_rfl) (by kernel_rfl) (fun _ _ _ _ _ h => h) (Keep.refl _ _).drew ?_
  have kd : Keep No w w.drew := (Keep.refl _ _).drew
  iterate 11 (refine earlyN_cons (v := ?_) rfl rfl rfl ?_ ?_; rotate_left; focus (
    intro w' hq
    have b0' := hq.cell b0 (fun e => e)
    go_simp
    try with_reducible rfl))
  refine earlyN_nil ?_
  refine midN_cons rfl rfl (fun K hK => ?_)
  go_simp
  refine (HA.out.1 _ kd).mono ?_
  rintro e w2 ⟨rfl, rfl⟩
  refine hK _ _ kd ?_
  clear hK K
  refine midN_cons rfl rfl (fun K hK => ?_)
  go_simp
  refine (HA.out.2.1 _ kd).mono ?_
  rintro e w3 ⟨rfl, k3⟩
  have kd := kd.then k3
  refine hK _ _ kd ?_
  clear hK K k3
  refine midN_nil ?_
  iterate 1 (refine earlyN_cons (v := ?_) rfl rfl rfl ?_ ?_; rotate_left; focus (
    intro w' hq
    go_simp
    try with_reducible rfl))
  refine earlyN_nil ?_
  refine midN_cons rfl rfl (fun K hK => ?_)
  go_simp
  refine (HA.out.2.2.1 _ kd).mono ?_
  rintro e w4 ⟨rfl, k4⟩
  have kd := kd.then k4
  refine hK _ _ kd ?_
  clear hK K k4
  refine midN_cons rfl rfl (fun K hK => ?_)
  go_simp
  refine (HA.out.2.2.1 _ kd).mono ?_
  rintro e w5 ⟨rfl, k5⟩
  have kd := kd.then k5
  refine hK _ _ kd ?_
  clear hK K k5
  refine midN_cons rfl rfl (fun K hK => ?_)
  go_simp
  refine (HA.out.2.2.2 _ kd).mono ?_
  rintro e w6 ⟨rfl, rfl⟩
  refine hK _ _ kd ?_
  clear hK K
  iterate 3 (refine midN_cons rfl rfl (fun K hK => ?_); go_simp; refine hK _ _ kd ?_; clear hK K)
  refine midN_nil ?_
  unfold stagesN
  have b1 := kd.cell b1 (fun e => e)
  have HV5 := Lib.hid (HV.out.1.no kd)
  have HK5 := Lib.hid kd
  clear kd b0 hwr
  go_wp2_with fail
  go_loopw [5, 6, 7, 31] (fun rv tv bv iv wr => ∃ (j : Nat) (r : Int) (t : Nat) (c : Bool), j ≤ l.length ∧ iv = .int .i64 j ∧ rv = .int .i64 r ∧ tv = .int .i64 (t : Nat) ∧ bv = .bool c ∧ fitsF L.size r t c (l.drop j) = fitsF L.size r0 t0 b l ∧ -(1000000 + 300 * (j : Int)) ≤ r ∧ r ≤ 1000000 ∧ t ≤ 1000000 + 300 * j ∧ wr = w6) (fun _ _ _ iv _ => l.length - (intOf iv).toNat)
  case atStart => exact ⟨0, r0, t0, b, Nat.zero_le _, rfl, rfl, rfl, rfl, by rw [List.drop_zero], by have := HV.out.2.2.2.1.1; omega, HV.out.2.2.2.1.2, HV.out.2.2.2.2, rfl⟩
  case round =>
    obtain ⟨j, r, t, c, hj, rfl, rfl, rfl, rfl, hF, hr1, hr2, ht, rfl⟩ := hrel
    by_cases hlt : j < l.length
    · have hlj : l[j]? = some l[j] := List.getElem?_eq_getElem hlt
      have hd : l.drop j = l[j] :: l.drop (j + 1) := List.drop_eq_getElem_cons hlt
      have h255 := HV.out.2.2.1 _ (List.getElem_mem hlt)
      have hl20 := HV.out.2.1
      generalize l[j] = k at *
      obtain ⟨ga, rfl, cj⟩ := HV5.out.cell hlj
      have hji : (j : Int) < (l.length : Int) := by omega
      rw [hd] at hF
      rw [fitsF_cons] at hF
      obtain ⟨r2, hr2e⟩ : ∃ r2, (if c then r - 12 else r) - (8 + (k : Int)) = r2 := ⟨_, rfl⟩
      obtain ⟨t2, ht2e⟩ : ∃ t2, (if c then 12 else t) + (8 + k) = t2 := ⟨_, rfl⟩
      have hrb : -(1000000 + 300 * ((j : Int) + 1)) ≤ r2 ∧ r2 ≤ 1000000 := by cases c <;> simp at hr2e <;> omega
      have htb : t2 ≤ 1000000 + 300 * (j + 1) := by cases c <;> simp at ht2e <;> omega
      rw [hr2e, ht2e] at hF
      have hw1 : IntKind.i64.wrap (r - 12) = r - 12 := IntWalk.i64_in _ (by omega)
      have hw2 : IntKind.i64.wrap (8 + (k : Int)) = ((8 + k : Nat) : Int) := by rw [IntWalk.i64_in _ (by omega)]; omega
      have hw3 : c = true → IntKind.i64.wrap (r - 12 - ((8 + k : Nat) : Int)) = r2 := fun e => by subst e; simp at hr2e; rw [IntWalk.i64_in _ (by omega)]; omega
      have hw3' : c = false → IntKind.i64.wrap (r - ((8 + k : Nat) : Int)) = r2 := fun e => by subst e; simp at hr2e; rw [IntWalk.i64_in _ (by omega)]; omega
      have hw4 : c = true → IntKind.i64.wrap (12 + ((8 + k : Nat) : Int)) = (t2 : Int) := fun e => by subst e; simp at ht2e; rw [IntWalk.i64_in _ (by omega)]; omega
      have hw4' : c = false → IntKind.i64.wrap ((t : Int) + ((8 + k : Nat) : Int)) = (t2 : Int) := fun e => by subst e; simp at ht2e; rw [IntWalk.i64_in _ (by omega)]; omega
      generalize 8 + k = k8 at *
      have HR := Lib.hid (And.intro hF (And.intro hrb (And.intro htb hlt)))
      clear hF hrb htb hlt hj hlj hd h255 hl20 hr2e ht2e hr1 hr2 ht
      cases c with
      | true =>
        have hw3 := hw3 rfl
        have hw4 := hw4 rfl
        clear hw3' hw4'
        by_cases hneg : r2 < 0
        · have HF : Hid (fitsF L.size r0 t0 b l = false) := Lib.hid (by have := HR.out.1; rw [if_pos hneg] at this; exact this.symm)
          go_wp2_with fail
          go_ret
          exact ⟨by rw [HF.out]; rfl, HK5.out⟩
        · have hF2 := HR.out.1
          rw [if_neg hneg] at hF2
          have HF := Lib.hid hF2
          clear hF2
          go_wp2_with fail
          go_roundw
          case rel => exact ⟨j + 1, r2, t2, _, HR.out.2.2.2, by go_num, rfl, rfl, rfl, HF.out, by have := HR.out.2.1.1; omega, HR.out.2.1.2, HR.out.2.2.1, trivial⟩
          case measure => have := HR.out.2.2.2; simp [intOf]; omega
      | false =>
        have hw3 := hw3' rfl
        have hw4 := hw4' rfl
        clear hw3' hw4' hw1
        by_cases hneg : r2 < 0
        · have HF : Hid (fitsF L.size r0 t0 b l = false) := Lib.hid (by have := HR.out.1; rw [if_pos hneg] at this; exact this.symm)
          go_wp2_with fail
          go_ret
          exact ⟨by rw [HF.out]; rfl, HK5.out⟩
        · have hF2 := HR.out.1
          rw [if_neg hneg] at hF2
          have HF := Lib.hid hF2
          clear hF2
          go_wp2_with fail
          go_roundw
          case rel => exact ⟨j + 1, r2, t2, _, HR.out.2.2.2, by go_num, rfl, rfl, rfl, HF.out, by have := HR.out.2.1.1; omega, HR.out.2.1.2, HR.out.2.2.1, trivial⟩
          case measure => have := HR.out.2.2.2; simp [intOf]; omega
    · obtain rfl : j = l.length := by omega
      have hji : ¬ ((l.length : Int) < (l.length : Int)) := by omega
      have HF : Hid (fitsF L.size r0 t0 b l = true) := Lib.hid (by rw [← hF, List.drop_length]; rfl)
      clear hlt hj hF hr1 hr2 ht
      go_wp2_with fail
      go_ret
      exact ⟨by rw [HF.out]; rfl, HK5.out⟩
end Go.Proofs.Ytpjggnfiocplmaa
