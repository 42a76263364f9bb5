/- Package disk: Copy, and of a nil disk there is nothing. Blocks that are banned. -/
import Derived.Test.YtpjggnfiocplmaaDiskF
namespace Go.Proofs.Ytpjggnfiocplmaa
open Go Go.RowKit Go.Dr

/-! ### The ban -/
theorem MapAt.banned [bn : Inhabited Ban] {base : Nat} {w w' : World} {r : Nat} {m : AMap} (h : MapAt base w r m) (k : Keep ban.Z w w') (hr : ¬ ban.Z r) : MapAt base w' r m := by
  obtain ⟨es, clock, hb, he⟩ := h
  exact ⟨es, clock, k.heap hb hr, he.len, fun p hp => ⟨(he.all p hp).1, (he.all p hp).2.banned k⟩, he.born, he.clock, he.keys⟩
theorem WaitAt.banned [bn : Inhabited Ban] {base : Nat} {w w' : World} {wv : Value} {l : List CallS} (h : WaitAt base w wv l) (k : Keep ban.Z w w') (hn : ∀ b, wv.ownBlock = some b → ¬ ban.Z b) : WaitAt base w' wv l := by
  obtain ⟨us, h1, h2, h3, h4⟩ := h
  refine ⟨us, h1, fun i u c hu hc => (h2 i u c hu hc).banned k, h3, ?_⟩
  rcases h4 with h4 | ⟨g, cap, cur, rfl, h5, h6, h7⟩
  · exact .inl h4
  · exact .inr ⟨g, cap, cur, rfl, h5, k.heap h6 (hn g rfl), h7⟩
theorem DiskAt.banned [bn : Inhabited Ban] {base : Nat} {w w' : World} {p n s : Nat} {wv : Value} {d : DiskS} (h : DiskAt base w p n s wv d) (k : Keep ban.Z w w') (hn : ∀ b, foot p n s wv b → ¬ ban.Z b) : DiskAt base w' p n s wv d :=
  ⟨k.heap h.blk (hn p (.inl rfl)), h.now.banned k (hn n (.inr (.inl rfl))), h.safe.banned k (hn s (.inr (.inr (.inl rfl)))), h.wait.banned k (fun b hb => hn b (.inr (.inr (.inr hb)))), h.pb, h.nb, h.sb, h.ns⟩
theorem MapAt.toBan {base : Nat} {w w' : World} {r g : Nat} {m : AMap} (h : MapAt (bn := noBan) base w r m) (k : Keep No w w') (hg : w.heap.size ≤ g) (hs : g < w'.heap.size) : MapAt (bn := oneBan g) base w' r m := by
  obtain ⟨es, clock, hb, he1, he2, he3, he4, he5⟩ := h
  letI := oneBan g
  exact ⟨es, clock, k.heap hb (fun h => h), he1, fun p hp => ⟨(he2 p hp).1, BytesAt.toBan (he2 p hp).2 k hg hs⟩, he3, he4, he5⟩
theorem WaitAt.toBan {base : Nat} {w w' : World} {wv : Value} {g : Nat} {l : List CallS} (h : WaitAt (bn := noBan) base w wv l) (k : Keep No w w') (hg : w.heap.size ≤ g) (hs : g < w'.heap.size) : WaitAt (bn := oneBan g) base w' wv l := by
  obtain ⟨us, h1, h2, h3, h4⟩ := h
  refine ⟨us, h1, fun i u c hu hc => BytesAt.toBan (h2 i u c hu hc) k hg hs, h3, ?_⟩
  rcases h4 with h4 | ⟨g', cap, cur, rfl, h5, h6, h7⟩
  · exact .inl h4
  · exact .inr ⟨g', cap, cur, rfl, h5, k.heap h6 (fun h => h), h7⟩
theorem DiskAt.toBan {base : Nat} {w w' : World} {p n s g : Nat} {wv : Value} {d : DiskS} (h : DiskAt (bn := noBan) base w p n s wv d) (k : Keep No w w') (hg : w.heap.size ≤ g) (hs : g < w'.heap.size) : DiskAt (bn := oneBan g) base w' p n s wv d := by
  obtain ⟨blk, now, safe, wait, pb, nb, sb, ns⟩ := h
  letI := oneBan g
  exact ⟨k.heap blk (fun h => h), MapAt.toBan now k hg hs, MapAt.toBan safe k hg hs, WaitAt.toBan wait k hg hs, pb, nb, sb, ns⟩

/-! ### Copy -/
@[go_sem] theorem eql_nil_calls (w : World) (a : Option Addr) (n c : Nat) : (binOp .eql 97 (.slice a n c) (.slice none 0 0)).run Try.prog w = .ok (.bool a.isNone) w :=
  Lib.run_eql_slice_nil w _ _ a n c 0 0 Try.underlying97

theorem callCells_length : ∀ {l : List CallS} {us : List Value}, us.length = l.length → (callCells l us).length = l.length * 3 := by
  intro l
  induction l with
  | nil => intro us _; simp [callCells]
  | cons c l ih =>
    intro us h
    cases us with
    | nil => simp at h
    | cons u us => simp only [callCells, List.length_cons, ih (us := us) (by simpa using h)]; omega
theorem callCells_one : ∀ {l : List CallS} {us : List Value}, (∀ u ∈ us, u.oneCell' = true) → ∀ x ∈ callCells l us, x.oneCell' = true := by
  intro l
  induction l with
  | nil => intro us _ x h; simp [callCells] at h
  | cons c l ih =>
    intro us h x hx
    cases us with
    | nil => simp [callCells] at hx
    | cons u us =>
      simp only [callCells, List.mem_cons] at hx
      rcases hx with rfl | rfl | rfl | hx
      · rfl
      · exact h _ (by simp)
      · rfl
      · exact ih (fun u hu => h u (by simp [hu])) x hx

set_option maxRecDepth 100000 in
theorem cclone_spec [bn : Inhabited Ban] {base : Nat} {w : World} {v : Value} {l : List CallS} (h : WaitAt base w v l) (hb : base ≤ w.heap.size) (hl : l.length ≤ 1000001) :
    Calls Try.prog 67 #[v] w fun e w' => ∃ v', e = .returned v' ∧ WaitAt base w' v' l ∧ Keep No w w' ∧ ∀ b, v'.ownBlock = some b → w.heap.size ≤ b := by
  obtain ⟨us, hus, hub, h0, hown⟩ := h
  rcases hown with ⟨rfl, h0⟩ | ⟨g, cap, cur, rfl, h1, h2, h3, h4, h5, h6⟩
  · obtain rfl : l = [] := List.eq_nil_of_length_eq_zero h0
    have HW := WaitAt.nil base w
    have HWW := Lib.hid HW
    clear HW hub hus hl
    go_enter Try.func67, Try.ntmps67
    go_wp2
    go_ret
    exact ⟨_, rfl, HWW.out, Keep.refl _ _, fun b hb => by simp [Value.ownBlock] at hb⟩
  · have hk : Keep No w (w.alloc (.cells #[] 102)) := (Keep.refl _ _).alloc _
    have hmade : (w.alloc (.cells #[] 102)).ownsRow w.heap.size 102 3 (.slice (some ⟨w.heap.size, 0, none⟩) 0 0) 0 [] := World.ownsRow_made w #[] 0 (Nat.le_refl _) (by decide) rfl
    have hcl := callCells_length hus
    have hone : ∀ u ∈ us, u.oneCell' = true := by
      intro u hu
      obtain ⟨i, hi, rfl⟩ := List.getElem_of_mem hu
      obtain ⟨_, _, e⟩ := (hub i us[i] l[i] (List.getElem?_eq_getElem hi) (List.getElem?_eq_getElem (by omega))).form
      rw [e]; rfl
    have hone2 := callCells_one (l := l) hone
    have h2' := hk.heap h2 (fun h => h)
    have hsrc : ∀ j y, (callCells l us)[j]? = some y → (w.alloc (.cells #[] 102)).cell? ((⟨g, 0, none⟩ : Addr).add j) = some y := by
      intro j y hj
      have e : (⟨g, 0, none⟩ : Addr).add j = ⟨g, j, none⟩ := by simp [Addr.add]; omega
      rw [e, cell_of h2']
      rw [← h6, List.getElem?_take] at hj
      split at hj
      · simpa using hj
      · cases hj
    obtain ⟨i0, hi0, hz0, hz1, hz2⟩ := info_parts info_call
    have HB := Lib.hid (And.intro hub (And.intro hus (And.intro hcl (And.intro hb hl))))
    have hl63 : 0 + l.length ≤ maxLen := by unfold maxLen; omega
    have hby : (0 + l.length) * 40 ≤ 140737488355328 := by omega
    clear hub hus hb hl hone h2 h2' h6 h5 h4 h3
    go_enter Try.func67, Try.ntmps67
    go_wp2_with (at_builtin; refine wpList_append_own _ rfl _ _ _ rfl w.heap.size 102 i0 _ 3 40 Try.underlying97 hi0 hz0 hz1 hz2 rfl (by omega) _ 0 [] rfl hmade ⟨g, 0, none⟩ l.length cap (callCells l us) rfl HB.out.2.2.1 hsrc hone2 hl63 hby (by simp) ?_; intro v' w' hown' hgrow _)
    go_ret
    have hk2 : Keep No w w' := by
      refine hk.trans ((Keep.refl (fun b => b = w.heap.size) _).grown hgrow (fun k hk => .inl (by simp [Value.ownBlock] at hk; have hk : some w.heap.size = some k := hk; injection hk with hk; exact hk.symm))) (fun x hx hxx => ?_)
      have hxx : x = w.heap.size := hxx
      omega
    have hlt := World.ownsRow.lt hown'
    refine ⟨_, rfl, ⟨us, HB.out.2.1, fun i u c h1 h2 => (HB.out.1 i u c h1 h2).no hk2, ?_⟩, hk2, fun b hb => (hlt b hb).1⟩
    obtain ⟨q0, q⟩ := hown'
    refine ⟨by simpa using q0, ?_⟩
    rcases q with ⟨q1, q2⟩ | ⟨g', cap', cur', q1, q2, q3, q4, q5, q6, q7⟩
    · exact .inl ⟨q1, by omega⟩
    · exact .inr ⟨g', cap', cur', by rw [q1]; simp, by have := HB.out.2.2.2.1; omega, q3, by omega, q5, by simpa using q6, by simpa using q7⟩

set_option maxRecDepth 100000 in
set_option maxHeartbeats 1000000 in
theorem copy_spec [bn : Inhabited Ban] {base : Nat} {w : World} {p n s : Nat} {wv : Value} {d : DiskS} (h : DiskAt base w p n s wv d) (hb : base ≤ w.heap.size) (hw : d.wait.length ≤ 1000000) :
    Calls Try.prog 29 #[.pointer (some ⟨p, 0, none⟩)] w (NewDisk base w d) := by
  obtain ⟨wo, wc, rfl⟩ := h.wait.form
  have c0 := cell_of h.blk 0
  have c1 := cell_of h.blk 1
  have c2 := cell_of h.blk 2
  have c3 := cell_of h.blk 3
  have c4 := cell_of h.blk 4
  simp at c0 c1 c2 c3 c4
  go_enter Try.func29, Try.ntmps29
  go_wp2
  obtain ⟨W, hW⟩ : ∃ W, W = w.alloc (.cells #[.int .i64 d.room, .bool d.full, .map (some n), .map (some s), .slice wo d.wait.length wc] 99) := ⟨_, rfl⟩
  have hk0 : Keep No w (w.alloc (.cells #[.int .i64 d.room, .bool d.full, .map (some n), .map (some s), .slice wo d.wait.length wc] 99)) := (Keep.refl _ _).alloc _
  have hbox := heap_new w (.cells #[.int .i64 d.room, .bool d.full, .map (some n), .map (some s), .slice wo d.wait.length wc] 99)
  rw [← hW] at hk0 hbox ⊢
  have hsz : W.heap.size = w.heap.size + 1 := by rw [hW]; simp
  have HSZ := Lib.hid hsz
  clear hW hsz
  have hk1 : Keep No w W.drew := hk0.drew
  have d2 := hk1.cell c2 (fun e => e)
  have d3 := hk1.cell c3 (fun e => e)
  have d4 := hk1.cell c4 (fun e => e)
  clear c0 c1 c2 c3 c4
  refine wp_drawN (fun w' => Keep No W.drew w') [0, 1, 2, 3, 5, 6, 7, 8, 10, 11, 12, 13] [4, 9, 14] [15, 16, 17, 18, 19, 20] (by kernel_rfl) (by kernel_rfl) (fun _ _ _ _ _ h => h) (Keep.refl _ _) ?_
  iterate 12 (refine earlyN_cons (v := ?_) rfl rfl rfl ?_ ?_; rotate_left; focus (
    intro w' hS
    have d2' := hS.cell d2 (fun e => e)
    have d3' := hS.cell d3 (fun e => e)
    have d4' := hS.cell d4 (fun e => e)
    go_simp
    try with_reducible rfl))
  refine earlyN_nil ?_
  have h1 := h.no hk1
  refine midN_cons rfl rfl (fun K hK => ?_)
  go_simp
  refine (mclone_spec h1.now).mono ?_
  rintro e w1 ⟨r1, rfl, hm1, hr1, hs1, hk2⟩
  have HR1 := Lib.hid (And.intro hr1 hs1)
  clear hr1 hs1
  refine hK _ _ hk2 ?_
  clear hK K
  have hk3 := hk1.then hk2
  refine midN_cons rfl rfl (fun K hK => ?_)
  go_simp
  refine (mclone_spec (h.no hk3).safe).mono ?_
  rintro e w2 ⟨r2, rfl, hm2, hr2, hs2, hk4⟩
  have HR2 := Lib.hid (And.intro hr2 hs2)
  clear hr2 hs2
  refine hK _ _ (hk2.then hk4) ?_
  clear hK K
  have hk5 := hk3.then hk4
  refine midN_cons rfl rfl (fun K hK => ?_)
  go_simp
  refine (cclone_spec (h.no hk5).wait (Nat.le_trans hb hk5.size) (by omega)).mono ?_
  rintro e w3 ⟨v3, rfl, hw3, hk6, hf3⟩
  refine hK _ _ ((hk2.then hk4).then hk6) ?_
  clear hK K
  refine midN_nil (tailN_cons rfl (tailN_cons rfl (tailN_cons rfl (tailN_cons rfl (tailN_cons rfl (tailN_cons rfl (tailN_nil ?_)))))))
  have hsz := HSZ.out
  obtain ⟨hr1, hs1⟩ := HR1.out
  obtain ⟨hr2, hs2⟩ := HR2.out
  obtain ⟨A, hA⟩ : ∃ A, A = w.heap.size := ⟨_, rfl⟩
  rw [← hA] at hbox hsz
  have hkd : Keep No W W.drew := (Keep.refl _ _).drew
  have hkW : Keep No W w3 := ((hkd.then hk2).then hk4).then hk6
  have hkw : Keep No w w3 := hk5.then hk6
  have hb3 := hkW.heap hbox (fun e => e)
  have e2 := cell_of hb3 2
  have e3 := cell_of hb3 3
  have e4 := cell_of hb3 4
  have f2 := frozen_of hb3 2
  have f3 := frozen_of hb3 3
  have f4 := frozen_of hb3 4
  simp at e2 e3 e4
  have hsd : W.drew.heap.size = W.heap.size := rfl
  have hm1' := hm1.no (hk4.then hk6)
  have hm2' := hm2.no hk6
  have hF : Foot base w3 (· = A) := by
    rintro b rfl
    exact ⟨by omega, heap_lt hb3, fun cs fr e => by rw [hb3] at e; simp at e⟩
  have hK : Keep (· = A) w3 (((w3.setCell ⟨A, 2, none⟩ (.map (some r1))).setCell ⟨A, 3, none⟩ (.map (some r2))).setCell ⟨A, 4, none⟩ v3) :=
    Keep.setCell (F := (· = A)) (Keep.setCell (F := (· = A)) (Keep.setCell (F := (· = A)) (Keep.refl _ _) (p := ⟨A, 2, none⟩) (.inl rfl) _) (p := ⟨A, 3, none⟩) (.inl rfl) _) (p := ⟨A, 4, none⟩) (.inl rfl) _
  have hb4 := heap_setCell_same (i := 4) (u := v3) (heap_setCell_same (i := 3) (u := .map (some r2)) (heap_setCell_same (i := 2) (u := .map (some r1)) hb3))
  have hn4 := hm1'.keep hF hK (fun e => by omega)
  have hs4 := hm2'.keep hF hK (fun e => by omega)
  have hw4 := hw3.keep hF hK (fun b hb e => by have := hf3 b hb; omega)
  have HP : Hid (NewDisk base w d (.returned (.pointer (some ⟨A, 0, none⟩))) (((w3.setCell ⟨A, 2, none⟩ (.map (some r1))).setCell ⟨A, 3, none⟩ (.map (some r2))).setCell ⟨A, 4, none⟩ v3)) := by
    refine ⟨A, r1, r2, v3, rfl, ⟨by simpa using hb4, hn4, hs4, hw4, by omega, by omega, by omega, by omega⟩, hkw.trans hK (fun x hx e => by have e : x = A := e; omega), ?_⟩
    rintro b (rfl | rfl | rfl | hq)
    · omega
    · omega
    · omega
    · have := hf3 b hq; omega
  obtain ⟨vo3, vc3, rfl⟩ := hw3.form
  clear hkd hkW hkw hb3 hm1' hm2' hF hK hb4 hn4 hs4 hw4 hw3 hm1 hm2 hk2 hk4 hk5 hk6 hk1 hk0 h1 h d2 d3 d4 hbox hr1 hr2 hs1 hs2 hf3 hk3 hsd hsz
  subst hA
  go_wp2
  go_ret
  exact HP.out

/-! ### Of a nil disk there is nothing -/
theorem nil_append {w : World} (seg : Int) (ao : Option Addr) (n c : Nat) : Calls Try.prog 17 #[.pointer none, .int .u64 seg, .slice ao n c] w fun e w' => e = .returned (.int .i64 4) ∧ w = w' := by
  go_enter Try.func17, Try.ntmps17
  go_wp2
  go_ret
  exact ⟨rfl, rfl⟩
theorem nil_drop {w : World} (seg : Int) : Calls Try.prog 18 #[.pointer none, .int .u64 seg] w fun e w' => e = .returned (.int .i64 4) ∧ w = w' := by
  go_enter Try.func18, Try.ntmps18
  go_wp2
  go_ret
  exact ⟨rfl, rfl⟩
theorem nil_sync {w : World} : Calls Try.prog 22 #[.pointer none] w fun e w' => e = .returned (.int .i64 4) ∧ w = w' := by
  go_enter Try.func22, Try.ntmps22
  go_wp2
  go_ret
  exact ⟨rfl, rfl⟩
theorem nil_read {w : World} (seg : Int) : Calls Try.prog 25 #[.pointer none, .int .u64 seg] w fun e w' => e = .returned (.tuple #[.slice none 0 0, .int .i64 4]) ∧ w = w' := by
  go_enter Try.func25, Try.ntmps25
  go_wp2
  go_ret2
  exact ⟨rfl, rfl⟩
theorem nil_full {w : World} (on : Bool) : Calls Try.prog 24 #[.pointer none, .bool on] w fun e w' => e = .returned (.tuple #[]) ∧ w = w' := by
  go_enter Try.func24, Try.ntmps24
  go_wp2
  go_end0
  exact ⟨rfl, rfl⟩
theorem nil_segs {w : World} : Calls Try.prog 31 #[.pointer none] w fun e w' => e = .returned (.slice none 0 0) ∧ w = w' := by
  go_enter Try.func31, Try.ntmps31
  go_wp2
  go_ret
  exact ⟨rfl, rfl⟩
theorem nil_used {w : World} : Calls Try.prog 30 #[.pointer none] w fun e w' => e = .returned (.int .i64 0) ∧ w = w' := by
  go_enter Try.func30, Try.ntmps30
  go_wp2
  go_ret
  exact ⟨rfl, rfl⟩
theorem nil_room {w : World} : Calls Try.prog 33 #[.pointer none] w fun e w' => e = .returned (.int .i64 0) ∧ w = w' := by
  go_enter Try.func33, Try.ntmps33
  go_wp2
  go_ret
  exact ⟨rfl, rfl⟩
theorem nil_waiting {w : World} : Calls Try.prog 27 #[.pointer none] w fun e w' => e = .returned (.int .i64 0) ∧ w = w' := by
  go_enter Try.func27, Try.ntmps27
  go_wp2
  go_ret
  exact ⟨rfl, rfl⟩
theorem nil_crash {w : World} (keep torn : Int) : Calls Try.prog 20 #[.pointer none, .int .i64 keep, .int .i64 torn] w fun e w' => e = .returned (.pointer none) ∧ w = w' := by
  go_enter Try.func20, Try.ntmps20
  go_wp2
  go_ret
  exact ⟨rfl, rfl⟩
theorem nil_copy {w : World} : Calls Try.prog 29 #[.pointer none] w fun e w' => e = .returned (.pointer none) ∧ w = w' := by
  go_enter Try.func29, Try.ntmps29
  go_wp2
  go_ret
  exact ⟨rfl, rfl⟩
theorem nil_same {w : World} : Calls Try.prog 19 #[.pointer none, .pointer none] w fun e w' => e = .returned (.bool true) ∧ w = w' := by
  go_enter Try.func19, Try.ntmps19
  go_wp2
  go_ret
  exact ⟨rfl, rfl⟩
theorem some_same {w : World} (p : Addr) : Calls Try.prog 19 #[.pointer (some p), .pointer none] w fun e w' => e = .returned (.bool false) ∧ w = w' := by
  go_enter Try.func19, Try.ntmps19
  go_wp2
  go_ret
  exact ⟨rfl, rfl⟩
end Go.Proofs.Ytpjggnfiocplmaa
