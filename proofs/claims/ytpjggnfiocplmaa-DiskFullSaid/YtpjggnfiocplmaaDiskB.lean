/- Package disk: maps.Clone, New, do, Append, Drop, Sync, Read and the small ones. -/
import Derived.Test.YtpjggnfiocplmaaDiskA
namespace Go.Proofs.Ytpjggnfiocplmaa
open Go Go.RowKit Go.Dr

@[go_sem] theorem eql_nil_map (w : World) (r : Option Nat) : (binOp .eql 96 (.map r) (.map none)).run Try.prog w = .ok (.bool r.isNone) w :=
  run_eql_map_nil w _ _ _ r Try.underlying96

theorem mclone_spec [bn : Inhabited Ban] {base : Nat} {w : World} {r : Nat} {m : AMap} (h : MapAt base w r m) :
    Calls Try.prog 60 #[.map (some r)] w fun e w' => ∃ r', e = .returned (.map (some r')) ∧ MapAt base w' r' m ∧ r' = w.heap.size ∧ w'.heap.size = w.heap.size + 1 ∧ Keep No w w' := by
  obtain ⟨es, clock, hb, he⟩ := h
  have hx : (callFunc 89 #[.iface 96 (.map (some r))]).run Try.prog w = .ok (.value (.iface 96 (.map (some w.heap.size)))) (w.alloc (.map es clock)) := by
    rw [run_callFunc_extern Try.func89 (by kernel_rfl) (by kernel_rfl) (by kernel_rfl) (e := Extern.MapsClone.clone) (by kernel_rfl), run_maps_clone_sl w _ hb]
    rfl
  have hy := fun w => run_typeAssert_map_sl (P := Try.prog) w 96 20 _ _ (.map (some (w.heap.size - 1))) Try.underlying96
  have hk : Keep No w (w.alloc (.map es clock)) := (Keep.refl _ _).alloc _
  have hm : MapAt base (w.alloc (.map es clock)) w.heap.size m := ⟨es, clock, heap_new w _, he.keep (Foot.no _ _) hk⟩
  have hy : (Instr.typeAssert (.iface 96 (.map (some w.heap.size))) 20 96 false).run Try.prog (w.alloc (.map es clock)) = .ok (.map (some w.heap.size)) (w.alloc (.map es clock)) :=
    run_typeAssert_map_sl _ _ _ _ _ _ Try.underlying96
  go_enter Try.func60, Try.ntmps60
  go_wp2
  go_ret
  exact ⟨_, rfl, hm, rfl, by simp, hk⟩

theorem new_world [bn : Inhabited Ban] (w : World) (base : Nat) (room : Int) (hb : base ≤ w.heap.size) :
    DiskAt base (((w.alloc (.map #[] 0)).alloc (.map #[] 0)).alloc (.cells #[.int .i64 room, .bool false, .map (some w.heap.size), .map (some (w.heap.size + 1)), .slice none 0 0] 99))
      (w.heap.size + 1 + 1) w.heap.size (w.heap.size + 1) (.slice none 0 0) { room := room, full := false, now := [], safe := [], wait := [] } := by
  have h1 := heap_new w (.map #[] 0)
  have h2 := heap_new (w.alloc (.map #[] 0)) (.map #[] 0)
  have h3 := heap_new ((w.alloc (.map #[] 0)).alloc (.map #[] 0)) (.cells #[.int .i64 room, .bool false, .map (some w.heap.size), .map (some (w.heap.size + 1)), .slice none 0 0] 99)
  have k2 : Keep No (w.alloc (.map #[] 0)) ((w.alloc (.map #[] 0)).alloc (.map #[] 0)) := (Keep.refl _ _).alloc _
  have k3 : Keep No ((w.alloc (.map #[] 0)).alloc (.map #[] 0)) (((w.alloc (.map #[] 0)).alloc (.map #[] 0)).alloc (.cells #[.int .i64 room, .bool false, .map (some w.heap.size), .map (some (w.heap.size + 1)), .slice none 0 0] 99)) := (Keep.refl _ _).alloc _
  have he : ∀ w : World, Ents base w (#[] : Array MapEntry).toList 0 [] := fun w => ⟨rfl, fun p hp => by simp at hp, by simp, by simp, by simp [Keys]⟩
  simp only [World.size_alloc] at h2 h3
  refine ⟨h3, ⟨#[], 0, ?_, he _⟩, ⟨#[], 0, ?_, he _⟩, WaitAt.nil _ _, by omega, by omega, by omega, by omega⟩
  · exact k3.heap (k2.heap h1 (fun h => h)) (fun h => h)
  · exact k3.heap h2 (fun h => h)

/-- A pointer to a disk, all new. -/
def NewDisk [bn : Inhabited Ban] (base : Nat) (w : World) (d : DiskS) (e : Ending) (w' : World) : Prop := ∃ p n s wv, e = .returned (.pointer (some ⟨p, 0, none⟩)) ∧
  DiskAt base w' p n s wv d ∧ Keep No w w' ∧ ∀ b, foot p n s wv b → w.heap.size ≤ b
theorem new_spec [bn : Inhabited Ban] {w : World} (base : Nat) (room : Int) (hb : base ≤ w.heap.size) :
    Calls Try.prog 15 #[.int .i64 room] w (NewDisk base w { room := max room 0, full := false, now := [], safe := [], wait := [] }) := by
  have hmm := @run_makeMap Try.prog
  have hf : ∀ b, foot (w.heap.size + 1 + 1) w.heap.size (w.heap.size + 1) (.slice none 0 0) b → w.heap.size ≤ b := by
    rintro b (rfl | rfl | rfl | hb)
    · omega
    · omega
    · omega
    · simp [Value.ownBlock] at hb
  obtain ⟨r, hr⟩ : ∃ r, r = max room 0 := ⟨_, rfl⟩
  rw [← hr]
  have hd := new_world w base r hb
  by_cases h0 : room < 0
  · obtain rfl : r = 0 := by omega
    clear hr
    have HD := Lib.hid hd
    clear hd
    go_enter Try.func15, Try.ntmps15
    go_wp2
    go_ret
    exact ⟨_, _, _, _, rfl, HD.out, (((Keep.refl _ _).alloc _).alloc _).alloc _, hf⟩
  · obtain rfl : r = room := by omega
    clear hr
    have HD := Lib.hid hd
    clear hd
    go_enter Try.func15, Try.ntmps15
    go_wp2
    go_ret
    exact ⟨_, _, _, _, rfl, HD.out, (((Keep.refl _ _).alloc _).alloc _).alloc _, hf⟩

theorem callCells_append (c : CallS) (u : Value) : ∀ (l : List CallS) (us : List Value), us.length = l.length → callCells (l ++ [c]) (us ++ [u]) = callCells l us ++ [.int .u64 c.seg, u, .bool c.drop] := by
  intro l
  induction l with
  | nil => intro us h; obtain rfl := List.eq_nil_of_length_eq_zero h; rfl
  | cons x l ih =>
    intro us h
    cases us with
    | nil => simp at h
    | cons v us => simp only [List.cons_append, callCells, ih us (by simpa using h)]
theorem info_call : (Try.prog.info? 102).map (fun i => (i.zero, i.size, i.bytes)) = some (some (.agg #[.int .u64 0, .slice none 0 0, .bool false]), 3, 40) := by kernel_rfl

set_option maxRecDepth 100000 in
theorem do_spec [bn : Inhabited Ban] {base : Nat} {w : World} {p n s : Nat} {wv : Value} {d : DiskS} (h : DiskAt base w p n s wv d) (hb : base ≤ w.heap.size) (c : CallS) {u : Value} (hu : BytesAt base w u c.p)
    (hm : ((mget d.now c.seg).getD []).length + c.p.length ≤ 17592186044416) (hw : d.wait.length ≤ 1000000) :
    Calls Try.prog 56 #[.pointer (some ⟨p, 0, none⟩), .agg #[.int .u64 c.seg, u, .bool c.drop]] w fun e w' => e = .returned (.tuple #[]) ∧
      ∃ wv', DiskAt base w' p n s wv' { d with now := c.done d.now, wait := d.wait ++ [c] } ∧ Keep (foot p n s wv) w w' ∧ ∀ b, wv'.ownBlock = some b → wv.ownBlock = some b ∨ w.heap.size ≤ b := by
  obtain ⟨uo, uc, rfl⟩ := hu.form
  obtain ⟨wo, wc, rfl⟩ := h.wait.form
  have hk0 : Keep No w (w.alloc (.cells #[.int .u64 c.seg, .slice uo c.p.length uc, .bool c.drop] 102)) := (Keep.refl _ _).alloc _
  have hbox := heap_new w (.cells #[.int .u64 c.seg, .slice uo c.p.length uc, .bool c.drop] 102)
  have h1 := h.no hk0
  have hu1 := hu.no hk0
  obtain ⟨W, hW⟩ : ∃ W, W = w.alloc (.cells #[.int .u64 c.seg, .slice uo c.p.length uc, .bool c.drop] 102) := ⟨_, rfl⟩
  go_enter Try.func56, Try.ntmps56
  go_wp2
  rw [← hW] at hk0 hbox h1 hu1 ⊢
  clear hW
  have hp : w.heap.size ≠ p := fun e => by have := h.foot_lt p (.inl rfl); omega
  have hpn : n ≠ p := fun e => by have := h.blk; subst e; obtain ⟨_, _, hb, _⟩ := h.now; rw [this] at hb; cases hb
  refine wp_drawN (fun w' => w' = W.drew) [0, 1, 2, 3, 4] [] [5] (by kernel_rfl) (by kernel_rfl) (fun _ _ _ _ _ h => h) rfl ?_
  have c0 := cell_of hbox 0
  have c1 := cell_of hbox 1
  have c2 := cell_of hbox 2
  have d2 := cell_of h1.blk 2
  simp at c0 c1 c2 d2
  iterate 5 (refine earlyN_cons (v := ?_) rfl rfl rfl ?_ ?_; rotate_left; focus (
    rintro w' rfl
    go_simp
    try with_reducible rfl))
  refine earlyN_nil (midN_nil (tailN_cons rfl (tailN_nil ?_)))
  clear c0 c1 c2 d2
  have hdr : Keep No W W.drew := (Keep.refl _ _).drew
  have h2 := h1.no hdr
  have hu2 := hu1.no hdr
  have hbox2 := hdr.heap hbox (fun h => h)
  have hks := hk0.then hdr
  clear h1 hu1 hbox hdr hk0
  obtain ⟨W2, hW2⟩ : ∃ W2, W2 = W.drew := ⟨_, rfl⟩
  rw [← hW2] at h2 hu2 hbox2 hks ⊢
  clear hW2
  go_wp2_with (go_at_call 61; refine (done_spec c h2.now h.nb hu2 hm).mono ?_; rintro e w2 ⟨rfl, hm2, hk2⟩)
  -- behind the call: the map has turned, nothing else
  have hfn : Foot base W2 (· = n) := h2.now.foot h.nb
  have hp2 := hk2.heap h2.blk (fun e => hpn e.symm)
  have hbox3 := hk2.heap hbox2 (fun e => by have := h.now.lt; omega)
  have hu3 := hu2.keep hfn hk2
  have hs3 := h2.safe.keep hfn hk2 (fun e => h.ns e.symm)
  have hw3 := h2.wait.keep hfn hk2 (fun b hb e => by
    obtain ⟨us, _, _, _, hq⟩ := h2.wait
    obtain ⟨_, _, hmm, _⟩ := h2.now
    rcases hq with ⟨hq, _⟩ | ⟨g, cap, cur, hq, _, hq2, _⟩
    · rw [hq] at hb; simp [Value.ownBlock] at hb
    · rw [hq] at hb; simp [Value.ownBlock] at hb; subst hb; rw [← e, hq2] at hmm; cases hmm)
  have hkp2 : Keep (foot p n s (.slice wo d.wait.length wc)) w w2 := hks.no.trans hk2 (fun _ _ e => .inr (.inl e))
  clear hfn h2 hu2 hbox2 hks hk2
  have c0 := cell_of hbox3 0
  have c1 := cell_of hbox3 1
  have c2 := cell_of hbox3 2
  have d4 := cell_of hp2 4
  simp at c0 c1 c2 d4
  have hkind := hw3.kind
  have hfo := hw3.foot
  obtain ⟨us, hus, hub, hown⟩ := hw3
  have hnot : ∀ b, (Value.slice wo d.wait.length wc).ownBlock = some b → b ≠ p ∧ b ≠ w.heap.size ∧ b ≠ n ∧ b ≠ s := fun b hb => by
    obtain ⟨_, cur, hq⟩ := hkind b hb
    refine ⟨fun e => ?_, fun e => ?_, fun e => ?_, fun e => ?_⟩
    · rw [e, hp2] at hq; simp at hq
    · have := h.foot_lt b (.inr (.inr (.inr hb))); omega
    · obtain ⟨_, _, hz⟩ := hm2.kind; rw [e, hz] at hq; cases hq
    · obtain ⟨_, _, hz⟩ := hs3.kind; rw [e, hz] at hq; cases hq
  refine wp_drawN (fun w' => Keep (fun b => (Value.slice wo d.wait.length wc).ownBlock = some b) w2 w') [0, 1, 2, 3, 4, 5] [6, 7] [8, 9, 10] (by kernel_rfl) (by kernel_rfl) (fun _ _ _ _ _ h => h) (Keep.refl _ _).drew ?_
  iterate 6 (refine earlyN_cons (v := ?_) rfl rfl rfl ?_ ?_; rotate_left; focus (
    intro w' hS
    have c0' := hS.cell c0 (fun e => (hnot _ e).2.1 rfl)
    have c1' := hS.cell c1 (fun e => (hnot _ e).2.1 rfl)
    have c2' := hS.cell c2 (fun e => (hnot _ e).2.1 rfl)
    have d4' := hS.cell d4 (fun e => (hnot _ e).1 rfl)
    go_simp
    try with_reducible rfl))
  refine earlyN_nil ?_
  have hk3 : Keep No w2 (w2.alloc (.cells #[.int .u64 c.seg, .slice uo c.p.length uc, .bool c.drop] 102)).drew := ((Keep.refl _ _).alloc _).drew
  refine midN_cons rfl rfl (fun K hK => ?_)
  go_simp
  refine hK _ _ hk3.no ?_
  clear hK K
  refine midN_cons rfl rfl (fun K hK => ?_)
  obtain ⟨i0, hi0, hz0, hz1, hz2⟩ := info_parts info_call
  refine wp_append_lies _ _ _ _ rfl base 102 i0 _ 3 40 Try.underlying97 hi0 hz0 hz1 hz2 rfl (by omega) _ d.wait.length (callCells d.wait us) rfl ((hown.alloc _).drew)
    ⟨w2.heap.size, 0, none⟩ 1 1 [.int .u64 c.seg, .slice uo c.p.length uc, .bool c.drop] rfl rfl (World.news_of_block (cs := #[.int .u64 c.seg, .slice uo c.p.length uc, .bool c.drop]) (t := 102) (fr := (0, 0)) (heap_alloc_new w2 _)) (by simp [Value.oneCell'])
    (by omega) (by unfold maxLen; omega) (by omega) (by simp; have := hkp2.size; omega) (w2.heap.size + 1) (by simp) ?_
  intro g cap w3 hown3 hgrow hat hlt
  have hkS : Keep (fun b => (Value.slice wo d.wait.length wc).ownBlock = some b) w2 w3 := hk3.no.grown hgrow (fun k hk => .inl hk)
  refine hK _ _ hkS ?_
  clear hK K
  refine midN_nil (tailN_cons rfl (tailN_cons rfl (tailN_cons rfl (tailN_nil ?_))))
  have hp3 := hkS.heap hp2 (fun e => (hnot _ e).1 rfl)
  have d4' := cell_of hp3 4
  have f4' := frozen_of hp3 4
  simp at d4'
  have hu4 := hu3.keep hfo hkS
  have hm4 := hm2.keep hfo hkS (fun e => (hnot _ e).2.2.1 rfl)
  have hs4 := hs3.keep hfo hkS (fun e => (hnot _ e).2.2.2 rfl)
  have hub4 : ∀ (i : Nat) u c, us[i]? = some u → d.wait[i]? = some c → BytesAt base w3 u c.p := fun i u c h1 h2 => (hub i u c h1 h2).keep hfo hkS
  rw [← callCells_append c _ _ _ hus] at hown3
  have hgne : g ≠ p ∧ g ≠ n ∧ g ≠ s := by
    rcases hown3.2 with ⟨hq, _⟩ | ⟨g', cap', cur', hq, _, hq2, _⟩
    · cases hq
    · simp at hq
      obtain ⟨rfl, _⟩ := hq
      refine ⟨fun e => ?_, fun e => ?_, fun e => ?_⟩
      · rw [e, hp3] at hq2; simp at hq2
      · obtain ⟨_, _, hz⟩ := hm4.kind; rw [e, hz] at hq2; cases hq2
      · obtain ⟨_, _, hz⟩ := hs4.kind; rw [e, hz] at hq2; cases hq2
  have hkp3 : Keep (foot p n s (.slice wo d.wait.length wc)) w w3 := hkp2.trans hkS (fun _ _ e => .inr (.inr (.inr e)))
  have hsz := hkp2.size
  clear hown hub hu3 hm2 hs3 hkS hgrow hk3 hkp2 c0 c1 c2 d4 hbox3 hp2 hfo hkind hnot
  go_wp2
  go_end0
  refine ⟨rfl, .slice (some ⟨g, 0, none⟩) (d.wait.length + 1) cap, ?_, hkp3.setCell (.inl (.inl rfl)) _, fun b hb => ?_⟩
  · have hF : Foot base w3 (· = p) := by
      rintro b rfl
      exact ⟨h.pb, heap_lt hp3, fun cs fr e => by rw [hp3] at e; simp at e⟩
    have hk : Keep (· = p) w3 (w3.setCell ⟨p, 4, none⟩ (.slice (some ⟨g, 0, none⟩) (d.wait.length + 1) cap)) := Keep.setCell (F := (· = p)) (Keep.refl _ _) (p := ⟨p, 4, none⟩) (.inl rfl) _
    refine ⟨?_, hm4.keep hF hk hpn, hs4.keep hF hk (fun e => ?_), ?_, h.pb, h.nb, h.sb, h.ns⟩
    · have := heap_setCell_same (i := 4) (u := .slice (some ⟨g, 0, none⟩) (d.wait.length + 1) cap) hp3
      simpa using this
    · obtain ⟨_, _, hz⟩ := hs4.kind; rw [e, hp3] at hz; cases hz
    · refine WaitAt.keep ⟨us ++ [.slice uo c.p.length uc], by simp [hus], ?_, by simpa using hown3⟩ hF hk (fun b hb e => ?_)
      · intro i u c' h1 h2
        by_cases hi : i < us.length
        · rw [List.getElem?_append_left hi] at h1
          rw [List.getElem?_append_left (by simpa [← hus] using hi)] at h2
          exact hub4 i u c' h1 h2
        · rw [List.getElem?_append_right (by omega)] at h1
          rw [List.getElem?_append_right (by omega)] at h2
          rw [hus] at h1
          cases hj : i - d.wait.length with
          | zero => simp [hj] at h1 h2; subst h1 h2; exact hu4
          | succ j => simp [hj] at h1
      · simp [Value.ownBlock] at hb; exact hgne.1 (hb.trans e)
  · simp [Value.ownBlock] at hb
    subst hb
    rcases hat with hat | hat
    · exact .inl hat
    · right; omega
end Go.Proofs.Ytpjggnfiocplmaa
