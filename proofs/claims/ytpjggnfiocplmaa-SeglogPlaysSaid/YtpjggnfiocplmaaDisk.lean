/- Package disk: contracts of its functions. -/
import Derived.Test.YtpjggnfiocplmaaFound
import Derived.Maps.OwnSet
import Derived.Lib.SlBytesConst
import Derived.Deep.QuietTactic
import Derived.BigQuiet

/-! ## DiskA -/
namespace Go.Proofs.Ytpjggnfiocplmaa
open Go Go.RowKit Go.Dr

structure CallS where
  seg : Int
  p : Bytes
  drop : Bool
def CallS.done (c : CallS) (m : AMap) : AMap := if c.drop then mdel m c.seg else mset m c.seg ((mget m c.seg).getD [] ++ c.p)

set_option maxRecDepth 100000 in
theorem done_spec [bn : Inhabited Ban] {base : Nat} {w : World} {r : Nat} {m : AMap} {u : Value} (c : CallS) (h : MapAt base w r m) (hr : base ≤ r) (hu : BytesAt base w u c.p)
    (hb : ((mget m c.seg).getD []).length + c.p.length ≤ 17592186044416) :
    Calls Try.prog 61 #[.agg #[.int .u64 c.seg, u, .bool c.drop], .map (some r)] w fun e w' => e = .returned (.tuple #[]) ∧ MapAt base w' r (c.done m) ∧ Keep (· = r) w w' := by
  obtain ⟨seg, p, drop⟩ := c
  simp only at hu hb ⊢
  obtain ⟨uo, uc, rfl⟩ := hu.form
  have hrl := h.lt
  cases drop with
  | true =>
    have hk : Keep No w (w.alloc (.cells #[.int .u64 seg, .slice uo p.length uc, .bool true] 102)) := (Keep.refl _ _).alloc _
    have h1 := h.keep (Foot.no _ _) hk (fun h => h)
    obtain ⟨w2, hrun, h2, hk2⟩ := run_del h1 hr seg
    go_enter Try.func61, Try.ntmps61
    go_wp2
    refine bodyPost_ret (results_none rfl _ _ _) rfl ?_
    exact ⟨rfl, by simpa [CallS.done] using h2, hk.no.trans hk2 (fun _ _ h => h)⟩
  | false =>
    have hk : Keep No w (w.alloc (.cells #[.int .u64 seg, .slice uo p.length uc, .bool false] 102)) := (Keep.refl _ _).alloc _
    have h1 := h.keep (Foot.no _ _) hk (fun h => h)
    have hu1 := hu.no hk
    have hbox := heap_new w (.cells #[.int .u64 seg, .slice uo p.length uc, .bool false] 102)
    obtain ⟨v0, hv0, hlook⟩ := run_lookup h1 seg
    obtain ⟨vo, vc, rfl⟩ := hv0.form
    obtain ⟨W, hW⟩ : ∃ W, W = w.alloc (.cells #[.int .u64 seg, .slice uo p.length uc, .bool false] 102) := ⟨_, rfl⟩
    go_enter Try.func61, Try.ntmps61
    go_wp2
    rw [← hW] at hk h1 hu1 hbox hv0 hlook ⊢
    have hWs : w.heap.size < W.heap.size := by rw [hW]; simp
    clear hW
    refine wp_drawN (fun w' => Keep No W w') [0, 1, 2, 3, 4, 5, 6, 7, 8] [9, 10] [11] (by kernel_rfl) (by kernel_rfl) (fun _ _ _ _ _ h => h) (Keep.refl _ _).drew ?_
    iterate 9 (refine earlyN_cons (v := ?_) rfl rfl rfl ?_ ?_; rotate_left; focus (
      intro w' hS
      have c0 := hS.cell (p := ⟨w.heap.size, 0, none⟩) (cell_of hbox 0) (fun h => h)
      have c1 := hS.cell (p := ⟨w.heap.size, 1, none⟩) (cell_of hbox 1) (fun h => h)
      have hl := (hlook w' (hS.block r h1.lt (fun h => h))).1
      go_simp
      try with_reducible rfl))
    refine earlyN_nil ?_
    have hk2 : Keep No W (W.alloc (.cells #[.slice vo ((mget m seg).getD []).length vc, .slice uo p.length uc] 27)).drew := ((Keep.refl _ _).alloc _).drew
    have hsl : SlicesAt base (W.alloc (.cells #[.slice vo ((mget m seg).getD []).length vc, .slice uo p.length uc] 27)).drew (.slice (some ⟨W.heap.size, 0, none⟩) 2 2) [(mget m seg).getD [], p] :=
      SlicesAt.of_block (cs := #[.slice vo ((mget m seg).getD []).length vc, .slice uo p.length uc]) (heap_new W _) [(mget m seg).getD [], p] rfl (by simp [maxLen]) (fun i u' l h1 h2 => by
        match i, h1, h2 with
        | 0, h1, h2 => simp at h1 h2; subst h1 h2; exact hv0.no ((Keep.refl _ _).alloc _)
        | 1, h1, h2 => simp at h1 h2; subst h1 h2; exact hu1.no ((Keep.refl _ _).alloc _))
    refine midN_cons rfl rfl (fun K hK => ?_)
    go_simp
    refine hK _ _ hk2 ?_
    clear hK K
    refine midN_cons rfl rfl (fun K hK => ?_)
    go_simp
    have hT1 : [(mget m seg).getD [], p].flatten ≠ [] → ban.top ≤ (W.alloc (.cells #[.slice vo ((mget m seg).getD []).length vc, .slice uo p.length uc] 27)).drew.heap.size := by
      intro hne
      have h1 : ban.top ≤ W.heap.size := by
        by_cases e1 : (mget m seg).getD [] = []
        · exact hu1.top (fun e2 => hne (by simp [e1, e2]))
        · exact hv0.top e1
      exact Nat.le_trans h1 hk2.size
    refine (concat_spec hsl (by simp; omega)).mono ?_
    rintro e w3 ⟨v3, rfl, hown3, hk3⟩
    simp only []
    refine hK _ _ (hk2.then hk3) ?_
    clear hK K
    refine midN_nil (tailN_cons rfl (tailN_nil ?_))
    have hkk := hk2.then hk3
    obtain ⟨w4, hrun, h4, hk4⟩ := run_store (h1.keep (Foot.no _ _) hkk (fun h => h)) hr seg (hown3.bytes (base := base) hT1)
    clear hlook hown3 hk3 hsl hbox hv0 hu1 h1
    go_wp2
    go_end0
    refine ⟨rfl, ?_, (hk.then hkk).no.trans hk4 (fun _ _ h => h)⟩
    simpa [CallS.done] using h4

/-! ### A disk in memory -/
structure DiskS where
  room : Int
  full : Bool
  now : AMap
  safe : AMap
  wait : List CallS

def callCells : List CallS → List Value → List Value
  | c :: l, u :: us => .int .u64 c.seg :: u :: .bool c.drop :: callCells l us
  | _, _ => []
def WaitAt [bn : Inhabited Ban] (base : Nat) (w : World) (wv : Value) (l : List CallS) : Prop :=
  ∃ us : List Value, us.length = l.length ∧ (∀ (i : Nat) u c, us[i]? = some u → l[i]? = some c → BytesAt base w u c.p) ∧ w.ownsRow base 102 3 wv l.length (callCells l us)
structure DiskAt [bn : Inhabited Ban] (base : Nat) (w : World) (p n s : Nat) (wv : Value) (d : DiskS) : Prop where
  blk : w.heap[p]? = some (.cells #[.int .i64 d.room, .bool d.full, .map (some n), .map (some s), wv] 99 (0, 0))
  now : MapAt base w n d.now
  safe : MapAt base w s d.safe
  wait : WaitAt base w wv d.wait
  pb : base ≤ p
  nb : base ≤ n
  sb : base ≤ s
  ns : n ≠ s
def foot (p n s : Nat) (wv : Value) : Nat → Prop := fun b => b = p ∨ b = n ∨ b = s ∨ wv.ownBlock = some b

theorem WaitAt.form [bn : Inhabited Ban] {base : Nat} {w : World} {wv : Value} {l : List CallS} (h : WaitAt base w wv l) : ∃ ao cap, wv = .slice ao l.length cap := by
  obtain ⟨us, _, _, _, h⟩ := h
  rcases h with ⟨rfl, h⟩ | ⟨g, cap, cur, rfl, _⟩
  · exact ⟨none, 0, by rw [h]⟩
  · exact ⟨_, _, rfl⟩
theorem WaitAt.nil [bn : Inhabited Ban] (base : Nat) (w : World) : WaitAt base w (.slice none 0 0) [] := ⟨[], rfl, fun i u c h => by simp at h, World.ownsRow_nil _ _ _ _⟩
theorem DiskAt.foot_ok [bn : Inhabited Ban] {base : Nat} {w : World} {p n s : Nat} {wv : Value} {d : DiskS} (h : DiskAt base w p n s wv d) : Foot base w (foot p n s wv) := by
  rintro b (rfl | rfl | rfl | hb)
  · exact ⟨h.pb, heap_lt h.blk, fun cs fr e => by rw [h.blk] at e; simp at e⟩
  · exact h.now.foot h.nb _ rfl
  · exact h.safe.foot h.sb _ rfl
  · obtain ⟨us, _, _, _, hw⟩ := h.wait
    rcases hw with ⟨rfl, _⟩ | ⟨g, cap, cur, rfl, h1, h2, _⟩
    · simp [Value.ownBlock] at hb
    · simp [Value.ownBlock] at hb
      subst hb
      exact ⟨h1, heap_lt h2, fun cs fr e => by rw [h2] at e; simp at e⟩
theorem WaitAt.kind [bn : Inhabited Ban] {base : Nat} {w : World} {wv : Value} {l : List CallS} (h : WaitAt base w wv l) : ∀ b, wv.ownBlock = some b → base ≤ b ∧ ∃ cur, w.heap[b]? = some (.cells cur 102 (0, 0)) := by
  intro b hb
  obtain ⟨us, _, _, _, hw⟩ := h
  rcases hw with ⟨rfl, _⟩ | ⟨g, cap, cur, rfl, h1, h2, _⟩
  · simp [Value.ownBlock] at hb
  · simp [Value.ownBlock] at hb
    subst hb
    exact ⟨h1, cur, h2⟩
theorem WaitAt.foot [bn : Inhabited Ban] {base : Nat} {w : World} {wv : Value} {l : List CallS} (h : WaitAt base w wv l) : Foot base w (fun b => wv.ownBlock = some b) := by
  intro b hb
  obtain ⟨h1, cur, h2⟩ := h.kind b hb
  exact ⟨h1, heap_lt h2, fun cs fr e => by rw [h2] at e; simp at e⟩
theorem MapAt.kind [bn : Inhabited Ban] {base : Nat} {w : World} {r : Nat} {m : AMap} (h : MapAt base w r m) : ∃ es clock, w.heap[r]? = some (.map es clock) := by obtain ⟨es, c, h, _⟩ := h; exact ⟨es, c, h⟩
theorem WaitAt.keep [bn : Inhabited Ban] {base : Nat} {w w' : World} {wv : Value} {l : List CallS} {F : Nat → Prop} (h : WaitAt base w wv l) (hF : Foot base w F) (k : Keep F w w') (hn : ∀ b, wv.ownBlock = some b → ¬ F b) : WaitAt base w' wv l := by
  obtain ⟨us, h1, h2, h3, h4⟩ := h
  refine ⟨us, h1, fun i u c hu hc => (h2 i u c hu hc).keep hF k, h3, ?_⟩
  rcases h4 with h4 | ⟨g, cap, cur, rfl, h5, h6, h7⟩
  · exact .inl h4
  · exact .inr ⟨g, cap, cur, rfl, h5, k.heap h6 (hn g rfl), h7⟩
theorem DiskAt.keep [bn : Inhabited Ban] {base : Nat} {w w' : World} {p n s : Nat} {wv : Value} {d : DiskS} {F : Nat → Prop} (h : DiskAt base w p n s wv d) (hF : Foot base w F) (k : Keep F w w') (hn : ∀ b, foot p n s wv b → ¬ F b) : DiskAt base w' p n s wv d :=
  ⟨k.heap h.blk (hn p (.inl rfl)), h.now.keep hF k (hn n (.inr (.inl rfl))), h.safe.keep hF k (hn s (.inr (.inr (.inl rfl)))), h.wait.keep hF k (fun b hb => hn b (.inr (.inr (.inr hb)))), h.pb, h.nb, h.sb, h.ns⟩
theorem DiskAt.no [bn : Inhabited Ban] {base : Nat} {w w' : World} {p n s : Nat} {wv : Value} {d : DiskS} (h : DiskAt base w p n s wv d) (k : Keep No w w') : DiskAt base w' p n s wv d :=
  h.keep (Foot.no _ _) k (fun _ _ h => h)
theorem DiskAt.foot_lt [bn : Inhabited Ban] {base : Nat} {w : World} {p n s : Nat} {wv : Value} {d : DiskS} (h : DiskAt base w p n s wv d) : ∀ b, foot p n s wv b → b < w.heap.size := fun b hb => (h.foot_ok b hb).2.1

set_option maxRecDepth 100000 in
theorem used_spec [bn : Inhabited Ban] {base : Nat} {w : World} {p n s : Nat} {wv : Value} {d : DiskS} (h : DiskAt base w p n s wv d) (hb : base ≤ w.heap.size) (hs : msum d.now ≤ 35184372088832) :
    Calls Try.prog 30 #[.pointer (some ⟨p, 0, none⟩)] w fun e w' => e = .returned (.int .i64 (msum d.now : Nat)) ∧ Keep No w w' := by
  obtain ⟨o, hrun, hI⟩ := run_range h.now
  have c2 := cell_of h.blk 2
  have hk0 : Keep No w (w.alloc o) := (Keep.refl _ _).alloc _
  have hkeys := h.now.keys
  generalize hW : w.alloc o = W at hrun hI hk0
  clear hW
  simp at c2
  go_enter Try.func30, Try.ntmps30
  go_wp2
  clear hrun c2
  go_loopw [3] (fun t wr => ∃ left x, IterAt base wr w.heap.size n d.now left ∧ Keys left ∧ x + msum left = msum d.now ∧ t = .int .i64 (x : Nat) ∧ Keep No w wr) (fun _ wr => leftNum wr w.heap.size)
  case atStart => exact ⟨_, 0, hI, hkeys, by omega, rfl, hk0⟩
  case round =>
    clear hI hk0 hkeys
    obtain ⟨left, x, hI, hkeys, hx, rfl, hkp⟩ := hrel
    have hnum := hI.num
    rcases run_next hI hb 0 with ⟨rfl, hrun⟩ | ⟨kv, hkv, v, w1, hv, hrun, hent, hI', hk'⟩
    · have HX := Lib.hid hx
      clear hx hnum hI
      go_wp2
      go_ret
      have := HX.out
      simp [msum] at this
      subst this
      exact ⟨rfl, hkp⟩
    · obtain ⟨vo, vc, rfl⟩ := hv.form
      have hsum := msum_filter hkeys hkv
      have hlen := length_filter hkeys hkv
      have hnum' := hI'.num
      have hb1 : (x : Int) + (kv.2.length : Int) ≤ 35184372088832 := by omega
      have hb2 : (0 : Int) ≤ (x : Int) + (kv.2.length : Int) := by omega
      have HX := Lib.hid (And.intro hx (And.intro hsum (And.intro hlen (And.intro hnum hnum'))))
      clear hx hsum hlen hnum hnum'
      go_wp2
      go_roundw
      case rel => exact ⟨_, x + kv.2.length, hI', hkeys.filter _, by have := HX.out; omega, by go_num, hkp.trans hk' (fun y hy e => by have e : y = w.heap.size := e; omega)⟩
      case measure => have := HX.out; omega
end Go.Proofs.Ytpjggnfiocplmaa

/-! ## DiskB -/
namespace Go.Proofs.Ytpjggnfiocplmaa
open Go Go.RowKit Go.Dr

@[go_sem] theorem eql_nil_map (w : World) (r : Option Nat) : (binOp .eql 96 (.map r) (.map none)).run Try.prog w = .ok (.bool r.isNone) w :=
  run_eql_map_nil w _ _ _ r Try.underlying96

theorem mclone_spec [bn : Inhabited Ban] {base : Nat} {w : World} {r : Nat} {m : AMap} (h : MapAt base w r m) :
    Calls Try.prog 60 #[.map (some r)] w fun e w' => ∃ r', e = .returned (.map (some r')) ∧ MapAt base w' r' m ∧ r' = w.heap.size ∧ w'.heap.size = w.heap.size + 1 ∧ Keep No w w' := by
  obtain ⟨es, clock, hb, he⟩ := h
  have hx : (callFunc 89 #[.iface 96 (.map (some r))]).run Try.prog w = .ok (.value (.iface 96 (.map (some w.heap.size)))) (w.alloc (.map es clock)) := by
    rw [run_callFunc_extern Try.func89 (by kernel_rfl) (by kernel_rfl) (by kernel_rfl) (e := Extern.MapsClone.clone) (by kernel_rfl), run_maps_clone_sl w _ hb]
    rfl
  have hy := fun w => run_typeAssert_map_sl (P := Try.prog) w 96 20 _ _ (.map (some (w.heap.size - 1))) Try.underlying96
  have hk : Keep No w (w.alloc (.map es clock)) := (Keep.refl _ _).alloc _
  have hm : MapAt base (w.alloc (.map es clock)) w.heap.size m := ⟨es, clock, heap_new w _, he.keep (Foot.no _ _) hk⟩
  have hy : (Instr.typeAssert (.iface 96 (.map (some w.heap.size))) 20 96 false).run Try.prog (w.alloc (.map es clock)) = .ok (.map (some w.heap.size)) (w.alloc (.map es clock)) :=
    run_typeAssert_map_sl _ _ _ _ _ _ Try.underlying96
  go_enter Try.func60, Try.ntmps60
  go_wp2
  go_ret
  exact ⟨_, rfl, hm, rfl, by simp, hk⟩

theorem new_world [bn : Inhabited Ban] (w : World) (base : Nat) (room : Int) (hb : base ≤ w.heap.size) :
    DiskAt base (((w.alloc (.map #[] 0)).alloc (.map #[] 0)).alloc (.cells #[.int .i64 room, .bool false, .map (some w.heap.size), .map (some (w.heap.size + 1)), .slice none 0 0] 99))
      (w.heap.size + 1 + 1) w.heap.size (w.heap.size + 1) (.slice none 0 0) { room := room, full := false, now := [], safe := [], wait := [] } := by
  have h1 := heap_new w (.map #[] 0)
  have h2 := heap_new (w.alloc (.map #[] 0)) (.map #[] 0)
  have h3 := heap_new ((w.alloc (.map #[] 0)).alloc (.map #[] 0)) (.cells #[.int .i64 room, .bool false, .map (some w.heap.size), .map (some (w.heap.size + 1)), .slice none 0 0] 99)
  have k2 : Keep No (w.alloc (.map #[] 0)) ((w.alloc (.map #[] 0)).alloc (.map #[] 0)) := (Keep.refl _ _).alloc _
  have k3 : Keep No ((w.alloc (.map #[] 0)).alloc (.map #[] 0)) (((w.alloc (.map #[] 0)).alloc (.map #[] 0)).alloc (.cells #[.int .i64 room, .bool false, .map (some w.heap.size), .map (some (w.heap.size + 1)), .slice none 0 0] 99)) := (Keep.refl _ _).alloc _
  have he : ∀ w : World, Ents base w (#[] : Array MapEntry).toList 0 [] := fun w => ⟨rfl, fun p hp => by simp at hp, by simp, by simp, by simp [Keys]⟩
  simp only [World.size_alloc] at h2 h3
  refine ⟨h3, ⟨#[], 0, ?_, he _⟩, ⟨#[], 0, ?_, he _⟩, WaitAt.nil _ _, by omega, by omega, by omega, by omega⟩
  · exact k3.heap (k2.heap h1 (fun h => h)) (fun h => h)
  · exact k3.heap h2 (fun h => h)

/-- A pointer to a disk, all new. -/
def NewDisk [bn : Inhabited Ban] (base : Nat) (w : World) (d : DiskS) (e : Ending) (w' : World) : Prop := ∃ p n s wv, e = .returned (.pointer (some ⟨p, 0, none⟩)) ∧
  DiskAt base w' p n s wv d ∧ Keep No w w' ∧ ∀ b, foot p n s wv b → w.heap.size ≤ b
theorem new_spec [bn : Inhabited Ban] {w : World} (base : Nat) (room : Int) (hb : base ≤ w.heap.size) :
    Calls Try.prog 15 #[.int .i64 room] w (NewDisk base w { room := max room 0, full := false, now := [], safe := [], wait := [] }) := by
  have hmm := @run_makeMap Try.prog
  have hf : ∀ b, foot (w.heap.size + 1 + 1) w.heap.size (w.heap.size + 1) (.slice none 0 0) b → w.heap.size ≤ b := by
    rintro b (rfl | rfl | rfl | hb)
    · omega
    · omega
    · omega
    · simp [Value.ownBlock] at hb
  obtain ⟨r, hr⟩ : ∃ r, r = max room 0 := ⟨_, rfl⟩
  rw [← hr]
  have hd := new_world w base r hb
  by_cases h0 : room < 0
  · obtain rfl : r = 0 := by omega
    clear hr
    have HD := Lib.hid hd
    clear hd
    go_enter Try.func15, Try.ntmps15
    go_wp2
    go_ret
    exact ⟨_, _, _, _, rfl, HD.out, (((Keep.refl _ _).alloc _).alloc _).alloc _, hf⟩
  · obtain rfl : r = room := by omega
    clear hr
    have HD := Lib.hid hd
    clear hd
    go_enter Try.func15, Try.ntmps15
    go_wp2
    go_ret
    exact ⟨_, _, _, _, rfl, HD.out, (((Keep.refl _ _).alloc _).alloc _).alloc _, hf⟩

theorem callCells_append (c : CallS) (u : Value) : ∀ (l : List CallS) (us : List Value), us.length = l.length → callCells (l ++ [c]) (us ++ [u]) = callCells l us ++ [.int .u64 c.seg, u, .bool c.drop] := by
  intro l
  induction l with
  | nil => intro us h; obtain rfl := List.eq_nil_of_length_eq_zero h; rfl
  | cons x l ih =>
    intro us h
    cases us with
    | nil => simp at h
    | cons v us => simp only [List.cons_append, callCells, ih us (by simpa using h)]
theorem info_call : (Try.prog.info? 102).map (fun i => (i.zero, i.size, i.bytes)) = some (some (.agg #[.int .u64 0, .slice none 0 0, .bool false]), 3, 40) := by kernel_rfl

set_option maxRecDepth 100000 in
theorem do_spec [bn : Inhabited Ban] {base : Nat} {w : World} {p n s : Nat} {wv : Value} {d : DiskS} (h : DiskAt base w p n s wv d) (hb : base ≤ w.heap.size) (c : CallS) {u : Value} (hu : BytesAt base w u c.p)
    (hm : ((mget d.now c.seg).getD []).length + c.p.length ≤ 17592186044416) (hw : d.wait.length ≤ 1000000) :
    Calls Try.prog 56 #[.pointer (some ⟨p, 0, none⟩), .agg #[.int .u64 c.seg, u, .bool c.drop]] w fun e w' => e = .returned (.tuple #[]) ∧
      ∃ wv', DiskAt base w' p n s wv' { d with now := c.done d.now, wait := d.wait ++ [c] } ∧ Keep (foot p n s wv) w w' ∧ ∀ b, wv'.ownBlock = some b → wv.ownBlock = some b ∨ w.heap.size ≤ b := by
  obtain ⟨uo, uc, rfl⟩ := hu.form
  obtain ⟨wo, wc, rfl⟩ := h.wait.form
  have hk0 : Keep No w (w.alloc (.cells #[.int .u64 c.seg, .slice uo c.p.length uc, .bool c.drop] 102)) := (Keep.refl _ _).alloc _
  have hbox := heap_new w (.cells #[.int .u64 c.seg, .slice uo c.p.length uc, .bool c.drop] 102)
  have h1 := h.no hk0
  have hu1 := hu.no hk0
  obtain ⟨W, hW⟩ : ∃ W, W = w.alloc (.cells #[.int .u64 c.seg, .slice uo c.p.length uc, .bool c.drop] 102) := ⟨_, rfl⟩
  go_enter Try.func56, Try.ntmps56
  go_wp2
  rw [← hW] at hk0 hbox h1 hu1 ⊢
  clear hW
  have hp : w.heap.size ≠ p := fun e => by have := h.foot_lt p (.inl rfl); omega
  have hpn : n ≠ p := fun e => by have := h.blk; subst e; obtain ⟨_, _, hb, _⟩ := h.now; rw [this] at hb; cases hb
  refine wp_drawN (fun w' => w' = W.drew) [0, 1, 2, 3, 4] [] [5] (by kernel_rfl) (by kernel_rfl) (fun _ _ _ _ _ h => h) rfl ?_
  have c0 := cell_of hbox 0
  have c1 := cell_of hbox 1
  have c2 := cell_of hbox 2
  have d2 := cell_of h1.blk 2
  simp at c0 c1 c2 d2
  iterate 5 (refine earlyN_cons (v := ?_) rfl rfl rfl ?_ ?_; rotate_left; focus (
    rintro w' rfl
    go_simp
    try with_reducible rfl))
  refine earlyN_nil (midN_nil (tailN_cons rfl (tailN_nil ?_)))
  clear c0 c1 c2 d2
  have hdr : Keep No W W.drew := (Keep.refl _ _).drew
  have h2 := h1.no hdr
  have hu2 := hu1.no hdr
  have hbox2 := hdr.heap hbox (fun h => h)
  have hks := hk0.then hdr
  clear h1 hu1 hbox hdr hk0
  obtain ⟨W2, hW2⟩ : ∃ W2, W2 = W.drew := ⟨_, rfl⟩
  rw [← hW2] at h2 hu2 hbox2 hks ⊢
  clear hW2
  go_wp2_with (go_at_call 61; refine (done_spec c h2.now h.nb hu2 hm).mono ?_; rintro e w2 ⟨rfl, hm2, hk2⟩)
  -- behind the call: the map has turned, nothing else
  have hfn : Foot base W2 (· = n) := h2.now.foot h.nb
  have hp2 := hk2.heap h2.blk (fun e => hpn e.symm)
  have hbox3 := hk2.heap hbox2 (fun e => by have := h.now.lt; omega)
  have hu3 := hu2.keep hfn hk2
  have hs3 := h2.safe.keep hfn hk2 (fun e => h.ns e.symm)
  have hw3 := h2.wait.keep hfn hk2 (fun b hb e => by
    obtain ⟨us, _, _, _, hq⟩ := h2.wait
    obtain ⟨_, _, hmm, _⟩ := h2.now
    rcases hq with ⟨hq, _⟩ | ⟨g, cap, cur, hq, _, hq2, _⟩
    · rw [hq] at hb; simp [Value.ownBlock] at hb
    · rw [hq] at hb; simp [Value.ownBlock] at hb; subst hb; rw [← e, hq2] at hmm; cases hmm)
  have hkp2 : Keep (foot p n s (.slice wo d.wait.length wc)) w w2 := hks.no.trans hk2 (fun _ _ e => .inr (.inl e))
  clear hfn h2 hu2 hbox2 hks hk2
  have c0 := cell_of hbox3 0
  have c1 := cell_of hbox3 1
  have c2 := cell_of hbox3 2
  have d4 := cell_of hp2 4
  simp at c0 c1 c2 d4
  have hkind := hw3.kind
  have hfo := hw3.foot
  obtain ⟨us, hus, hub, hown⟩ := hw3
  have hnot : ∀ b, (Value.slice wo d.wait.length wc).ownBlock = some b → b ≠ p ∧ b ≠ w.heap.size ∧ b ≠ n ∧ b ≠ s := fun b hb => by
    obtain ⟨_, cur, hq⟩ := hkind b hb
    refine ⟨fun e => ?_, fun e => ?_, fun e => ?_, fun e => ?_⟩
    · rw [e, hp2] at hq; simp at hq
    · have := h.foot_lt b (.inr (.inr (.inr hb))); omega
    · obtain ⟨_, _, hz⟩ := hm2.kind; rw [e, hz] at hq; cases hq
    · obtain ⟨_, _, hz⟩ := hs3.kind; rw [e, hz] at hq; cases hq
  refine wp_drawN (fun w' => Keep (fun b => (Value.slice wo d.wait.length wc).ownBlock = some b) w2 w') [0, 1, 2, 3, 4, 5] [6, 7] [8, 9, 10] (by kernel_rfl) (by kernel_rfl) (fun _ _ _ _ _ h => h) (Keep.refl _ _).drew ?_
  iterate 6 (refine earlyN_cons (v := ?_) rfl rfl rfl ?_ ?_; rotate_left; focus (
    intro w' hS
    have c0' := hS.cell c0 (fun e => (hnot _ e).2.1 rfl)
    have c1' := hS.cell c1 (fun e => (hnot _ e).2.1 rfl)
    have c2' := hS.cell c2 (fun e => (hnot _ e).2.1 rfl)
    have d4' := hS.cell d4 (fun e => (hnot _ e).1 rfl)
    go_simp
    try with_reducible rfl))
  refine earlyN_nil ?_
  have hk3 : Keep No w2 (w2.alloc (.cells #[.int .u64 c.seg, .slice uo c.p.length uc, .bool c.drop] 102)).drew := ((Keep.refl _ _).alloc _).drew
  refine midN_cons rfl rfl (fun K hK => ?_)
  go_simp
  refine hK _ _ hk3.no ?_
  clear hK K
  refine midN_cons rfl rfl (fun K hK => ?_)
  obtain ⟨i0, hi0, hz0, hz1, hz2⟩ := info_parts info_call
  refine wp_append_lies _ _ _ _ rfl base 102 i0 _ 3 40 Try.underlying97 hi0 hz0 hz1 hz2 rfl (by omega) _ d.wait.length (callCells d.wait us) rfl ((hown.alloc _).drew)
    ⟨w2.heap.size, 0, none⟩ 1 1 [.int .u64 c.seg, .slice uo c.p.length uc, .bool c.drop] rfl rfl (World.news_of_block (cs := #[.int .u64 c.seg, .slice uo c.p.length uc, .bool c.drop]) (t := 102) (fr := (0, 0)) (heap_alloc_new w2 _)) (by simp [Value.oneCell'])
    (by omega) (by unfold maxLen; omega) (by omega) (by simp; have := hkp2.size; omega) (w2.heap.size + 1) (by simp) ?_
  intro g cap w3 hown3 hgrow hat hlt
  have hkS : Keep (fun b => (Value.slice wo d.wait.length wc).ownBlock = some b) w2 w3 := hk3.no.grown hgrow (fun k hk => .inl hk)
  refine hK _ _ hkS ?_
  clear hK K
  refine midN_nil (tailN_cons rfl (tailN_cons rfl (tailN_cons rfl (tailN_nil ?_))))
  have hp3 := hkS.heap hp2 (fun e => (hnot _ e).1 rfl)
  have d4' := cell_of hp3 4
  have f4' := frozen_of hp3 4
  simp at d4'
  have hu4 := hu3.keep hfo hkS
  have hm4 := hm2.keep hfo hkS (fun e => (hnot _ e).2.2.1 rfl)
  have hs4 := hs3.keep hfo hkS (fun e => (hnot _ e).2.2.2 rfl)
  have hub4 : ∀ (i : Nat) u c, us[i]? = some u → d.wait[i]? = some c → BytesAt base w3 u c.p := fun i u c h1 h2 => (hub i u c h1 h2).keep hfo hkS
  rw [← callCells_append c _ _ _ hus] at hown3
  have hgne : g ≠ p ∧ g ≠ n ∧ g ≠ s := by
    rcases hown3.2 with ⟨hq, _⟩ | ⟨g', cap', cur', hq, _, hq2, _⟩
    · cases hq
    · simp at hq
      obtain ⟨rfl, _⟩ := hq
      refine ⟨fun e => ?_, fun e => ?_, fun e => ?_⟩
      · rw [e, hp3] at hq2; simp at hq2
      · obtain ⟨_, _, hz⟩ := hm4.kind; rw [e, hz] at hq2; cases hq2
      · obtain ⟨_, _, hz⟩ := hs4.kind; rw [e, hz] at hq2; cases hq2
  have hkp3 : Keep (foot p n s (.slice wo d.wait.length wc)) w w3 := hkp2.trans hkS (fun _ _ e => .inr (.inr (.inr e)))
  have hsz := hkp2.size
  clear hown hub hu3 hm2 hs3 hkS hgrow hk3 hkp2 c0 c1 c2 d4 hbox3 hp2 hfo hkind hnot
  go_wp2
  go_end0
  refine ⟨rfl, .slice (some ⟨g, 0, none⟩) (d.wait.length + 1) cap, ?_, hkp3.setCell (.inl (.inl rfl)) _, fun b hb => ?_⟩
  · have hF : Foot base w3 (· = p) := by
      rintro b rfl
      exact ⟨h.pb, heap_lt hp3, fun cs fr e => by rw [hp3] at e; simp at e⟩
    have hk : Keep (· = p) w3 (w3.setCell ⟨p, 4, none⟩ (.slice (some ⟨g, 0, none⟩) (d.wait.length + 1) cap)) := Keep.setCell (F := (· = p)) (Keep.refl _ _) (p := ⟨p, 4, none⟩) (.inl rfl) _
    refine ⟨?_, hm4.keep hF hk hpn, hs4.keep hF hk (fun e => ?_), ?_, h.pb, h.nb, h.sb, h.ns⟩
    · have := heap_setCell_same (i := 4) (u := .slice (some ⟨g, 0, none⟩) (d.wait.length + 1) cap) hp3
      simpa using this
    · obtain ⟨_, _, hz⟩ := hs4.kind; rw [e, hp3] at hz; cases hz
    · refine WaitAt.keep ⟨us ++ [.slice uo c.p.length uc], by simp [hus], ?_, by simpa using hown3⟩ hF hk (fun b hb e => ?_)
      · intro i u c' h1 h2
        by_cases hi : i < us.length
        · rw [List.getElem?_append_left hi] at h1
          rw [List.getElem?_append_left (by simpa [← hus] using hi)] at h2
          exact hub4 i u c' h1 h2
        · rw [List.getElem?_append_right (by omega)] at h1
          rw [List.getElem?_append_right (by omega)] at h2
          rw [hus] at h1
          cases hj : i - d.wait.length with
          | zero => simp [hj] at h1 h2; subst h1 h2; exact hu4
          | succ j => simp [hj] at h1
      · simp [Value.ownBlock] at hb; exact hgne.1 (hb.trans e)
  · simp [Value.ownBlock] at hb
    subst hb
    rcases hat with hat | hat
    · exact .inl hat
    · right; omega
end Go.Proofs.Ytpjggnfiocplmaa

/-! ## DiskC -/
namespace Go.Proofs.Ytpjggnfiocplmaa
open Go Go.RowKit Go.Dr

theorem mget_le (m : AMap) (k : Int) : ((mget m k).getD []).length ≤ msum m := by
  induction m with
  | nil => simp [mget, msum]
  | cons e m ih =>
    simp only [mget, List.find?_cons] at ih ⊢
    cases h : (e.1 == k) with
    | true => simp [msum]
    | false => simp only [msum]; exact Nat.le_trans ih (by omega)

def DiskS.put (d : DiskS) (c : CallS) : DiskS := { d with now := c.done d.now, wait := d.wait ++ [c] }
def DiskS.append (d : DiskS) (seg : Int) (l : Bytes) : DiskS × Int :=
  if d.full then (d, 5) else if d.room - (msum d.now : Int) < (l.length : Int) then (d, 5) else (d.put ⟨seg, l, false⟩, 0)
def DiskS.drop (d : DiskS) (seg : Int) : DiskS × Int := if (mget d.now seg).isSome then (d.put ⟨seg, [], true⟩, 0) else (d, 4)

/-- The disk behind p is d' now; what was not its own is as it was. -/
def DiskPost [bn : Inhabited Ban] (base : Nat) (w : World) (p : Nat) (F : Nat → Prop) (d' : DiskS) (v : Value) (e : Ending) (w' : World) : Prop :=
  e = .returned v ∧ ∃ n s wv, DiskAt base w' p n s wv d' ∧ Keep F w w' ∧ ∀ b, foot p n s wv b → F b ∨ w.heap.size ≤ b
theorem DiskPost.of_no [bn : Inhabited Ban] {base : Nat} {w w' : World} {p n s : Nat} {wv : Value} {d : DiskS} (h : DiskAt base w p n s wv d) (k : Keep No w w') (v : Value) : DiskPost base w p (foot p n s wv) d v (.returned v) w' :=
  ⟨rfl, n, s, wv, h.no k, k.no, fun _ h => .inl h⟩

structure Small (d : DiskS) : Prop where
  room0 : 0 ≤ d.room
  room1 : d.room ≤ 1099511627776
  used : msum d.now ≤ 1099511627776
  wait : d.wait.length ≤ 1000000

set_option maxRecDepth 100000 in
set_option maxHeartbeats 1000000 in
theorem append_gen {bm : Inhabited Ban} [bn : Inhabited Ban] {base : Nat} {w : World} {p n s : Nat} {wv : Value} {d : DiskS} (h : DiskAt base w p n s wv d) (hb : base ≤ w.heap.size) (hsm : Small d) (seg : Int) {u : Value} {l : Bytes} (hu : BytesAt (bn := bm) base w u l)
    (hl : l.length ≤ 1099511627776) (hT : l ≠ [] → ban (bn := bn).top ≤ w.heap.size) :
    Calls Try.prog 17 #[.pointer (some ⟨p, 0, none⟩), .int .u64 seg, u] w (DiskPost base w p (foot p n s wv) (d.append seg l).1 (.int .i64 (d.append seg l).2)) := by
  obtain ⟨uo, uc, rfl⟩ := BytesAt.form (bn := bm) hu
  obtain ⟨room0, room1, used, hwait⟩ := hsm
  have d0 := cell_of h.blk 0
  have d1 := cell_of h.blk 1
  simp at d0 d1
  have hmg := mget_le d.now seg
  by_cases hf : d.full = true
  · have e1 : (d.append seg l) = (d, 5) := by simp [DiskS.append, hf]
    rw [e1]
    rw [hf] at d1
    clear e1 hf
    have HP := Lib.hid (DiskPost.of_no h (Keep.refl _ _) (.int .i64 5))
    clear h hu
    go_enter Try.func17, Try.ntmps17
    go_wp2
    go_ret
    exact HP.out
  · have hf' : d.full = false := by simpa using hf
    rw [hf'] at d1
    have hd0 : (0 : Int) ≤ (msum d.now : Int) := by omega
    have hd1 : (msum d.now : Int) ≤ 1099511627776 := by omega
    by_cases hlt : d.room - (msum d.now : Int) < (l.length : Int)
    · have e1 : (d.append seg l) = (d, 5) := by simp [DiskS.append, hf', hlt]
      rw [e1]
      clear e1 hf hf'
      go_enter Try.func17, Try.ntmps17
      go_wp2
      refine wp_drawN (fun w' => Keep No w w') [0, 1, 2, 3, 4, 5, 6] [7, 8] [9, 10] (by kernel_rfl) (by kernel_rfl) (fun _ _ _ _ _ h => h) (Keep.refl _ _).drew ?_
      iterate 7 (refine earlyN_cons (v := ?_) rfl rfl rfl ?_ ?_; rotate_left; focus (
        intro w' hS
        have d0' := hS.cell d0 (fun e => e)
        go_simp
        try with_reducible rfl))
      refine earlyN_nil (midN_cons rfl rfl (fun K hK => ?_))
      go_simp
      have hk0 : Keep No w w.drew := (Keep.refl _ _).drew
      refine (used_spec (h.no hk0) hb (by omega)).mono ?_
      rintro e w1 ⟨rfl, hk1⟩
      have hk2 := hk0.then hk1
      refine hK _ _ hk2 ?_
      clear hK K
      refine midN_cons rfl rfl (fun K hK => ?_)
      go_simp
      refine hK _ _ hk2 ?_
      clear hK K
      refine midN_nil (tailN_cons rfl (tailN_cons rfl (tailN_nil ?_)))
      have HP := Lib.hid (DiskPost.of_no h hk2 (.int .i64 5))
      clear h hu d0 d1 hk0 hk1 hk2 hmg
      go_wp2
      go_ret
      exact HP.out
    · have e1 : (d.append seg l) = (d.put ⟨seg, l, false⟩, 0) := by simp [DiskS.append, hf', hlt]
      rw [e1]
      clear e1 hf hf'
      go_enter Try.func17, Try.ntmps17
      go_wp2
      refine wp_drawN (fun w' => Keep No w w') [0, 1, 2, 3, 4, 5, 6] [7, 8] [9, 10] (by kernel_rfl) (by kernel_rfl) (fun _ _ _ _ _ h => h) (Keep.refl _ _).drew ?_
      iterate 7 (refine earlyN_cons (v := ?_) rfl rfl rfl ?_ ?_; rotate_left; focus (
        intro w' hS
        have d0' := hS.cell d0 (fun e => e)
        go_simp
        try with_reducible rfl))
      refine earlyN_nil (midN_cons rfl rfl (fun K hK => ?_))
      go_simp
      have hk0 : Keep No w w.drew := (Keep.refl _ _).drew
      refine (used_spec (h.no hk0) hb (by omega)).mono ?_
      rintro e w1 ⟨rfl, hk1⟩
      have hk2 := hk0.then hk1
      refine hK _ _ hk2 ?_
      clear hK K
      refine midN_cons rfl rfl (fun K hK => ?_)
      go_simp
      refine hK _ _ hk2 ?_
      clear hK K
      refine midN_nil (tailN_cons rfl (tailN_cons rfl (tailN_nil ?_)))
      have h1 := h.no hk2
      have hu1 := BytesAt.no (bn := bm) hu hk2
      have hT1 : l ≠ [] → ban (bn := bn).top ≤ w1.heap.size := fun hne => Nat.le_trans (hT hne) hk2.size
      have hb1 : base ≤ w1.heap.size := Nat.le_trans hb hk2.size
      have hfl := h.foot_lt
      clear h hu d0 d1 hk0 hk1
      go_wp2_with (first
        | (go_at_call 57; refine (clone_spec (bn := bm) hu1 (by omega)).mono ?_; rintro e w2 ⟨v2, rfl, hu2, hk3⟩; obtain ⟨vo, vc, rfl⟩ := hu2.form; have hdo := Lib.hid (do_spec (h1.no hk3) (Nat.le_trans hb1 hk3.size) ⟨seg, l, false⟩ (OwnB.bytes (bn := bn) hu2 hT1) (show ((mget d.now seg).getD []).length + l.length ≤ 17592186044416 from by omega) hwait))
        | (go_at_call 56; refine hdo.out.mono ?_; rintro e w3 ⟨rfl, wv', hd, hk4, hwv⟩))
      go_ret
      have hk5 := hk2.then hk3
      refine ⟨rfl, n, s, wv', hd, hk5.no.trans hk4 (fun _ _ h => h), fun b hb => ?_⟩
      rcases hb with hb | hb | hb | hb
      · exact .inl (.inl hb)
      · exact .inl (.inr (.inl hb))
      · exact .inl (.inr (.inr (.inl hb)))
      · rcases hwv b hb with hb | hb
        · exact .inl (.inr (.inr (.inr hb)))
        · right; have := hk5.size; omega

theorem append_spec [bn : Inhabited Ban] {base : Nat} {w : World} {p n s : Nat} {wv : Value} {d : DiskS} (h : DiskAt base w p n s wv d) (hb : base ≤ w.heap.size) (hsm : Small d) (seg : Int) {u : Value} {l : Bytes} (hu : BytesAt base w u l)
    (hl : l.length ≤ 1099511627776) :
    Calls Try.prog 17 #[.pointer (some ⟨p, 0, none⟩), .int .u64 seg, u] w (DiskPost base w p (foot p n s wv) (d.append seg l).1 (.int .i64 (d.append seg l).2)) :=
  append_gen h hb hsm seg hu hl hu.top

set_option maxRecDepth 100000 in
theorem drop_spec [bn : Inhabited Ban] {base : Nat} {w : World} {p n s : Nat} {wv : Value} {d : DiskS} (h : DiskAt base w p n s wv d) (hb : base ≤ w.heap.size) (hsm : Small d) (seg : Int) :
    Calls Try.prog 18 #[.pointer (some ⟨p, 0, none⟩), .int .u64 seg] w (DiskPost base w p (foot p n s wv) (d.drop seg).1 (.int .i64 (d.drop seg).2)) := by
  obtain ⟨room0, room1, used, hwait⟩ := hsm
  have d2 := cell_of h.blk 2
  simp at d2
  have hmg := mget_le d.now seg
  obtain ⟨v, hv, hlook⟩ := run_lookup h.now seg
  have hl := (hlook w rfl).2
  clear hlook
  cases hs : (mget d.now seg).isSome with
  | false =>
    have e1 : (d.drop seg) = (d, 4) := by simp [DiskS.drop, hs]
    rw [e1]
    rw [hs] at hl
    clear e1 hs
    have HP := Lib.hid (DiskPost.of_no h (Keep.refl _ _) (.int .i64 4))
    clear h hv
    go_enter Try.func18, Try.ntmps18
    go_wp2
    go_ret
    exact HP.out
  | true =>
    have e1 : (d.drop seg) = (d.put ⟨seg, [], true⟩, 0) := by simp [DiskS.drop, hs]
    rw [e1]
    rw [hs] at hl
    clear e1 hs hv
    go_enter Try.func18, Try.ntmps18
    have hdo := do_spec h hb ⟨seg, [], true⟩ (BytesAt.nil base w) (by simp only [List.length_nil]; omega) hwait
    simp only at hdo
    have HD := Lib.hid hdo
    clear hdo
    go_wp2_with (go_at_call 56; refine HD.out.mono ?_; rintro e w3 ⟨rfl, wv', hd, hk4, hwv⟩)
    go_ret
    refine ⟨rfl, n, s, wv', hd, hk4, fun b hb => ?_⟩
    rcases hb with hb | hb | hb | hb
    · exact .inl (.inl hb)
    · exact .inl (.inr (.inl hb))
    · exact .inl (.inr (.inr (.inl hb)))
    · rcases hwv b hb with hb | hb
      · exact .inl (.inr (.inr (.inr hb)))
      · exact .inr hb
end Go.Proofs.Ytpjggnfiocplmaa

/-! ## DiskD -/
namespace Go.Proofs.Ytpjggnfiocplmaa
open Go Go.RowKit Go.Dr

theorem run_conv [bn : Inhabited Ban] {base : Nat} {w : World} {v : Value} {l : Bytes} (h : BytesAt base w v l) : (convert 27 9 v).run Try.prog w = .ok (.string ⟨l.toArray⟩) w := by
  obtain ⟨ao, cap, rfl, h1, h2, h3, h4⟩ := h
  cases ao with
  | none =>
    obtain rfl := h3 rfl
    obtain rfl : l = [] := List.eq_nil_of_length_eq_zero (by omega)
    rw [run_convert_bytes_string w _ _ _ none _ _ Try.underlying27 Try.underlying5 Try.underlying9]
    rfl
  | some ad =>
    refine run_convert_bytes_back w _ _ _ ad cap l Try.underlying27 Try.underlying5 Try.underlying9 (fun j hj => ?_)
    obtain ⟨ad', e, _, hc⟩ := h4 j l[j] (List.getElem?_eq_getElem hj)
    cases e
    exact hc

theorem bequal_spec [bn : Inhabited Ban] {base : Nat} {w : World} {u v : Value} {l m : Bytes} (hu : BytesAt base w u l) (hv : BytesAt base w v m) :
    Calls Try.prog 59 #[u, v] w fun e w' => e = .returned (.bool (l == m)) ∧ w = w' := by
  have h1 := run_conv hu
  have h2 := run_conv hv
  have e : ∀ l : Bytes, ByteArray.toList ⟨l.toArray⟩ = l := fun l => ByteArray.toList_eq _
  have HE := Lib.hid e
  generalize h3 : (⟨l.toArray⟩ : ByteArray) = s1 at h1
  generalize h4 : (⟨m.toArray⟩ : ByteArray) = s2 at h2
  have H34 := Lib.hid (And.intro h3 h4)
  clear e hu hv h3 h4
  go_enter Try.func59, Try.ntmps59
  go_wp2
  go_ret
  refine ⟨?_, rfl⟩
  rw [← HE.out l, ← HE.out m, H34.out.1, H34.out.2]
  rfl

theorem wpList_len_map {w : World} {ops : Array Oper} {rest : List Oper} {o : Oper} {a : Act} {Q : Exit → Act → World → Prop}
    (hg : o.guard = none) (x : Operand) (hop : o.op = Op.call { callee := Callee.builtin Builtin.len, args := #[x], argTypes := #[96] })
    {r : Nat} {es : Array MapEntry} {c : Nat} (hb : w.heap[r]? = some (.map es c)) (hx : a.eval x = .map (some r))
    (hK : wpList Try.prog ops Q rest (a.put o.dst (.int .i64 (es.size : Nat))) w) : wpList Try.prog ops Q (o :: rest) a w := by
  refine wpList_plain hg fun K hK' => ?_
  unfold Oper.wp
  simp [execOp, hop, resolve, invoke, builtin, hx, Builtin.len_, run_underlying Try.underlying96, MapKept.run_getObj_map hb, Result.andThen, goInt]
  exact hK' _ _ hK

def msame (a b : AMap) : Bool := a.length == b.length && a.all (fun kv => mget b kv.1 == some kv.2)

theorem MapAt.len [bn : Inhabited Ban] {base : Nat} {w : World} {r : Nat} {m : AMap} (h : MapAt base w r m) : ∃ es clock, w.heap[r]? = some (.map es clock) ∧ es.size = m.length := by
  obtain ⟨es, c, h, he⟩ := h
  exact ⟨es, c, h, by simpa using he.len⟩
set_option maxRecDepth 100000 in
set_option maxHeartbeats 1000000 in
theorem meq_spec [bn : Inhabited Ban] {base : Nat} {w : World} {r1 r2 : Nat} {m1 m2 : AMap} (h1 : MapAt base w r1 m1) (h2 : MapAt base w r2 m2) (hb : base ≤ w.heap.size) :
    Calls Try.prog 58 #[.map (some r1), .map (some r2), .func (.func 59) #[] #[]] w fun e w' => e = .returned (.bool (msame m1 m2)) ∧ Keep No w w' := by
  obtain ⟨es1, k1, hb1, hs1⟩ := h1.len
  obtain ⟨es2, k2, hb2, hs2⟩ := h2.len
  by_cases hl : m1.length = m2.length
  · have hne : ((es1.size : Int) != (es2.size : Int)) = false := by rw [hs1, hs2, hl]; simp
    obtain ⟨o, hrun, hI⟩ := run_range h1
    have hk0 : Keep No w (w.alloc o) := (Keep.refl _ _).alloc _
    generalize hW : w.alloc o = W at hrun hI hk0
    have hkeys := h1.keys
    clear hs1 hs2 hW
    have HM := Lib.hid (And.intro hl (And.intro h1 h2))
    clear hl h1 h2
    go_enter Try.func58, Try.ntmps58
    go_wp2_with (first | (at_len; refine wpList_len_map rfl _ rfl hb1 rfl ?_) | (at_len; refine wpList_len_map rfl _ rfl hb2 rfl ?_))
    clear hrun hne
    go_loopw [7] (fun _ wr => ∃ left, IterAt base wr w.heap.size r1 m1 left ∧ Keys left ∧ (∀ kv ∈ m1, kv ∈ left ∨ mget m2 kv.1 = some kv.2) ∧ Keep No w wr) (fun _ wr => leftNum wr w.heap.size)
    case atStart => exact ⟨m1, hI, hkeys, fun kv h => .inl h, hk0⟩
    case round =>
      clear hI hk0 hkeys
      obtain ⟨left, hI, hkeys, hall, hkp⟩ := hrel
      have hnum := hI.num
      rcases run_next hI hb 0 with ⟨rfl, hrun⟩ | ⟨kv, hkv, v, w1, hv, hrun, hent, hI', hk'⟩
      · have HX := Lib.hid (And.intro hall hkp)
        clear hall hnum hI hkp
        go_wp2
        go_ret
        have e : msame m1 m2 = true := by
          simp only [msame, Bool.and_eq_true, beq_iff_eq, List.all_eq_true]
          exact ⟨HM.out.1, fun kv hkv => by rcases HX.out.1 kv hkv with h | h; cases h; exact h⟩
        exact ⟨by rw [e]; rfl, HX.out.2⟩
      · obtain ⟨vo, vc, rfl⟩ := hv.form
        have hlen := length_filter hkeys hkv
        have hnum' := hI'.num
        obtain ⟨v2, hv2, hlook⟩ := run_lookup HM.out.2.2 kv.1
        obtain ⟨v2o, v2c, rfl⟩ := hv2.form
        have hfi : Foot base wr (· = w.heap.size) := by
          rintro b rfl
          obtain ⟨es, clock, seen, hi, _⟩ := hI.ex
          exact ⟨hb, heap_lt hi, fun cs fr e => by rw [hi] at e; cases e⟩
        have hk2 : Keep No w w1 := hkp.trans hk' (fun y hy e => by have e : y = w.heap.size := e; omega)
        have hl2 := (hlook w1 (hk2.block r2 (heap_lt hb2) (fun h => h))).2
        have hv' := hv.keep hfi hk'
        have hv2' := hv2.no hk2
        have hin : kv ∈ m1 := by
          obtain ⟨es, clock, seen, _, _, he, hl⟩ := hI.ex
          rw [hl] at hkv
          obtain ⟨p, hp, rfl⟩ := List.mem_map.1 hkv
          exact (List.of_mem_zip (a := p.1) (b := p.2) (List.mem_filter.1 hp).1).2
        have HX := Lib.hid (And.intro hall (And.intro hlen (And.intro hnum (And.intro hnum' (And.intro hin hk2)))))
        clear hall hlen hnum hnum' hin hlook hfi hv2 hv hk' hkp hI hb1 hb2
        cases hg : mget m2 kv.1 with
        | none =>
          have e : msame m1 m2 = false := by
            rw [Bool.eq_false_iff]
            intro h
            simp only [msame, Bool.and_eq_true, beq_iff_eq, List.all_eq_true] at h
            have := h.2 kv HX.out.2.2.2.2.1
            rw [hg] at this
            cases this
          have E2 := Lib.hid e
          rw [hg] at hl2
          clear e hg hv' hv2'
          go_wp2
          go_ret
          exact ⟨by rw [E2.out]; rfl, HX.out.2.2.2.2.2⟩
        | some l2 =>
          rw [hg] at hl2 hv2'
          by_cases heq : kv.2 = l2
          · have hE := bequal_spec hv' hv2'
            have e : (kv.2 == (some l2).getD []) = true := by simp [heq]
            rw [e] at hE
            have HE := Lib.hid hE
            have HG := Lib.hid (And.intro hg heq)
            clear hE e hg heq hv' hv2'
            go_wp2_with (go_at_call 59; refine HE.out.mono ?_; rintro e w2 ⟨rfl, rfl⟩)
            go_roundw
            case rel =>
              refine ⟨_, hI', hkeys.filter _, fun kv' hkv' => ?_, HX.out.2.2.2.2.2⟩
              rcases HX.out.1 kv' hkv' with h | h
              · by_cases hkk : kv'.1 = kv.1
                · right
                  have : kv' = kv := pairwise_inj (f := fun a : Int × Bytes => a.1) hkeys kv' h kv hkv hkk
                  rw [this, HG.out.1, HG.out.2]
                · left; exact List.mem_filter.2 ⟨h, by simpa using hkk⟩
              · exact .inr h
            case measure =>
              have h1 := HX.out.2.1
              have h2 := HX.out.2.2.1
              have h3 := HX.out.2.2.2.1
              omega
          · have hE := bequal_spec hv' hv2'
            have e : (kv.2 == (some l2).getD []) = false := by simpa using heq
            rw [e] at hE
            have HE := Lib.hid hE
            have e2 : msame m1 m2 = false := by
              rw [Bool.eq_false_iff]
              intro h
              simp only [msame, Bool.and_eq_true, beq_iff_eq, List.all_eq_true] at h
              have := h.2 kv HX.out.2.2.2.2.1
              rw [hg] at this
              simp at this
              exact heq this.symm
            have E2 := Lib.hid e2
            clear hE e e2 hg heq hv' hv2'
            go_wp2_with (go_at_call 59; refine HE.out.mono ?_; rintro e w2 ⟨rfl, rfl⟩)
            go_ret
            exact ⟨by rw [E2.out]; rfl, HX.out.2.2.2.2.2⟩
  · have hne : ((es1.size : Int) != (es2.size : Int)) = true := by rw [hs1, hs2]; simp; omega
    have e : msame m1 m2 = false := by simp [msame, hl]
    rw [e]
    clear hs1 hs2 e hl h1 h2
    go_enter Try.func58, Try.ntmps58
    go_wp2_with (first | (at_len; refine wpList_len_map rfl _ rfl hb1 rfl ?_) | (at_len; refine wpList_len_map rfl _ rfl hb2 rfl ?_))
    go_ret
    exact ⟨rfl, Keep.refl _ _⟩
end Go.Proofs.Ytpjggnfiocplmaa

/-! ## DiskE -/
namespace Go.Proofs.Ytpjggnfiocplmaa
open Go Go.RowKit Go.Dr

set_option maxRecDepth 100000 in
set_option maxHeartbeats 1000000 in
theorem same_spec [bn : Inhabited Ban] {base : Nat} {w : World} {p n s p' n' s' : Nat} {wv wv' : Value} {d d' : DiskS} (h : DiskAt base w p n s wv d) (h' : DiskAt base w p' n' s' wv' d') (hb : base ≤ w.heap.size) :
    Calls Try.prog 19 #[.pointer (some ⟨p, 0, none⟩), .pointer (some ⟨p', 0, none⟩)] w fun e w' => e = .returned (.bool (msame d.now d'.now)) ∧ Keep No w w' := by
  have c2 := cell_of h.blk 2
  have c2' := cell_of h'.blk 2
  simp at c2 c2'
  have hk0 : Keep No w w.drew := (Keep.refl _ _).drew
  have hE := meq_spec (h.no hk0).now (h'.no hk0).now hb
  generalize msame d.now d'.now = b at *
  have HE := Lib.hid hE
  clear hE h h'
  go_enter Try.func19, Try.ntmps19
  go_wp2
  refine wp_drawN (fun w' => w' = w.drew) [0, 1, 2, 3, 4, 5, 6, 7] [] [8, 9] (by kernel_rfl) (by kernel_rfl) (fun _ _ _ _ _ h => h) rfl ?_
  iterate 8 (refine earlyN_cons (v := ?_) rfl rfl rfl ?_ ?_; rotate_left; focus (
    rintro w' rfl
    go_simp
    try with_reducible rfl))
  refine earlyN_nil (midN_nil (tailN_cons rfl (tailN_cons rfl (tailN_nil ?_))))
  go_wp2_with (go_at_call 58; refine HE.out.mono ?_; rintro e w2 ⟨rfl, hk⟩)
  go_ret
  exact ⟨rfl, hk0.then hk⟩

def DiskS.sync (d : DiskS) : DiskS := { d with safe := d.now, wait := [] }

set_option maxRecDepth 100000 in
theorem sync_spec [bn : Inhabited Ban] {base : Nat} {w : World} {p n s : Nat} {wv : Value} {d : DiskS} (h : DiskAt base w p n s wv d) (hb : base ≤ w.heap.size) :
    Calls Try.prog 22 #[.pointer (some ⟨p, 0, none⟩)] w (DiskPost base w p (foot p n s wv) d.sync (.int .i64 0)) := by
  have c2 := cell_of h.blk 2
  simp at c2
  go_enter Try.func22, Try.ntmps22
  go_wp2_with fail
  refine (mclone_spec h.now).mono ?_
  rintro e w1 ⟨r, rfl, hm, hr, hsz, hk⟩
  have h1 := h.no hk
  have hpr : p ≠ r := fun e => by have := h.foot_lt p (.inl rfl); omega
  have hnr : n ≠ r := fun e => by have := h.foot_lt n (.inr (.inl rfl)); omega
  have c3 := cell_of h1.blk 3
  have c4 := cell_of h1.blk 4
  have f3 := frozen_of h1.blk 3
  have f4 := frozen_of h1.blk 4
  simp at c3 c4
  have hblk := h1.blk
  have hF : Foot base w1 (· = p) := by
    rintro b rfl
    exact ⟨h.pb, heap_lt hblk, fun cs fr e => by rw [hblk] at e; simp at e⟩
  have hK : Keep (· = p) w1 ((w1.setCell ⟨p, 3, none⟩ (.map (some r))).setCell ⟨p, 4, none⟩ (.slice none 0 0)) :=
    Keep.setCell (F := (· = p)) (Keep.setCell (F := (· = p)) (Keep.refl _ _) (p := ⟨p, 3, none⟩) (.inl rfl) _) (p := ⟨p, 4, none⟩) (.inl rfl) _
  have hb2 := heap_setCell_same (i := 4) (u := .slice none 0 0) (heap_setCell_same (i := 3) (u := .map (some r)) hblk)
  have hn2 := h1.now.keep hF hK (fun e => by obtain ⟨_, _, hz⟩ := h1.now.kind; rw [e, hblk] at hz; cases hz)
  have hs2 := hm.keep hF hK (fun e => hpr e.symm)
  have HP : Hid (DiskPost base w p (foot p n s wv) d.sync (.int .i64 0) (.returned (.int .i64 0)) ((w1.setCell ⟨p, 3, none⟩ (.map (some r))).setCell ⟨p, 4, none⟩ (.slice none 0 0))) := by
    refine ⟨rfl, n, r, .slice none 0 0, ⟨by simpa [DiskS.sync] using hb2, hn2, hs2, WaitAt.nil _ _, h.pb, h.nb, by omega, hnr⟩, hk.no.trans hK (fun _ _ e => .inl e), ?_⟩
    rintro b (rfl | rfl | rfl | hq)
    · exact .inl (.inl rfl)
    · exact .inl (.inr (.inl rfl))
    · right; omega
    · simp [Value.ownBlock] at hq
  clear h h1 hm hblk hF hK hb2 hn2 hs2 hk hr hsz hpr hnr
  go_wp2
  go_ret
  exact HP.out

def ReadPost [bn : Inhabited Ban] (base : Nat) (w : World) (l : Bytes) (c : Int) (e : Ending) (w' : World) : Prop := ∃ v, e = .returned (.tuple #[v, .int .i64 c]) ∧ BytesAt base w' v l ∧ OwnB w' w.heap.size v l ∧ Keep No w w'
def DiskS.read (d : DiskS) (seg : Int) : Bytes × Int := match mget d.now seg with | some l => (l, 0) | none => ([], 4)

set_option maxRecDepth 100000 in
theorem read_spec [bn : Inhabited Ban] {base : Nat} {w : World} {p n s : Nat} {wv : Value} {d : DiskS} (h : DiskAt base w p n s wv d) (hu : msum d.now ≤ 1099511627776) (seg : Int) :
    Calls Try.prog 25 #[.pointer (some ⟨p, 0, none⟩), .int .u64 seg] w (ReadPost base w (d.read seg).1 (d.read seg).2) := by
  have d2 := cell_of h.blk 2
  simp at d2
  have hmg := mget_le d.now seg
  obtain ⟨v, hv, hlook⟩ := run_lookup h.now seg
  have hl := (hlook w rfl).2
  clear hlook
  cases hs : mget d.now seg with
  | none =>
    rw [hs] at hl hv
    have e1 : d.read seg = ([], 4) := by simp [DiskS.read, hs]
    rw [e1]
    have HP : Hid (ReadPost base w [] 4 (.returned (.tuple #[.slice none 0 0, .int .i64 4])) w) := ⟨_, rfl, BytesAt.nil _ _, OwnB.nil _ _, Keep.refl _ _⟩
    clear e1 hs h hv
    go_enter Try.func25, Try.ntmps25
    go_wp2
    go_ret2
    exact HP.out
  | some l =>
    rw [hs] at hl hv hmg
    have e1 : d.read seg = (l, 0) := by simp [DiskS.read, hs]
    rw [e1]
    have hv' : BytesAt base w v l := hv
    have hlen : l.length ≤ 35184372088832 := by simp at hmg; omega
    clear e1 hs h hv hmg
    go_enter Try.func25, Try.ntmps25
    go_wp2_with (go_at_call 57; refine (clone_spec hv' hlen).mono ?_; rintro e w2 ⟨v2, rfl, hu2, hk3⟩)
    go_ret2
    exact ⟨_, rfl, hu2.bytes hv'.top, hu2, hk3⟩

set_option maxRecDepth 100000 in
theorem full_spec [bn : Inhabited Ban] {base : Nat} {w : World} {p n s : Nat} {wv : Value} {d : DiskS} (h : DiskAt base w p n s wv d) (on : Bool) :
    Calls Try.prog 24 #[.pointer (some ⟨p, 0, none⟩), .bool on] w (DiskPost base w p (foot p n s wv) { d with full := on } (.tuple #[])) := by
  have hblk := h.blk
  have c1 := cell_of hblk 1
  have f1 := frozen_of hblk 1
  simp at c1
  have hF : Foot base w (· = p) := by
    rintro b rfl
    exact ⟨h.pb, heap_lt hblk, fun cs fr e => by rw [hblk] at e; simp at e⟩
  have hK : Keep (· = p) w (w.setCell ⟨p, 1, none⟩ (.bool on)) := Keep.setCell (F := (· = p)) (Keep.refl _ _) (p := ⟨p, 1, none⟩) (.inl rfl) _
  have hb2 := heap_setCell_same (i := 1) (u := .bool on) hblk
  have HP : Hid (DiskPost base w p (foot p n s wv) { d with full := on } (.tuple #[]) (.returned (.tuple #[])) (w.setCell ⟨p, 1, none⟩ (.bool on))) := by
    refine ⟨rfl, n, s, wv, ⟨by simpa using hb2, h.now.keep hF hK (fun e => ?_), h.safe.keep hF hK (fun e => ?_), h.wait.keep hF hK (fun b hb e => ?_), h.pb, h.nb, h.sb, h.ns⟩, hK.mono (fun _ _ e => .inl e), fun b hb => .inl hb⟩
    · obtain ⟨_, _, hz⟩ := h.now.kind; rw [e, hblk] at hz; cases hz
    · obtain ⟨_, _, hz⟩ := h.safe.kind; rw [e, hblk] at hz; cases hz
    · obtain ⟨_, cur, hz⟩ := h.wait.kind b hb; rw [e, hblk] at hz; simp at hz
  clear h hblk hF hK hb2
  go_enter Try.func24, Try.ntmps24
  go_wp2
  go_end0
  exact HP.out

theorem waiting_spec [bn : Inhabited Ban] {base : Nat} {w : World} {p n s : Nat} {wv : Value} {d : DiskS} (h : DiskAt base w p n s wv d) :
    Calls Try.prog 27 #[.pointer (some ⟨p, 0, none⟩)] w fun e w' => e = .returned (.int .i64 (d.wait.length : Nat)) ∧ w = w' := by
  obtain ⟨wo, wc, rfl⟩ := h.wait.form
  have c4 := cell_of h.blk 4
  simp at c4
  clear h
  go_enter Try.func27, Try.ntmps27
  go_wp2
  go_ret
  exact ⟨rfl, rfl⟩
theorem room_spec [bn : Inhabited Ban] {base : Nat} {w : World} {p n s : Nat} {wv : Value} {d : DiskS} (h : DiskAt base w p n s wv d) :
    Calls Try.prog 33 #[.pointer (some ⟨p, 0, none⟩)] w fun e w' => e = .returned (.int .i64 d.room) ∧ w = w' := by
  have c0 := cell_of h.blk 0
  simp at c0
  clear h
  go_enter Try.func33, Try.ntmps33
  go_wp2
  go_ret
  exact ⟨rfl, rfl⟩
end Go.Proofs.Ytpjggnfiocplmaa

/-! ## DiskF -/
namespace Go.Proofs.Ytpjggnfiocplmaa
open Go Go.RowKit Go.Dr

theorem run_min (w : World) (ts : Array TypeId) (ty : TypeId) (x y : Int) : (Builtin.min_ ts ty #[.int .i64 x, .int .i64 y]).run Try.prog w = .ok (.int .i64 (min x y)) w := by
  by_cases h : y < x
  · have e : min x y = y := by omega
    rw [e]
    simp [Builtin.min_, Builtin.min2, go_sem, h]
  · have e : min x y = x := by omega
    rw [e]
    simp [Builtin.min_, Builtin.min2, go_sem, h]
theorem wpList_min {w : World} {ops : Array Oper} {rest : List Oper} {o : Oper} {a : Act} {Q : Exit → Act → World → Prop} (x y : Int)
    (hg : o.guard = none) (s t : Operand) (hop : o.op = Op.call { callee := Callee.builtin Builtin.min, args := #[s, t], argTypes := #[3, 3] })
    (hs : a.eval s = .int .i64 x) (ht : a.eval t = .int .i64 y)
    (hK : wpList Try.prog ops Q rest (a.put o.dst (.int .i64 (min x y))) w) : wpList Try.prog ops Q (o :: rest) a w := by
  refine wpList_plain hg fun K hK' => ?_
  unfold Oper.wp
  simp [execOp, hop, resolve, invoke, builtin, hs, ht, run_min, Result.andThen]
  exact hK' _ _ hK
theorem run_max (w : World) (ts : Array TypeId) (ty : TypeId) (x y : Int) : (Builtin.max_ ts ty #[.int .i64 x, .int .i64 y]).run Try.prog w = .ok (.int .i64 (max x y)) w := by
  by_cases h : x < y
  · have e : max x y = y := by omega
    rw [e]
    simp [Builtin.max_, Builtin.max2, go_sem, h]
  · have e : max x y = x := by omega
    rw [e]
    simp [Builtin.max_, Builtin.max2, go_sem, h]
theorem wpList_max {w : World} {ops : Array Oper} {rest : List Oper} {o : Oper} {a : Act} {Q : Exit → Act → World → Prop} (x y : Int)
    (hg : o.guard = none) (s t : Operand) (hop : o.op = Op.call { callee := Callee.builtin Builtin.max, args := #[s, t], argTypes := #[3, 3] })
    (hs : a.eval s = .int .i64 x) (ht : a.eval t = .int .i64 y)
    (hK : wpList Try.prog ops Q rest (a.put o.dst (.int .i64 (max x y))) w) : wpList Try.prog ops Q (o :: rest) a w := by
  refine wpList_plain hg fun K hK' => ?_
  unfold Oper.wp
  simp [execOp, hop, resolve, invoke, builtin, hs, ht, run_max, Result.andThen]
  exact hK' _ _ hK

def wsum : List CallS → Nat
  | [] => 0
  | c :: l => c.p.length + wsum l
theorem msum_set (m : AMap) (k : Int) (l : Bytes) : msum (mset m k l) + ((mget m k).getD []).length = msum m + l.length := by
  induction m with
  | nil => simp [mset, msum, mget]
  | cons e m ih =>
    simp only [mget, List.find?_cons, mset] at ih ⊢
    cases h : (e.1 == k) with
    | true => simp [msum]; omega
    | false =>
      simp only [msum]
      simp only [Bool.false_eq_true, if_false, msum]
      omega
theorem msum_del (m : AMap) (k : Int) : msum (mdel m k) ≤ msum m := by
  induction m with
  | nil => simp [mdel, msum]
  | cons e m ih =>
    simp only [mdel]
    split
    · simp [msum]
    · simp [msum]; omega
theorem msum_done (c : CallS) (m : AMap) : msum (c.done m) ≤ msum m + c.p.length := by
  unfold CallS.done
  split
  · have := msum_del m c.seg; omega
  · have := msum_set m c.seg ((mget m c.seg).getD [] ++ c.p)
    simp at this ⊢
    omega
def doneAll (l : List CallS) (m : AMap) : AMap := l.foldl (fun m c => c.done m) m
theorem doneAll_take {l : List CallS} {k : Nat} {c : CallS} (h : l[k]? = some c) (m : AMap) : doneAll (l.take (k + 1)) m = c.done (doneAll (l.take k) m) := by
  obtain ⟨hk, rfl⟩ := List.getElem?_eq_some_iff.1 h
  unfold doneAll
  rw [List.take_succ_eq_append_getElem hk, List.foldl_append]
  rfl
theorem wsum_take {l : List CallS} {k : Nat} {c : CallS} (h : l[k]? = some c) : wsum (l.take (k + 1)) = wsum (l.take k) + c.p.length := by
  induction l generalizing k with
  | nil => simp at h
  | cons x l ih =>
    cases k with
    | zero => simp at h; subst h; simp [wsum]
    | succ k => simp [wsum, ih (by simpa using h)]; omega
theorem wsum_take_le (l : List CallS) (k : Nat) : wsum (l.take k) ≤ wsum l := by
  induction l generalizing k with
  | nil => simp [wsum]
  | cons x l ih =>
    cases k with
    | zero => simp [wsum]
    | succ k => simp [wsum]; exact ih k
theorem msum_doneAll (l : List CallS) (m : AMap) (k : Nat) : msum (doneAll (l.take k) m) ≤ msum m + wsum (l.take k) := by
  induction k with
  | zero => simp [doneAll]
  | succ k ih =>
    cases h : l[k]? with
    | none =>
      have : l.take (k + 1) = l.take k := by
        rw [List.take_of_length_le (by have := List.getElem?_eq_none_iff.1 h; omega), List.take_of_length_le (List.getElem?_eq_none_iff.1 h)]
      rw [this]; exact ih
    | some c =>
      rw [doneAll_take h, wsum_take h]
      have := msum_done c (doneAll (l.take k) m)
      omega

/-- What a crash leaves. -/
def crashMap (d : DiskS) (k : Nat) (torn : Int) : AMap :=
  match d.wait[k]? with
  | none => doneAll (d.wait.take k) d.safe
  | some c => if c.drop = false ∧ 0 < min torn ((c.p.length : Int) - 1) then CallS.done ⟨c.seg, c.p.take (min torn ((c.p.length : Int) - 1)).toNat, false⟩ (doneAll (d.wait.take k) d.safe) else doneAll (d.wait.take k) d.safe
def keepNum (d : DiskS) (keep : Int) : Nat := (min (max keep 0) (d.wait.length : Int)).toNat
def DiskS.crash (d : DiskS) (keep torn : Int) : DiskS :=
  { room := d.room, full := d.full, now := crashMap d (keepNum d keep) torn, safe := crashMap d (keepNum d keep) torn, wait := [] }

theorem callCells_at : ∀ {l : List CallS} {us : List Value}, us.length = l.length → ∀ {i : Nat} {c : CallS} {u : Value}, l[i]? = some c → us[i]? = some u →
    (callCells l us)[i * 3]? = some (.int .u64 c.seg) ∧ (callCells l us)[i * 3 + 1]? = some u ∧ (callCells l us)[i * 3 + 2]? = some (.bool c.drop) := by
  intro l
  induction l with
  | nil => intro us _ i c u h; simp at h
  | cons x l ih =>
    intro us hl i c u h1 h2
    cases us with
    | nil => simp at hl
    | cons v us =>
      cases i with
      | zero => simp at h1 h2; subst h1 h2; simp [callCells]
      | succ i =>
        have e : (i + 1) * 3 = i * 3 + 1 + 1 + 1 := by omega
        have := ih (us := us) (by simpa using hl) (i := i) (c := c) (u := u) (by simpa using h1) (by simpa using h2)
        simp only [callCells, e]
        refine ⟨?_, ?_, ?_⟩
        · simpa using this.1
        · simpa [Nat.add_assoc] using this.2.1
        · simpa [Nat.add_assoc] using this.2.2

theorem WaitAt.cap [bn : Inhabited Ban] {base : Nat} {w : World} {ao : Option Addr} {n cap : Nat} {l : List CallS} (h : WaitAt base w (.slice ao n cap) l) : l.length ≤ cap ∧ cap ≤ maxLen := by
  obtain ⟨us, _, _, _, hw⟩ := h
  rcases hw with ⟨h1, h0⟩ | ⟨g, cp, cur, hv, hbg, hg, h1, h2, h3, h4⟩
  · simp at h1; omega
  · simp at hv; omega
/-- The cells of what waits. -/
theorem WaitAt.cells [bn : Inhabited Ban] {base : Nat} {w : World} {ao : Option Addr} {n cap : Nat} {l : List CallS} (h : WaitAt base w (.slice ao n cap) l) (hn : 0 < l.length) :
    ∃ g, ao = some ⟨g, 0, none⟩ ∧ base ≤ g ∧ ∀ i c, l[i]? = some c → ∃ u, BytesAt base w u c.p ∧ w.cell? ⟨g, i * 3, none⟩ = some (.int .u64 c.seg) ∧ w.cell? ⟨g, i * 3 + 1, none⟩ = some u ∧ w.cell? ⟨g, i * 3 + 2, none⟩ = some (.bool c.drop) := by
  obtain ⟨us, hus, hb, hx, hw⟩ := h
  rcases hw with ⟨_, h0⟩ | ⟨g, cp, cur, hv, hbg, hg, h1, h2, h3, h4⟩
  · omega
  · simp only [Value.slice.injEq] at hv
    refine ⟨g, hv.1, hbg, fun i c hc => ?_⟩
    have hi : i < l.length := (List.getElem?_eq_some_iff.1 hc).1
    have hu : us[i]? = some us[i] := List.getElem?_eq_getElem (by omega)
    obtain ⟨e0, e1, e2⟩ := callCells_at hus hc hu
    have cell : ∀ j x, (callCells l us)[j]? = some x → w.cell? ⟨g, j, none⟩ = some x := by
      intro j x hj
      rw [cell_of hg]
      rw [← h4, List.getElem?_take] at hj
      split at hj
      · simpa using hj
      · cases hj
    exact ⟨us[i], hb i _ _ hu hc, cell _ _ e0, cell _ _ e1, cell _ _ e2⟩

set_option maxRecDepth 100000 in
set_option maxHeartbeats 2000000 in
theorem crash_spec [bn : Inhabited Ban] {base : Nat} {w : World} {p n s : Nat} {wv : Value} {d : DiskS} (h : DiskAt base w p n s wv d) (hb : base ≤ w.heap.size) (hs : msum d.safe + wsum d.wait ≤ 1099511627776) (hw : d.wait.length ≤ 1000000) (keep torn : Int)
    (_ht : (Lit.int .i64 torn).wf = true) :
    Calls Try.prog 20 #[.pointer (some ⟨p, 0, none⟩), .int .i64 keep, .int .i64 torn] w (NewDisk base w (d.crash keep torn)) := by
  obtain ⟨wo, wc, rfl⟩ := h.wait.form
  have c0 := cell_of h.blk 0
  have c1 := cell_of h.blk 1
  have c3 := cell_of h.blk 3
  have c4 := cell_of h.blk 4
  simp at c0 c1 c3 c4
  obtain ⟨k, hk⟩ : ∃ k : Nat, min (max keep 0) (d.wait.length : Int) = (k : Int) := ⟨(min (max keep 0) (d.wait.length : Int)).toNat, by omega⟩
  have hkn : keepNum d keep = k := by unfold keepNum; omega
  have hkl : k ≤ d.wait.length := by omega
  unfold DiskS.crash
  rw [hkn]
  clear hkn
  have HK := Lib.hid hk
  clear hk
  have hkc : (k : Int) ≤ (wc : Int) := by have := h.wait.cap.1; omega
  have hcm := h.wait.cap.2
  unfold maxLen at hcm
  have hcm' : (wc : Int) ≤ 9223372036854775807 := by omega
  go_enter Try.func20, Try.ntmps20
  go_wp2_with fail
  refine (mclone_spec h.safe).mono ?_
  rintro e w1 ⟨r, rfl, hm, hr, hsz, hk1⟩
  have hrw : w.heap.size ≤ r := by omega
  have HR := Lib.hid hr
  clear hr hsz
  have d0 := hk1.cell c0 (fun e => e)
  have d1 := hk1.cell c1 (fun e => e)
  have d4 := hk1.cell c4 (fun e => e)
  go_wp2_with (first | (refine wpList_max _ _ rfl _ _ rfl rfl rfl ?_) | (refine wpList_min _ _ rfl _ _ rfl rfl rfl ?_; rw [HK.out]))
  clear c0 c1 c3 c4
  go_loopw [34] (fun i wr => ∃ j : Nat, j ≤ k ∧ i = .int .i64 j ∧ MapAt base wr r (doneAll (d.wait.take j) d.safe) ∧ Keep No w wr) (fun i _ => k - (intOf i).toNat)
  case atStart => exact ⟨0, Nat.zero_le _, rfl, by simpa [doneAll] using hm, hk1⟩
  case round =>
    clear hm hk1 d0 d1 d4
    obtain ⟨j, hj, rfl, hm, hkp⟩ := hrel
    by_cases hlt : j < k
    · obtain ⟨g, rfl, hbg, hcells⟩ := h.wait.cells (by omega)
      have hcj : d.wait[j]? = some d.wait[j] := List.getElem?_eq_getElem (by omega)
      have hdt := doneAll_take hcj d.safe
      have hms := msum_doneAll d.wait d.safe j
      have hwt := wsum_take hcj
      have hwl := wsum_take_le d.wait (j + 1)
      obtain ⟨u, hu, e0, e1, e2⟩ := hcells j _ hcj
      generalize d.wait[j] = c at *
      have hmg := mget_le (doneAll (d.wait.take j) d.safe) c.seg
      have hbnd : ((mget (doneAll (d.wait.take j) d.safe) c.seg).getD []).length + c.p.length ≤ 17592186044416 := by omega
      generalize doneAll (d.wait.take j) d.safe = M at *
      obtain ⟨uo, uc, rfl⟩ := hu.form
      have e0 := hkp.cell e0 (fun e => e)
      have e1 := hkp.cell e1 (fun e => e)
      have e2 := hkp.cell e2 (fun e => e)
      have hu := hu.no hkp
      have hjk : (j : Int) < (k : Int) := by omega
      have hrb : base ≤ r := by omega
      have HX := Lib.hid (And.intro hdt (And.intro hbnd hlt))
      clear hdt hms hwt hwl hmg hcells hcj hbnd hlt hs hw
      go_wp2_with fail
      refine (done_spec c (hm.no ?_) hrb (hu.no ?_) HX.out.2.1).mono ?_
      · exact (Keep.refl _ _).alloc _
      · exact (Keep.refl _ _).alloc _
      rintro e w3 ⟨rfl, hm3, hk3⟩
      go_wp2
      go_roundw
      case rel => exact ⟨j + 1, by have := HX.out.2.2; omega, by go_num, by rw [HX.out.1]; exact hm3, (hkp.alloc _).trans hk3 (fun y hy e => by have e : y = r := e; omega)⟩
      case measure => have := HX.out.2.2; simp [intOf]; omega
    · obtain rfl : j = k := by omega
      clear hj hlt
      have c0 := cell_of h.blk 0
      have c1 := cell_of h.blk 1
      have c4 := cell_of h.blk 4
      simp at c0 c1 c4
      have d4 := hkp.cell c4 (fun e => e)
      have hrb : base ≤ r := by omega
      cases hcj : d.wait[j]? with
      | none =>
        have hge := List.getElem?_eq_none_iff.1 hcj
        have hjl : ¬ (j : Int) < (d.wait.length : Int) := by omega
        have hmF : MapAt base wr r (crashMap d j torn) := by
          have e : crashMap d j torn = doneAll (d.wait.take j) d.safe := by simp [crashMap, hcj]
          rw [e]; exact hm
        have hkF : Keep No w wr := hkp
        clear hm hge hcj hkl hkp
        go_wp2
        clear d4 c4 hjl hkc hcm hcm'
        have hWF : base ≤ wr.heap.size := Nat.le_trans hb hkF.size
        refine wp_drawN (fun w' => Keep No wr w') [0, 1, 2, 3, 4, 5, 6, 7, 8, 9] [10] [11, 12, 13] (by kernel_rfl) (by kernel_rfl) (fun _ _ _ _ _ h => h) (Keep.refl _ _).drew ?_
        have f0 := hkF.cell c0 (fun e => e)
        have f1 := hkF.cell c1 (fun e => e)
        iterate 10 (refine earlyN_cons (v := ?_) rfl rfl rfl ?_ ?_; rotate_left; focus (
          intro w' hS
          have f0' := hS.cell f0 (fun e => e)
          have f1' := hS.cell f1 (fun e => e)
          go_simp
          try with_reducible rfl))
        refine earlyN_nil (midN_cons rfl rfl (fun K hK => ?_))
        go_simp
        have hkD : Keep No wr wr.drew := (Keep.refl _ _).drew
        refine (mclone_spec (hmF.no hkD)).mono ?_
        rintro e w5 ⟨r5, rfl, hm5, hr5, hsz5, hk5⟩
        have hk6 := hkD.then hk5
        refine hK _ _ hk6 ?_
        clear hK K
        refine midN_nil (tailN_cons rfl (tailN_cons rfl (tailN_cons rfl (tailN_nil ?_))))
        have hmG := hmF.no hk6
        have hkG := hkF.then hk6
        have h5 : w.heap.size ≤ r5 := by rw [hr5]; exact Nat.le_trans hkF.size hkD.size
        have hrr5 : r ≠ r5 := by have := hmF.lt; have := hkD.size; omega
        have hb5 : base ≤ w5.heap.size := Nat.le_trans hb hkG.size
        have hbb := hkG.size
        clear hr5 hsz5 hkD hk5 hk6 hmF hkF f0 f1 hWF
        go_wp2
        go_ret
        have hkN : Keep No w5 (w5.alloc (.cells #[.int .i64 d.room, .bool d.full, .map (some r), .map (some r5), .slice none 0 0] 99)) := (Keep.refl _ _).alloc _
        refine ⟨w5.heap.size, r, r5, .slice none 0 0, rfl, ⟨heap_new w5 _, hmG.no hkN, hm5.no hkN, WaitAt.nil _ _, hb5, hrb, by omega, hrr5⟩, hkG.then hkN, ?_⟩
        rintro b (rfl | rfl | rfl | hq)
        · exact hbb
        · exact hrw
        · exact h5
        · simp [Value.ownBlock] at hq
      | some c =>
        have hlt := (List.getElem?_eq_some_iff.1 hcj).1
        obtain ⟨g, rfl, hbg, hcells⟩ := h.wait.cells (by omega)
        have hms := msum_doneAll d.wait d.safe j
        have hwt := wsum_take hcj
        have hwl := wsum_take_le d.wait (j + 1)
        obtain ⟨u, hu, e0, e1, e2⟩ := hcells j _ hcj
        have hmg := mget_le (doneAll (d.wait.take j) d.safe) c.seg
        have hbnd : ((mget (doneAll (d.wait.take j) d.safe) c.seg).getD []).length + c.p.length ≤ 17592186044416 := by omega
        obtain ⟨uo, uc, rfl⟩ := hu.form
        have e0 := hkp.cell e0 (fun e => e)
        have e1 := hkp.cell e1 (fun e => e)
        have e2 := hkp.cell e2 (fun e => e)
        have hu := hu.no hkp
        have hjk : (j : Int) < (d.wait.length : Int) := by omega
        have hkB : Keep No wr (wr.alloc (.cells #[.int .u64 c.seg, .slice uo c.p.length uc, .bool c.drop] 102)) := (Keep.refl _ _).alloc _
        have hp0 : (0 : Int) ≤ (c.p.length : Int) := by omega
        have hp1 : (c.p.length : Int) ≤ 1099511627776 := by omega
        obtain ⟨x, hx⟩ : ∃ x, min torn ((c.p.length : Int) - 1) = x := ⟨_, rfl⟩
        have HX := Lib.hid hx
        have hxl : x ≤ (c.p.length : Int) - 1 := by omega
        have hWF0 : base ≤ wr.heap.size := Nat.le_trans hb hkp.size
        cases hd : c.drop with
        | true =>
          have hmF : MapAt base (wr.alloc (.cells #[.int .u64 c.seg, .slice uo c.p.length uc, .bool true] 102)) r (crashMap d j torn) := by
            have e : crashMap d j torn = doneAll (d.wait.take j) d.safe := by simp [crashMap, hcj, hd]
            rw [e]; rw [hd] at hkB; exact hm.no hkB
          have hkF : Keep No w (wr.alloc (.cells #[.int .u64 c.seg, .slice uo c.p.length uc, .bool true] 102)) := by rw [hd] at hkB; exact hkp.then hkB
          rw [hd] at e2
          clear hm hlt hcells hms hwt hwl hmg hbnd hcj hkl hkB hx hd hs hw hxl
          go_wp2_with (refine wpList_min _ _ rfl _ _ rfl rfl rfl ?_; rw [HX.out])
          clear d4 c4 hkc hcm hcm' e0 e1 e2 hu hjk hp0 hp1 hkp
          generalize wr.alloc (.cells #[.int .u64 c.seg, .slice uo c.p.length uc, .bool true] 102) = W1 at hmF hkF ⊢
          have hWF : base ≤ W1.heap.size := Nat.le_trans hb hkF.size
          refine wp_drawN (fun w' => Keep No W1 w') [0, 1, 2, 3, 4, 5, 6, 7, 8, 9] [10] [11, 12, 13] (by kernel_rfl) (by kernel_rfl) (fun _ _ _ _ _ h => h) (Keep.refl _ _).drew ?_
          have f0 := hkF.cell c0 (fun e => e)
          have f1 := hkF.cell c1 (fun e => e)
          iterate 10 (refine earlyN_cons (v := ?_) rfl rfl rfl ?_ ?_; rotate_left; focus (
            intro w' hS
            have f0' := hS.cell f0 (fun e => e)
            have f1' := hS.cell f1 (fun e => e)
            go_simp
            try with_reducible rfl))
          refine earlyN_nil (midN_cons rfl rfl (fun K hK => ?_))
          go_simp
          have hkD : Keep No W1 W1.drew := (Keep.refl _ _).drew
          refine (mclone_spec (hmF.no hkD)).mono ?_
          rintro e w5 ⟨r5, rfl, hm5, hr5, hsz5, hk5⟩
          have hk6 := hkD.then hk5
          refine hK _ _ hk6 ?_
          clear hK K
          refine midN_nil (tailN_cons rfl (tailN_cons rfl (tailN_cons rfl (tailN_nil ?_))))
          have hmG := hmF.no hk6
          have hkG := hkF.then hk6
          have h5 : w.heap.size ≤ r5 := by rw [hr5]; exact Nat.le_trans hkF.size hkD.size
          have hrr5 : r ≠ r5 := by have := hmF.lt; have := hkD.size; omega
          have hb5 : base ≤ w5.heap.size := Nat.le_trans hb hkG.size
          have hbb := hkG.size
          clear hr5 hsz5 hkD hk5 hk6 hmF hkF f0 f1 hWF
          go_wp2
          go_ret
          have hkN : Keep No w5 (w5.alloc (.cells #[.int .i64 d.room, .bool d.full, .map (some r), .map (some r5), .slice none 0 0] 99)) := (Keep.refl _ _).alloc _
          refine ⟨w5.heap.size, r, r5, .slice none 0 0, rfl, ⟨heap_new w5 _, hmG.no hkN, hm5.no hkN, WaitAt.nil _ _, hb5, hrb, by omega, hrr5⟩, hkG.then hkN, ?_⟩
          rintro b (rfl | rfl | rfl | hq)
          · exact hbb
          · exact hrw
          · exact h5
          · simp [Value.ownBlock] at hq
        | false =>
          rw [hd] at e2 hkB
          by_cases hx0 : 0 < x
          · obtain ⟨xn, rfl⟩ : ∃ xn : Nat, x = (xn : Int) := ⟨x.toNat, by omega⟩
            have hxc : (xn : Int) ≤ (uc : Int) := by obtain ⟨ao, cp, hq, hq1, _⟩ := hu; simp at hq; omega
            have hut := (hu.no hkB).take xn (by omega)
            have hmB := hm.no hkB
            have e : crashMap d j torn = CallS.done ⟨c.seg, c.p.take xn, false⟩ (doneAll (d.wait.take j) d.safe) := by simp [crashMap, hcj, hd, hx]; intro h; omega
            have HE := Lib.hid e
            have hB0 : ((mget (doneAll (d.wait.take j) d.safe) c.seg).getD []).length + (c.p.take xn).length ≤ 17592186044416 := by simp; omega
            have hbox := heap_new wr (.cells #[.int .u64 c.seg, .slice uo c.p.length uc, .bool false] 102)
            have hkB2 := hkp.then hkB
            clear hm hlt hcells hms hwt hwl hmg hbnd hcj hkl hx hd hs hw hxl e
            go_wp2_with (refine wpList_min _ _ rfl _ _ rfl rfl rfl ?_; rw [HX.out])
            clear d4 c4 hkc hcm hcm' e0 e1 e2 hu hjk hp0 hp1 hkp hkB
            generalize hWW : wr.alloc (.cells #[.int .u64 c.seg, .slice uo c.p.length uc, .bool false] 102) = W1 at hut hmB hkB2 hbox ⊢
            have hdr : Keep No W1 W1.drew := (Keep.refl _ _).drew
            have b0 := cell_of hbox 0
            have b1 := cell_of hbox 1
            simp at b0 b1
            refine wp_drawN (fun w' => w' = W1.drew) [0, 1, 2, 3, 4, 5, 6, 7] [] [8] (by kernel_rfl) (by kernel_rfl) (fun _ _ _ _ _ h => h) rfl ?_
            iterate 8 (refine earlyN_cons (v := ?_) rfl rfl rfl ?_ ?_; rotate_left; focus (
              rintro w' rfl
              go_simp
              try with_reducible rfl))
            refine earlyN_nil (midN_nil (tailN_cons rfl (tailN_nil ?_)))
            have HD := Lib.hid (done_spec ⟨c.seg, c.p.take xn, false⟩ (hmB.no hdr) hrb (hut.no hdr) hB0)
            have hkB3 := hkB2.then hdr
            clear b0 b1 hbox hWW hut hmB hdr hkB2
            go_wp2_with (go_at_call 61; refine HD.out.mono ?_; rintro e w3 ⟨rfl, hm3, hk3⟩)
            have hmF : MapAt base w3 r (crashMap d j torn) := by rw [HE.out]; exact hm3
            have hkF : Keep No w w3 := hkB3.trans hk3 (fun y hy e => by have e : y = r := e; omega)
            have hWF : base ≤ w3.heap.size := Nat.le_trans hb hkF.size
            clear hm3 hk3 hkB3 hxc hx0
            refine wp_drawN (fun w' => Keep No w3 w') [0, 1, 2, 3, 4, 5, 6, 7, 8, 9] [10] [11, 12, 13] (by kernel_rfl) (by kernel_rfl) (fun _ _ _ _ _ h => h) (Keep.refl _ _).drew ?_
            have f0 := hkF.cell c0 (fun e => e)
            have f1 := hkF.cell c1 (fun e => e)
            iterate 10 (refine earlyN_cons (v := ?_) rfl rfl rfl ?_ ?_; rotate_left; focus (
              intro w' hS
              have f0' := hS.cell f0 (fun e => e)
              have f1' := hS.cell f1 (fun e => e)
              go_simp
              try with_reducible rfl))
            refine earlyN_nil (midN_cons rfl rfl (fun K hK => ?_))
            go_simp
            have hkD : Keep No w3 w3.drew := (Keep.refl _ _).drew
            refine (mclone_spec (hmF.no hkD)).mono ?_
            rintro e w5 ⟨r5, rfl, hm5, hr5, hsz5, hk5⟩
            have hk6 := hkD.then hk5
            refine hK _ _ hk6 ?_
            clear hK K
            refine midN_nil (tailN_cons rfl (tailN_cons rfl (tailN_cons rfl (tailN_nil ?_))))
            have hmG := hmF.no hk6
            have hkG := hkF.then hk6
            have h5 : w.heap.size ≤ r5 := by rw [hr5]; exact Nat.le_trans hkF.size hkD.size
            have hrr5 : r ≠ r5 := by have := hmF.lt; have := hkD.size; omega
            have hb5 : base ≤ w5.heap.size := Nat.le_trans hb hkG.size
            have hbb := hkG.size
            clear hr5 hsz5 hkD hk5 hk6 hmF hkF f0 f1 hWF
            go_wp2
            go_ret
            have hkN : Keep No w5 (w5.alloc (.cells #[.int .i64 d.room, .bool d.full, .map (some r), .map (some r5), .slice none 0 0] 99)) := (Keep.refl _ _).alloc _
            refine ⟨w5.heap.size, r, r5, .slice none 0 0, rfl, ⟨heap_new w5 _, hmG.no hkN, hm5.no hkN, WaitAt.nil _ _, hb5, hrb, by omega, hrr5⟩, hkG.then hkN, ?_⟩
            rintro b (rfl | rfl | rfl | hq)
            · exact hbb
            · exact hrw
            · exact h5
            · simp [Value.ownBlock] at hq
          · have hmF : MapAt base (wr.alloc (.cells #[.int .u64 c.seg, .slice uo c.p.length uc, .bool false] 102)) r (crashMap d j torn) := by
              have e : crashMap d j torn = doneAll (d.wait.take j) d.safe := by simp [crashMap, hcj, hd, hx, hx0]
              rw [e]; exact hm.no hkB
            have hkF : Keep No w (wr.alloc (.cells #[.int .u64 c.seg, .slice uo c.p.length uc, .bool false] 102)) := hkp.then hkB
            clear hm hlt hcells hms hwt hwl hmg hbnd hcj hkl hkB hx hd hs hw hxl
            go_wp2_with (refine wpList_min _ _ rfl _ _ rfl rfl rfl ?_; rw [HX.out])
            clear d4 c4 hkc hcm hcm' e0 e1 e2 hu hjk hp0 hp1 hkp hx0
            generalize wr.alloc (.cells #[.int .u64 c.seg, .slice uo c.p.length uc, .bool false] 102) = W1 at hmF hkF ⊢
            have hWF : base ≤ W1.heap.size := Nat.le_trans hb hkF.size
            refine wp_drawN (fun w' => Keep No W1 w') [0, 1, 2, 3, 4, 5, 6, 7, 8, 9] [10] [11, 12, 13] (by kernel_rfl) (by kernel_rfl) (fun _ _ _ _ _ h => h) (Keep.refl _ _).drew ?_
            have f0 := hkF.cell c0 (fun e => e)
            have f1 := hkF.cell c1 (fun e => e)
            iterate 10 (refine earlyN_cons (v := ?_) rfl rfl rfl ?_ ?_; rotate_left; focus (
              intro w' hS
              have f0' := hS.cell f0 (fun e => e)
              have f1' := hS.cell f1 (fun e => e)
              go_simp
              try with_reducible rfl))
            refine earlyN_nil (midN_cons rfl rfl (fun K hK => ?_))
            go_simp
            have hkD : Keep No W1 W1.drew := (Keep.refl _ _).drew
            refine (mclone_spec (hmF.no hkD)).mono ?_
            rintro e w5 ⟨r5, rfl, hm5, hr5, hsz5, hk5⟩
            have hk6 := hkD.then hk5
            refine hK _ _ hk6 ?_
            clear hK K
            refine midN_nil (tailN_cons rfl (tailN_cons rfl (tailN_cons rfl (tailN_nil ?_))))
            have hmG := hmF.no hk6
            have hkG := hkF.then hk6
            have h5 : w.heap.size ≤ r5 := by rw [hr5]; exact Nat.le_trans hkF.size hkD.size
            have hrr5 : r ≠ r5 := by have := hmF.lt; have := hkD.size; omega
            have hb5 : base ≤ w5.heap.size := Nat.le_trans hb hkG.size
            have hbb := hkG.size
            clear hr5 hsz5 hkD hk5 hk6 hmF hkF f0 f1 hWF
            go_wp2
            go_ret
            have hkN : Keep No w5 (w5.alloc (.cells #[.int .i64 d.room, .bool d.full, .map (some r), .map (some r5), .slice none 0 0] 99)) := (Keep.refl _ _).alloc _
            refine ⟨w5.heap.size, r, r5, .slice none 0 0, rfl, ⟨heap_new w5 _, hmG.no hkN, hm5.no hkN, WaitAt.nil _ _, hb5, hrb, by omega, hrr5⟩, hkG.then hkN, ?_⟩
            rintro b (rfl | rfl | rfl | hq)
            · exact hbb
            · exact hrw
            · exact h5
            · simp [Value.ownBlock] at hq
end Go.Proofs.Ytpjggnfiocplmaa

/-! ## RefA -/
namespace Go.Proofs.Ytpjggnfiocplmaa
open Go Go.RowKit Go.Dr

set_option maxRecDepth 100000 in
theorem join_spec [bn : Inhabited Ban] {base : Nat} {w : World} {v : Value} {ls : List Bytes} (h : SlicesAt base w v ls) (hl : ls.flatten.length ≤ 35184372088832) :
    Calls Try.prog 32 #[v] w fun e w' => ∃ v', e = .returned v' ∧ OwnB w' w.heap.size v' ls.flatten ∧ Keep No w w' := by
  obtain ⟨us, hus, hbs, ao, cap, rfl, hlc, hcm, hcells⟩ := h
  unfold maxLen at hcm
  have hn : (ls.length : Int) ≤ 9223372036854775807 := by omega
  have HU := Lib.hid hus
  clear hus
  go_enter Try.func32, Try.ntmps32
  go_wp2
  go_loopw [3, 8] (fun v i wr => ∃ k : Nat, k ≤ ls.length ∧ i = .int .i64 k ∧ OwnB wr w.heap.size v (catB ls k) ∧ Keep No w wr) (fun _ i _ => ls.length - (intOf i).toNat)
  case atStart => exact ⟨0, Nat.zero_le _, rfl, by rw [catB_zero]; exact OwnB.nil _ _, Keep.refl _ _⟩
  case round =>
    obtain ⟨k, hk, rfl, hown, hkp⟩ := hrel
    by_cases hlt : k < ls.length
    · rcases hcells with rfl | ⟨g, o, rfl, hcells⟩
      · simp at hlt
      · have hku : k < us.length := by have := HU.out; omega
        have hc := hkp.cell (hcells k us[k] (List.getElem?_eq_getElem hku)) (fun h => h)
        have hlk : ls[k]? = some ls[k] := List.getElem?_eq_getElem hlt
        have hb := (hbs k _ _ (List.getElem?_eq_getElem hku) hlk).no hkp
        have hs := catB_succ hlk
        have hle := catLen_le ls (k + 1)
        rw [catLen_succ hlk] at hle
        unfold catLen at hle
        have hki : (k : Int) < (ls.length : Int) := by omega
        have HS := Lib.hid hs
        generalize us[k] = u at *
        generalize ls[k] = l at *
        clear hs hbs hcells hlk
        have hBs := hkp.size
        go_wp2_with (at_builtin; refine wpList_append_bytes rfl _ _ rfl w.heap.size hown hb rfl rfl (by omega) hBs ?_; intro v' w' hown' hk')
        go_roundw
        case rel => exact ⟨k + 1, by omega, by go_num, by rw [HS.out]; exact hown', hkp.trans hk' (fun x hx hxx => by have := (hown.lt x hxx).1; omega)⟩
        case measure => simp [intOf]; omega
    · have hki : ¬ (k : Int) < (ls.length : Int) := by omega
      obtain rfl : k = ls.length := by omega
      clear hki hlt hk
      go_wp2
      go_ret
      exact ⟨_, rfl, by rw [← catB_all]; exact hown, hkp⟩

set_option maxRecDepth 100000 in
theorem cut_spec [bn : Inhabited Ban] {base : Nat} {w : World} {v : Value} {l : Bytes} (h : BytesAt base w v l) (most : Nat) (hm : most ≤ 1000000) :
    Calls Try.prog 16 #[v, .int .i64 most] w fun e w' => ∃ v', e = .returned v' ∧ OwnB w' w.heap.size v' (l.take most) ∧ Keep No w w' := by
  obtain ⟨ao, cap, rfl⟩ := h.form
  have hcap : l.length ≤ cap ∧ cap ≤ maxLen := by obtain ⟨_, _, hq, h1, h2, _⟩ := h; simp at hq; omega
  unfold maxLen at hcap
  obtain ⟨hc1, hc2⟩ := hcap
  have hmi : (most : Int) ≤ 1000000 := by omega
  have hfin : ∀ (n : Nat) (l' : Bytes), BytesAt base w (.slice ao n cap) l' → l'.length ≤ 35184372088832 → Hid (Calls Try.prog 32 #[.slice (some ⟨w.heap.size, 0, none⟩) 1 1] (w.alloc (.cells #[.slice ao n cap] 27)) fun e w' => ∃ v', e = .returned v' ∧ OwnB w' (w.heap.size + 1) v' l' ∧ Keep No w w') := by
    intro n l' hb hl'
    have hk : Keep No w (w.alloc (.cells #[.slice ao n cap] 27)) := (Keep.refl _ _).alloc _
    have hs : SlicesAt base (w.alloc (.cells #[.slice ao n cap] 27)) (.slice (some ⟨w.heap.size, 0, none⟩) 1 1) [l'] :=
      SlicesAt.of_block (heap_new w _) [l'] rfl (by simp [maxLen]) (fun i u l'' h1 h2 => by
        match i, h1, h2 with
        | 0, h1, h2 => simp at h1 h2; subst h1 h2; exact hb.no hk)
    refine (join_spec hs (by simpa using hl')).mono ?_
    rintro e w' ⟨v', he, ho, hk'⟩
    exact ⟨v', he, by simpa using ho, hk.then hk'⟩
  by_cases hlt : most < l.length
  · have hli : (most : Int) < (l.length : Int) := by omega
    have HF := hfin most (l.take most) (h.take most (by omega)) (by simp; omega)
    have hci : (most : Int) ≤ (cap : Int) := by omega
    clear hfin h
    go_enter Try.func16, Try.ntmps16
    go_wp2_with (go_at_call 32; refine HF.out.mono ?_; rintro e w2 ⟨v2, rfl, ho, hk⟩)
    go_ret
    exact ⟨_, rfl, ⟨ho.1, by
      rcases ho.2 with ho | ⟨g, cap', cur, hv, hb, hr⟩
      · exact .inl ho
      · exact .inr ⟨g, cap', cur, hv, by omega, hr⟩⟩, hk⟩
  · have hli : ¬ (most : Int) < (l.length : Int) := by omega
    have e : l.take most = l := List.take_of_length_le (by omega)
    rw [e]
    have HF := hfin l.length l h (by omega)
    clear hfin h e
    go_enter Try.func16, Try.ntmps16
    go_wp2_with (go_at_call 32; refine HF.out.mono ?_; rintro e w2 ⟨v2, rfl, ho, hk⟩)
    go_ret
    exact ⟨_, rfl, ⟨ho.1, by
      rcases ho.2 with ho | ⟨g, cap', cur, hv, hb, hr⟩
      · exact .inl ho
      · exact .inr ⟨g, cap', cur, hv, by omega, hr⟩⟩, hk⟩
end Go.Proofs.Ytpjggnfiocplmaa

/-! ## Awake6 -/
namespace Go.Proofs.Ytpjggnfiocplmaa
open Go Go.RowKit Go.Dr

theorem Keep.absorb {F : Nat → Prop} {a b c : World} (h : Keep No a b) (k : Keep F b c) (hF : ∀ x, F x → a.heap.size ≤ x) : Keep No a c :=
  h.trans k (fun x hx hf => by have := hF x hf; omega)
theorem BytesAt.of_block [bn : Inhabited Ban] {base : Nat} {w : World} {g : Nat} {fr : Nat × Nat} (l : Bytes) (h : w.heap[g]? = some (.cells (l.map u8v).toArray 5 fr)) (hl : l.length ≤ maxLen) (hT : ban.top ≤ g) :
    BytesAt base w (.slice (some ⟨g, 0, none⟩) l.length l.length) l := by
  refine ⟨_, _, rfl, Nat.le_refl _, hl, fun h => (by cases h), fun i x hx => ⟨_, rfl, ⟨heap_lt h, .inr ⟨_, _, h⟩, fun hz => ?_, ?_⟩, ?_⟩⟩
  · have h5 : g < ban.top := ban.lt _ hz
    omega
  · have := heap_lt h
    omega
  rw [Addr.add_lit, cell_of h]
  simp [hx]

def aw0 : DiskS := { room := 100, full := false, now := [], safe := [], wait := [] }
def aw1 : DiskS := { room := 100, full := false, now := [(1, [97, 98])], safe := [], wait := [⟨1, [97, 98], false⟩] }
def aw2 : DiskS := { room := 100, full := false, now := [(1, [97, 98])], safe := [(1, [97, 98])], wait := [] }
def aw3 : DiskS := { room := 100, full := false, now := [(1, [97, 98, 99, 100])], safe := [(1, [97, 98])], wait := [⟨1, [99, 100], false⟩] }
def aw4 : DiskS := { room := 100, full := false, now := [(1, [97, 98, 99])], safe := [(1, [97, 98, 99])], wait := [] }
theorem aw01 : aw0.append 1 [97, 98] = (aw1, 0) := rfl
theorem aw12 : aw1.sync = aw2 := rfl
theorem aw23 : aw2.append 1 [99, 100] = (aw3, 0) := rfl
theorem aw34 : aw3.crash 0 1 = aw4 := rfl
theorem aw4r : aw4.read 1 = ([97, 98, 99], 0) := rfl

set_option maxRecDepth 100000 in
set_option maxHeartbeats 1000000 in
theorem awake6_spec [bn : Inhabited Ban] {w : World} (hT : ban.top ≤ w.heap.size) : Calls Try.prog 14 #[] w fun e w' => e = .returned (.bool true) ∧ Keep No w w' := by
  have kc := fun (w : World) (C : Array Value) (n c : Nat) => Lib.run_convert_bytes_const (P := Try.prog) w 27 5 C n c Try.underlying27 Try.underlying5
  go_enter Try.func14, Try.ntmps14
  go_wp2_with fail
  refine (new_spec w.heap.size 100 (Nat.le_refl _)).mono ?_
  rintro e w1 ⟨p, n, s, wv, rfl, h1, k1, f1⟩
  change DiskAt w.heap.size w1 p n s wv aw0 at h1
  go_wp2_with fail
  have kA : Keep No w1 (w1.alloc (.cells #[.int .u8 97, .int .u8 98] 5 (2, 3))) := (Keep.refl _ _).alloc _
  have hA := append_spec (h1.no kA) (Nat.le_trans k1.size kA.size) ⟨by decide, by decide, by decide, by decide⟩ 1 (BytesAt.of_block [97, 98] (heap_new w1 (.cells #[.int .u8 97, .int .u8 98] 5 (2, 3))) (by decide) (Nat.le_trans hT k1.size)) (by decide)
  rw [aw01] at hA
  refine hA.mono ?_
  rintro e w2 ⟨rfl, n2, s2, wv2, h2, k2, f2⟩
  have hk2 := (k1.then kA).absorb k2 f1
  have f2 : ∀ b, foot p n2 s2 wv2 b → w.heap.size ≤ b := fun b hb => by rcases f2 b hb with h | h; exact f1 b h; have := k1.size; have := kA.size; omega
  clear h1 k1 f1 kA hA k2
  go_wp2_with fail
  have hS := sync_spec h2 hk2.size
  rw [aw12] at hS
  refine hS.mono ?_
  rintro e w3 ⟨rfl, n3, s3, wv3, h3, k3, f3⟩
  have hk3 := hk2.absorb k3 f2
  have f3 : ∀ b, foot p n3 s3 wv3 b → w.heap.size ≤ b := fun b hb => by rcases f3 b hb with h | h; exact f2 b h; have := hk2.size; omega
  clear h2 hS k3 f2 hk2
  go_wp2_with fail
  have kA : Keep No w3 (w3.alloc (.cells #[.int .u8 99, .int .u8 100] 5 (2, 3))) := (Keep.refl _ _).alloc _
  have hA := append_spec (h3.no kA) (Nat.le_trans hk3.size kA.size) ⟨by decide, by decide, by decide, by decide⟩ 1 (BytesAt.of_block [99, 100] (heap_new w3 (.cells #[.int .u8 99, .int .u8 100] 5 (2, 3))) (by decide) (Nat.le_trans hT hk3.size)) (by decide)
  rw [aw23] at hA
  refine hA.mono ?_
  rintro e w4 ⟨rfl, n4, s4, wv4, h4, k4, f4⟩
  have hk4 := (hk3.then kA).absorb k4 f3
  clear h3 kA hA k4 f3 hk3 f4
  go_wp2_with fail
  have hC := crash_spec h4 hk4.size (by decide) (by decide) 0 1 (by decide)
  rw [aw34] at hC
  refine hC.mono ?_
  rintro e w5 ⟨p5, n5, s5, wv5, rfl, h5, k5, f5⟩
  have hk5 := hk4.then k5
  clear h4 hC hk4 k5 f5
  go_wp2_with fail
  have hR := read_spec h5 (by decide) 1
  rw [aw4r] at hR
  refine hR.mono ?_
  rintro e w6 ⟨v, rfl, hv, _, k6⟩
  have hk6 := hk5.then k6
  have hc := run_conv hv
  clear h5 hR hk5 k6 hv
  go_wp2
  go_ret
  exact ⟨rfl, hk6⟩
end Go.Proofs.Ytpjggnfiocplmaa

/-! ## Copy -/
namespace Go.Proofs.Ytpjggnfiocplmaa
open Go Go.RowKit Go.Dr

/-! ### The ban -/
theorem MapAt.banned [bn : Inhabited Ban] {base : Nat} {w w' : World} {r : Nat} {m : AMap} (h : MapAt base w r m) (k : Keep ban.Z w w') (hr : ¬ ban.Z r) : MapAt base w' r m := by
  obtain ⟨es, clock, hb, he⟩ := h
  exact ⟨es, clock, k.heap hb hr, he.len, fun p hp => ⟨(he.all p hp).1, (he.all p hp).2.banned k⟩, he.born, he.clock, he.keys⟩
theorem WaitAt.banned [bn : Inhabited Ban] {base : Nat} {w w' : World} {wv : Value} {l : List CallS} (h : WaitAt base w wv l) (k : Keep ban.Z w w') (hn : ∀ b, wv.ownBlock = some b → ¬ ban.Z b) : WaitAt base w' wv l := by
  obtain ⟨us, h1, h2, h3, h4⟩ := h
  refine ⟨us, h1, fun i u c hu hc => (h2 i u c hu hc).banned k, h3, ?_⟩
  rcases h4 with h4 | ⟨g, cap, cur, rfl, h5, h6, h7⟩
  · exact .inl h4
  · exact .inr ⟨g, cap, cur, rfl, h5, k.heap h6 (hn g rfl), h7⟩
theorem DiskAt.banned [bn : Inhabited Ban] {base : Nat} {w w' : World} {p n s : Nat} {wv : Value} {d : DiskS} (h : DiskAt base w p n s wv d) (k : Keep ban.Z w w') (hn : ∀ b, foot p n s wv b → ¬ ban.Z b) : DiskAt base w' p n s wv d :=
  ⟨k.heap h.blk (hn p (.inl rfl)), h.now.banned k (hn n (.inr (.inl rfl))), h.safe.banned k (hn s (.inr (.inr (.inl rfl)))), h.wait.banned k (fun b hb => hn b (.inr (.inr (.inr hb)))), h.pb, h.nb, h.sb, h.ns⟩
theorem MapAt.toBan {base : Nat} {w w' : World} {r g : Nat} {m : AMap} (h : MapAt (bn := noBan) base w r m) (k : Keep No w w') (hg : w.heap.size ≤ g) (hs : g < w'.heap.size) : MapAt (bn := oneBan g) base w' r m := by
  obtain ⟨es, clock, hb, he1, he2, he3, he4, he5⟩ := h
  letI := oneBan g
  exact ⟨es, clock, k.heap hb (fun h => h), he1, fun p hp => ⟨(he2 p hp).1, BytesAt.toBan (he2 p hp).2 k hg hs⟩, he3, he4, he5⟩
theorem WaitAt.toBan {base : Nat} {w w' : World} {wv : Value} {g : Nat} {l : List CallS} (h : WaitAt (bn := noBan) base w wv l) (k : Keep No w w') (hg : w.heap.size ≤ g) (hs : g < w'.heap.size) : WaitAt (bn := oneBan g) base w' wv l := by
  obtain ⟨us, h1, h2, h3, h4⟩ := h
  refine ⟨us, h1, fun i u c hu hc => BytesAt.toBan (h2 i u c hu hc) k hg hs, h3, ?_⟩
  rcases h4 with h4 | ⟨g', cap, cur, rfl, h5, h6, h7⟩
  · exact .inl h4
  · exact .inr ⟨g', cap, cur, rfl, h5, k.heap h6 (fun h => h), h7⟩
theorem DiskAt.toBan {base : Nat} {w w' : World} {p n s g : Nat} {wv : Value} {d : DiskS} (h : DiskAt (bn := noBan) base w p n s wv d) (k : Keep No w w') (hg : w.heap.size ≤ g) (hs : g < w'.heap.size) : DiskAt (bn := oneBan g) base w' p n s wv d := by
  obtain ⟨blk, now, safe, wait, pb, nb, sb, ns⟩ := h
  letI := oneBan g
  exact ⟨k.heap blk (fun h => h), MapAt.toBan now k hg hs, MapAt.toBan safe k hg hs, WaitAt.toBan wait k hg hs, pb, nb, sb, ns⟩

/-! ### Copy -/
@[go_sem] theorem eql_nil_calls (w : World) (a : Option Addr) (n c : Nat) : (binOp .eql 97 (.slice a n c) (.slice none 0 0)).run Try.prog w = .ok (.bool a.isNone) w :=
  Lib.run_eql_slice_nil w _ _ a n c 0 0 Try.underlying97

theorem callCells_length : ∀ {l : List CallS} {us : List Value}, us.length = l.length → (callCells l us).length = l.length * 3 := by
  intro l
  induction l with
  | nil => intro us _; simp [callCells]
  | cons c l ih =>
    intro us h
    cases us with
    | nil => simp at h
    | cons u us => simp only [callCells, List.length_cons, ih (us := us) (by simpa using h)]; omega
theorem callCells_one : ∀ {l : List CallS} {us : List Value}, (∀ u ∈ us, u.oneCell' = true) → ∀ x ∈ callCells l us, x.oneCell' = true := by
  intro l
  induction l with
  | nil => intro us _ x h; simp [callCells] at h
  | cons c l ih =>
    intro us h x hx
    cases us with
    | nil => simp [callCells] at hx
    | cons u us =>
      simp only [callCells, List.mem_cons] at hx
      rcases hx with rfl | rfl | rfl | hx
      · rfl
      · exact h _ (by simp)
      · rfl
      · exact ih (fun u hu => h u (by simp [hu])) x hx

set_option maxRecDepth 100000 in
theorem cclone_spec [bn : Inhabited Ban] {base : Nat} {w : World} {v : Value} {l : List CallS} (h : WaitAt base w v l) (hb : base ≤ w.heap.size) (hl : l.length ≤ 1000001) :
    Calls Try.prog 67 #[v] w fun e w' => ∃ v', e = .returned v' ∧ WaitAt base w' v' l ∧ Keep No w w' ∧ ∀ b, v'.ownBlock = some b → w.heap.size ≤ b := by
  obtain ⟨us, hus, hub, h0, hown⟩ := h
  rcases hown with ⟨rfl, h0⟩ | ⟨g, cap, cur, rfl, h1, h2, h3, h4, h5, h6⟩
  · obtain rfl : l = [] := List.eq_nil_of_length_eq_zero h0
    have HW := WaitAt.nil base w
    have HWW := Lib.hid HW
    clear HW hub hus hl
    go_enter Try.func67, Try.ntmps67
    go_wp2
    go_ret
    exact ⟨_, rfl, HWW.out, Keep.refl _ _, fun b hb => by simp [Value.ownBlock] at hb⟩
  · have hk : Keep No w (w.alloc (.cells #[] 102)) := (Keep.refl _ _).alloc _
    have hmade : (w.alloc (.cells #[] 102)).ownsRow w.heap.size 102 3 (.slice (some ⟨w.heap.size, 0, none⟩) 0 0) 0 [] := World.ownsRow_made w #[] 0 (Nat.le_refl _) (by decide) rfl
    have hcl := callCells_length hus
    have hone : ∀ u ∈ us, u.oneCell' = true := by
      intro u hu
      obtain ⟨i, hi, rfl⟩ := List.getElem_of_mem hu
      obtain ⟨_, _, e⟩ := (hub i us[i] l[i] (List.getElem?_eq_getElem hi) (List.getElem?_eq_getElem (by omega))).form
      rw [e]; rfl
    have hone2 := callCells_one (l := l) hone
    have h2' := hk.heap h2 (fun h => h)
    have hsrc : ∀ j y, (callCells l us)[j]? = some y → (w.alloc (.cells #[] 102)).cell? ((⟨g, 0, none⟩ : Addr).add j) = some y := by
      intro j y hj
      have e : (⟨g, 0, none⟩ : Addr).add j = ⟨g, j, none⟩ := by simp [Addr.add]; omega
      rw [e, cell_of h2']
      rw [← h6, List.getElem?_take] at hj
      split at hj
      · simpa using hj
      · cases hj
    obtain ⟨i0, hi0, hz0, hz1, hz2⟩ := info_parts info_call
    have HB := Lib.hid (And.intro hub (And.intro hus (And.intro hcl (And.intro hb hl))))
    have hl63 : 0 + l.length ≤ maxLen := by unfold maxLen; omega
    have hby : (0 + l.length) * 40 ≤ 140737488355328 := by omega
    clear hub hus hb hl hone h2 h2' h6 h5 h4 h3
    go_enter Try.func67, Try.ntmps67
    go_wp2_with (at_builtin; refine wpList_append_own _ rfl _ _ _ rfl w.heap.size 102 i0 _ 3 40 Try.underlying97 hi0 hz0 hz1 hz2 rfl (by omega) _ 0 [] rfl hmade ⟨g, 0, none⟩ l.length cap (callCells l us) rfl HB.out.2.2.1 hsrc hone2 hl63 hby (by simp) ?_; intro v' w' hown' hgrow _)
    go_ret
    have hk2 : Keep No w w' := by
      refine hk.trans ((Keep.refl (fun b => b = w.heap.size) _).grown hgrow (fun k hk => .inl (by simp [Value.ownBlock] at hk; have hk : some w.heap.size = some k := hk; injection hk with hk; exact hk.symm))) (fun x hx hxx => ?_)
      have hxx : x = w.heap.size := hxx
      omega
    have hlt := World.ownsRow.lt hown'
    refine ⟨_, rfl, ⟨us, HB.out.2.1, fun i u c h1 h2 => (HB.out.1 i u c h1 h2).no hk2, ?_⟩, hk2, fun b hb => (hlt b hb).1⟩
    obtain ⟨q0, q⟩ := hown'
    refine ⟨by simpa using q0, ?_⟩
    rcases q with ⟨q1, q2⟩ | ⟨g', cap', cur', q1, q2, q3, q4, q5, q6, q7⟩
    · exact .inl ⟨q1, by omega⟩
    · exact .inr ⟨g', cap', cur', by rw [q1]; simp, by have := HB.out.2.2.2.1; omega, q3, by omega, q5, by simpa using q6, by simpa using q7⟩

set_option maxRecDepth 100000 in
set_option maxHeartbeats 1000000 in
theorem copy_spec [bn : Inhabited Ban] {base : Nat} {w : World} {p n s : Nat} {wv : Value} {d : DiskS} (h : DiskAt base w p n s wv d) (hb : base ≤ w.heap.size) (hw : d.wait.length ≤ 1000000) :
    Calls Try.prog 29 #[.pointer (some ⟨p, 0, none⟩)] w (NewDisk base w d) := by
  obtain ⟨wo, wc, rfl⟩ := h.wait.form
  have c0 := cell_of h.blk 0
  have c1 := cell_of h.blk 1
  have c2 := cell_of h.blk 2
  have c3 := cell_of h.blk 3
  have c4 := cell_of h.blk 4
  simp at c0 c1 c2 c3 c4
  go_enter Try.func29, Try.ntmps29
  go_wp2
  obtain ⟨W, hW⟩ : ∃ W, W = w.alloc (.cells #[.int .i64 d.room, .bool d.full, .map (some n), .map (some s), .slice wo d.wait.length wc] 99) := ⟨_, rfl⟩
  have hk0 : Keep No w (w.alloc (.cells #[.int .i64 d.room, .bool d.full, .map (some n), .map (some s), .slice wo d.wait.length wc] 99)) := (Keep.refl _ _).alloc _
  have hbox := heap_new w (.cells #[.int .i64 d.room, .bool d.full, .map (some n), .map (some s), .slice wo d.wait.length wc] 99)
  rw [← hW] at hk0 hbox ⊢
  have hsz : W.heap.size = w.heap.size + 1 := by rw [hW]; simp
  have HSZ := Lib.hid hsz
  clear hW hsz
  have hk1 : Keep No w W.drew := hk0.drew
  have d2 := hk1.cell c2 (fun e => e)
  have d3 := hk1.cell c3 (fun e => e)
  have d4 := hk1.cell c4 (fun e => e)
  clear c0 c1 c2 c3 c4
  refine wp_drawN (fun w' => Keep No W.drew w') [0, 1, 2, 3, 5, 6, 7, 8, 10, 11, 12, 13] [4, 9, 14] [15, 16, 17, 18, 19, 20] (by kernel_rfl) (by kernel_rfl) (fun _ _ _ _ _ h => h) (Keep.refl _ _) ?_
  iterate 12 (refine earlyN_cons (v := ?_) rfl rfl rfl ?_ ?_; rotate_left; focus (
    intro w' hS
    have d2' := hS.cell d2 (fun e => e)
    have d3' := hS.cell d3 (fun e => e)
    have d4' := hS.cell d4 (fun e => e)
    go_simp
    try with_reducible rfl))
  refine earlyN_nil ?_
  have h1 := h.no hk1
  refine midN_cons rfl rfl (fun K hK => ?_)
  go_simp
  refine (mclone_spec h1.now).mono ?_
  rintro e w1 ⟨r1, rfl, hm1, hr1, hs1, hk2⟩
  have HR1 := Lib.hid (And.intro hr1 hs1)
  clear hr1 hs1
  refine hK _ _ hk2 ?_
  clear hK K
  have hk3 := hk1.then hk2
  refine midN_cons rfl rfl (fun K hK => ?_)
  go_simp
  refine (mclone_spec (h.no hk3).safe).mono ?_
  rintro e w2 ⟨r2, rfl, hm2, hr2, hs2, hk4⟩
  have HR2 := Lib.hid (And.intro hr2 hs2)
  clear hr2 hs2
  refine hK _ _ (hk2.then hk4) ?_
  clear hK K
  have hk5 := hk3.then hk4
  refine midN_cons rfl rfl (fun K hK => ?_)
  go_simp
  refine (cclone_spec (h.no hk5).wait (Nat.le_trans hb hk5.size) (by omega)).mono ?_
  rintro e w3 ⟨v3, rfl, hw3, hk6, hf3⟩
  refine hK _ _ ((hk2.then hk4).then hk6) ?_
  clear hK K
  refine midN_nil (tailN_cons rfl (tailN_cons rfl (tailN_cons rfl (tailN_cons rfl (tailN_cons rfl (tailN_cons rfl (tailN_nil ?_)))))))
  have hsz := HSZ.out
  obtain ⟨hr1, hs1⟩ := HR1.out
  obtain ⟨hr2, hs2⟩ := HR2.out
  obtain ⟨A, hA⟩ : ∃ A, A = w.heap.size := ⟨_, rfl⟩
  rw [← hA] at hbox hsz
  have hkd : Keep No W W.drew := (Keep.refl _ _).drew
  have hkW : Keep No W w3 := ((hkd.then hk2).then hk4).then hk6
  have hkw : Keep No w w3 := hk5.then hk6
  have hb3 := hkW.heap hbox (fun e => e)
  have e2 := cell_of hb3 2
  have e3 := cell_of hb3 3
  have e4 := cell_of hb3 4
  have f2 := frozen_of hb3 2
  have f3 := frozen_of hb3 3
  have f4 := frozen_of hb3 4
  simp at e2 e3 e4
  have hsd : W.drew.heap.size = W.heap.size := rfl
  have hm1' := hm1.no (hk4.then hk6)
  have hm2' := hm2.no hk6
  have hF : Foot base w3 (· = A) := by
    rintro b rfl
    exact ⟨by omega, heap_lt hb3, fun cs fr e => by rw [hb3] at e; simp at e⟩
  have hK : Keep (· = A) w3 (((w3.setCell ⟨A, 2, none⟩ (.map (some r1))).setCell ⟨A, 3, none⟩ (.map (some r2))).setCell ⟨A, 4, none⟩ v3) :=
    Keep.setCell (F := (· = A)) (Keep.setCell (F := (· = A)) (Keep.setCell (F := (· = A)) (Keep.refl _ _) (p := ⟨A, 2, none⟩) (.inl rfl) _) (p := ⟨A, 3, none⟩) (.inl rfl) _) (p := ⟨A, 4, none⟩) (.inl rfl) _
  have hb4 := heap_setCell_same (i := 4) (u := v3) (heap_setCell_same (i := 3) (u := .map (some r2)) (heap_setCell_same (i := 2) (u := .map (some r1)) hb3))
  have hn4 := hm1'.keep hF hK (fun e => by omega)
  have hs4 := hm2'.keep hF hK (fun e => by omega)
  have hw4 := hw3.keep hF hK (fun b hb e => by have := hf3 b hb; omega)
  have HP : Hid (NewDisk base w d (.returned (.pointer (some ⟨A, 0, none⟩))) (((w3.setCell ⟨A, 2, none⟩ (.map (some r1))).setCell ⟨A, 3, none⟩ (.map (some r2))).setCell ⟨A, 4, none⟩ v3)) := by
    refine ⟨A, r1, r2, v3, rfl, ⟨by simpa using hb4, hn4, hs4, hw4, by omega, by omega, by omega, by omega⟩, hkw.trans hK (fun x hx e => by have e : x = A := e; omega), ?_⟩
    rintro b (rfl | rfl | rfl | hq)
    · omega
    · omega
    · omega
    · have := hf3 b hq; omega
  obtain ⟨vo3, vc3, rfl⟩ := hw3.form
  clear hkd hkW hkw hb3 hm1' hm2' hF hK hb4 hn4 hs4 hw4 hw3 hm1 hm2 hk2 hk4 hk5 hk6 hk1 hk0 h1 h d2 d3 d4 hbox hr1 hr2 hs1 hs2 hf3 hk3 hsd hsz
  subst hA
  go_wp2
  go_ret
  exact HP.out

/-! ### Of a nil disk there is nothing -/
theorem nil_append {w : World} (seg : Int) (ao : Option Addr) (n c : Nat) : Calls Try.prog 17 #[.pointer none, .int .u64 seg, .slice ao n c] w fun e w' => e = .returned (.int .i64 4) ∧ w = w' := by
  go_enter Try.func17, Try.ntmps17
  go_wp2
  go_ret
  exact ⟨rfl, rfl⟩
theorem nil_drop {w : World} (seg : Int) : Calls Try.prog 18 #[.pointer none, .int .u64 seg] w fun e w' => e = .returned (.int .i64 4) ∧ w = w' := by
  go_enter Try.func18, Try.ntmps18
  go_wp2
  go_ret
  exact ⟨rfl, rfl⟩
theorem nil_sync {w : World} : Calls Try.prog 22 #[.pointer none] w fun e w' => e = .returned (.int .i64 4) ∧ w = w' := by
  go_enter Try.func22, Try.ntmps22
  go_wp2
  go_ret
  exact ⟨rfl, rfl⟩
theorem nil_read {w : World} (seg : Int) : Calls Try.prog 25 #[.pointer none, .int .u64 seg] w fun e w' => e = .returned (.tuple #[.slice none 0 0, .int .i64 4]) ∧ w = w' := by
  go_enter Try.func25, Try.ntmps25
  go_wp2
  go_ret2
  exact ⟨rfl, rfl⟩
theorem nil_full {w : World} (on : Bool) : Calls Try.prog 24 #[.pointer none, .bool on] w fun e w' => e = .returned (.tuple #[]) ∧ w = w' := by
  go_enter Try.func24, Try.ntmps24
  go_wp2
  go_end0
  exact ⟨rfl, rfl⟩
theorem nil_segs {w : World} : Calls Try.prog 31 #[.pointer none] w fun e w' => e = .returned (.slice none 0 0) ∧ w = w' := by
  go_enter Try.func31, Try.ntmps31
  go_wp2
  go_ret
  exact ⟨rfl, rfl⟩
theorem nil_used {w : World} : Calls Try.prog 30 #[.pointer none] w fun e w' => e = .returned (.int .i64 0) ∧ w = w' := by
  go_enter Try.func30, Try.ntmps30
  go_wp2
  go_ret
  exact ⟨rfl, rfl⟩
theorem nil_room {w : World} : Calls Try.prog 33 #[.pointer none] w fun e w' => e = .returned (.int .i64 0) ∧ w = w' := by
  go_enter Try.func33, Try.ntmps33
  go_wp2
  go_ret
  exact ⟨rfl, rfl⟩
theorem nil_waiting {w : World} : Calls Try.prog 27 #[.pointer none] w fun e w' => e = .returned (.int .i64 0) ∧ w = w' := by
  go_enter Try.func27, Try.ntmps27
  go_wp2
  go_ret
  exact ⟨rfl, rfl⟩
theorem nil_crash {w : World} (keep torn : Int) : Calls Try.prog 20 #[.pointer none, .int .i64 keep, .int .i64 torn] w fun e w' => e = .returned (.pointer none) ∧ w = w' := by
  go_enter Try.func20, Try.ntmps20
  go_wp2
  go_ret
  exact ⟨rfl, rfl⟩
theorem nil_copy {w : World} : Calls Try.prog 29 #[.pointer none] w fun e w' => e = .returned (.pointer none) ∧ w = w' := by
  go_enter Try.func29, Try.ntmps29
  go_wp2
  go_ret
  exact ⟨rfl, rfl⟩
theorem nil_same {w : World} : Calls Try.prog 19 #[.pointer none, .pointer none] w fun e w' => e = .returned (.bool true) ∧ w = w' := by
  go_enter Try.func19, Try.ntmps19
  go_wp2
  go_ret
  exact ⟨rfl, rfl⟩
theorem some_same {w : World} (p : Addr) : Calls Try.prog 19 #[.pointer (some p), .pointer none] w fun e w' => e = .returned (.bool false) ∧ w = w' := by
  go_enter Try.func19, Try.ntmps19
  go_wp2
  go_ret
  exact ⟨rfl, rfl⟩
end Go.Proofs.Ytpjggnfiocplmaa

/-! ## Same -/
namespace Go.Proofs.Ytpjggnfiocplmaa
open Go Go.RowKit Go.Dr

theorem Keep.drewN {F : Nat → Prop} {a w : World} (h : Keep F a w) (n : Nat) : Keep F a (w.drewN n) := ⟨h.os, h.tape, h.output, h.size, h.block⟩

set_option maxRecDepth 100000 in
set_option maxHeartbeats 400000 in
theorem r1same_spec [bn : Inhabited Ban] {base : Nat} {w : World} {u v : Value} {l m : Bytes} (hu : BytesAt base w u l) (hv : BytesAt base w v m) :
    Calls Try.prog 26 #[u, v] w fun e w' => e = .returned (.bool (l == m)) ∧ Keep No w w' := by
  obtain ⟨ao, cap, rfl, hlc, hcm, _, hcell⟩ := hu
  obtain ⟨bo, cap', rfl, hlc', hcm', _, hcell'⟩ := hv
  unfold maxLen at hcm
  by_cases hlen : l.length = m.length
  · have hln : (l.length : Int) ≤ 9223372036854775807 := by omega
    have HL := Lib.hid hlen
    rw [← hlen]
    have hq : ((l.length : Int) != (l.length : Int)) = false := by simp
    clear hlen hcm hcm' hlc hlc'
    go_enter Try.func26, Try.ntmps26
    go_wp2
    go_loopw [13] (fun i wr => ∃ k : Nat, k ≤ l.length ∧ i = .int .i64 k ∧ l.take k = m.take k ∧ Keep No w wr) (fun i _ => l.length - (intOf i).toNat)
    case atStart => exact ⟨0, Nat.zero_le _, rfl, by simp, Keep.refl _ _⟩
    case round =>
      obtain ⟨k, hk, rfl, heq, hkp⟩ := hrel
      by_cases hlt : k < l.length
      · have hki : (k : Int) < (l.length : Int) := by omega
        obtain ⟨ad, rfl, _, hx⟩ := hcell k l[k] (List.getElem?_eq_getElem hlt)
        have hlt' : k < m.length := by have := HL.out; omega
        obtain ⟨bd, rfl, _, hy⟩ := hcell' k m[k] (List.getElem?_eq_getElem hlt')
        have hx := hkp.cell hx (fun e => e)
        have hy := hkp.cell hy (fun e => e)
        have tl : l.take (k + 1) = l.take k ++ [l[k]] := List.take_succ_eq_append_getElem hlt
        have tm : m.take (k + 1) = m.take k ++ [m[k]] := List.take_succ_eq_append_getElem hlt'
        have hlx : l[k]? = some l[k] := List.getElem?_eq_getElem hlt
        have hmy : m[k]? = some m[k] := List.getElem?_eq_getElem hlt'
        generalize l[k] = x at *
        generalize m[k] = y at *
        have hn : ∀ z : UInt8, 0 ≤ (z.toNat : Int) ∧ (z.toNat : Int) ≤ 255 := fun z => ⟨by omega, by have := z.toNat_lt; omega⟩
        have HE := Lib.hid (And.intro heq (And.intro tl (And.intro tm (And.intro hlx (And.intro hmy (And.intro hcell hcell'))))))
        clear heq tl tm hlx hmy hcell hcell'
        unfold u8v at hx hy
        by_cases hxy : x = y
        · subst hxy
          have hne : ((x.toNat : Int) != (x.toNat : Int)) = false := by simp
          go_wp2
          go_quiet (fail)
          go_wp2
          go_roundw
          case rel => exact ⟨k + 1, by omega, by go_num, by rw [HE.out.2.1, HE.out.2.2.1, HE.out.1], hkp.drewN _⟩
          case measure => simp [intOf]; omega
        · have hne : ((x.toNat : Int) != (y.toNat : Int)) = true := by
            simp only [bne_iff_ne, ne_eq]
            intro h
            exact hxy (UInt8.toNat_inj.1 (by omega))
          have hf : (l == m) = false := by
            rw [beq_eq_false_iff_ne]
            intro e
            have h1 := HE.out.2.2.2.1
            rw [e, HE.out.2.2.2.2.1] at h1
            exact hxy (by simpa using h1.symm)
          have HF := Lib.hid hf
          clear hf hxy
          go_wp2
          go_quiet (fail)
          go_wp2
          go_ret
          exact ⟨by rw [HF.out]; rfl, hkp.drewN _⟩
      · have hki : ¬ (k : Int) < (l.length : Int) := by omega
        obtain rfl : k = l.length := by omega
        have ht : (l == m) = true := by
          rw [beq_iff_eq]
          have h1 : l.take l.length = l := List.take_length
          have h2 : m.take l.length = m := by rw [HL.out]; exact List.take_length
          rw [h1, h2] at heq
          exact heq
        have HT := Lib.hid ht
        clear ht heq hki hlt hk
        go_wp2
        go_ret
        exact ⟨by rw [HT.out]; rfl, hkp⟩
  · have hq : ((l.length : Int) != (m.length : Int)) = true := by simp; omega
    have hf : (l == m) = false := by
      rw [beq_eq_false_iff_ne]
      intro e
      exact hlen (by rw [e])
    rw [hf]
    clear hf hlen
    go_enter Try.func26, Try.ntmps26
    go_wp2
    go_ret
    exact ⟨rfl, Keep.refl _ _⟩
end Go.Proofs.Ytpjggnfiocplmaa
