/- Package disk: a call done; what a disk is in memory. -/
import Derived.Test.YtpjggnfiocplmaaMap
namespace Go.Proofs.Ytpjggnfiocplmaa
open Go Go.RowKit Go.Dr

structure CallS where
  seg : Int
  p : Bytes
  drop : Bool
def CallS.done (c : CallS) (m : AMap) : AMap := if c.drop then mdel m c.seg else mset m c.seg ((mget m c.seg).getD [] ++ c.p)

set_option maxRecDepth 100000 in
theorem done_spec [bn : Inhabited Ban] {base : Nat} {w : World} {r : Nat} {m : AMap} {u : Value} (c : CallS) (h : MapAt base w r m) (hr : base ≤ r) (hu : BytesAt base w u c.p)
    (hb : ((mget m c.seg).getD []).length + c.p.length ≤ 17592186044416) :
    Calls Try.prog 61 #[.agg #[.int .u64 c.seg, u, .bool c.drop], .map (some r)] w fun e w' => e = .returned (.tuple #[]) ∧ MapAt base w' r (c.done m) ∧ Keep (· = r) w w' := by
  obtain ⟨seg, p, drop⟩ := c
  simp only at hu hb ⊢
  obtain ⟨uo, uc, rfl⟩ := hu.form
  have hrl := h.lt
  cases drop with
  | true =>
    have hk : Keep No w (w.alloc (.cells #[.int .u64 seg, .slice uo p.length uc, .bool true] 102)) := (Keep.refl _ _).alloc _
    have h1 := h.keep (Foot.no _ _) hk (fun h => h)
    obtain ⟨w2, hrun, h2, hk2⟩ := run_del h1 hr seg
    go_enter Try.func61, Try.ntmps61
    go_wp2
    refine bodyPost_ret (results_none rfl _ _ _) rfl ?_
    exact ⟨rfl, by simpa [CallS.done] using h2, hk.no.trans hk2 (fun _ _ h => h)⟩
  | false =>
    have hk : Keep No w (w.alloc (.cells #[.int .u64 seg, .slice uo p.length uc, .bool false] 102)) := (Keep.refl _ _).alloc _
    have h1 := h.keep (Foot.no _ _) hk (fun h => h)
    have hu1 := hu.no hk
    have hbox := heap_new w (.cells #[.int .u64 seg, .slice uo p.length uc, .bool false] 102)
    obtain ⟨v0, hv0, hlook⟩ := run_lookup h1 seg
    obtain ⟨vo, vc, rfl⟩ := hv0.form
    obtain ⟨W, hW⟩ : ∃ W, W = w.alloc (.cells #[.int .u64 seg, .slice uo p.length uc, .bool false] 102) := ⟨_, rfl⟩
    go_enter Try.func61, Try.ntmps61
    go_wp2
    rw [← hW] at hk h1 hu1 hbox hv0 hlook ⊢
    have hWs : w.heap.size < W.heap.size := by rw [hW]; simp
    clear hW
    refine wp_drawN (fun w' => Keep No W w') [0, 1, 2, 3, 4, 5, 6, 7, 8] [9, 10] [11] (by kernel_rfl) (by kernel_rfl) (fun _ _ _ _ _ h => h) (Keep.refl _ _).drew ?_
    iterate 9 (refine earlyN_cons (v := ?_) rfl rfl rfl ?_ ?_; rotate_left; focus (
      intro w' hS
      have c0 := hS.cell (p := ⟨w.heap.size, 0, none⟩) (cell_of hbox 0) (fun h => h)
      have c1 := hS.cell (p := ⟨w.heap.size, 1, none⟩) (cell_of hbox 1) (fun h => h)
      have hl := (hlook w' (hS.block r h1.lt (fun h => h))).1
      go_simp
      try with_reducible rfl))
    refine earlyN_nil ?_
    have hk2 : Keep No W (W.alloc (.cells #[.slice vo ((mget m seg).getD []).length vc, .slice uo p.length uc] 27)).drew := ((Keep.refl _ _).alloc _).drew
    have hsl : SlicesAt base (W.alloc (.cells #[.slice vo ((mget m seg).getD []).length vc, .slice uo p.length uc] 27)).drew (.slice (some ⟨W.heap.size, 0, none⟩) 2 2) [(mget m seg).getD [], p] :=
      SlicesAt.of_block (cs := #[.slice vo ((mget m seg).getD []).length vc, .slice uo p.length uc]) (heap_new W _) [(mget m seg).getD [], p] rfl (by simp [maxLen]) (fun i u' l h1 h2 => by
        match i, h1, h2 with
        | 0, h1, h2 => simp at h1 h2; subst h1 h2; exact hv0.no ((Keep.refl _ _).alloc _)
        | 1, h1, h2 => simp at h1 h2; subst h1 h2; exact hu1.no ((Keep.refl _ _).alloc _))
    refine midN_cons rfl rfl (fun K hK => ?_)
    go_simp
    refine hK _ _ hk2 ?_
    clear hK K
    refine midN_cons rfl rfl (fun K hK => ?_)
    go_simp
    have hT1 : [(mget m seg).getD [], p].flatten ≠ [] → ban.top ≤ (W.alloc (.cells #[.slice vo ((mget m seg).getD []).length vc, .slice uo p.length uc] 27)).drew.heap.size := by
      intro hne
      have h1 : ban.top ≤ W.heap.size := by
        by_cases e1 : (mget m seg).getD [] = []
        · exact hu1.top (fun e2 => hne (by simp [e1, e2]))
        · exact hv0.top e1
      exact Nat.le_trans h1 hk2.size
    refine (concat_spec hsl (by simp; omega)).mono ?_
    rintro e w3 ⟨v3, rfl, hown3, hk3⟩
    simp only []
    refine hK _ _ (hk2.then hk3) ?_
    clear hK K
    refine midN_nil (tailN_cons rfl (tailN_nil ?_))
    have hkk := hk2.then hk3
    obtain ⟨w4, hrun, h4, hk4⟩ := run_store (h1.keep (Foot.no _ _) hkk (fun h => h)) hr seg (hown3.bytes (base := base) hT1)
    clear hlook hown3 hk3 hsl hbox hv0 hu1 h1
    go_wp2
    go_end0
    refine ⟨rfl, ?_, (hk.then hkk).no.trans hk4 (fun _ _ h => h)⟩
    simpa [CallS.done] using h4

/-! ### A disk in memory -/
structure DiskS where
  room : Int
  full : Bool
  now : AMap
  safe : AMap
  wait : List CallS

def callCells : List CallS → List Value → List Value
  | c :: l, u :: us => .int .u64 c.seg :: u :: .bool c.drop :: callCells l us
  | _, _ => []
def WaitAt [bn : Inhabited Ban] (base : Nat) (w : World) (wv : Value) (l : List CallS) : Prop :=
  ∃ us : List Value, us.length = l.length ∧ (∀ (i : Nat) u c, us[i]? = some u → l[i]? = some c → BytesAt base w u c.p) ∧ w.ownsRow base 102 3 wv l.length (callCells l us)
structure DiskAt [bn : Inhabited Ban] (base : Nat) (w : World) (p n s : Nat) (wv : Value) (d : DiskS) : Prop where
  blk : w.heap[p]? = some (.cells #[.int .i64 d.room, .bool d.full, .map (some n), .map (some s), wv] 99 (0, 0))
  now : MapAt base w n d.now
  safe : MapAt base w s d.safe
  wait : WaitAt base w wv d.wait
  pb : base ≤ p
  nb : base ≤ n
  sb : base ≤ s
  ns : n ≠ s
def foot (p n s : Nat) (wv : Value) : Nat → Prop := fun b => b = p ∨ b = n ∨ b = s ∨ wv.ownBlock = some b

theorem WaitAt.form [bn : Inhabited Ban] {base : Nat} {w : World} {wv : Value} {l : List CallS} (h : WaitAt base w wv l) : ∃ ao cap, wv = .slice ao l.length cap := by
  obtain ⟨us, _, _, _, h⟩ := h
  rcases h with ⟨rfl, h⟩ | ⟨g, cap, cur, rfl, _⟩
  · exact ⟨none, 0, by rw [h]⟩
  · exact ⟨_, _, rfl⟩
theorem WaitAt.nil [bn : Inhabited Ban] (base : Nat) (w : World) : WaitAt base w (.slice none 0 0) [] := ⟨[], rfl, fun i u c h => by simp at h, World.ownsRow_nil _ _ _ _⟩
theorem DiskAt.foot_ok [bn : Inhabited Ban] {base : Nat} {w : World} {p n s : Nat} {wv : Value} {d : DiskS} (h : DiskAt base w p n s wv d) : Foot base w (foot p n s wv) := by
  rintro b (rfl | rfl | rfl | hb)
  · exact ⟨h.pb, heap_lt h.blk, fun cs fr e => by rw [h.blk] at e; simp at e⟩
  · exact h.now.foot h.nb _ rfl
  · exact h.safe.foot h.sb _ rfl
  · obtain ⟨us, _, _, _, hw⟩ := h.wait
    rcases hw with ⟨rfl, _⟩ | ⟨g, cap, cur, rfl, h1, h2, _⟩
    · simp [Value.ownBlock] at hb
    · simp [Value.ownBlock] at hb
      subst hb
      exact ⟨h1, heap_lt h2, fun cs fr e => by rw [h2] at e; simp at e⟩
theorem WaitAt.kind [bn : Inhabited Ban] {base : Nat} {w : World} {wv : Value} {l : List CallS} (h : WaitAt base w wv l) : ∀ b, wv.ownBlock = some b → base ≤ b ∧ ∃ cur, w.heap[b]? = some (.cells cur 102 (0, 0)) := by
  intro b hb
  obtain ⟨us, _, _, _, hw⟩ := h
  rcases hw with ⟨rfl, _⟩ | ⟨g, cap, cur, rfl, h1, h2, _⟩
  · simp [Value.ownBlock] at hb
  · simp [Value.ownBlock] at hb
    subst hb
    exact ⟨h1, cur, h2⟩
theorem WaitAt.foot [bn : Inhabited Ban] {base : Nat} {w : World} {wv : Value} {l : List CallS} (h : WaitAt base w wv l) : Foot base w (fun b => wv.ownBlock = some b) := by
  intro b hb
  obtain ⟨h1, cur, h2⟩ := h.kind b hb
  exact ⟨h1, heap_lt h2, fun cs fr e => by rw [h2] at e; simp at e⟩
theorem MapAt.kind [bn : Inhabited Ban] {base : Nat} {w : World} {r : Nat} {m : AMap} (h : MapAt base w r m) : ∃ es clock, w.heap[r]? = some (.map es clock) := by obtain ⟨es, c, h, _⟩ := h; exact ⟨es, c, h⟩
theorem WaitAt.keep [bn : Inhabited Ban] {base : Nat} {w w' : World} {wv : Value} {l : List CallS} {F : Nat → Prop} (h : WaitAt base w wv l) (hF : Foot base w F) (k : Keep F w w') (hn : ∀ b, wv.ownBlock = some b → ¬ F b) : WaitAt base w' wv l := by
  obtain ⟨us, h1, h2, h3, h4⟩ := h
  refine ⟨us, h1, fun i u c hu hc => (h2 i u c hu hc).keep hF k, h3, ?_⟩
  rcases h4 with h4 | ⟨g, cap, cur, rfl, h5, h6, h7⟩
  · exact .inl h4
  · exact .inr ⟨g, cap, cur, rfl, h5, k.heap h6 (hn g rfl), h7⟩
theorem DiskAt.keep [bn : Inhabited Ban] {base : Nat} {w w' : World} {p n s : Nat} {wv : Value} {d : DiskS} {F : Nat → Prop} (h : DiskAt base w p n s wv d) (hF : Foot base w F) (k : Keep F w w') (hn : ∀ b, foot p n s wv b → ¬ F b) : DiskAt base w' p n s wv d :=
  ⟨k.heap h.blk (hn p (.inl rfl)), h.now.keep hF k (hn n (.inr (.inl rfl))), h.safe.keep hF k (hn s (.inr (.inr (.inl rfl)))), h.wait.keep hF k (fun b hb => hn b (.inr (.inr (.inr hb)))), h.pb, h.nb, h.sb, h.ns⟩
theorem DiskAt.no [bn : Inhabited Ban] {base : Nat} {w w' : World} {p n s : Nat} {wv : Value} {d : DiskS} (h : DiskAt base w p n s wv d) (k : Keep No w w') : DiskAt base w' p n s wv d :=
  h.keep (Foot.no _ _) k (fun _ _ h => h)
theorem DiskAt.foot_lt [bn : Inhabited Ban] {base : Nat} {w : World} {p n s : Nat} {wv : Value} {d : DiskS} (h : DiskAt base w p n s wv d) : ∀ b, foot p n s wv b → b < w.heap.size := fun b hb => (h.foot_ok b hb).2.1

set_option maxRecDepth 100000 in
theorem used_spec [bn : Inhabited Ban] {base : Nat} {w : World} {p n s : Nat} {wv : Value} {d : DiskS} (h : DiskAt base w p n s wv d) (hb : base ≤ w.heap.size) (hs : msum d.now ≤ 35184372088832) :
    Calls Try.prog 30 #[.pointer (some ⟨p, 0, none⟩)] w fun e w' => e = .returned (.int .i64 (msum d.now : Nat)) ∧ Keep No w w' := by
  obtain ⟨o, hrun, hI⟩ := run_range h.now
  have c2 := cell_of h.blk 2
  have hk0 : Keep No w (w.alloc o) := (Keep.refl _ _).alloc _
  have hkeys := h.now.keys
  generalize hW : w.alloc o = W at hrun hI hk0
  clear hW
  simp at c2
  go_enter Try.func30, Try.ntmps30
  go_wp2
  clear hrun c2
  go_loopw [3] (fun t wr => ∃ left x, IterAt base wr w.heap.size n d.now left ∧ Keys left ∧ x + msum left = msum d.now ∧ t = .int .i64 (x : Nat) ∧ Keep No w wr) (fun _ wr => leftNum wr w.heap.size)
  case atStart => exact ⟨_, 0, hI, hkeys, by omega, rfl, hk0⟩
  case round =>
    clear hI hk0 hkeys
    obtain ⟨left, x, hI, hkeys, hx, rfl, hkp⟩ := hrel
    have hnum := hI.num
    rcases run_next hI hb 0 with ⟨rfl, hrun⟩ | ⟨kv, hkv, v, w1, hv, hrun, hent, hI', hk'⟩
    · have HX := Lib.hid hx
      clear hx hnum hI
      go_wp2
      go_ret
      have := HX.out
      simp [msum] at this
      subst this
      exact ⟨rfl, hkp⟩
    · obtain ⟨vo, vc, rfl⟩ := hv.form
      have hsum := msum_filter hkeys hkv
      have hlen := length_filter hkeys hkv
      have hnum' := hI'.num
      have hb1 : (x : Int) + (kv.2.length : Int) ≤ 35184372088832 := by omega
      have hb2 : (0 : Int) ≤ (x : Int) + (kv.2.length : Int) := by omega
      have HX := Lib.hid (And.intro hx (And.intro hsum (And.intro hlen (And.intro hnum hnum'))))
      clear hx hsum hlen hnum hnum'
      go_wp2
      go_roundw
      case rel => exact ⟨_, x + kv.2.length, hI', hkeys.filter _, by have := HX.out; omega, by go_num, hkp.trans hk' (fun y hy e => by have e : y = w.heap.size := e; omega)⟩
      case measure => have := HX.out; omega
end Go.Proofs.Ytpjggnfiocplmaa
