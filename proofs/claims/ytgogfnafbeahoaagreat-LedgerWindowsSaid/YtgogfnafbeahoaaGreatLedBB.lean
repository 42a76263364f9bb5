/- The ledger: done, agent. The ledger: what it tells. The ledger: some, All, Stored. The ledger: Get. -/
import Derived.Test.YtgogfnafbeahoaaGreatLedR

/-! ## LedS -/
namespace Go.Proofs.YtgogfnafbeahoaaGreat
open Go Go.RowKit Go.Dr

def DonePost [bn : Inhabited Ban] (base : Nat) (w : World) (q g m : Nat) (lv : Value) (L : LedS) (w' : World) : Prop :=
  ∃ lv', LedAt base w' q g m lv' L ∧ Keep (gfoot q m lv) w w' ∧ (∀ c, lv'.ownBlock = some c → lv.ownBlock = some c ∨ w.heap.size ≤ c)
set_option maxRecDepth 100000 in
set_option maxHeartbeats 2000000 in
theorem gDone_spec [bn : Inhabited Ban] {base : Nat} {w : World} {q g m width : Nat} {lv pv : Value} {L : LedS} {r : LRec} (h : LedAt base w q g m lv L) (hok : L.Ok width) (hp : BytesAt base w pv r.bytes) (hc : L.can r)
    (hlen : r.bytes.length ≤ 1073741824) (hrec : L.recs.length ≤ 1073741824) (hb : base ≤ w.heap.size) (hT : ban.top ≤ w.heap.size) :
    Calls Tryz.prog 61 #[.pointer (some ⟨q, 0, none⟩), pv] w fun e w' => e = .returned (.bool true) ∧ DonePost base w q g m lv (L.step r) w' := by
  obtain ⟨po, pc, rfl⟩ := hp.form
  have hof := pOf_spec hp hb hT (by omega)
  obtain ⟨n, hn⟩ : ∃ n, n = r.bytes.length := ⟨_, rfl⟩
  rw [← hn] at hof ⊢
  have HH := Lib.hid (And.intro h (And.intro hok (And.intro hc (And.intro hlen (And.intro hrec (And.intro hb hT))))))
  clear h hok hp hlen hrec hb hT hn
  have fin : ∀ {w1 w2 w' : World} {i : Nat} {lv' : Value} {L' : LedS}, Keep No w w1 → w.heap.size ≤ i → Keep (· = i) w1 w2 → LedAt base w' q g m lv' L' → Keep (fun c => gfoot q m lv c ∨ c = i) w2 w' → (∀ c, lv'.ownBlock = some c → lv.ownBlock = some c ∨ w2.heap.size ≤ c) → DonePost base w q g m lv L' w' := by
    intro w1 w2 w' i lv' L' k1 hi k2 hl k3 ho
    refine ⟨lv', hl, ((k1.no (F := gfoot q m lv)).trans k2 (fun c hc e => ?_)).trans k3 (fun c hc e => ?_), fun c hcc => ?_⟩
    · have e : c = i := e
      omega
    · rcases e with e | e
      · exact e
      · omega
    · rcases ho c hcc with e | e
      · exact .inl e
      · exact .inr (Nat.le_trans (Nat.le_trans k1.size k2.size) e)
  cases r with
  | inc z =>
    have HC := Lib.hid hc
    clear hc
    go_enter Tryz.func61, Tryz.ntmps61
    go_wp2_with fail
    refine hof.mono ?_
    rintro e w1 ⟨i, rfl, hwi, hi1, k1⟩
    have hby := iByte_spec hi1
    rw [show (⟨(LRec.inc z).bytes, 0⟩ : InS).byte = (1, ⟨numB z, 0⟩) from rfl] at hby
    have H1 := Lib.hid (And.intro hwi (And.intro hi1 k1))
    clear hwi hi1 k1 hof
    go_wp2_with fail
    refine hby.mono ?_
    rintro e w2 ⟨rfl, hi2, k2⟩
    have hl2 := (HH.out.1.no H1.out.2.2).byIn H1.out.2.1 k2
    have hd := gDoneInc_spec hl2 hi2 HC.out.2 HC.out.1
    have H2 := Lib.hid k2
    clear hby hi2 k2 hl2
    go_wp2_with fail
    refine hd.mono ?_
    rintro e w3 ⟨rfl, hl3, k3⟩
    go_wp2_with fail
    go_ret
    exact ⟨rfl, fin H1.out.2.2 H1.out.1 H2.out hl3 (k3.mono (fun c _ e => by rcases e with e | e; exact .inl (.inl e); exact .inr e)) (fun c e => .inl e)⟩
  | floor a z =>
    have HC := Lib.hid hc
    clear hc
    go_enter Tryz.func61, Tryz.ntmps61
    go_wp2_with fail
    refine hof.mono ?_
    rintro e w1 ⟨i, rfl, hwi, hi1, k1⟩
    have hby := iByte_spec hi1
    rw [show (⟨(LRec.floor a z).bytes, 0⟩ : InS).byte = (2, ⟨numB a ++ numB z, 0⟩) from rfl] at hby
    have H1 := Lib.hid (And.intro hwi (And.intro hi1 k1))
    clear hwi hi1 k1 hof
    go_wp2_with fail
    refine hby.mono ?_
    rintro e w2 ⟨rfl, hi2, k2⟩
    have hl2 := (HH.out.1.no H1.out.2.2).byIn H1.out.2.1 k2
    obtain ⟨x, hx, _, _, hxf⟩ := HH.out.2.1.at HC.out.1
    have hd := gDoneFloor_spec hl2 hi2 hx HC.out.1 HC.out.2.2 (by have := HC.out.2.1; rw [hxf] at this; exact this)
    have H2 := Lib.hid k2
    clear hby hi2 k2 hl2 hxf hx
    go_wp2_with fail
    refine hd.mono ?_
    rintro e w3 ⟨rfl, hl3, k3⟩
    go_wp2_with fail
    go_ret
    exact ⟨rfl, fin H1.out.2.2 H1.out.1 H2.out hl3 (k3.mono (fun c _ e => by rcases e with e | e; exact .inl (.inl e); exact .inr e)) (fun c e => .inl e)⟩
  | put a b l =>
    have HC := Lib.hid hc
    clear hc
    go_enter Tryz.func61, Tryz.ntmps61
    go_wp2_with fail
    refine hof.mono ?_
    rintro e w1 ⟨i, rfl, hwi, hi1, k1⟩
    have hby := iByte_spec hi1
    rw [show (⟨(LRec.put a b l).bytes, 0⟩ : InS).byte = (3, ⟨numB a ++ (numB b ++ (numB l.length ++ itemsB l)), 0⟩) from rfl] at hby
    have H1 := Lib.hid (And.intro hwi (And.intro hi1 k1))
    clear hwi hi1 k1 hof
    go_wp2_with fail
    refine hby.mono ?_
    rintro e w2 ⟨rfl, hi2, k2⟩
    have hl2 := (HH.out.1.no H1.out.2.2).byIn H1.out.2.1 k2
    have hsz : w.heap.size ≤ w2.heap.size := Nat.le_trans H1.out.2.2.size k2.size
    have hd := gDonePut_spec hl2 HH.out.2.1 hi2 HC.out (by have := HH.out.2.2.2.1; simp [LRec.bytes] at this; omega) HH.out.2.2.2.2.1 (Nat.le_trans HH.out.2.2.2.2.2.1 hsz) (Nat.le_trans HH.out.2.2.2.2.2.2 hsz)
    have H2 := Lib.hid k2
    clear hby hi2 k2 hl2 hsz
    go_wp2_with fail
    refine hd.mono ?_
    rintro e w3 ⟨rfl, lv', hl3, k3, ho⟩
    go_wp2_with fail
    go_ret
    exact ⟨rfl, fin H1.out.2.2 H1.out.1 H2.out hl3 k3 ho⟩
/-- An agent; none. -/
theorem gAgent_in {w : World} (q a : Nat) (ha : a < 16) : Calls Tryz.prog 40 #[.pointer (some ⟨q, 0, none⟩), .int .i64 a] w fun e w' => e = .returned (.pointer (some ⟨q, 2 + a * 7, none⟩)) ∧ w' = w := by
  have h1 : ¬ (a : Int) < 0 := by omega
  have h2 : ¬ 16 ≤ (a : Int) := by omega
  have h3 : (a : Int) < 16 := by omega
  go_enter Tryz.func40, Tryz.ntmps40
  go_wp2_with fail
  go_ret
  exact ⟨rfl, rfl⟩
theorem gAgent_out {w : World} (q : Nat) (a : Int) (ha : a < 0 ∨ 16 ≤ a) : Calls Tryz.prog 40 #[.pointer (some ⟨q, 0, none⟩), .int .i64 a] w fun e w' => e = .returned (.pointer none) ∧ w' = w := by
  by_cases h1 : a < 0
  · clear ha
    go_enter Tryz.func40, Tryz.ntmps40
    go_wp2_with fail
    go_ret
    exact ⟨rfl, rfl⟩
  · have h2 : 16 ≤ a := by omega
    clear ha
    go_enter Tryz.func40, Tryz.ntmps40
    go_wp2_with fail
    go_ret
    exact ⟨rfl, rfl⟩
end Go.Proofs.YtgogfnafbeahoaaGreat

/-! ## LedT -/
namespace Go.Proofs.YtgogfnafbeahoaaGreat
open Go Go.RowKit Go.Dr

theorem gInc_spec [bn : Inhabited Ban] {base : Nat} {w : World} {q g m : Nat} {lv : Value} {L : LedS} (h : LedAt base w q g m lv L) : Calls Tryz.prog 26 #[.pointer (some ⟨q, 0, none⟩)] w fun e w' => e = .returned (.int .u64 L.inc) ∧ w' = w := by
  obtain ⟨c1, _, _⟩ := h.incCell
  clear h
  go_enter Tryz.func26, Tryz.ntmps26
  go_wp2_with fail
  go_ret
  exact ⟨rfl, rfl⟩
theorem gWindow_in [bn : Inhabited Ban] {base : Nat} {w : World} {q g m a : Nat} {lv : Value} {L : LedS} {x : AgS} (h : LedAt base w q g m lv L) (ha : a < 16) (hx : L.ag[a]? = some x) : Calls Tryz.prog 11 #[.pointer (some ⟨q, 0, none⟩), .int .i64 a] w fun e w' => ∃ u, e = .returned u ∧ WinV w' u x.now ∧ Keep No w w' := by
  obtain ⟨ns, _, hr, _, _, c1, c2, c3, _⟩ := h.agCell hx
  obtain ⟨ao, cap, rfl, _, _⟩ := hr.form
  have kA := fun o => (Keep.refl No w).alloc o
  have c1A := fun o => (kA o).cell c1 (fun e => e)
  have c2A := fun o => (kA o).cell c2 (fun e => e)
  have c3A := fun o => (kA o).cell c3 (fun e => e)
  have hg := fun (w1 : World) => gAgent_in (w := w1) q a ha
  have hZ := heap_new w (.cells #[.int .u64 x.now.low, .int .u64 x.now.width, .slice ao x.now.set.length cap] 36)
  have z0 := cell_of hZ 0
  have z1 := cell_of hZ 1
  have z2 := cell_of hZ 2
  simp at z0 z1 z2
  have HH := Lib.hid (And.intro (hr.no (kA (.cells #[.int .u64 x.now.low, .int .u64 x.now.width, .slice ao x.now.set.length cap] 36))) (kA (.cells #[.int .u64 x.now.low, .int .u64 x.now.width, .slice ao x.now.set.length cap] 36)))
  clear h hx ha hr hZ kA
  go_enter Tryz.func11, Tryz.ntmps11
  go_wp2_with (go_at_call 40; refine (hg _).mono ?_; rintro e w' ⟨rfl, rfl⟩)
  refine bodyPost_ret (v := .agg #[.int .u64 x.now.low, .int .u64 x.now.width, .slice ao x.now.set.length cap]) (by simp [results, Tryz.results11, go_sem]) rfl ?_
  exact ⟨_, rfl, ⟨_, rfl, HH.out.1⟩, HH.out.2⟩
theorem gWindow_none {w : World} {v : Value} {a : Int} (h : ∀ w, Calls Tryz.prog 40 #[v, .int .i64 a] w fun e w' => e = .returned (.pointer none) ∧ w' = w) : Calls Tryz.prog 11 #[v, .int .i64 a] w fun e w' => ∃ u, e = .returned u ∧ WinV w' u ⟨0, 0, []⟩ ∧ Keep No w w' := by
  have hZ := heap_new w (.cells #[.int .u64 0, .int .u64 0, .slice none 0 0] 36)
  have kZ : Keep No w (w.alloc (.cells #[.int .u64 0, .int .u64 0, .slice none 0 0] 36)) := (Keep.refl _ _).alloc _
  have z0 := cell_of hZ 0
  have z1 := cell_of hZ 1
  have z2 := cell_of hZ 2
  simp at z0 z1 z2
  have HH := Lib.hid kZ
  clear hZ kZ
  go_enter Tryz.func11, Tryz.ntmps11
  go_wp2_with (go_at_call 40; refine (h _).mono ?_; rintro e w' ⟨rfl, rfl⟩)
  refine bodyPost_ret (v := .agg #[.int .u64 0, .int .u64 0, .slice none 0 0]) (by simp [results, Tryz.results11, go_sem]) rfl ?_
  exact ⟨_, rfl, ⟨_, rfl, RunsAt.nil _⟩, HH.out⟩
end Go.Proofs.YtgogfnafbeahoaaGreat

/-! ## LedU -/
namespace Go.Proofs.YtgogfnafbeahoaaGreat
open Go Go.RowKit Go.Dr

/-- Spans of one's own, their bodies too. -/
def RecsOwn (w : World) (B : Nat) (v : Value) (l : List RecS) : Prop :=
  ∃ xs : List (RecS × Value), xs.map (·.1) = l ∧ (∀ x ∈ xs, OwnB w B x.2 x.1.s.body) ∧ w.ownsRow B 84 4 v l.length (recCells xs)
theorem RecsOwn.nil (w : World) (B : Nat) : RecsOwn w B (.slice none 0 0) [] := ⟨[], rfl, fun x h => by simp at h, World.ownsRow_nil _ _ _ _⟩
theorem RecsOwn.at' [bn : Inhabited Ban] {base : Nat} {w : World} {B : Nat} {v : Value} {l : List RecS} (h : RecsOwn w B v l) (hT : ban.top ≤ B) (hb : base ≤ B) : RecsAt base w v l := by
  obtain ⟨xs, h1, h2, h3⟩ := h
  refine ⟨xs, h1, fun x hx => (h2 x hx).bytes (fun _ => hT), h3.1, ?_⟩
  rcases h3.2 with e | ⟨g, cap, cur, e1, e2, e3⟩
  · exact .inl e
  · exact .inr ⟨g, cap, cur, e1, Nat.le_trans hb e2, e3⟩
theorem RecsOwn.form {w : World} {B : Nat} {v : Value} {l : List RecS} (h : RecsOwn w B v l) : ∃ ao cap, v = .slice ao l.length cap ∧ l.length ≤ cap ∧ cap ≤ maxLen := by
  obtain ⟨xs, _, _, h3⟩ := h
  exact row_form h3
theorem RecsOwn.mono {w : World} {B B' : Nat} {v : Value} {l : List RecS} (h : RecsOwn w B v l) (hb : B' ≤ B) : RecsOwn w B' v l := by
  obtain ⟨xs, h1, h2, h3⟩ := h
  refine ⟨xs, h1, fun x hx => (h2 x hx).mono hb, h3.1, ?_⟩
  rcases h3.2 with e | ⟨g, cap, cur, e1, e2, e3⟩
  · exact .inl e
  · exact .inr ⟨g, cap, cur, e1, Nat.le_trans hb e2, e3⟩
/-- Who writes below, or to blocks that are neither rows of spans nor bytes. -/
theorem RecsOwn.keep {w w' : World} {B : Nat} {v : Value} {l : List RecS} {F : Nat → Prop} (h : RecsOwn w B v l) (k : Keep F w w') (hF : ∀ b, B ≤ b → F b → ∀ cs fr, w.heap[b]? ≠ some (.cells cs 84 fr) ∧ w.heap[b]? ≠ some (.cells cs 5 fr)) : RecsOwn w' B v l := by
  obtain ⟨xs, h1, h2, h3⟩ := h
  refine ⟨xs, h1, fun x hx => (h2 x hx).keep k (fun b hb hf => ?_), row_keep h3 k (fun b hb hf => ?_)⟩
  · obtain ⟨q1, cur, hz⟩ := row_kind (h2 x hx) b hb
    exact (hF b q1 hf _ _).2 hz
  · obtain ⟨q1, cur, hz⟩ := row_kind h3 b hb
    exact (hF b q1 hf _ _).1 hz
theorem RecsOwn.no {w w' : World} {B : Nat} {v : Value} {l : List RecS} (h : RecsOwn w B v l) (k : Keep No w w') : RecsOwn w' B v l := h.keep k (fun _ _ e => e.elim)
theorem RecsAt.cell [bn : Inhabited Ban] {base : Nat} {w : World} {ao : Option Addr} {n cap : Nat} {l : List RecS} (h : RecsAt base w (.slice ao n cap) l) {i : Nat} {x : RecS} (hi : l[i]? = some x) :
    ∃ g u, ao = some ⟨g, 0, none⟩ ∧ BytesAt base w u x.s.body ∧ w.cell? ⟨g, i * 4, none⟩ = some (.int .i64 x.who) ∧ w.cell? ⟨g, i * 4 + 1, none⟩ = some (.int .u64 x.n) ∧ w.cell? ⟨g, i * 4 + 2, none⟩ = some (.int .i64 x.s.c) ∧ w.cell? ⟨g, i * 4 + 3, none⟩ = some u := by
  obtain ⟨ao', cap', hq, _⟩ := h.form
  simp only [Value.slice.injEq] at hq
  obtain ⟨rfl, rfl, rfl⟩ := hq
  obtain ⟨xs, h1, h2, h3⟩ := h
  have hxs : ∃ u, xs[i]? = some (x, u) := by
    rw [← h1, List.getElem?_map] at hi
    cases hx : xs[i]? with
    | none => rw [hx] at hi; simp at hi
    | some y => rw [hx] at hi; simp at hi; exact ⟨y.2, by rw [← hi]⟩
  obtain ⟨u, hu⟩ := hxs
  have hl : (recCells xs).length = l.length * 4 := by unfold recCells; rw [flatMap_len _ 4 (fun _ => rfl), ← h1, List.length_map]
  have c := fun (f : Nat) (hf : f < 4) (y : Value) (hy : (recCell x u)[f]? = some y) => row_cell h3 (j := i * 4 + f) (x := y) (by unfold recCells; rw [flatMap_at (fun x : RecS × Value => recCell x.1 x.2) 4 (fun _ => rfl) hu hf]; exact hy) hl
  obtain ⟨g, rfl, c0⟩ := c 0 (by decide) _ rfl
  refine ⟨g, u, rfl, h2 _ (List.mem_of_getElem? hu), c0, ?_, ?_, ?_⟩
  · obtain ⟨_, e, h⟩ := c 1 (by decide) _ rfl; simp at e; subst e; exact h
  · obtain ⟨_, e, h⟩ := c 2 (by decide) _ rfl; simp at e; subst e; exact h
  · obtain ⟨_, e, h⟩ := c 3 (by decide) _ rfl; simp at e; subst e; exact h
end Go.Proofs.YtgogfnafbeahoaaGreat

/-! ## LedV -/
namespace Go.Proofs.YtgogfnafbeahoaaGreat
open Go Go.RowKit Go.Dr

theorem posR_some {l : List RecS} {a : Int} {n j : Nat} (h : posR l a n = some j) : ∃ r, l[j]? = some r ∧ (r.who : Int) = a ∧ r.n = n := by
  unfold posR at h
  rw [List.findIdx?_eq_some_iff_getElem] at h
  obtain ⟨hj, hp, _⟩ := h
  refine ⟨l[j], List.getElem?_eq_getElem hj, ?_⟩
  simp at hp
  exact ⟨hp.1, by omega⟩
theorem posR_mem {l : List RecS} {r : RecS} (h : r ∈ l) : ∃ j, posR l (r.who : Int) r.n = some j := by
  cases e : posR l (r.who : Int) r.n with
  | some j => exact ⟨j, rfl⟩
  | none =>
    unfold posR at e
    rw [List.findIdx?_eq_none_iff] at e
    have := e r h
    simp at this
set_option maxRecDepth 100000 in
set_option maxHeartbeats 2000000 in
theorem gGet_some [bn : Inhabited Ban] {base : Nat} {w : World} {q g m j : Nat} {lv : Value} {L : LedS} {r : RecS} (h : LedAt base w q g m lv L) (a : Int) (n : Nat) (hp : posR L.recs a n = some j) (hr : L.recs[j]? = some r) (hrec : L.recs.length ≤ 1073741824) (hbl : r.s.body.length ≤ 1073741824) :
    Calls Tryz.prog 22 #[.pointer (some ⟨q, 0, none⟩), .agg #[.int .i64 a, .int .u64 n]] w fun e w' => ∃ v, e = .returned (.tuple #[.agg #[.int .i64 r.s.c, v], .bool true]) ∧ OwnB w' w.heap.size v r.s.body ∧ Keep No w w' := by
  obtain ⟨W, hW⟩ : ∃ W, W = (w.alloc (.cells #[.int .i64 a, .int .u64 n] 67)).alloc (.cells #[.int .i64 0, .slice none 0 0] 51) := ⟨_, rfl⟩
  have kW : Keep No w W := by rw [hW]; exact ((Keep.refl _ _).alloc _).alloc _
  have hA : W.heap[w.heap.size]? = some (.cells #[.int .i64 a, .int .u64 n] 67 (0, 0)) := by
    rw [hW]
    exact ((Keep.refl No _).alloc _).heap (heap_new _ _) (fun e => e)
  have hB : W.heap[w.heap.size + 1]? = some (.cells #[.int .i64 0, .slice none 0 0] 51 (0, 0)) := by
    rw [hW]
    have := heap_new (w.alloc (.cells #[.int .i64 a, .int .u64 n] 67)) (.cells #[.int .i64 0, .slice none 0 0] 51)
    rw [World.size_alloc] at this
    exact this
  have hl := h.no kW
  obtain ⟨c114, _, c116⟩ := hl.endCells
  have hjl := (List.getElem?_eq_some_iff.1 hr).1
  obtain ⟨lo, lc, hlv, _, _⟩ := hl.recs.form
  subst hlv
  obtain ⟨gi, ui, hgi, hub, e0, e1, e2, e3⟩ := hl.recs.cell hr
  obtain ⟨uo, uc, rfl⟩ := hub.form
  subst hgi
  have hji : (j : Int) < (L.recs.length : Int) := by omega
  have hli : (L.recs.length : Int) ≤ 1073741824 := by omega
  have i0 := cell_of hA 0
  have i1 := cell_of hA 1
  simp at i0 i1
  have hlook := fun (w' : World) (k : Keep No W w') => (hl.by'.keep k (fun e => e)).look a n
  simp only [hp, Option.getD_some, Option.isSome_some] at hlook
  have HH := Lib.hid (And.intro kW (And.intro hB (And.intro hlook (And.intro hub hbl))))
  clear h hl kW hA hB hp hlook hr hjl hub hrec hbl e0 e1
  go_enter Tryz.func22, Tryz.ntmps22
  go_wp2_with fail
  rw [← hW]
  clear hW
  have kd : Keep No W W.drew := (Keep.refl _ _).drew
  refine wp_drawN (fun w' => Keep No W w') [0, 1, 2, 3, 4, 5, 6, 7, 8] [9, 10] [] (by kernel_rfl) (by kernel_rfl) (fun _ _ _ _ _ h => h) kd ?_
  iterate 9 (refine earlyN_cons (v := ?_) rfl rfl rfl ?_ ?_; rotate_left; focus (
    intro w' hS
    have f116 := hS.cell c116 (fun e => e)
    have j0 := hS.cell i0 (fun e => e)
    have j1 := hS.cell i1 (fun e => e)
    have hlk := HH.out.2.2.1 w' hS
    go_simp
    try with_reducible rfl))
  refine earlyN_nil (midN_cons rfl rfl (fun K hK => ?_))
  go_simp
  refine hK _ _ kd ?_
  clear hK K
  refine midN_cons rfl rfl (fun K hK => ?_)
  go_simp
  refine hK _ _ kd ?_
  clear hK K
  refine midN_nil (tailN_nil ?_)
  have hB := kd.heap HH.out.2.1 (fun e => e)
  have f114 := kd.cell c114 (fun e => e)
  have f2 := kd.cell e2 (fun e => e)
  have f3 := kd.cell e3 (fun e => e)
  have hub := HH.out.2.2.2.1.no kd
  have kdW := HH.out.1.then kd
  clear i0 i1 c114 c116 e2 e3
  generalize W.drew = X at *
  have kA := (Keep.refl No X).alloc (.cells #[.int .i64 r.s.c, .slice uo r.s.body.length uc] 51)
  have hS := heap_new X (.cells #[.int .i64 r.s.c, .slice uo r.s.body.length uc] 51)
  have hcl := clone_spec (hub.no kA) (by have := HH.out.2.2.2.2; omega)
  have hsw : w.heap.size + 1 < X.heap.size := heap_lt hB
  have HX := Lib.hid (And.intro hB (And.intro kdW (And.intro kA (And.intro hS hsw))))
  clear hB kdW kd hub kA hS hsw
  go_wp2_with fail
  refine hcl.mono ?_
  rintro e w2 ⟨v2, rfl, own2, k2⟩
  clear hcl
  obtain ⟨o2, c2, rfl⟩ := own2.form
  have hS2 := k2.heap HX.out.2.2.2.1 (fun e => e)
  have hB2 := k2.heap (HX.out.2.2.1.heap HX.out.1 (fun e => e)) (fun e => e)
  have p0 := cell_of hS2 0
  have p1 := cell_of hS2 1
  have fS := frozen_of hS2
  simp at p0 p1
  obtain ⟨W3, hW3⟩ : ∃ W3, w2.setCell ⟨X.heap.size, 1, none⟩ (.slice o2 r.s.body.length c2) = W3 := ⟨_, rfl⟩
  have k3 : Keep (· = X.heap.size) w2 (w2.setCell ⟨X.heap.size, 1, none⟩ (.slice o2 r.s.body.length c2)) := keep_cell _ _
  have hS3 := heap_setCell_same (i := 1) (u := .slice o2 r.s.body.length c2) hS2
  have hB3 := k3.heap hB2 (by have := HX.out.2.2.2.2; show ¬ w.heap.size + 1 = X.heap.size; omega)
  have hsX : X.heap.size < (X.alloc (.cells #[.int .i64 r.s.c, .slice uo r.s.body.length uc] 51)).heap.size := by simp
  have own3 := own2.keep k3 (fun b hb e => by have := (own2.lt b hb).1; have e : b = X.heap.size := e; omega)
  rw [hW3] at k3 hS3 hB3 own3
  have q0 := cell_of hS3 0
  have q1 := cell_of hS3 1
  have b0 := cell_of hB3 0
  have b1 := cell_of hB3 1
  have fB := frozen_of hB3
  simp at q0 q1 b0 b1
  have H3 := Lib.hid (And.intro hB3 (And.intro own3 (And.intro k2 (And.intro k3 hsX))))
  clear hB3 own3 k2 k3 hsX hS3 hS2 hB2 own2
  go_wp2_with fail
  have hZ := heap_setCell_same (i := 1) (u := .slice o2 r.s.body.length c2) (heap_setCell_same (i := 0) (u := .int .i64 r.s.c) H3.out.1)
  have kZ := (keep_cell (g := w.heap.size + 1) (i := 0) W3 (.int .i64 r.s.c)).setCell (p := ⟨w.heap.size + 1, 1, none⟩) (.inl rfl) (.slice o2 r.s.body.length c2)
  have z0 := cell_of hZ 0
  have z1 := cell_of hZ 1
  simp at z0 z1
  refine bodyPost_ret (v := .tuple #[.agg #[.int .i64 r.s.c, .slice o2 r.s.body.length c2], .bool true]) (by simp [results, Tryz.results22, go_sem, z0, z1]) rfl ?_
  have hXw := HX.out.2.1.size
  have hXs := HX.out.2.2.2.2
  have hsX := H3.out.2.2.2.2
  have hlt := H3.out.2.1.lt
  refine ⟨_, rfl, (H3.out.2.1.keep kZ (fun b hb e => by have := (hlt b hb).1; have e : b = w.heap.size + 1 := e; omega)).mono (by omega), ?_⟩
  exact ((((HX.out.2.1.then HX.out.2.2.1).then H3.out.2.2.1).trans H3.out.2.2.2.1 (fun x hx e => by have e : x = X.heap.size := e; omega)).trans kZ (fun x hx e => by omega))
end Go.Proofs.YtgogfnafbeahoaaGreat
