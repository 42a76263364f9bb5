/- The ledger: done, agent. The ledger: what it tells. The ledger: some, All, Stored. The ledger: Get. -/
import Derived.Test.YtfdmbomlkpkegaaGreatLedR

/-! ## LedS -/
namespace Go.Proofs.YtfdmbomlkpkegaaGreat
open Go Go.RowKit Go.Dr

def DonePost [bn : Inhabited Ban] (base : Nat) (w : World) (q g m : Nat) (lv : Value) (L : LedS) (w' : World) : Prop :=
  ∃ lv', LedAt base w' q g m lv' L ∧ Keep (gfoot q m lv) w w' ∧ (∀ c, lv'.ownBlock = some c → lv.ownBlock = some c ∨ w.heap.size ≤ c)
set_option maxRecDepth 100000 in
set_option maxHeartbeats 2000000 in
theorem gDone_spec [bn : Inhabited Ban] {base : Nat} {w : World} {q g m width : Nat} {lv pv : Value} {L : LedS} {r : LRec} (h : LedAt base w q g m lv L) (hok : L.Ok width) (hp : BytesAt base w pv r.bytes) (hc : L.can r)
    (hlen : r.bytes.length ≤ 1073741824) (hrec : L.recs.length ≤ 1073741824) (hb : base ≤ w.heap.size) (hT : ban.top ≤ w.heap.size) :
    Calls Tryz.prog 57 #[.pointer (some ⟨q, 0, none⟩), pv] w fun e w' => e = .returned (.bool true) ∧ DonePost base w q g m lv (L.step r) w' := by
  obtain ⟨po, pc, rfl⟩ := hp.form
  have hof := pOf_spec hp hb hT (by omega)
  obtain ⟨n, hn⟩ : ∃ n, n = r.bytes.length := ⟨_, rfl⟩
  rw [← hn] at hof ⊢
  have HH := Lib.hid (And.intro h (And.intro hok (And.intro hc (And.intro hlen (And.intro hrec (And.intro hb hT))))))
  clear h hok hp hlen hrec hb hT hn
  have fin : ∀ {w1 w2 w' : World} {i : Nat} {lv' : Value} {L' : LedS}, Keep No w w1 → w.heap.size ≤ i → Keep (· = i) w1 w2 → LedAt base w' q g m lv' L' → Keep (fun c => gfoot q m lv c ∨ c = i) w2 w' → (∀ c, lv'.ownBlock = some c → lv.ownBlock = some c ∨ w2.heap.size ≤ c) → DonePost base w q g m lv L' w' := by
    intro w1 w2 w' i lv' L' k1 hi k2 hl k3 ho
    refine ⟨lv', hl, ((k1.no (F := gfoot q m lv)).trans k2 (fun c hc e => ?_)).trans k3 (fun c hc e => ?_), fun c hcc => ?_⟩
    · have e : c = i := e
      omega
    · rcases e with e | e
      · exact e
      · omega
    · rcases ho c hcc with e | e
      · exact .inl e
      · exact .inr (Nat.le_trans (Nat.le_trans k1.size k2.size) e)
  cases r with
  | inc z =>
    have HC := Lib.hid hc
    clear hc
    go_enter Tryz.func57, Tryz.ntmps57
    go_wp2_with fail
    refine hof.mono ?_
    rintro e w1 ⟨i, rfl, hwi, hi1, k1⟩
    have hby := iByte_spec hi1
    rw [show (⟨(LRec.inc z).bytes, 0⟩ : InS).byte = (1, ⟨numB z, 0⟩) from rfl] at hby
    have H1 := Lib.hid (And.intro hwi (And.intro hi1 k1))
    clear hwi hi1 k1 hof
    go_wp2_with fail
    refine hby.mono ?_
    rintro e w2 ⟨rfl, hi2, k2⟩
    have hl2 := (HH.out.1.no H1.out.2.2).byIn H1.out.2.1 k2
    have hd := gDoneInc_spec hl2 hi2 HC.out.2 HC.out.1
    have H2 := Lib.hid k2
    clear hby hi2 k2 hl2
    go_wp2_with fail
    refine hd.mono ?_
    rintro e w3 ⟨rfl, hl3, k3⟩
    go_wp2_with fail
    go_ret
    exact ⟨rfl, fin H1.out.2.2 H1.out.1 H2.out hl3 (k3.mono (fun c _ e => by rcases e with e | e; exact .inl (.inl e); exact .inr e)) (fun c e => .inl e)⟩
  | floor a z =>
    have HC := Lib.hid hc
    clear hc
    go_enter Tryz.func57, Tryz.ntmps57
    go_wp2_with fail
    refine hof.mono ?_
    rintro e w1 ⟨i, rfl, hwi, hi1, k1⟩
    have hby := iByte_spec hi1
    rw [show (⟨(LRec.floor a z).bytes, 0⟩ : InS).byte = (2, ⟨numB a ++ numB z, 0⟩) from rfl] at hby
    have H1 := Lib.hid (And.intro hwi (And.intro hi1 k1))
    clear hwi hi1 k1 hof
    go_wp2_with fail
    refine hby.mono ?_
    rintro e w2 ⟨rfl, hi2, k2⟩
    have hl2 := (HH.out.1.no H1.out.2.2).byIn H1.out.2.1 k2
    obtain ⟨x, hx, _, _, hxf⟩ := HH.out.2.1.at HC.out.1
    have hd := gDoneFloor_spec hl2 hi2 hx HC.out.1 HC.out.2.2 (by have := HC.out.2.1; rw [hxf] at this; exact this)
    have H2 := Lib.hid k2
    clear hby hi2 k2 hl2 hxf hx
    go_wp2_with fail
    refine hd.mono ?_
    rintro e w3 ⟨rfl, hl3, k3⟩
    go_wp2_with fail
    go_ret
    exact ⟨rfl, fin H1.out.2.2 H1.out.1 H2.out hl3 (k3.mono (fun c _ e => by rcases e with e | e; exact .inl (.inl e); exact .inr e)) (fun c e => .inl e)⟩
  | put a b l =>
    have HC := Lib.hid hc
    clear hc
    go_enter Tryz.func57, Tryz.ntmps57
    go_wp2_with fail
    refine hof.mono ?_
    rintro e w1 ⟨i, rfl, hwi, hi1, k1⟩
    have hby := iByte_spec hi1
    rw [show (⟨(LRec.put a b l).bytes, 0⟩ : InS).byte = (3, ⟨numB a ++ (numB b ++ (numB l.length ++ itemsB l)), 0⟩) from rfl] at hby
    have H1 := Lib.hid (And.intro hwi (And.intro hi1 k1))
    clear hwi hi1 k1 hof
    go_wp2_with fail
    refine hby.mono ?_
    rintro e w2 ⟨rfl, hi2, k2⟩
    have hl2 := (HH.out.1.no H1.out.2.2).byIn H1.out.2.1 k2
    have hsz : w.heap.size ≤ w2.heap.size := Nat.le_trans H1.out.2.2.size k2.size
    have hd := gDonePut_spec hl2 HH.out.2.1 hi2 HC.out (by have := HH.out.2.2.2.1; simp [LRec.bytes] at this; omega) HH.out.2.2.2.2.1 (Nat.le_trans HH.out.2.2.2.2.2.1 hsz) (Nat.le_trans HH.out.2.2.2.2.2.2 hsz)
    have H2 := Lib.hid k2
    clear hby hi2 k2 hl2 hsz
    go_wp2_with fail
    refine hd.mono ?_
    rintro e w3 ⟨rfl, lv', hl3, k3, ho⟩
    go_wp2_with fail
    go_ret
    exact ⟨rfl, fin H1.out.2.2 H1.out.1 H2.out hl3 k3 ho⟩
/-- An agent; none. -/
theorem gAgent_in {w : World} (q a : Nat) (ha : a < 16) : Calls Tryz.prog 61 #[.pointer (some ⟨q, 0, none⟩), .int .i64 a] w fun e w' => e = .returned (.pointer (some ⟨q, 2 + a * 7, none⟩)) ∧ w' = w := by
  have h1 : ¬ (a : Int) < 0 := by omega
  have h2 : ¬ 16 ≤ (a : Int) := by omega
  have h3 : (a : Int) < 16 := by omega
  go_enter Tryz.func61, Tryz.ntmps61
  go_wp2_with fail
  go_ret
  exact ⟨rfl, rfl⟩
theorem gAgent_out {w : World} (q : Nat) (a : Int) (ha : a < 0 ∨ 16 ≤ a) : Calls Tryz.prog 61 #[.pointer (some ⟨q, 0, none⟩), .int .i64 a] w fun e w' => e = .returned (.pointer none) ∧ w' = w := by
  by_cases h1 : a < 0
  · clear ha
    go_enter Tryz.func61, Tryz.ntmps61
    go_wp2_with fail
    go_ret
    exact ⟨rfl, rfl⟩
  · have h2 : 16 ≤ a := by omega
    clear ha
    go_enter Tryz.func61, Tryz.ntmps61
    go_wp2_with fail
    go_ret
    exact ⟨rfl, rfl⟩
end Go.Proofs.YtfdmbomlkpkegaaGreat

/-! ## LedT -/
namespace Go.Proofs.YtfdmbomlkpkegaaGreat
open Go Go.RowKit Go.Dr

theorem gInc_spec [bn : Inhabited Ban] {base : Nat} {w : World} {q g m : Nat} {lv : Value} {L : LedS} (h : LedAt base w q g m lv L) : Calls Tryz.prog 15 #[.pointer (some ⟨q, 0, none⟩)] w fun e w' => e = .returned (.int .u64 L.inc) ∧ w' = w := by
  obtain ⟨c1, _, _⟩ := h.incCell
  clear h
  go_enter Tryz.func15, Tryz.ntmps15
  go_wp2_with fail
  go_ret
  exact ⟨rfl, rfl⟩
theorem gLog_spec [bn : Inhabited Ban] {base : Nat} {w : World} {q g m : Nat} {lv : Value} {L : LedS} (h : LedAt base w q g m lv L) : Calls Tryz.prog 16 #[.pointer (some ⟨q, 0, none⟩)] w fun e w' => e = .returned (.pointer (some ⟨g, 0, none⟩)) ∧ w' = w := by
  obtain ⟨_, c0, _⟩ := h.incCell
  clear h
  go_enter Tryz.func16, Tryz.ntmps16
  go_wp2_with fail
  go_ret
  exact ⟨rfl, rfl⟩
end Go.Proofs.YtfdmbomlkpkegaaGreat

/-! ## LedU -/
namespace Go.Proofs.YtfdmbomlkpkegaaGreat
open Go Go.RowKit Go.Dr

/-- Spans of one's own, their bodies too. -/
def RecsOwn (w : World) (B : Nat) (v : Value) (l : List RecS) : Prop :=
  ∃ xs : List (RecS × Value), xs.map (·.1) = l ∧ (∀ x ∈ xs, OwnB w B x.2 x.1.s.body) ∧ w.ownsRow B 63 4 v l.length (recCells xs)
theorem RecsOwn.nil (w : World) (B : Nat) : RecsOwn w B (.slice none 0 0) [] := ⟨[], rfl, fun x h => by simp at h, World.ownsRow_nil _ _ _ _⟩
theorem RecsOwn.at' [bn : Inhabited Ban] {base : Nat} {w : World} {B : Nat} {v : Value} {l : List RecS} (h : RecsOwn w B v l) (hT : ban.top ≤ B) (hb : base ≤ B) : RecsAt base w v l := by
  obtain ⟨xs, h1, h2, h3⟩ := h
  refine ⟨xs, h1, fun x hx => (h2 x hx).bytes (fun _ => hT), h3.1, ?_⟩
  rcases h3.2 with e | ⟨g, cap, cur, e1, e2, e3⟩
  · exact .inl e
  · exact .inr ⟨g, cap, cur, e1, Nat.le_trans hb e2, e3⟩
theorem RecsOwn.form {w : World} {B : Nat} {v : Value} {l : List RecS} (h : RecsOwn w B v l) : ∃ ao cap, v = .slice ao l.length cap ∧ l.length ≤ cap ∧ cap ≤ maxLen := by
  obtain ⟨xs, _, _, h3⟩ := h
  exact row_form h3
theorem RecsOwn.mono {w : World} {B B' : Nat} {v : Value} {l : List RecS} (h : RecsOwn w B v l) (hb : B' ≤ B) : RecsOwn w B' v l := by
  obtain ⟨xs, h1, h2, h3⟩ := h
  refine ⟨xs, h1, fun x hx => (h2 x hx).mono hb, h3.1, ?_⟩
  rcases h3.2 with e | ⟨g, cap, cur, e1, e2, e3⟩
  · exact .inl e
  · exact .inr ⟨g, cap, cur, e1, Nat.le_trans hb e2, e3⟩
/-- Who writes below, or to blocks that are neither rows of spans nor bytes. -/
theorem RecsOwn.keep {w w' : World} {B : Nat} {v : Value} {l : List RecS} {F : Nat → Prop} (h : RecsOwn w B v l) (k : Keep F w w') (hF : ∀ b, B ≤ b → F b → ∀ cs fr, w.heap[b]? ≠ some (.cells cs 63 fr) ∧ w.heap[b]? ≠ some (.cells cs 5 fr)) : RecsOwn w' B v l := by
  obtain ⟨xs, h1, h2, h3⟩ := h
  refine ⟨xs, h1, fun x hx => (h2 x hx).keep k (fun b hb hf => ?_), row_keep h3 k (fun b hb hf => ?_)⟩
  · obtain ⟨q1, cur, hz⟩ := row_kind (h2 x hx) b hb
    exact (hF b q1 hf _ _).2 hz
  · obtain ⟨q1, cur, hz⟩ := row_kind h3 b hb
    exact (hF b q1 hf _ _).1 hz
theorem RecsOwn.no {w w' : World} {B : Nat} {v : Value} {l : List RecS} (h : RecsOwn w B v l) (k : Keep No w w') : RecsOwn w' B v l := h.keep k (fun _ _ e => e.elim)
theorem wpList_append_orec {w : World} {ops : Array Oper} {rest : List Oper} {o : Oper} {a : Act} {Q : Exit → Act → World → Prop} (hg : o.guard = none) (s x : Operand)
    (ho : o.op = .call { callee := .builtin .append, args := #[s, x], argTypes := #[31, 31] }) {B : Nat} {v : Value} {l : List RecS} (h : RecsOwn w B v l) (hs : a.eval s = v) {D : Nat} {y : RecS} {uo : Option Addr} {uc : Nat}
    (hD : w.heap[D]? = some (.cells #[.int .i64 y.who, .int .u64 y.n, .int .i64 y.s.c, .slice uo y.s.body.length uc] 63 (0, 0))) (hx : a.eval x = .slice (some ⟨D, 0, none⟩) 1 1) (hu : OwnB w B (.slice uo y.s.body.length uc) y.s.body) (hl : l.length ≤ 1099511627776) (hb : B ≤ w.heap.size)
    (hK : ∀ vo vc w', RecsOwn w' B (.slice vo (l.length + 1) vc) (l ++ [y]) → Keep (fun b => v.ownBlock = some b) w w' → wpList Tryz.prog ops Q rest (a.put o.dst (.slice vo (l.length + 1) vc)) w') : wpList Tryz.prog ops Q (o :: rest) a w := by
  obtain ⟨xs, h1, h2, h3⟩ := h
  obtain ⟨i0, hi0, hz0, hz1, hz2⟩ := info_parts info_rec
  refine wpList_plain hg fun K hK' => ?_
  refine wp_append_lies w s x 31 ho B 63 i0 _ 4 48 Tryz.underlying31 hi0 hz0 hz1 hz2 rfl (by omega) v l.length (recCells xs) hs h3
    ⟨D, 0, none⟩ 1 1 (recCell y (.slice uo y.s.body.length uc)) hx rfl (World.news_of_block (cs := #[.int .i64 y.who, .int .u64 y.n, .int .i64 y.s.c, .slice uo y.s.body.length uc]) (t := 63) (fr := (0, 0)) hD) (by simp [recCell, Value.oneCell']) (by omega) (by unfold maxLen; omega) (by omega) hb w.heap.size rfl ?_
  intro g cap w' hown hgr hat hlt
  have k := own_grown hgr
  have hap : ∀ {u : Value} {m : List UInt8}, OwnB w B u m → OwnB w' B u m := fun {u m} hu => hu.keep k (fun b hb hf => by
    obtain ⟨_, cur, hz⟩ := row_kind hu b hb
    obtain ⟨_, cur2, hz2⟩ := row_kind h3 b hf
    rw [hz] at hz2; simp at hz2)
  refine hK' _ _ (hK _ _ _ ⟨xs ++ [(y, .slice uo y.s.body.length uc)], by simp [h1], fun z hz => ?_, ?_⟩ k)
  · rcases List.mem_append.1 hz with hz | hz
    · exact hap (h2 z hz)
    · rw [List.mem_singleton.1 hz]; exact hap hu
  · rw [recCells_append, List.length_append]
    have e : recCells [(y, Value.slice uo y.s.body.length uc)] = recCell y (.slice uo y.s.body.length uc) := by simp [recCells]
    rw [e]
    simpa using hown
theorem RecsAt.cell [bn : Inhabited Ban] {base : Nat} {w : World} {ao : Option Addr} {n cap : Nat} {l : List RecS} (h : RecsAt base w (.slice ao n cap) l) {i : Nat} {x : RecS} (hi : l[i]? = some x) :
    ∃ g u, ao = some ⟨g, 0, none⟩ ∧ BytesAt base w u x.s.body ∧ w.cell? ⟨g, i * 4, none⟩ = some (.int .i64 x.who) ∧ w.cell? ⟨g, i * 4 + 1, none⟩ = some (.int .u64 x.n) ∧ w.cell? ⟨g, i * 4 + 2, none⟩ = some (.int .i64 x.s.c) ∧ w.cell? ⟨g, i * 4 + 3, none⟩ = some u := by
  obtain ⟨ao', cap', hq, _⟩ := h.form
  simp only [Value.slice.injEq] at hq
  obtain ⟨rfl, rfl, rfl⟩ := hq
  obtain ⟨xs, h1, h2, h3⟩ := h
  have hxs : ∃ u, xs[i]? = some (x, u) := by
    rw [← h1, List.getElem?_map] at hi
    cases hx : xs[i]? with
    | none => rw [hx] at hi; simp at hi
    | some y => rw [hx] at hi; simp at hi; exact ⟨y.2, by rw [← hi]⟩
  obtain ⟨u, hu⟩ := hxs
  have hl : (recCells xs).length = l.length * 4 := by unfold recCells; rw [flatMap_len _ 4 (fun _ => rfl), ← h1, List.length_map]
  have c := fun (f : Nat) (hf : f < 4) (y : Value) (hy : (recCell x u)[f]? = some y) => row_cell h3 (j := i * 4 + f) (x := y) (by unfold recCells; rw [flatMap_at (fun x : RecS × Value => recCell x.1 x.2) 4 (fun _ => rfl) hu hf]; exact hy) hl
  obtain ⟨g, rfl, c0⟩ := c 0 (by decide) _ rfl
  refine ⟨g, u, rfl, h2 _ (List.mem_of_getElem? hu), c0, ?_, ?_, ?_⟩
  · obtain ⟨_, e, h⟩ := c 1 (by decide) _ rfl; simp at e; subst e; exact h
  · obtain ⟨_, e, h⟩ := c 2 (by decide) _ rfl; simp at e; subst e; exact h
  · obtain ⟨_, e, h⟩ := c 3 (by decide) _ rfl; simp at e; subst e; exact h
theorem elem_recs : Tryz.prog.underlying 31 = some (.slice (Tryz.prog.elem 31)) := by kernel_rfl
theorem size_recs (w : World) : (sizeOf (Tryz.prog.elem 31)).run Tryz.prog w = .ok 4 w := by kernel_rfl
theorem slice_recs [bn : Inhabited Ban] {base : Nat} {w0 : World} {ao : Option Addr} {n cap k : Nat} {l : List RecS} (h : RecsAt base w0 (.slice ao n cap) l) (hk : k ≤ n) (w : World) :
    (Instr.slice 31 (.slice ao n cap) none (some (.int .i64 (k : Int))) none).run Tryz.prog w = .ok (.slice ao k cap) w := by
  obtain ⟨_, _, _, h3⟩ := h
  have hnc : n ≤ cap := by
    obtain ⟨ao', cap', hq, q1, q2⟩ := row_form h3
    simp only [Value.slice.injEq] at hq
    omega
  rw [run_slice_h w 31 ao n cap elem_recs .i64 _ (by omega) (by omega), Int.toNat_natCast, size_recs]
  rcases h3.2 with ⟨hq, _⟩ | ⟨g, cap', cur, hq, _⟩
  · simp only [Value.slice.injEq] at hq
    obtain ⟨rfl, rfl, rfl⟩ := hq
    have : k = 0 := by omega
    subst this
    rfl
  · simp only [Value.slice.injEq] at hq
    obtain ⟨rfl, rfl, rfl⟩ := hq
    simp [sliced, Result.andThen]
    intro _
    simp [Addr.add]
set_option maxRecDepth 100000 in
set_option maxHeartbeats 2000000 in
theorem gSome_spec [bn : Inhabited Ban] {base : Nat} {w : World} {q g m : Nat} {lv : Value} {L : LedS} (h : LedAt base w q g m lv L) (n : Nat) (hn : n ≤ L.recs.length) (hrec : L.recs.length ≤ 1073741824) (hbl : ∀ r ∈ L.recs, r.s.body.length ≤ 1073741824) :
    Calls Tryz.prog 51 #[.pointer (some ⟨q, 0, none⟩), .int .i64 n] w fun e w' => ∃ v, e = .returned v ∧ RecsOwn w' w.heap.size v (L.recs.take n) ∧ Keep No w w' := by
  obtain ⟨c114, _, _⟩ := h.endCells
  obtain ⟨lo, lc, rfl, _, hlm⟩ := h.recs.form
  have hsl := fun (w' : World) => slice_recs h.recs (k := n) hn w'
  have HH := Lib.hid (And.intro h.recs (And.intro hn (And.intro hrec hbl)))
  have hni : (n : Int) ≤ 1073741824 := by omega
  clear h hn hrec hbl hlm
  go_enter Tryz.func51, Tryz.ntmps51
  go_wp2_with fail
  go_loopw [5, 15] (fun v5 v15 wr => ∃ k, v15 = .int .i64 (k : Nat) ∧ k ≤ n ∧ RecsOwn wr w.heap.size v5 (L.recs.take k) ∧ Keep No w wr) (fun _ v15 _ => n - (intOf v15).toNat)
  case atStart => exact ⟨0, rfl, Nat.zero_le _, RecsOwn.nil _ _, Keep.refl _ _⟩
  case round =>
    obtain ⟨k, rfl, hk, hown, kr⟩ := hrel
    obtain ⟨oo, oc, rfl, _, _⟩ := hown.form
    by_cases hlt : k < n
    · have hkl : k < L.recs.length := Nat.lt_of_lt_of_le hlt HH.out.2.1
      have hx : L.recs[k]? = some L.recs[k] := List.getElem?_eq_getElem hkl
      have htake : L.recs.take (k + 1) = L.recs.take k ++ [L.recs[k]] := List.take_succ_eq_append_getElem hkl
      generalize L.recs[k] = x at hx htake
      obtain ⟨gi, ui, hgi, hub, e0, e1, e2, e3⟩ := HH.out.1.cell hx
      obtain ⟨uo, uc, rfl⟩ := hub.form
      subst hgi
      have e0 := kr.cell e0 (fun e => e)
      have e1 := kr.cell e1 (fun e => e)
      have e2 := kr.cell e2 (fun e => e)
      have e3 := kr.cell e3 (fun e => e)
      have hki : (k : Int) < (n : Int) := by omega
      obtain ⟨tk, htk⟩ : ∃ tk, tk = L.recs.take k := ⟨_, rfl⟩
      rw [← htk] at hown htake
      have hlen : tk.length ≤ 1073741824 := by rw [htk, List.length_take]; omega
      have htl : tk.length = (L.recs.take k).length := by rw [htk]
      rw [← htl]
      have kA := (Keep.refl No wr).alloc (.cells #[.int .i64 x.who, .int .u64 x.n, .int .i64 x.s.c, .slice uo x.s.body.length uc] 63)
      have hA := heap_new wr (.cells #[.int .i64 x.who, .int .u64 x.n, .int .i64 x.s.c, .slice uo x.s.body.length uc] 63)
      have hcl := clone_spec ((hub.no kr).no kA) (by have := HH.out.2.2.2 x (List.mem_of_getElem? hx); omega)
      have HR := Lib.hid (And.intro hown (And.intro kr (And.intro htake (And.intro hlen (And.intro kA (And.intro hA hlt))))))
      clear hown kr htake hlen kA hA hlt hx hkl htk htl hub hk
      go_wp2_with fail
      refine hcl.mono ?_
      rintro e w2 ⟨v2, rfl, own2, k2⟩
      clear hcl
      obtain ⟨o2, c2, rfl⟩ := own2.form
      have hA2 := k2.heap HR.out.2.2.2.2.2.1 (fun e => e)
      have d0 := cell_of hA2 0
      have d1 := cell_of hA2 1
      have d2 := cell_of hA2 2
      have d3 := cell_of hA2 3
      have fA := frozen_of hA2
      simp at d0 d1 d2 d3
      obtain ⟨W3, hW3⟩ : ∃ W3, w2.setCell ⟨wr.heap.size, 3, none⟩ (.slice o2 x.s.body.length c2) = W3 := ⟨_, rfl⟩
      have k3 : Keep (· = wr.heap.size) w2 (w2.setCell ⟨wr.heap.size, 3, none⟩ (.slice o2 x.s.body.length c2)) := keep_cell _ _
      have hA3 := heap_setCell_same (i := 3) (u := .slice o2 x.s.body.length c2) hA2
      have hsA : wr.heap.size < (wr.alloc (.cells #[.int .i64 x.who, .int .u64 x.n, .int .i64 x.s.c, .slice uo x.s.body.length uc] 63)).heap.size := by simp
      have own3 := own2.keep k3 (fun b hb e => by have := (own2.lt b hb).1; have e : b = wr.heap.size := e; omega)
      have hown2 := ((HR.out.1.no HR.out.2.2.2.2.1).no k2)
      have hown3 : RecsOwn (w2.setCell ⟨wr.heap.size, 3, none⟩ (.slice o2 x.s.body.length c2)) w.heap.size (.slice oo tk.length oc) tk := by
        obtain ⟨xs, h1, h2, h3⟩ := HR.out.1
        refine ⟨xs, h1, fun y hy => (((h2 y hy).keep HR.out.2.2.2.2.1 (fun _ _ e => e)).keep k2 (fun _ _ e => e)).keep k3 (fun b hb e => ?_), row_keep (row_keep (row_keep h3 HR.out.2.2.2.2.1 (fun _ _ e => e)) k2 (fun _ _ e => e)) k3 (fun b hb e => ?_)⟩
        · have := (OwnB.lt (h2 y hy) b hb).2; have e : b = wr.heap.size := e; omega
        · have := (World.ownsRow.lt h3 b hb).2; have e : b = wr.heap.size := e; omega
      rw [hW3] at k3 hA3 own3 hown3
      have p0 := cell_of hA3 0
      have p1 := cell_of hA3 1
      have p2 := cell_of hA3 2
      have p3 := cell_of hA3 3
      simp at p0 p1 p2 p3
      have kB := (Keep.refl No W3).alloc (.cells #[.int .i64 x.who, .int .u64 x.n, .int .i64 x.s.c, .slice o2 x.s.body.length c2] 63)
      have hB := heap_new W3 (.cells #[.int .i64 x.who, .int .u64 x.n, .int .i64 x.s.c, .slice o2 x.s.body.length c2] 63)
      have hsz := HR.out.2.1.size
      have H3 := Lib.hid (And.intro (hown3.no kB) (And.intro ((own3.keep kB (fun _ _ e => e)).mono (B' := w.heap.size) (by omega)) (And.intro hB (And.intro ((((HR.out.2.1.then HR.out.2.2.2.2.1).then k2).trans k3 (fun c hc e => by have e : c = wr.heap.size := e; omega)).then kB) hsz))))
      have hsz3 := H3.out.2.2.2.1.size
      clear hown3 own3 hB kB k3 hA3 hA2 own2 hown2 k2 hsA
      go_wp2_with (at_builtin; refine wpList_append_orec rfl _ _ rfl H3.out.1 rfl H3.out.2.2.1 rfl H3.out.2.1 (by have := HR.out.2.2.2.1; omega) hsz3 ?_; intro vo5 vc5 w5 hown5 k5)
      go_roundw
      case rel =>
        refine ⟨k + 1, by congr 1, by have := HR.out.2.2.2.2.2.2; omega, by rw [HR.out.2.2.1]; exact hown5, H3.out.2.2.2.1.trans k5 (fun c hc e => ?_)⟩
        obtain ⟨xs, h1, h2, h3⟩ := HR.out.1
        have := (World.ownsRow.lt h3 c e).1
        omega
      case measure => have := HR.out.2.2.2.2.2.2; simp [intOf]; omega
    · have hke : k = n := by omega
      have hki : ¬ (k : Int) < (n : Int) := by omega
      subst hke
      obtain ⟨tk, htk⟩ : ∃ tk, tk = L.recs.take k := ⟨_, rfl⟩
      rw [← htk] at hown
      have htl : tk.length = (L.recs.take k).length := by rw [htk]
      rw [← htl]
      have HR := Lib.hid (And.intro hown (And.intro kr htk))
      clear hown kr hk hlt htk htl
      go_wp2_with fail
      go_ret
      exact ⟨_, rfl, by rw [← HR.out.2.2]; exact HR.out.1, HR.out.2.1⟩
theorem gAll_spec [bn : Inhabited Ban] {base : Nat} {w : World} {q g m : Nat} {lv : Value} {L : LedS} (h : LedAt base w q g m lv L) (hrec : L.recs.length ≤ 1073741824) (hbl : ∀ r ∈ L.recs, r.s.body.length ≤ 1073741824) :
    Calls Tryz.prog 13 #[.pointer (some ⟨q, 0, none⟩)] w fun e w' => ∃ v, e = .returned v ∧ RecsOwn w' w.heap.size v L.recs ∧ Keep No w w' := by
  have hs := gSome_spec h L.recs.length (Nat.le_refl _) hrec hbl
  rw [List.take_of_length_le (Nat.le_refl _)] at hs
  obtain ⟨c114, _, _⟩ := h.endCells
  obtain ⟨lo, lc, rfl, _, _⟩ := h.recs.form
  clear h hbl
  go_enter Tryz.func13, Tryz.ntmps13
  go_wp2_with (go_at_call 51; refine hs.mono ?_; rintro e w' ⟨v, rfl, ho, k⟩)
  go_ret
  exact ⟨_, rfl, ho, k⟩
theorem gStored_spec [bn : Inhabited Ban] {base : Nat} {w : World} {q g m : Nat} {lv : Value} {L : LedS} (h : LedAt base w q g m lv L) (hrec : L.recs.length ≤ 1073741824) (hbl : ∀ r ∈ L.recs, r.s.body.length ≤ 1073741824) (hsf : L.safe ≤ L.recs.length) :
    Calls Tryz.prog 14 #[.pointer (some ⟨q, 0, none⟩)] w fun e w' => ∃ v, e = .returned v ∧ RecsOwn w' w.heap.size v (L.recs.take L.safe) ∧ Keep No w w' := by
  have hs := gSome_spec h L.safe hsf hrec hbl
  obtain ⟨_, c115, _⟩ := h.endCells
  clear h hbl
  go_enter Tryz.func14, Tryz.ntmps14
  go_wp2_with (go_at_call 51; refine hs.mono ?_; rintro e w' ⟨v, rfl, ho, k⟩)
  go_ret
  exact ⟨_, rfl, ho, k⟩
end Go.Proofs.YtfdmbomlkpkegaaGreat

/-! ## LedV -/
namespace Go.Proofs.YtfdmbomlkpkegaaGreat
open Go Go.RowKit Go.Dr

theorem posR_some {l : List RecS} {a : Int} {n j : Nat} (h : posR l a n = some j) : ∃ r, l[j]? = some r ∧ (r.who : Int) = a ∧ r.n = n := by
  unfold posR at h
  rw [List.findIdx?_eq_some_iff_getElem] at h
  obtain ⟨hj, hp, _⟩ := h
  refine ⟨l[j], List.getElem?_eq_getElem hj, ?_⟩
  simp at hp
  exact ⟨hp.1, by omega⟩
theorem posR_mem {l : List RecS} {r : RecS} (h : r ∈ l) : ∃ j, posR l (r.who : Int) r.n = some j := by
  cases e : posR l (r.who : Int) r.n with
  | some j => exact ⟨j, rfl⟩
  | none =>
    unfold posR at e
    rw [List.findIdx?_eq_none_iff] at e
    have := e r h
    simp at this
end Go.Proofs.YtfdmbomlkpkegaaGreat
