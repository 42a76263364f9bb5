/- What the ledger's records say: the plain law. -/
import Derived.Test.YtfdmbomlkpkegaaGreatSpan
import Derived.Test.YtfdmbomlkpkegaaGreatWinP
namespace Go.Proofs.YtfdmbomlkpkegaaGreat

theorem u8_ofNat (k : Nat) (h : k < 256) : (UInt8.ofNat k).toNat = k := by simp; omega
theorem numP_numB : ∀ (k i acc n : Nat) (r : List UInt8), n < 2 * 128 ^ k → (i + k = 9) → (n = 0 → i = 0) → numP i acc (numB n ++ r) = .ok (acc + n * 128 ^ i, r)
  | 0, i, acc, n, r, h, hi, h0 => by
    have hn : n < 2 := by simpa using h
    rw [numB_lt (by omega)]
    show numP i acc (UInt8.ofNat n :: r) = _
    unfold numP
    rw [u8_ofNat n (by omega), if_neg (by omega), if_neg (by omega), if_pos (by omega)]
  | k + 1, i, acc, n, r, h, hi, h0 => by
    by_cases hc : n < 128
    · rw [numB_lt hc]
      show numP i acc (UInt8.ofNat n :: r) = _
      unfold numP
      rw [u8_ofNat n (by omega), if_neg (by omega), if_neg (by omega), if_pos hc]
    · rw [numB_ge (by omega)]
      show numP i acc (UInt8.ofNat (n % 128 + 128) :: (numB (n / 128) ++ r)) = _
      unfold numP
      rw [u8_ofNat _ (by omega), if_neg (by omega), if_neg (by omega), if_neg (by omega)]
      have e : (n % 128 + 128) % 128 = n % 128 := by omega
      rw [e, numP_numB k (i + 1) _ (n / 128) r (by rw [Nat.div_lt_iff_lt_mul (by decide)]; rw [Nat.pow_succ, ← Nat.mul_assoc] at h; exact h) (by omega) (fun hz => by omega)]
      have e2 : n = n % 128 + 128 * (n / 128) := (Nat.mod_add_div n 128).symm
      congr 2
      rw [Nat.pow_succ, Nat.add_assoc]
      congr 1
      conv => rhs; rw [e2]
      rw [Nat.add_mul]
      congr 1
      rw [Nat.mul_comm (128 ^ i) 128, ← Nat.mul_assoc, Nat.mul_comm (n / 128) 128]
theorem num_numB {n : Nat} (hn : n < 18446744073709551616) (r : List UInt8) : InS.num ⟨numB n ++ r, 0⟩ = (n, ⟨r, 0⟩) := by
  have h := numP_numB 9 0 0 n r (Nat.lt_of_lt_of_le hn (by decide)) rfl (fun _ => rfl)
  unfold InS.num
  rw [if_pos rfl]
  show InS.numR _ (numP 0 0 (numB n ++ r)) = _
  rw [h]
  show (0 + n * 128 ^ 0, _) = _
  simp
theorem some_numB {b : List UInt8} (most : Nat) (hb : b.length ≤ most) (hm : most < 18446744073709551616) (r : List UInt8) : InS.some ⟨numB b.length ++ (b ++ r), 0⟩ most = (b, ⟨r, 0⟩) := by
  unfold InS.some
  rw [if_pos rfl, num_numB (by omega)]
  simp only
  rw [if_pos trivial, if_neg (by omega), if_neg (by simp)]
  simp
def SpanS.Right (s : SpanS) : Prop := 0 ≤ s.c ∧ s.c < 8 ∧ s.body.length ≤ 4096
theorem span_bytes {s : SpanS} (h : s.Right) (r : List UInt8) : InS.span ⟨s.bytes ++ r, 0⟩ = (s, ⟨r, 0⟩) := by
  obtain ⟨h1, h2, h3⟩ := h
  obtain ⟨c, hc⟩ : ∃ c : Nat, s.c = (c : Int) := ⟨s.c.toNat, by omega⟩
  have e : s.bytes ++ r = UInt8.ofNat c :: (numB s.body.length ++ (s.body ++ r)) := by
    unfold SpanS.bytes
    rw [hc]
    have : ((c : Int) % 256).toNat = c := by omega
    rw [this]
    simp
  have hby : InS.byte ⟨s.bytes ++ r, 0⟩ = (c, ⟨numB s.body.length ++ (s.body ++ r), 0⟩) := by
    unfold InS.byte
    rw [if_pos rfl, e]
    simp only
    rw [u8_ofNat c (by omega)]
  have hcl : InS.cls ⟨s.bytes ++ r, 0⟩ = ⟨numB s.body.length ++ (s.body ++ r), 0⟩ := by
    unfold InS.cls
    rw [hby]
    simp only
    rw [if_pos (by omega)]
  unfold InS.span
  rw [hcl, hby, some_numB 4096 h3 (by decide)]
  simp only
  rw [if_pos trivial, ← hc]
theorem item_bytes {i : ItemS} (hn : i.n < 18446744073709551616) (h : i.s.Right) (r : List UInt8) : InS.item ⟨i.bytes ++ r, 0⟩ = (i, ⟨r, 0⟩) := by
  unfold InS.item ItemS.bytes
  rw [List.append_assoc, num_numB hn]
  simp only
  rw [span_bytes h]
  simp only
  rw [if_pos trivial]

/-! ### The ledger's records -/
inductive LRec where
  | inc (n : Nat)
  | floor (a n : Nat)
  | put (a base : Nat) (l : List ItemS)
def itemsB (l : List ItemS) : List UInt8 := l.flatMap ItemS.bytes
def LRec.bytes : LRec → List UInt8
  | .inc n => 1 :: numB n
  | .floor a n => 2 :: (numB a ++ numB n)
  | .put a base l => 3 :: (numB a ++ (numB base ++ (numB l.length ++ itemsB l)))
def ItemS.Right (i : ItemS) : Prop := i.n < 2305843009213693952 ∧ i.s.Right
structure AgS where
  floor : Nat
  now : WinS
  safe : WinS
structure RecS where
  who : Nat
  n : Nat
  s : SpanS
structure LedS where
  inc : Nat
  ag : List AgS
  recs : List RecS
  safe : Nat
def LedS.start (width : Nat) : LedS := ⟨0, List.replicate 16 ⟨0, WinS.new width, ⟨0, 0, []⟩⟩, [], 0⟩
def WinS.putAll (w : WinS) (l : List ItemS) : WinS := l.foldl (fun w x => w.put x.n) w
/-- All are taken, one behind the other. -/
def WinS.allIn : WinS → List ItemS → Prop
  | _, [] => True
  | w, x :: l => w.takes x.n = true ∧ (w.put x.n).allIn l
def LedS.win (L : LedS) (a : Nat) : WinS := match L.ag[a]? with
  | none => ⟨0, 0, []⟩
  | some g => g.now
def LedS.floor (L : LedS) (a : Nat) : Nat := match L.ag[a]? with
  | none => 0
  | some g => g.floor
def LedS.step (L : LedS) : LRec → LedS
  | .inc n => { L with inc := n }
  | .floor a n => { L with ag := L.ag.modify a (fun g => { g with floor := n }) }
  | .put a base l => { L with ag := L.ag.modify a (fun g => { g with now := (g.now.skip base).putAll l }), recs := L.recs ++ l.map (fun x => ⟨a, x.n, x.s⟩) }
/-- What the program lets be. -/
def LedS.can (L : LedS) : LRec → Prop
  | .inc n => L.inc < n ∧ n < 2305843009213693952
  | .floor a n => a < 16 ∧ L.floor a < n ∧ n < 2305843009213693952
  | .put a base l => a < 16 ∧ base < 2305843009213693952 ∧ l.length ≤ 64 ∧ (∀ x ∈ l, x.Right) ∧ ((L.win a).skip base).allIn l
def LedS.sync (L : LedS) : LedS := { L with ag := L.ag.map (fun g => { g with safe := g.now }), safe := L.recs.length }
theorem LRec.len (r : LRec) : r.bytes.length ≥ 1 := by cases r <;> simp [LRec.bytes]
structure AgS.Ok (width : Nat) (g : AgS) : Prop where
  now : g.now.Ok
  width : g.now.width = width
  low : g.now.low < 2305843009213693952
  below : ∀ n, HasR g.now.set n → n < 2305843009213693952
  floor : g.floor < 2305843009213693952
structure LedS.Ok (width : Nat) (L : LedS) : Prop where
  wide : 1 ≤ width ∧ width ≤ 1024
  inc : L.inc < 2305843009213693952
  ag : L.ag.length = 16
  win : ∀ (a : Nat) (g : AgS), L.ag[a]? = some g → g.Ok width
  had : ∀ r ∈ L.recs, r.who < 16 ∧ r.n < 2305843009213693952 ∧ r.s.Right ∧ (L.win r.who).Had r.n
  once : L.recs.Pairwise (fun a b => ¬ (a.who = b.who ∧ a.n = b.n))
theorem LedS.Ok.start {width : Nat} (h : 1 ≤ width ∧ width ≤ 1024) : (LedS.start width).Ok width := by
  refine ⟨h, (by show (0 : Nat) < _; decide), by simp [LedS.start], fun a g hg => ?_, fun r hr => by simp [LedS.start] at hr, List.Pairwise.nil⟩
  have hm := List.mem_of_getElem? hg
  have : g = ⟨0, WinS.new width, ⟨0, 0, []⟩⟩ := List.eq_of_mem_replicate hm
  subst this
  exact ⟨WinS.Ok.new h, rfl, (by show (0 : Nat) < _; decide), fun n hn => (HasR.nil _ hn).elim, (by show (0 : Nat) < _; decide)⟩
/-- A window of one that is below 2^61. -/
structure WinS.Fine (width : Nat) (w : WinS) : Prop where
  ok : w.Ok
  width : w.width = width
  low : w.low < 2305843009213693952
  below : ∀ n, HasR w.set n → n < 2305843009213693952
theorem WinS.Fine.had {width : Nat} {w : WinS} (h : w.Fine width) {n : Nat} (hn : w.Had n) : n < 2305843009213693952 := by
  rcases hn with hn | hn
  · have := h.low; omega
  · exact h.below n hn
theorem WinS.Fine.of {width : Nat} {w : WinS} (h : w.Ok) (hw : w.width = width) (hb : ∀ n, w.Had n → n < 2305843009213693952) : w.Fine width := ⟨h, hw, hb _ (.inl (Nat.le_refl _)), fun n hn => hb n (.inr hn)⟩
theorem WinS.Fine.skip {width : Nat} {w : WinS} (h : w.Fine width) {b : Nat} (hb : b ≤ 2305843009213693952) : (w.skip b).Fine width := by
  obtain ⟨h1, h2, h3, h4⟩ := h.ok.skip (b := b) (by omega)
  exact WinS.Fine.of h1 (h2.trans h.width) (fun n hn => by rcases (h4 n).1 hn with a | a; exact h.had a; omega)
theorem WinS.Fine.put {width : Nat} {w : WinS} (h : w.Fine width) {n : Nat} (hn : n < 2305843009213693952) : (w.put n).Fine width := by
  obtain ⟨h1, h2, h3, h4⟩ := h.ok.put (n := n) (by omega)
  exact WinS.Fine.of h1 (h2.trans h.width) (fun m hm => by rcases (h4 m).1 hm with a | a; exact h.had a; rw [a.2]; exact hn)
theorem WinS.Fine.putAll {width : Nat} : ∀ {l : List ItemS} {w : WinS}, w.Fine width → (∀ x ∈ l, x.n < 2305843009213693952) → (w.putAll l).Fine width
  | [], _, h, _ => h
  | x :: l, w, h, hl => WinS.Fine.putAll (l := l) (w := w.put x.n) (h.put (hl x (by simp))) (fun y hy => hl y (by simp [hy]))
theorem putAll_had {width : Nat} : ∀ {l : List ItemS} {w : WinS}, w.Fine width → (∀ x ∈ l, x.n < 2305843009213693952) → w.allIn l → ∀ m, (w.putAll l).Had m ↔ w.Had m ∨ ∃ x ∈ l, x.n = m
  | [], w, h, _, _, m => by simp [WinS.putAll]
  | x :: l, w, h, hl, ha, m => by
    have ih := putAll_had (l := l) (w := w.put x.n) (h.put (hl x (by simp))) (fun y hy => hl y (by simp [hy])) ha.2 m
    have hp := (h.ok.put (n := x.n) (by have := hl x (by simp); omega)).2.2.2 m
    show ((w.put x.n).putAll l).Had m ↔ _
    rw [ih, hp]
    simp only [ha.1, true_and, List.mem_cons, exists_eq_or_imp]
    constructor
    · rintro ((a | a) | a)
      · exact .inl a
      · exact .inr (.inl a.symm)
      · exact .inr (.inr a)
    · rintro (a | a | a)
      · exact .inl (.inl a)
      · exact .inl (.inr a.symm)
      · exact .inr a
/-- Who is taken wasn't there, and is there once. -/
theorem allIn_new {width : Nat} : ∀ {l : List ItemS} {w : WinS}, w.Fine width → (∀ x ∈ l, x.n < 2305843009213693952) → w.allIn l → (∀ x ∈ l, ¬ w.Had x.n) ∧ l.Pairwise (fun a b => a.n ≠ b.n)
  | [], w, h, _, _ => ⟨fun x hx => by simp at hx, List.Pairwise.nil⟩
  | x :: l, w, h, hl, ha => by
    have hx := hl x (by simp)
    obtain ⟨i1, i2⟩ := allIn_new (l := l) (w := w.put x.n) (h.put hx) (fun y hy => hl y (by simp [hy])) ha.2
    have hp := (h.ok.put (n := x.n) (by omega)).2.2.2
    refine ⟨fun y hy => ?_, List.pairwise_cons.2 ⟨fun y hy e => ?_, i2⟩⟩
    · rcases List.mem_cons.1 hy with rfl | hy
      · exact ((h.ok.takes _).1 ha.1).1
      · exact fun hh => i1 y hy ((hp _).2 (.inl hh))
    · exact i1 y hy ((hp _).2 (.inr ⟨ha.1, e.symm⟩))
theorem allIn_at : ∀ {l : List ItemS} {w : WinS} {k : Nat} {x : ItemS}, w.allIn l → l[k]? = some x → (w.putAll (l.take k)).takes x.n = true
  | [], w, k, x, _, h => by simp at h
  | y :: l, w, 0, x, ha, h => by
    simp at h
    subst h
    exact ha.1
  | y :: l, w, k + 1, x, ha, h => allIn_at (l := l) (w := w.put y.n) ha.2 (by simpa using h)
theorem putAll_succ {l : List ItemS} {k : Nat} {x : ItemS} (w : WinS) (h : l[k]? = some x) : w.putAll (l.take (k + 1)) = (w.putAll (l.take k)).put x.n := by
  obtain ⟨hk, rfl⟩ := List.getElem?_eq_some_iff.1 h
  unfold WinS.putAll
  rw [List.take_succ_eq_append_getElem hk, List.foldl_append]
  rfl
theorem AgS.Ok.fine {width : Nat} {g : AgS} (h : g.Ok width) : g.now.Fine width := ⟨h.now, h.width, h.low, h.below⟩
theorem LedS.Ok.at {width : Nat} {L : LedS} (h : L.Ok width) {a : Nat} (ha : a < 16) : ∃ g, L.ag[a]? = some g ∧ g.Ok width ∧ L.win a = g.now ∧ L.floor a = g.floor := by
  have hl : a < L.ag.length := by rw [h.ag]; exact ha
  refine ⟨L.ag[a], List.getElem?_eq_getElem hl, h.win a _ (List.getElem?_eq_getElem hl), ?_, ?_⟩
  · unfold LedS.win; rw [List.getElem?_eq_getElem hl]
  · unfold LedS.floor; rw [List.getElem?_eq_getElem hl]
theorem LedS.Ok.step {width : Nat} {L : LedS} (h : L.Ok width) {r : LRec} (hc : L.can r) : (L.step r).Ok width := by
  cases r with
  | inc n => exact ⟨h.wide, hc.2, h.ag, h.win, h.had, h.once⟩
  | floor a n =>
    obtain ⟨ha, h1, h2⟩ := hc
    have hw : ∀ b, (L.step (.floor a n)).win b = L.win b := fun b => by
      unfold LedS.step
      simp only
      unfold LedS.win
      simp only [List.getElem?_modify]
      by_cases hb : a = b
      · subst hb; cases L.ag[a]? <;> simp
      · simp [hb]
    refine ⟨h.wide, h.inc, by simp [LedS.step, h.ag], fun b g hg => ?_, fun r hr => ?_, h.once⟩
    · simp only [LedS.step, List.getElem?_modify] at hg
      by_cases hb : a = b
      · subst hb
        simp at hg
        obtain ⟨g0, hg0, rfl⟩ := hg
        have := h.win a g0 hg0
        exact ⟨this.now, this.width, this.low, this.below, h2⟩
      · simp [hb] at hg
        exact h.win b g hg
    · obtain ⟨r1, r2, r3, r4⟩ := h.had r hr
      exact ⟨r1, r2, r3, by rw [hw]; exact r4⟩
  | put a base l =>
    obtain ⟨ha, hb, hlen, hr, hin⟩ := hc
    obtain ⟨g, hg, hgo, hgw, _⟩ := h.at ha
    rw [hgw] at hin
    have hln : ∀ x ∈ l, x.n < 2305843009213693952 := fun x hx => (hr x hx).1
    have hsk := hgo.fine.skip (b := base) (by omega)
    have hf := hsk.putAll hln
    have hhad := putAll_had hsk hln hin
    obtain ⟨hnew, hpw⟩ := allIn_new hsk hln hin
    have hskh := (hgo.now.skip (b := base) (by omega)).2.2.2
    have hw : ∀ b, (L.step (.put a base l)).win b = if a = b then (g.now.skip base).putAll l else L.win b := fun b => by
      unfold LedS.step
      simp only
      unfold LedS.win
      simp only [List.getElem?_modify]
      by_cases hb : a = b
      · subst hb; simp [hg]
      · simp [hb]
    refine ⟨h.wide, h.inc, by simp [LedS.step, h.ag], fun b g' hg' => ?_, fun r hr' => ?_, ?_⟩
    · simp only [LedS.step, List.getElem?_modify] at hg'
      by_cases hb : a = b
      · subst hb
        simp [hg] at hg'
        rw [← hg']
        exact ⟨hf.ok, hf.width, hf.low, hf.below, hgo.floor⟩
      · simp [hb] at hg'
        exact h.win b g' hg'
    · rw [hw]
      rcases List.mem_append.1 hr' with hr' | hr'
      · obtain ⟨r1, r2, r3, r4⟩ := h.had r hr'
        refine ⟨r1, r2, r3, ?_⟩
        by_cases hb : a = r.who
        · rw [if_pos hb, hhad, hskh]
          rw [← hb, hgw] at r4
          exact .inl (.inl r4)
        · rw [if_neg hb]; exact r4
      · obtain ⟨x, hx, rfl⟩ := List.mem_map.1 hr'
        refine ⟨ha, hln x hx, (hr x hx).2, ?_⟩
        rw [if_pos rfl, hhad]
        exact .inr ⟨x, hx, rfl⟩
    · show (L.recs ++ l.map _).Pairwise _
      refine List.pairwise_append.2 ⟨h.once, ?_, fun r hr' y hy => ?_⟩
      · rw [List.pairwise_map]
        exact hpw.imp (fun h1 h2 => h1 h2.2)
      · obtain ⟨x, hx, rfl⟩ := List.mem_map.1 hy
        rintro ⟨e1, e2⟩
        have r4 := (h.had r hr').2.2.2
        simp only at e1 e2
        rw [e1, hgw, e2] at r4
        exact hnew x hx ((hskh _).2 (.inl r4))
theorem LedS.Ok.sync {width : Nat} {L : LedS} (h : L.Ok width) : L.sync.Ok width := by
  have hw : ∀ b, L.sync.win b = L.win b := fun b => by
    unfold LedS.sync LedS.win
    simp only [List.getElem?_map]
    cases L.ag[b]? <;> rfl
  refine ⟨h.wide, h.inc, by simp [LedS.sync, h.ag], fun b g hg => ?_, fun r hr => by rw [hw]; exact h.had r hr, h.once⟩
  simp [LedS.sync] at hg
  obtain ⟨g0, hg0, rfl⟩ := hg
  have := h.win b g0 hg0
  exact ⟨this.now, this.width, this.low, this.below, this.floor⟩
end Go.Proofs.YtfdmbomlkpkegaaGreat
