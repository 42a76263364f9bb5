/- The map of the identities that were seen; beginnings of rows of spans; what LedgerOnce keeps. LedgerOnce: what its rounds keep. -/
import Derived.Test.YtfdmbomlkpkegaaGreatLedOq
import Derived.Test.YtfdmbomlkpkegaaGreatLedPB
import Derived.Test.YtfdmbomlkpkegaaGreatLedOw
import Derived.Test.YtfdmbomlkpkegaaGreatLedGW

/-! ## LedSn -/
namespace Go.Proofs.YtfdmbomlkpkegaaGreat
open Go Go.RowKit Go.Dr Go.Shelf

def SeenAt (w : World) (m : Nat) (l : List RecS) : Prop :=
  ∃ es clock, w.heap[m]? = some (.map es clock) ∧ es.size = l.length ∧ ∀ (i : Nat) r, l[i]? = some r → (es[i]?).map (·.key) = some (idV r)
theorem SeenAt.new (w : World) : SeenAt (w.alloc (.map #[] 0)) w.heap.size [] := ⟨#[], 0, heap_new _ _, rfl, fun i r h => by simp at h⟩
theorem SeenAt.keep {w w' : World} {m : Nat} {l : List RecS} {F : Nat → Prop} (h : SeenAt w m l) (k : Keep F w w') (hm : ¬ F m) : SeenAt w' m l := by
  obtain ⟨es, clock, hb, hl, hk⟩ := h
  exact ⟨es, clock, k.heap hb hm, hl, hk⟩
theorem findAsking_none (w : World) (a n : Nat) : ∀ (es : List MapEntry) (l : List RecS) (i : Nat), es.length = l.length → (∀ (j : Nat) r, l[j]? = some r → (es[j]?).map (·.key) = some (idV r)) → (∀ x ∈ l, ¬ (x.who = a ∧ x.n = n)) →
    (Instr.findAsking 58 (.agg #[.int .i64 (a : Int), .int .u64 n]) es i).run Tryz.prog w = .ok none w
  | [], [], i, _, _, _ => rfl
  | [], _ :: _, i, h, _, _ => by simp at h
  | _ :: _, [], i, h, _, _ => by simp at h
  | e :: es, r :: l, i, h, hk, hn => by
    have h0 := hk 0 r rfl
    simp only [List.getElem?_cons_zero, Option.map_some, Option.some.injEq] at h0
    have ih := findAsking_none w a n es l (i + 1) (by simpa using h) (fun j x hx => by
      have := hk (j + 1) x (by simpa using hx)
      simpa using this) (fun x hx => hn x (by simp [hx]))
    have he := equal_id w (a : Int) n (r.who : Int) (r.n : Int)
    have hek : e.key = .agg #[.int .i64 (r.who : Int), .int .u64 (r.n : Int)] := h0
    have hc : (((a : Int) == (r.who : Int)) && ((n : Int) == (r.n : Int))) = false := by
      have := hn r (by simp)
      rw [Bool.eq_false_iff]
      intro hc
      simp at hc
      exact this ⟨by omega, by omega⟩
    rw [hc] at he
    unfold Instr.findAsking
    rw [hek]
    simp only [Sem.run_bind, he, Result.andThen_ok, Bool.false_eq_true, if_false]
    exact ih
theorem findKey_none (w : World) (a n : Nat) (es : List MapEntry) (l : List RecS) (h : es.length = l.length) (hk : ∀ (j : Nat) r, l[j]? = some r → (es[j]?).map (·.key) = some (idV r)) (hn : ∀ x ∈ l, ¬ (x.who = a ∧ x.n = n)) :
    (Instr.findKey 58 (.agg #[.int .i64 (a : Int), .int .u64 n]) es).run Tryz.prog w = .ok none w := by
  rw [← findAsking_none w a n es l 0 h hk hn]
  unfold Instr.findKey
  cases es with
  | nil => simp [run_underlying Tryz.underlying58, Instr.findNow, Instr.findAsking]
  | cons e es => simp [run_underlying Tryz.underlying58, Instr.findNow, Instr.sameNow]
theorem SeenAt.look {w : World} {m : Nat} {l : List RecS} (h : SeenAt w m l) (a n : Nat) (hn : ∀ x ∈ l, ¬ (x.who = a ∧ x.n = n)) :
    (Instr.lookup 56 (.map (some m)) (.agg #[.int .i64 (a : Int), .int .u64 n]) false).run Tryz.prog w = .ok (.bool false) w := by
  obtain ⟨es, clock, hb, hl, hk⟩ := h
  have hf := findKey_none w a n es.toList l (by simpa using hl) (fun j r hr => by have := hk j r hr; simpa using this) hn
  unfold Instr.lookup
  simp only [Sem.run_bind, run_underlying Tryz.underlying56, Result.andThen_ok, MapKept.run_getObj_map hb, check_id, hf, Sem.run_pure]
  simp
theorem SeenAt.push {w : World} {m : Nat} {l : List RecS} (h : SeenAt w m l) (r : RecS) (hn : ∀ x ∈ l, ¬ (x.who = r.who ∧ x.n = r.n)) :
    ∃ w', (Instr.mapUpdate 56 (.map (some m)) (.agg #[.int .i64 r.who, .int .u64 r.n]) (.bool true)).run Tryz.prog w = .ok () w' ∧ SeenAt w' m (l ++ [r]) ∧ Keep (· = m) w w' := by
  obtain ⟨es, clock, hb, hl, hk⟩ := h
  have hlt := heap_lt hb
  have hf := findKey_none w r.who r.n es.toList l (by simpa using hl) (fun j r hr => by have := hk j r hr; simpa using this) hn
  refine ⟨_, ?_, ⟨es.push { key := idV r, val := .bool true, born := clock }, clock + 1, ?_, by simp [hl], fun i x hx => ?_⟩, Keep.setObj (F := (· = m)) (Keep.refl _ w) (r := m) (.inl rfl) (.map (es.push { key := idV r, val := .bool true, born := clock }) (clock + 1))⟩
  · unfold Instr.mapUpdate
    simp only [Sem.run_bind, run_underlying Tryz.underlying56, Result.andThen_ok, MapKept.run_getObj_map hb, check_id, hf, MapKept.run_setObj_map _ hb]
    rfl
  · simp [hlt]
  · by_cases hi : i < l.length
    · rw [List.getElem?_append_left hi] at hx
      have := hk i x hx
      rw [Array.getElem?_push]
      rw [if_neg (by omega)]
      exact this
    · rw [List.getElem?_append_right (by omega)] at hx
      have h0 := (List.getElem?_eq_some_iff.1 hx).1
      simp at h0
      have hi0 : i - l.length = 0 := by omega
      rw [hi0] at hx
      simp at hx
      subst hx
      rw [Array.getElem?_push, if_pos (by omega)]
      rfl
theorem recCells_length : ∀ l : List (RecS × Value), (recCells l).length = l.length * 4
  | [] => rfl
  | x :: l => by
    have ih := recCells_length l
    unfold recCells at ih ⊢
    rw [List.flatMap_cons, List.length_append, ih]
    simp [recCell]
    omega
theorem recCells_take : ∀ (l : List (RecS × Value)) (k : Nat), recCells (l.take k) = (recCells l).take (k * 4)
  | [], k => by simp [recCells]
  | x :: l, 0 => by simp [recCells]
  | x :: l, k + 1 => by
    have ih := recCells_take l k
    have e : ∀ l', recCells (x :: l') = recCell x.1 x.2 ++ recCells l' := fun l' => by simp [recCells]
    have hl : (recCell x.1 x.2).length = 4 := rfl
    rw [List.take_succ_cons, e, e, ih, List.take_append, hl, List.take_of_length_le (l := recCell x.1 x.2) (by rw [hl]; omega)]
    congr 2
    omega
/-- A beginning of a row of spans. -/
theorem RecsAt.take [bn : Inhabited Ban] {base : Nat} {w : World} {ao : Option Addr} {n cap k : Nat} {l : List RecS} (h : RecsAt base w (.slice ao n cap) l) (hk : k ≤ l.length) : RecsAt base w (.slice ao k cap) (l.take k) := by
  obtain ⟨xs, rfl, h2, h3, h4⟩ := h
  rw [List.length_map] at hk h4
  refine ⟨xs.take k, List.map_take, fun x hx => h2 x (List.mem_of_mem_take hx), ?_, ?_⟩
  · rw [recCells_length, List.length_take, List.length_take, List.length_map]
  · have e : (List.take k (List.map (fun x => x.fst) xs)).length = k := by rw [List.length_take, List.length_map]; omega
    rw [e]
    rcases h4 with ⟨e1, e2⟩ | ⟨g, c, cur, e1, e2, e3, e4, e5, e6, e7⟩
    · simp only [Value.slice.injEq] at e1
      obtain ⟨rfl, rfl, rfl⟩ := e1
      exact .inl ⟨by congr 1; omega, by omega⟩
    · simp only [Value.slice.injEq] at e1
      obtain ⟨rfl, rfl, rfl⟩ := e1
      refine .inr ⟨g, cap, cur, rfl, e2, e3, by omega, e5, e6, ?_⟩
      rw [recCells_take, ← e7, List.take_take, Nat.min_eq_left (by omega)]

theorem once_take {N : List RecS} (h : N.Pairwise (fun a b => ¬ (a.who = b.who ∧ a.n = b.n))) {k : Nat} {x : RecS} (hx : N[k]? = some x) : ∀ y ∈ N.take k, ¬ (y.who = x.who ∧ y.n = x.n) := by
  intro y hy
  have e : N = N.take k ++ N.drop k := (List.take_append_drop k N).symm
  rw [e] at h
  exact (List.pairwise_append.1 h).2.2 y hy x (List.mem_of_getElem? (i := 0) (by rw [List.getElem?_drop]; simpa using hx))

/-! ### What LedgerOnce keeps -/
structure OnS (width : Nat) (ts : List LRec) (d : DiskS) (L : LedS) (s B : Nat) : Prop where
  cr : CrI d (recsB7 ts) s B
  safe : L.safe = (told width (ts.take s)).recs.length
  inc : ∀ k, s ≤ k → (told width (ts.take k)).inc = L.inc
  len : ∀ r ∈ ts, r.bytes.length ≤ 1000
theorem recsB7_take (ts : List LRec) (k : Nat) : (recsB7 ts).take k = recsB7 (ts.take k) := by simp [recsB7]
theorem recsB7_length (ts : List LRec) : (recsB7 ts).length = ts.length := by simp [recsB7]
theorem OnS.len_s {width : Nat} {ts : List LRec} {d : DiskS} {L : LedS} {s B : Nat} (h : OnS width ts d L s B) : s ≤ ts.length := by
  have := h.cr.len
  rw [recsB7_length] at this
  omega
theorem OnS.push {width : Nat} {ts : List LRec} {d : DiskS} {L : LedS} {s B B' : Nat} {size : Int} {ss : List SegL} {r : LRec} (h : OnS width ts d L s B) (ho : OnDisk ss (recsB7 ts) d.now) (hss : ss.length + 1 ≤ B') (hB : B ≤ B') (hr : r.bytes.length ≤ 1000) (hts : ts.length ≤ 1000) (hi : ∀ T : LedS, (T.step r).inc = T.inc)
    (hs : (L.step r).safe = L.safe) : OnS width (ts ++ [r]) (d.wrote size ss r) (L.step r) s B' := by
  have hls := h.len_s
  refine ⟨?_, ?_, fun k hk => ?_, fun x hx => ?_⟩
  · have := h.cr.put ho hss hB size r.bytes (by omega) (by rw [recsB7_length]; omega)
    have e : recsB7 (ts ++ [r]) = recsB7 ts ++ [r.bytes] := by simp [recsB7]
    rw [e]
    exact this
  · rw [hs, List.take_append_of_le_length hls, h.safe]
  · rw [hi]
    by_cases hkl : k ≤ ts.length
    · rw [List.take_append_of_le_length hkl]; exact h.inc k hk
    · rw [List.take_of_length_le (by simp; omega), told_snoc, hi]
      have := h.inc ts.length hls
      rwa [List.take_length] at this
  · rcases List.mem_append.1 hx with hx | hx
    · exact h.len x hx
    · rw [List.mem_singleton.1 hx]; exact hr
theorem OnS.fresh {width : Nat} {ts : List LRec} {d : DiskS} {L : LedS} {B : Nat} {ss : List SegL} (ht : Tells width ts L) (hs : L.safe = L.recs.length) (ho : OnDisk ss (recsB7 ts) d.now) (hw : d.wait = []) (hsf : d.safe = d.now) (hss : ss.length ≤ B) (hlen : ∀ r ∈ ts, r.bytes.length ≤ 1000) : OnS width ts d L ts.length B := by
  refine ⟨?_, ?_, fun k hk => ?_, hlen⟩
  · have := CrI.fresh (d := d) ho hss hw hsf
    rwa [recsB7_length] at this
  · rw [List.take_length, ← ht.recs, hs]
  · rw [List.take_of_length_le hk, ← ht.inc]
theorem OnS.mono {width : Nat} {ts : List LRec} {d : DiskS} {L : LedS} {s B B' : Nat} (h : OnS width ts d L s B) (hB : B ≤ B') : OnS width ts d L s B' := ⟨h.cr.mono hB, h.safe, h.inc, h.len⟩
/-- What is safe is a beginning of all. -/
theorem OnS.le {width : Nat} {ts : List LRec} {d : DiskS} {L : LedS} {s B : Nat} (h : OnS width ts d L s B) (ht : Tells width ts L) : L.safe ≤ L.recs.length := by
  rw [h.safe, ht.recs]
  have := (told_recs width ts h.len_s).length_le
  rwa [List.take_length] at this
section
variable [bn : Inhabited Ban] {base : Nat} {w w' : World} {q p width k0 : Nat} {size : Int} {ts : List LRec} {d : DiskS} {L : LedS} {F : Nat → Prop}
theorem LedFt.telling (h : LedFt base w q p width size ts d L k0 F) : Tells width ts L := by
  obtain ⟨g, m, lv, n, s, wv, sgv, rlv, ss, h, hk, _⟩ := h
  exact h.tl
theorem LedFt.onDisk (h : LedFt base w q p width size ts d L k0 F) : ∃ ss, OnDisk ss (recsB7 ts) d.now ∧ ss.length ≤ k0 := by
  obtain ⟨g, m, lv, n, s, wv, sgv, rlv, ss, h, hk, _⟩ := h
  exact ⟨ss, h.rdy.on, hk⟩
theorem LedFt.widen (h : LedFt base w q p width size ts d L k0 F) {k1 : Nat} (hk1 : k0 ≤ k1) : LedFt base w q p width size ts d L k1 F := by
  obtain ⟨g, m, lv, n, s, wv, sgv, rlv, ss, h, hk, rfl⟩ := h
  exact ⟨g, m, lv, n, s, wv, sgv, rlv, ss, h, by omega, rfl⟩
theorem gStored_ft (h : LedFt base w q p width size ts d L k0 F) (hrec : L.recs.length ≤ 1073741824) (hs : L.safe ≤ L.recs.length) : Calls Tryz.prog 14 #[.pointer (some ⟨q, 0, none⟩)] w fun e w' => ∃ v, e = .returned v ∧ RecsOwn w' w.heap.size v (L.recs.take L.safe) ∧ Keep No w w' := by
  obtain ⟨g, m, lv, hat⟩ := h.at
  exact gStored_spec hat hrec (fun r hr => by have := (h.ok.had r hr).2.2.1.2.2; omega) hs
theorem gInc_ft (h : LedFt base w q p width size ts d L k0 F) : Calls Tryz.prog 15 #[.pointer (some ⟨q, 0, none⟩)] w fun e w' => e = .returned (.int .u64 L.inc) ∧ w' = w := by
  obtain ⟨g, m, lv, hat⟩ := h.at
  exact gInc_spec hat
theorem gSync_ft (h : LedFt base w q p width size ts d L k0 F) (hb : base ≤ w.heap.size) : Calls Tryz.prog 23 #[.pointer (some ⟨q, 0, none⟩)] w fun e w' => e = .returned (.int .i64 0) ∧ ∃ F', LedFt base w' q p width size ts d.sync L.sync k0 F' ∧ (∀ b, F' b → F b ∨ w.heap.size ≤ b) ∧ Keep F w w' := by
  obtain ⟨g, m, lv, n, s, wv, sgv, rlv, ss, h, hk, rfl⟩ := h
  refine (gSync_spec h hb).mono ?_
  rintro e w' ⟨rfl, lv', n', s', wv', sgv', rlv', ss', h', hss, k, ho⟩
  exact ⟨rfl, _, ⟨g, m, lv', n', s', wv', sgv', rlv', ss', h', by omega, rfl⟩, ho, k⟩
end
/-- What an Open leaves that found what a crash had left. -/
structure Reopen [bn : Inhabited Ban] (base : Nat) (w w' : World) (p n s : Nat) (wv : Value) (q width : Nat) (size : Int) (ts : List LRec) (d : DiskS) (L : LedS) (B : Nat) (ts' : List LRec) (d' : DiskS) (M : LedS) (F : Nat → Prop) : Prop where
  led : LedFt base w' q p width size ts' d' M (B + 1) F
  on : OnS width ts' d' M ts'.length (B + 1)
  low : L.safe ≤ M.recs.length
  len : M.recs.length ≤ L.recs.length
  pre : M.recs = L.recs.take M.recs.length
  safe : M.safe = M.recs.length
  inc : M.inc = L.inc + 1
  num : ts'.length ≤ ts.length + 1
  used : msum d'.now ≤ msum d.now + 31
  room : d'.room = d.room
  new : ∀ b, F b → foot p n s wv b ∨ w.heap.size ≤ b
  keep : Keep (foot p n s wv) w w'
theorem reopen [bn : Inhabited Ban] {base : Nat} {w : World} {p n s width s0 B : Nat} {wv : Value} {d d2 : DiskS} {size : Int} {ts : List LRec} {L : LedS} {keep torn : Int} (hd : DiskAt base w p n s wv d2) (hn : d2.now = (d.crash keep torn).now) (hfull : d2.full = false) (hwait : d2.wait = []) (hrm : d2.room = d.room)
    (hS : OnS width ts d L s0 B) (ht : Tells width ts L) (hB : B ≤ 900) (hts : ts.length ≤ 900) (hr0 : (msum d.now : Int) + 60 ≤ d.room) (hr1 : d.room ≤ 1000000) (hrec : L.recs.length ≤ 1073741824) (hinc : L.inc ≤ 1000000)
    (hw : 1 ≤ width ∧ width ≤ 1024) (hz : 1 ≤ size) (hb : base ≤ w.heap.size) (hT : ban.top ≤ w.heap.size) :
    Calls Tryz.prog 20 #[.pointer (some ⟨p, 0, none⟩), .agg #[.int .u64 width, .int .i64 size]] w fun e w' => ∃ q ts' d' M F, e = .returned (.tuple #[.pointer (some ⟨q, 0, none⟩), .int .i64 0]) ∧ Reopen base w w' p n s wv q width size ts d L B ts' d' M F := by
  obtain ⟨k, hk1, hk2, ss, ho, hssB, hm⟩ := hS.cr.crash keep torn
  rw [recsB7_take] at ho
  rw [recsB7_length] at hk2
  rw [← hn] at ho hm
  have hT' := ht.take k
  have hin := hS.inc k hk1
  have hp1 := told_recs width ts hk1
  have hp2 := told_recs width ts hk2
  rw [List.take_length, ← ht.recs] at hp2
  have hl2 := hp2.length_le
  have hlk : (ts.take k).length ≤ ts.length := by rw [List.length_take]; omega
  have hlen : ∀ r ∈ ts.take k, r.bytes.length ≤ 1000 := fun r hr => hS.len r (List.mem_of_mem_take hr)
  have hp0 := hp1.length_le
  rw [← hS.safe] at hp0
  refine (gOpen_over (ss := ss) (ts := ts.take k) hd ho (by omega) (by omega) hfull (by rw [hrm]; omega) (by rw [hrm]; exact hr1) (by rw [hwait]; simp) hT'.can hlen (by omega) (by omega) hw hz hb hT).mono ?_
  rintro e w' ⟨q, rfl, g, m, ⟨lv, n', s', wv', sgv, rlv, ss', hR, hss', kk, hof⟩, hq⟩
  have hincl : (LRec.inc ((told width (ts.take k)).inc + 1)).bytes.length ≤ 11 := by
    have := numB_len64 (n := (told width (ts.take k)).inc + 1) (by omega)
    simp [LRec.bytes]
    omega
  refine ⟨q, _, _, _, _, rfl, ⟨g, m, lv, n', s', wv', sgv, rlv, ss', hR, by omega, rfl⟩, ?_, hp0, hl2, ?_, rfl, ?_, ?_, ?_, hrm, hof, kk⟩
  · refine OnS.fresh hR.tl rfl hR.rdy.on rfl rfl (by omega) (fun r hr => ?_)
    rcases List.mem_append.1 hr with hr | hr
    · exact hlen r hr
    · rw [List.mem_singleton.1 hr]; omega
  · exact List.prefix_iff_eq_take.1 hp2
  · show (told width (ts.take k)).inc + 1 = _
    rw [hin]
  · rw [List.length_append, List.length_singleton]; omega
  · have h1 := (appB_length (logD size ss) (LRec.inc ((told width (ts.take k)).inc + 1)).bytes).1
    have h2 : msum ((d2.wrote size ss (.inc ((told width (ts.take k)).inc + 1))).sync).now = msum d2.now + (appB (logD size ss) (LRec.inc ((told width (ts.take k)).inc + 1)).bytes).length := msum_put _ _ _
    rw [h2]
    omega
end Go.Proofs.YtfdmbomlkpkegaaGreat

/-! ## LedOn -/
namespace Go.Proofs.YtfdmbomlkpkegaaGreat
open Go Go.RowKit Go.Dr Go.Shelf

/-- What the rounds of LedgerOnce keep. -/
structure OnI [bn : Inhabited Ban] (w0 wr : World) (P q p r width j : Nat) (size : Int) (ts : List LRec) (d : DiskS) (L : LedS) (F : Nat → Prop) (s : Nat) : Prop where
  led : LedFt w0.heap.size wr q p width size ts d L (j + 1) F
  on : OnS width ts d L s (j + 1)
  blk : wr.heap[P]? = some (.cells #[.pointer (some ⟨q, 0, none⟩), .pointer (some ⟨r, 0, none⟩), .int .u64 width, .int .i64 size] 37 (0, 0))
  k : Keep No w0 wr
  nts : ts.length ≤ j + 1
  nrec : L.recs.length ≤ 8 * j
  ninc : L.inc ≤ j + 1
  used : msum d.now ≤ 22 + 539 * j
  room : d.room = 100000
  pb : w0.heap.size ≤ P
  wide : 1 ≤ width ∧ width ≤ 1024
  size1 : 1 ≤ size
def OnR [bn : Inhabited Ban] (w0 wr : World) (P r width j : Nat) (size : Int) : Prop := ∃ q p ts d L F s, OnI w0 wr P q p r width j size ts d L F s
/-- Behind a step. -/
def OnK [bn : Inhabited Ban] (w0 wr : World) (B P q p r width j : Nat) (size : Int) (L : LedS) (v : Value) (R : List RecS) (v' : Value) (S : List RecS) : Prop :=
  ∃ ts d M F s, OnI w0 wr P q p r width j size ts d M F s ∧ L.recs <+: M.recs ∧ L.safe ≤ M.safe ∧ RecsOwn wr B v R ∧ RecsOwn wr B v' S
section
variable [bn : Inhabited Ban] {w0 wr w' : World} {P q p r width j j' : Nat} {size : Int} {ts : List LRec} {d : DiskS} {L : LedS} {F : Nat → Prop} {s : Nat}
theorem OnI.no (h : OnI w0 wr P q p r width j size ts d L F s) (k : Keep No wr w') : OnI w0 w' P q p r width j size ts d L F s :=
  ⟨h.led.no k, h.on, k.heap h.blk (fun e => e), h.k.then k, h.nts, h.nrec, h.ninc, h.used, h.room, h.pb, h.wide, h.size1⟩
theorem OnI.more (h : OnI w0 wr P q p r width j size ts d L F s) (hj : j ≤ j') : OnI w0 wr P q p r width j' size ts d L F s :=
  ⟨h.led.widen (by omega), h.on.mono (by omega), h.blk, h.k, by have := h.nts; omega, by have := h.nrec; omega, by have := h.ninc; omega, by have := h.used; omega, h.room, h.pb, h.wide, h.size1⟩
theorem OnI.notP (h : OnI w0 wr P q p r width j size ts d L F s) : ¬ F P := h.led.not h.blk (by decide)
theorem OnI.safeLe (h : OnI w0 wr P q p r width j size ts d L F s) : L.safe ≤ L.recs.length := h.on.le h.led.telling
/-- What a step leaves. -/
theorem OnI.stepped (h : OnI w0 wr P q p r width j size ts d L F s) {N : Nat} {M : LedS} {ts' : List LRec} {d' : DiskS} {F' : Nat → Prop} (hs : StepFt w0.heap.size wr w' q p width size ts d L M (j + 1) N F ts' d' F') (hN : N ≤ 519) (hr : M.recs.length ≤ L.recs.length + 8) (hsf : M.safe = L.safe) (hj : j ≤ 900) :
    OnI w0 w' P q p r width (j + 1) size ts' d' M F' s := by
  have hP := h.notP
  have hk : Keep No w0 w' := h.k.absorb hs.keep (fun x hx => (h.led.foot x hx).1)
  have hn := h.nrec
  have hb := hs.keep.heap h.blk hP
  have ht := h.nts
  have hi := h.ninc
  have hu := h.used
  have hm := h.room
  have hon := h.on
  have hl := hs.led
  rcases hs.how with ⟨rfl, rfl, rfl⟩ | ⟨rr, ss, hss, ho, hc, rfl, rfl, rfl, hlen, hinc⟩
  · exact ⟨hl, hon.mono (by omega), hb, hk, by omega, by omega, by omega, by omega, hm, h.pb, h.wide, h.size1⟩
  · have hw := wrote_room (d := d) (size := size) (ss := ss) hlen
    exact ⟨hl, hon.push ho (by omega) (by omega) (by omega) (by omega) hinc hsf, hb, hk, by rw [List.length_append, List.length_singleton]; omega, by omega, by rw [hinc]; omega, by have := hw.1; omega, hw.2.trans hm, h.pb, h.wide, h.size1⟩
theorem OnI.synced (h : OnI w0 wr P q p r width j size ts d L F s) {F' : Nat → Prop} (hl : LedFt w0.heap.size w' q p width size ts d.sync L.sync (j + 1) F') (hk : Keep F wr w') : OnI w0 w' P q p r width (j + 1) size ts d.sync L.sync F' ts.length := by
  have hP := h.notP
  obtain ⟨ss, ho, hss⟩ := h.led.onDisk
  have htl := hl.telling
  exact ⟨hl.widen (by omega), OnS.fresh htl rfl ho rfl rfl (by omega) h.on.len, hk.heap h.blk hP, h.k.absorb hk (fun x hx => (h.led.foot x hx).1), by have := h.nts; omega, by have := h.nrec; show L.recs.length ≤ _; omega, by have := h.ninc; show L.inc ≤ _; omega, by have := h.used; show msum d.now ≤ _; omega, h.room, h.pb, h.wide, h.size1⟩
theorem LedFt.logOf (h : LedFt w0.heap.size wr q p width size ts d L j F) : ∃ g : Nat, (∀ X, Keep No wr X → Calls Tryz.prog 16 #[.pointer (some ⟨q, 0, none⟩)] X fun e w' => e = .returned (.pointer (some ⟨g, 0, none⟩)) ∧ w' = X) ∧
    (∀ X, Keep No wr X → Calls Tryz.prog 17 #[.pointer (some ⟨g, 0, none⟩)] X fun e w' => e = .returned (.pointer (some ⟨p, 0, none⟩)) ∧ w' = X) := by
  obtain ⟨g, m, lv, n, s, wv, sgv, rlv, ss, h, hk, _⟩ := h
  exact ⟨g, fun X k => gLog_spec (h.led.no k), fun X k => lDisk_spec (h.rdy.lg.no k)⟩
theorem OnI.crashOf (h : OnI w0 wr P q p r width j size ts d L F s) (hj : j ≤ 900) (keep torn : Int) (X : World) (k : Keep No wr X) : Calls Tryz.prog 18 #[.pointer (some ⟨p, 0, none⟩), .int .i64 keep, .int .i64 torn] X (NewDisk w0.heap.size X (d.crash keep torn)) := by
  have hu := h.used
  have hc := h.on.cr.sum
  have hl := h.on.cr.len
  rw [recsB7_length] at hl
  have ht := h.nts
  have hX := Nat.le_trans h.k.size k.size
  obtain ⟨g, m, lv, n, s, wv, sgv, rlv, ss, h, hk, _⟩ := h.led
  exact crash_any (h.rdy.dk.no k) hX (by omega) (by omega) keep torn
/-- Behind an Open that found what a crash had left, once the ledger is the pair's. -/
theorem OnI.reopened (h : OnI w0 wr P q p r width j size ts d L F s) {W1 W2 : World} (k : Keep No wr W1) {p' n' s' q' : Nat} {wv' : Value} {ts' : List LRec} {d' : DiskS} {M : LedS} {F' : Nat → Prop} (hnew : ∀ b, foot p' n' s' wv' b → wr.heap.size ≤ b)
    (hR : Reopen w0.heap.size W1 W2 p' n' s' wv' q' width size ts d L (j + 1) ts' d' M F') : OnI w0 (W2.setCell ⟨P, 0, none⟩ (.pointer (some ⟨q', 0, none⟩))) P q' p' r width (j + 1) size ts' d' M F' ts'.length := by
  have h1 := k.heap h.blk (fun e => e)
  have hPl := heap_lt h.blk
  have h2 := hR.keep.heap h1 (fun e => by have := hnew P e; omega)
  have hb := heap_setCell_same (i := 0) (u := .pointer (some ⟨q', 0, none⟩)) h2
  have kS : Keep (· = P) W2 (W2.setCell ⟨P, 0, none⟩ (.pointer (some ⟨q', 0, none⟩))) := keep_cell _ _
  have hk : Keep No w0 W2 := (h.k.then k).absorb hR.keep (fun x hx => Nat.le_trans h.k.size (hnew x hx))
  have hl := hR.led.one h2 h.pb (by decide) (by decide) (by decide) kS
  have hn := h.nrec
  have ht := h.nts
  have hi := h.ninc
  have hu := h.used
  refine ⟨hl, hR.on, ?_, hk.absorb kS (fun x hx => by have e : x = P := hx; have := h.pb; omega), by have := hR.num; omega, by have := hR.len; omega, by have := hR.inc; omega, by have := hR.used; omega, hR.room.trans h.room, h.pb, h.wide, h.size1⟩
  simpa using hb
end
end Go.Proofs.YtfdmbomlkpkegaaGreat
