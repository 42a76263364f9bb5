/- DiskSafe: the plain law; a set of numbers in memory. -/
import Derived.Test.YtpjggnfiocplmaaDoC
namespace Go.Proofs.Ytpjggnfiocplmaa
open Go Go.RowKit Go.Dr

theorem do6_spec [bn : Inhabited Ban] {base : Nat} {w : World} {p q : Nat} {d : DiskS} {x : RDiskS} {G : Nat → Prop} (h : Both base w p q d x G) (hb : base ≤ w.heap.size) {a : ActS} {u : Value} (hu : BytesAt base w u a.p) (ok : DoOk d x a) :
    Calls Try.prog 21 #[.pointer (some ⟨p, 0, none⟩), .pointer (some ⟨q, 0, none⟩), a.value u] w (DoPost base w G (doD d a) (doX x a) (doB d x a)) := by
  by_cases h3 : a.dop % 8 = 3
  · exact do_drop h hb hu ok h3
  by_cases h4 : a.dop % 8 = 4
  · exact do_sync h hb hu ok h4
  by_cases h5 : a.dop % 8 = 5
  · exact do_full h hb hu ok h5
  by_cases h6 : a.dop % 8 = 6
  · exact do_crash h hb hu ok h6
  by_cases h7 : a.dop % 8 = 7
  · exact do_read h hb hu ok h7
  exact do_append h hb hu ok h3 h4 h5 h6 h7

theorem wsum_append (a b : List CallS) : wsum (a ++ b) = wsum a + wsum b := by
  induction a with
  | nil => simp [wsum]
  | cons c a ih => simp [wsum, ih]; omega
theorem wsum_drop_le (l : List CallS) (k : Nat) : wsum (l.drop k) ≤ wsum l := by
  have := wsum_append (l.take k) (l.drop k)
  rw [List.take_append_drop] at this
  omega

/-- In the first loop. -/
structure Safe1 (room : Int) (j : Nat) (d : DiskS) (x : RDiskS) : Prop where
  rel : Rel6 d x
  room : d.room = room
  xl : x.l.length ≤ j
  xs : wsum x.l ≤ 40 * j
theorem doD_room (d : DiskS) (a : ActS) : (doD d a).room = d.room := by
  unfold doD
  repeat' split
  · unfold DiskS.drop; split <;> rfl
  · rfl
  · rfl
  · rfl
  · rfl
  · unfold DiskS.append; split
    · rfl
    · split <;> rfl
theorem Safe1.act {room : Int} {j : Nat} {d : DiskS} {x : RDiskS} (h : Safe1 room j d x) (a : ActS) : Safe1 room (j + 1) (doD d a) (doX x a) := by
  have hl := doX_le x a
  exact ⟨(h.rel.act a).1, by rw [doD_room, h.room], by have := h.xl; omega, by have := h.xs; omega⟩
theorem Rel6.small {d : DiskS} {x : RDiskS} (h : Rel6 d x) : msum d.now ≤ wsum x.l ∧ msum d.safe ≤ wsum x.l ∧ wsum d.wait ≤ wsum x.l ∧ d.wait.length ≤ x.l.length := by
  refine ⟨by rw [← h.sum]; exact segs6_sum _, ?_, by rw [h.wait]; exact wsum_drop_le _ _, by rw [h.wait]; simp⟩
  rw [← SameMap.sum (segs6_sorted _).keys h.ks h.safe]
  exact Nat.le_trans (segs6_sum _) (wsum_take_le _ _)
theorem Safe1.ok {room : Int} {j : Nat} {d : DiskS} {x : RDiskS} (h : Safe1 room j d x) (hr0 : 0 ≤ room) (hr : room ≤ 1099511627776) (hj : j ≤ 1000) {a : ActS} (ha : a.Ok) : DoOk d x a := by
  obtain ⟨h1, h2, h3, h4⟩ := h.rel.small
  have := h.xl
  have := h.xs
  exact ⟨⟨by rw [h.room]; omega, by rw [h.room]; omega, by omega, by omega⟩, by omega, by omega, by omega, h.rel.s0, h.rel.s1, ha⟩
/-- In the second loop. -/
structure Safe2 (D0 : AMap) (S : List Int) (j : Nat) (d : DiskS) (x : RDiskS) : Prop where
  room : d.room = 1000
  safe : d.safe = D0
  now : d.now = doneAll d.wait D0
  keys : Keys D0
  sum : msum D0 ≤ 800
  wl : d.wait.length ≤ j
  ws : wsum d.wait ≤ 40 * j
  xl : x.l.length ≤ 20 + j
  xs : wsum x.l ≤ 800 + 40 * j
  s0 : 0 ≤ x.safe
  s1 : x.safe ≤ x.l.length
  drops : ∀ c ∈ d.wait, c.drop = true → c.seg ∈ S
theorem Safe2.start {d : DiskS} {x : RDiskS} (h : Safe1 1000 20 d x) : Safe2 d.now [] 0 { d.sync with full := false } x.sync := by
  have := h.xl
  have := h.xs
  have := h.rel.small
  refine ⟨h.room, rfl, rfl, h.rel.kn, by omega, Nat.le_refl _, Nat.le_refl _, by simpa [RDiskS.sync] using h.xl, by simp only [RDiskS.sync]; omega, by simp [RDiskS.sync], by simp [RDiskS.sync], fun c hc => by simp [DiskS.sync] at hc⟩
theorem Safe2.used {D0 : AMap} {S : List Int} {j : Nat} {d : DiskS} {x : RDiskS} (h : Safe2 D0 S j d x) : msum d.now ≤ 800 + 40 * j := by
  have h1 := msum_doneAll d.wait D0 d.wait.length
  rw [List.take_length, ← h.now] at h1
  have := h.sum
  have := h.ws
  omega
theorem Safe2.ok {D0 : AMap} {S : List Int} {j : Nat} {d : DiskS} {x : RDiskS} (h : Safe2 D0 S j d x) (hj : j ≤ 20) {a : ActS} (ha : a.Ok) : DoOk d x a := by
  have h0 := h.used
  have h1 := h.sum
  have h2 := h.ws
  have h3 := h.wl
  have h4 := h.xl
  have h5 := h.xs
  exact ⟨⟨by rw [h.room]; omega, by rw [h.room]; omega, by omega, by omega⟩, by rw [h.safe]; omega, by omega, by omega, h.s0, h.s1, ha⟩
theorem Safe2.act {D0 : AMap} {S S' : List Int} {j : Nat} {d : DiskS} {x : RDiskS} (h : Safe2 D0 S j d x) (a : ActS) (hS : ∀ k ∈ S, k ∈ S') (h3 : a.dop % 8 = 3 → a.seg ∈ S') (h4 : a.dop % 8 ≠ 4) (h6 : a.dop % 8 ≠ 6) : Safe2 D0 S' (j + 1) (doD d a) (doX x a) := by
  have hl := doX_le x a
  have hs := doX_safe h.s0 h.s1 a
  have hxl := h.xl
  have hxs := h.xs
  have same : ∀ d' : DiskS, d'.room = d.room → d'.safe = d.safe → d'.now = d.now → d'.wait = d.wait → Safe2 D0 S' (j + 1) d' (doX x a) := fun d' e1 e2 e3 e4 =>
    ⟨by rw [e1, h.room], by rw [e2, h.safe], by rw [e3, e4, h.now], h.keys, h.sum, by rw [e4]; have := h.wl; omega, by rw [e4]; have := h.ws; omega, by omega, by omega, hs.1, hs.2, fun c hc hd => hS _ (h.drops c (by rw [← e4]; exact hc) hd)⟩
  have put : ∀ c : CallS, c.p.length ≤ 40 → (c.drop = true → c.seg ∈ S') → Safe2 D0 S' (j + 1) (d.put c) (doX x a) := fun c hc hd =>
    ⟨h.room, h.safe, by simp only [DiskS.put]; rw [doneAll_snoc, ← h.now], h.keys, h.sum, by simp only [DiskS.put, List.length_append, List.length_singleton]; have := h.wl; omega, by simp only [DiskS.put, wsum_snoc]; have := h.ws; omega, by omega, by omega, hs.1, hs.2, fun c' hc' hd' => by
      simp only [DiskS.put] at hc'
      rcases List.mem_append.1 hc' with hc' | hc'
      · exact hS _ (h.drops c' hc' hd')
      · simp at hc'; subst hc'; exact hd hd'⟩
  unfold doD
  split
  · rename_i hq
    unfold DiskS.drop
    split
    · exact put _ (by simp) (fun _ => h3 hq)
    · exact same _ rfl rfl rfl rfl
  · split
    · exact same _ rfl rfl rfl rfl
    · split
      · exact same _ rfl rfl rfl rfl
      · unfold DiskS.append
        split
        · exact same _ rfl rfl rfl rfl
        · split
          · exact same _ rfl rfl rfl rfl
          · exact put _ (by simp; omega) (fun e => by cases e)

theorem Safe2.skip {D0 : AMap} {S : List Int} {j : Nat} {d : DiskS} {x : RDiskS} (h : Safe2 D0 S j d x) : Safe2 D0 S (j + 1) d x :=
  ⟨h.room, h.safe, h.now, h.keys, h.sum, by have := h.wl; omega, by have := h.ws; omega, by have := h.xl; omega, by have := h.xs; omega, h.s0, h.s1, h.drops⟩

/-! ### What was synced survives -/
theorem done_stays {k : Int} : ∀ (L : List CallS) (m : AMap) (p : Bytes), Keys m → (∀ c ∈ L, c.drop = true → c.seg ≠ k) → mget m k = some p → ∃ t, mget (doneAll L m) k = some (p ++ t) := by
  intro L
  induction L with
  | nil => intro m p _ _ h; exact ⟨[], by simpa [Go.Proofs.Ytpjggnfiocplmaa.doneAll] using h⟩
  | cons c L ih =>
    intro m p hk hd h
    have h1 := done_get hk c k
    by_cases hc : k = c.seg
    · rw [if_pos hc] at h1
      cases hq : c.drop with
      | true => exact absurd hc.symm (hd c (by simp) hq)
      | false =>
        rw [hq, h] at h1
        simp at h1
        obtain ⟨t, ht⟩ := ih _ _ (hk.done c) (fun c' hc' => hd c' (by simp [hc'])) h1
        exact ⟨c.p ++ t, by rw [← List.append_assoc]; exact ht⟩
    · rw [if_neg hc, h] at h1
      exact ih _ _ (hk.done c) (fun c' hc' => hd c' (by simp [hc'])) h1
theorem crash_stays {d : DiskS} {S : List Int} {k : Int} {p : Bytes} (hk : Keys d.safe) (hd : ∀ c ∈ d.wait, c.drop = true → c.seg ∈ S) (hn : k ∉ S) (hp : mget d.safe k = some p) (keep torn : Int) : ∃ t, mget (d.crash keep torn).now k = some (p ++ t) := by
  have hd' : ∀ c ∈ d.wait.take (keepNum d keep), c.drop = true → c.seg ≠ k := fun c hc hq e => hn (by rw [← e]; exact hd c (List.mem_of_mem_take hc) hq)
  simp only [DiskS.crash]
  unfold crashMap
  cases hc : d.wait[keepNum d keep]? with
  | none => exact done_stays _ _ _ hk hd' hp
  | some c =>
    simp only []
    split
    · rw [← doneAll_snoc]
      refine done_stays _ _ _ hk (fun c' hc' hq => ?_) hp
      rcases List.mem_append.1 hc' with hc' | hc'
      · exact hd' c' hc' hq
      · simp at hc'; subst hc'; cases hq
    · exact done_stays _ _ _ hk hd' hp
theorem crash_all {d : DiskS} (h : d.now = doneAll d.wait d.safe) (hk : Keys d.now) : msame (d.crash d.wait.length 0).now d.now = true := by
  have e1 : keepNum d d.wait.length = d.wait.length := by unfold keepNum; omega
  have e2 : (d.crash d.wait.length 0).now = d.now := by
    simp only [DiskS.crash, e1]
    unfold crashMap
    rw [List.getElem?_eq_none (Nat.le_refl _)]
    simp only [List.take_length]
    exact h.symm
  rw [e2]
  exact msame_refl hk
theorem crash_crash {d : DiskS} (hk : Keys d.safe) (keep torn : Int) : msame ((d.crash keep torn).crash keep torn).now (d.crash keep torn).now = true := by
  have e : ((d.crash keep torn).crash keep torn).now = (d.crash keep torn).now := by
    generalize hc : d.crash keep torn = c
    have hw : c.wait = [] := by rw [← hc]; rfl
    have hs : c.safe = c.now := by rw [← hc]; rfl
    have e1 : keepNum c keep = 0 := by unfold keepNum; rw [hw]; simp; omega
    simp only [DiskS.crash, e1]
    unfold crashMap
    rw [hw]
    simp [Go.Proofs.Ytpjggnfiocplmaa.doneAll, hs]
  rw [e]
  refine msame_refl ?_
  simp only [DiskS.crash]
  unfold crashMap
  split
  · exact hk.doneAll _
  · split
    · exact (hk.doneAll _).done _
    · exact hk.doneAll _

/-! ### A set of numbers: map[uint64]bool that holds true alone -/
def SetAt (w : World) (r : Nat) (S : List Int) : Prop :=
  ∃ (es : Array MapEntry) (clock : Nat), w.heap[r]? = some (.map es clock) ∧ es.toList.map (·.key) = S.map (.int .u64 ·) ∧ ∀ e ∈ es.toList, e.val = .bool true
theorem SetAt.keep {w w' : World} {r : Nat} {S : List Int} {F : Nat → Prop} (h : SetAt w r S) (k : Keep F w w') (hr : ¬ F r) : SetAt w' r S := by
  obtain ⟨es, clock, hb, he⟩ := h
  exact ⟨es, clock, k.heap hb hr, he⟩
theorem findNow_set {k : Int} : ∀ (es : List MapEntry) (S : List Int) (i : Nat), es.map (·.key) = S.map (.int .u64 ·) → (∀ e ∈ es, e.val = .bool true) →
    (k ∉ S ∧ Instr.findNow (.int .u64) (.int .u64 k) es i = some none) ∨
    (k ∈ S ∧ ∃ j, Instr.findNow (.int .u64) (.int .u64 k) es i = some (some (i + j, .bool true)) ∧ j < es.length ∧ (es[j]?).map (·.key) = some (.int .u64 k)) := by
  intro es
  induction es with
  | nil =>
    intro S i hS _
    cases S with
    | nil => exact .inl ⟨by simp, rfl⟩
    | cons => simp at hS
  | cons e es ih =>
    intro S i hS hv
    cases S with
    | nil => simp at hS
    | cons s S =>
      simp only [List.map_cons, List.cons.injEq] at hS
      obtain ⟨hk, hS⟩ := hS
      have hv0 := hv e (by simp)
      by_cases hkk : s = k
      · refine .inr ⟨by simp [hkk], 0, ?_, by simp, by simp [hk, hkk]⟩
        simp [Instr.findNow, hk, Instr.sameNow, hkk, hv0]
      · have hne : ¬ k = s := fun h => hkk h.symm
        have hbe : (k == s) = false := by simpa using hne
        rcases ih S (i + 1) hS (fun e he => hv e (by simp [he])) with ⟨h1, h2⟩ | ⟨h1, j, h2, h3, h4⟩
        · exact .inl ⟨by simp [hne, h1], by simpa [Instr.findNow, hk, Instr.sameNow, hbe] using h2⟩
        · refine .inr ⟨by simp [h1], j + 1, ?_, by simpa using h3, by simpa using h4⟩
          simp only [Instr.findNow, hk, Instr.sameNow, if_true, hbe, h2]; congr 3; omega
theorem set_lookup {w : World} {r : Nat} {S : List Int} (h : SetAt w r S) (k : Int) : ∀ w' : World, w'.heap[r]? = w.heap[r]? →
    (Instr.lookup 47 (.map (some r)) (.int .u64 k) false).run Try.prog w' = .ok (.bool (decide (k ∈ S))) w' := by
  intro w' hw
  obtain ⟨es, clock, hb, hS, hv⟩ := h
  rw [hb] at hw
  rcases findNow_set (k := k) es.toList S 0 hS hv with ⟨h1, h2⟩ | ⟨h1, j, h2, _⟩
  · have hd : decide (k ∈ S) = false := by simpa using h1
    simp [Instr.lookup, run_underlying Try.underlying47, MapKept.run_getObj_map hw, MapKept.run_checkKey Try.underlying26 (isKey64 k), MapKept.run_findKey Try.underlying26 h2, Result.andThen, hd]
  · have hd : decide (k ∈ S) = true := by simpa using h1
    simp [Instr.lookup, run_underlying Try.underlying47, MapKept.run_getObj_map hw, MapKept.run_checkKey Try.underlying26 (isKey64 k), MapKept.run_findKey Try.underlying26 h2, Result.andThen, hd]
theorem set_store {w : World} {r : Nat} {S : List Int} (h : SetAt w r S) (k : Int) :
    ∃ w' S', (Instr.mapUpdate 47 (.map (some r)) (.int .u64 k) (.bool true)).run Try.prog w = .ok () w' ∧ SetAt w' r S' ∧ Keep (· = r) w w' ∧ k ∈ S' ∧ ∀ x ∈ S, x ∈ S' := by
  obtain ⟨es, clock, hb, hS, hv⟩ := h
  have hlt := heap_lt hb
  have fin : ∀ (es' : Array MapEntry) (clock' : Nat) (S' : List Int), es'.toList.map (·.key) = S'.map (.int .u64 ·) → (∀ e ∈ es'.toList, e.val = .bool true) → SetAt { w with heap := w.heap.setIfInBounds r (.map es' clock') } r S' ∧ Keep (· = r) w { w with heap := w.heap.setIfInBounds r (.map es' clock') } :=
    fun es' clock' S' h1 h2 => ⟨⟨es', clock', by simp [hlt], h1, h2⟩, Keep.setObj (F := (· = r)) (Keep.refl _ w) (r := r) (.inl rfl) _⟩
  rcases findNow_set (k := k) es.toList S 0 hS hv with ⟨h1, h2⟩ | ⟨h1, j, h2, h3, h4⟩
  · obtain ⟨f1, f2⟩ := fin (es.push { key := .int .u64 k, val := .bool true, born := clock }) (clock + 1) (S ++ [k]) (by rw [Array.toList_push, List.map_append, List.map_append, hS]; rfl)
      (fun e he => by rw [Array.toList_push] at he; rcases List.mem_append.1 he with he | he; exact hv e he; simp at he; rw [he])
    refine ⟨_, S ++ [k], ?_, f1, f2, by simp, fun x hx => by simp [hx]⟩
    simp [Instr.mapUpdate, run_underlying Try.underlying47, MapKept.run_getObj_map hb, MapKept.run_checkKey Try.underlying26 (isKey64 k), MapKept.run_findKey Try.underlying26 h2, MapKept.run_setObj_map _ hb, Result.andThen]
  · have hj : j < es.size := by simpa using h3
    simp only [Nat.zero_add] at h2
    have hkey : (es[j]?).map (·.key) = some (.int .u64 k) := by simpa using h4
    obtain ⟨f1, f2⟩ := fin (es.modify j fun e => { e with key := .int .u64 k, val := .bool true }) clock S (by
        rw [← hS]
        apply List.ext_getElem?
        intro i
        rw [List.getElem?_map, List.getElem?_map, Array.getElem?_toList, Array.getElem?_toList, Array.getElem?_modify]
        split
        · rename_i hij
          subst hij
          rw [hkey, Array.getElem?_eq_getElem hj]
          rfl
        · rfl)
      (fun e he => by
        obtain ⟨i, hi⟩ := List.mem_iff_getElem?.1 he
        rw [Array.getElem?_toList, Array.getElem?_modify] at hi
        split at hi
        · rename_i hij
          subst hij
          rw [Array.getElem?_eq_getElem hj] at hi
          simp at hi
          rw [← hi]
        · exact hv e (List.mem_iff_getElem?.2 ⟨i, by rw [Array.getElem?_toList]; exact hi⟩))
    refine ⟨_, S, ?_, f1, f2, h1, fun x hx => hx⟩
    simp [Instr.mapUpdate, run_underlying Try.underlying47, MapKept.run_getObj_map hb, MapKept.run_checkKey Try.underlying26 (isKey64 k), MapKept.run_findKey Try.underlying26 h2, hkey, MapKept.run_keyThatStays (isKey64 k), MapKept.run_setObj_map _ hb, Result.andThen]
end Go.Proofs.Ytpjggnfiocplmaa
