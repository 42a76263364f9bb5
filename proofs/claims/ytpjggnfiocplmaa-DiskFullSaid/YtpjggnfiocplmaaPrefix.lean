/- The plain law behind DiskPrefix; acts in memory. -/
import Derived.Test.YtpjggnfiocplmaaAwake6
namespace Go.Proofs.Ytpjggnfiocplmaa
open Go Go.RowKit Go.Dr

structure ActS where
  dop : Int
  seg : Int
  p : Bytes
  on : Bool
  keep : Int
  torn : Int
structure ActS.Ok (a : ActS) : Prop where
  dop0 : 0 ≤ a.dop
  dop1 : a.dop ≤ 255
  seg0 : (Lit.int .u64 a.seg).wf = true
  keep0 : (Lit.int .i64 a.keep).wf = true
  torn0 : (Lit.int .i64 a.torn).wf = true

/-! ### Plain -/
theorem mget_set_same (m : AMap) (k : Int) (l : Bytes) : mget (mset m k l) k = some l := by
  induction m with
  | nil => simp [mset, mget]
  | cons e m ih =>
    simp only [mset]
    split
    · simp [mget]
    · rename_i h
      simp only [mget, List.find?_cons] at ih ⊢
      have : (e.1 == k) = false := by simpa using h
      rw [this]; exact ih
theorem mget_mem {m : AMap} (h : Keys m) {kv : Int × Bytes} (hm : kv ∈ m) : mget m kv.1 = some kv.2 := by
  induction h with
  | nil => cases hm
  | @cons x m h1 h2 ih =>
    rcases List.mem_cons.1 hm with rfl | hm
    · simp [mget]
    · have hne : (x.1 == kv.1) = false := by simpa using h1 kv hm
      have := ih hm
      simp only [mget, List.find?_cons, hne] at this ⊢
      exact this
theorem msame_refl {m : AMap} (h : Keys m) : msame m m = true := by
  simp only [msame, Bool.and_eq_true, beq_iff_eq, List.all_eq_true]
  exact ⟨trivial, fun kv hm => mget_mem h hm⟩
theorem Keys.nil : Keys [] := List.Pairwise.nil
theorem Keys.done {m : AMap} (h : Keys m) (c : CallS) : Keys (c.done m) := by
  unfold CallS.done
  split
  · exact h.del _
  · exact h.set _ _
theorem Keys.doneAll {m : AMap} (h : Keys m) (l : List CallS) : Keys (doneAll l m) := by
  induction l generalizing m with
  | nil => exact h
  | cons c l ih => exact ih (h.done c)
theorem doneAll_snoc (l : List CallS) (c : CallS) (m : AMap) : doneAll (l ++ [c]) m = c.done (doneAll l m) := by
  unfold Go.Proofs.Ytpjggnfiocplmaa.doneAll
  rw [List.foldl_append]
  rfl
theorem wsum_snoc (l : List CallS) (c : CallS) : wsum (l ++ [c]) = wsum l + c.p.length := by
  induction l with
  | nil => simp [wsum]
  | cons x l ih => simp [wsum, ih]; omega

def OkAt (c : CallS) (m : AMap) : Prop := if c.drop then (mget m c.seg).isSome = true else (msum m : Int) + (c.p.length : Int) ≤ 2000
def callOf (a : ActS) : CallS := if a.dop = 0 then ⟨a.seg, a.p, false⟩ else ⟨a.seg, [], true⟩
structure St (d : DiskS) (ds : List ActS) : Prop where
  room : d.room = 2000
  full : d.full = false
  safe : d.safe = []
  wait : d.wait = ds.map callOf
  now : d.now = doneAll d.wait []
  wlen : wsum d.wait ≤ ds.length * 40
  dops : ∀ a ∈ ds, a.dop = 0 ∨ a.dop = 3
  plen : ∀ a ∈ ds, a.p.length ≤ 40
  valid : ∀ (j : Nat) c, d.wait[j]? = some c → OkAt c (doneAll (d.wait.take j) [])
theorem St.nil : St { room := 2000, full := false, now := [], safe := [], wait := [] } [] :=
  ⟨rfl, rfl, rfl, rfl, rfl, by simp [wsum], by simp, by simp, by simp⟩
theorem St.push {d : DiskS} {ds : List ActS} (h : St d ds) (a : ActS) (hd : a.dop = 0 ∨ a.dop = 3) (hp : a.p.length ≤ 40) (ho : OkAt (callOf a) d.now) : St (d.put (callOf a)) (ds ++ [a]) := by
  have hcp : (callOf a).p.length ≤ 40 := by
    unfold callOf; split
    · exact hp
    · simp
  refine ⟨h.room, h.full, h.safe, ?_, ?_, ?_, ?_, ?_, ?_⟩
  · simp [DiskS.put, h.wait]
  · simp only [DiskS.put]; rw [doneAll_snoc, ← h.now]
  · simp only [DiskS.put]; rw [wsum_snoc]; have := h.wlen; simp; omega
  · intro b hb
    rcases List.mem_append.1 hb with hb | hb
    · exact h.dops b hb
    · simp at hb; subst hb; exact hd
  · intro b hb
    rcases List.mem_append.1 hb with hb | hb
    · exact h.plen b hb
    · simp at hb; subst hb; exact hp
  · intro j c hc
    simp only [DiskS.put] at hc ⊢
    by_cases hj : j < d.wait.length
    · rw [List.getElem?_append_left hj] at hc
      rw [List.take_append_of_le_length (by omega)]
      exact h.valid j c hc
    · rw [List.getElem?_append_right (by omega)] at hc
      have hj0 : j - d.wait.length = 0 := by
        rcases Nat.eq_zero_or_pos (j - d.wait.length) with h | h
        · exact h
        · rw [List.getElem?_eq_none (by simp; omega)] at hc; cases hc
      rw [hj0] at hc
      simp at hc
      subst hc
      have : j = d.wait.length := by omega
      subst this
      rw [List.take_left, ← h.now]
      exact ho
theorem St.small {d : DiskS} {ds : List ActS} (h : St d ds) (hl : ds.length ≤ 20) : Small d ∧ msum d.now ≤ 800 ∧ wsum d.wait ≤ 800 ∧ d.wait.length = ds.length := by
  have h1 := msum_doneAll d.wait [] d.wait.length
  rw [List.take_length, ← h.now] at h1
  have h2 := h.wlen
  simp [msum] at h1
  have h3 : d.wait.length = ds.length := by rw [h.wait]; simp
  exact ⟨⟨by rw [h.room]; decide, by rw [h.room]; decide, by omega, by omega⟩, by omega, by omega, h3⟩
theorem St.append {d : DiskS} {ds : List ActS} (h : St d ds) (a : ActS) (ha : a.dop = 0) (hp : a.p.length ≤ 40) :
    (d.append a.seg a.p = (d.put (callOf a), 0) ∧ St (d.put (callOf a)) (ds ++ [a])) ∨ d.append a.seg a.p = (d, 5) := by
  unfold DiskS.append
  rw [h.full]
  simp only [Bool.false_eq_true, if_false]
  by_cases hlt : d.room - (msum d.now : Int) < (a.p.length : Int)
  · right; rw [if_pos hlt]
  · left
    rw [if_neg hlt]
    have e : callOf a = ⟨a.seg, a.p, false⟩ := by simp [callOf, ha]
    refine ⟨by rw [e], h.push a (.inl ha) hp ?_⟩
    rw [e]
    unfold OkAt
    have := h.room
    simp
    omega
theorem St.drop {d : DiskS} {ds : List ActS} (h : St d ds) (a : ActS) (ha : a.dop = 3) (hp : a.p.length ≤ 40) :
    (d.drop a.seg = (d.put (callOf a), 0) ∧ St (d.put (callOf a)) (ds ++ [a])) ∨ d.drop a.seg = (d, 4) := by
  unfold DiskS.drop
  cases hs : (mget d.now a.seg).isSome with
  | false => right; rfl
  | true =>
    left
    have e : callOf a = ⟨a.seg, [], true⟩ := by simp [callOf, ha]
    refine ⟨by rw [e]; rfl, h.push a (.inr ha) hp ?_⟩
    rw [e]
    unfold OkAt
    simpa using hs

/-- The disk that is given the first calls alone. -/
def Xs (l : List CallS) (j : Nat) : DiskS := { room := 2000, full := false, now := doneAll (l.take j) [], safe := [], wait := l.take j }
theorem Xs_zero (l : List CallS) : Xs l 0 = { room := 2000, full := false, now := [], safe := [], wait := [] } := by simp [Xs, doneAll]
theorem Xs_succ {l : List CallS} {j : Nat} {c : CallS} (h : l[j]? = some c) : (Xs l j).put c = Xs l (j + 1) := by
  obtain ⟨hj, rfl⟩ := List.getElem?_eq_some_iff.1 h
  have := doneAll_take h []
  simp only [DiskS.put, Xs, this]
  rw [List.take_succ_eq_append_getElem hj]
theorem Xs_append {d : DiskS} {ds : List ActS} (h : St d ds) {j : Nat} {a : ActS} (ha : ds[j]? = some a) (h0 : a.dop = 0) : (Xs d.wait j).append a.seg a.p = (Xs d.wait (j + 1), 0) := by
  have hc : d.wait[j]? = some (callOf a) := by rw [h.wait]; simp [ha]
  have e : callOf a = ⟨a.seg, a.p, false⟩ := by simp [callOf, h0]
  have ho := h.valid j _ hc
  rw [← Xs_succ hc, e]
  rw [e] at ho
  unfold OkAt at ho
  simp at ho
  unfold DiskS.append
  have : ¬ ((Xs d.wait j).room - (msum (Xs d.wait j).now : Int) < (a.p.length : Int)) := by simp [Xs]; omega
  rw [if_neg this]
  simp [Xs]
theorem Xs_drop {d : DiskS} {ds : List ActS} (h : St d ds) {j : Nat} {a : ActS} (ha : ds[j]? = some a) (h0 : a.dop = 3) : (Xs d.wait j).drop a.seg = (Xs d.wait (j + 1), 0) := by
  have hc : d.wait[j]? = some (callOf a) := by rw [h.wait]; simp [ha]
  have e : callOf a = ⟨a.seg, [], true⟩ := by simp [callOf, h0]
  have ho := h.valid j _ hc
  rw [← Xs_succ hc, e]
  rw [e] at ho
  unfold OkAt at ho
  simp at ho
  unfold DiskS.drop
  have : (mget (Xs d.wait j).now a.seg).isSome = true := by simpa [Xs] using ho
  rw [if_pos this]
theorem Xs_small {d : DiskS} {ds : List ActS} (h : St d ds) (hl : ds.length ≤ 20) (j : Nat) : Small (Xs d.wait j) ∧ msum (Xs d.wait j).now ≤ 800 := by
  obtain ⟨_, _, h1, h2⟩ := h.small hl
  have h3 := msum_doneAll d.wait [] j
  have h4 := wsum_take_le d.wait j
  have h5 : (d.wait.take j).length ≤ 20 := by simp; omega
  simp [msum] at h3
  exact ⟨⟨by simp [Xs], by simp [Xs], by simp [Xs]; omega, by simp only [Xs]; omega⟩, by simp [Xs]; omega⟩

/-- What the crash behind k calls leaves is what the first k calls leave. -/
theorem crash_zero {d : DiskS} {ds : List ActS} (h : St d ds) (k : Nat) (hk : k ≤ d.wait.length) : msame (d.crash (k : Int) 0).now (Xs d.wait k).now = true := by
  have hn : keepNum d (k : Int) = k := by unfold keepNum; omega
  have e : crashMap d k 0 = doneAll (d.wait.take k) [] := by
    unfold crashMap
    rw [h.safe]
    cases hc : d.wait[k]? with
    | none => rfl
    | some c =>
      simp only []
      rw [if_neg]
      intro hh
      have := hh.2
      omega
  simp only [DiskS.crash, hn, e, Xs]
  exact msame_refl (Keys.nil.doneAll _)
theorem crash_keep (d : DiskS) (keep torn : Int) (k : Nat) (hk : max (min keep (d.wait.length : Int)) 0 = (k : Int)) : d.crash keep torn = d.crash (k : Int) torn := by
  have h1 : keepNum d keep = k := by unfold keepNum; omega
  have h2 : keepNum d (k : Int) = k := by unfold keepNum; omega
  simp only [DiskS.crash, h1, h2]
theorem crash_keys {d : DiskS} {ds : List ActS} (h : St d ds) (keep torn : Int) : Keys (d.crash keep torn).now := by
  simp only [DiskS.crash, crashMap, h.safe]
  split
  · exact Keys.nil.doneAll _
  · split
    · exact (Keys.nil.doneAll _).done _
    · exact Keys.nil.doneAll _
/-- The crash behind k calls with a torn one that does nothing. -/
theorem crash_untorn {d : DiskS} {ds : List ActS} (h : St d ds) (k : Nat) (hk : k ≤ d.wait.length) (torn : Int)
    (hn : ∀ a, ds[k]? = some a → ¬ (a.dop = 0 ∧ 0 < torn ∧ 1 < a.p.length)) : msame (d.crash (k : Int) torn).now (Xs d.wait k).now = true := by
  have hkn : keepNum d (k : Int) = k := by unfold keepNum; omega
  have e : crashMap d k torn = doneAll (d.wait.take k) [] := by
    unfold crashMap
    rw [h.safe, h.wait]
    cases hc : ds[k]? with
    | none => simp [hc]
    | some a =>
      have := hn a hc
      simp only [List.getElem?_map, hc, Option.map_some]
      rw [if_neg]
      rintro ⟨h1, h2⟩
      have hd : a.dop = 0 := by
        unfold callOf at h1
        split at h1
        · assumption
        · simp at h1
      have hp : (callOf a).p = a.p := by simp [callOf, hd]
      rw [hp] at h2
      exact this ⟨hd, by omega, by omega⟩
  simp only [DiskS.crash, hkn, e, Xs]
  exact msame_refl (Keys.nil.doneAll _)
theorem crash_torn {d : DiskS} {ds : List ActS} (h : St d ds) (_ : ds.length ≤ 20) (k : Nat) (torn : Int) {a : ActS} (ha : ds[k]? = some a) (h0 : a.dop = 0) (ht : 0 < torn) (hp : 1 < a.p.length) {n : Nat} (hn : min torn ((a.p.length : Int) - 1) = (n : Int)) :
    (Xs d.wait k).append a.seg (a.p.take n) = ((Xs d.wait k).put ⟨a.seg, a.p.take n, false⟩, 0) ∧ msame (d.crash (k : Int) torn).now ((Xs d.wait k).put ⟨a.seg, a.p.take n, false⟩).now = true := by
  have hc : d.wait[k]? = some (callOf a) := by rw [h.wait]; simp [ha]
  have hlt : k < d.wait.length := (List.getElem?_eq_some_iff.1 hc).1
  have e : callOf a = ⟨a.seg, a.p, false⟩ := by simp [callOf, h0]
  have ho := h.valid k _ hc
  rw [e] at ho
  unfold OkAt at ho
  simp at ho
  have hnl : n ≤ a.p.length := by omega
  constructor
  · unfold DiskS.append
    have : ¬ ((Xs d.wait k).room - (msum (Xs d.wait k).now : Int) < ((a.p.take n).length : Int)) := by simp [Xs]; omega
    rw [if_neg this]
    simp [Xs]
  · have hkn : keepNum d (k : Int) = k := by unfold keepNum; omega
    have e2 : crashMap d k torn = CallS.done ⟨a.seg, a.p.take n, false⟩ (doneAll (d.wait.take k) []) := by
      unfold crashMap
      rw [h.safe, hc]
      simp only [e]
      rw [if_pos ⟨trivial, by omega⟩, hn]
      simp
    simp only [DiskS.crash, hkn, e2, DiskS.put, Xs]
    exact msame_refl ((Keys.nil.doneAll _).done _)
end Go.Proofs.Ytpjggnfiocplmaa
