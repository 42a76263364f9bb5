/- Plain laws of the disk. -/
import Derived.Test.YtfdmbomlkpkegaaGreatDisk
import Derived.Deep.DeepCutAuto
import Derived.Deep.CutBlock
/-! ## Prefix -/
namespace Go.Proofs.YtfdmbomlkpkegaaGreat
open Go Go.RowKit Go.Dr

structure ActS where
  dop : Int
  seg : Int
  p : Bytes
  on : Bool
  keep : Int
  torn : Int
structure ActS.Ok (a : ActS) : Prop where
  dop0 : 0 ≤ a.dop
  dop1 : a.dop ≤ 255
  seg0 : (Lit.int .u64 a.seg).wf = true
  keep0 : (Lit.int .i64 a.keep).wf = true
  torn0 : (Lit.int .i64 a.torn).wf = true

/-! ### Plain -/
theorem mget_set_same (m : AMap) (k : Int) (l : Bytes) : mget (mset m k l) k = some l := by
  induction m with
  | nil => simp [mset, mget]
  | cons e m ih =>
    simp only [mset]
    split
    · simp [mget]
    · rename_i h
      simp only [mget, List.find?_cons] at ih ⊢
      have : (e.1 == k) = false := by simpa using h
      rw [this]; exact ih
theorem mget_mem {m : AMap} (h : Keys m) {kv : Int × Bytes} (hm : kv ∈ m) : mget m kv.1 = some kv.2 := by
  induction h with
  | nil => cases hm
  | @cons x m h1 h2 ih =>
    rcases List.mem_cons.1 hm with rfl | hm
    · simp [mget]
    · have hne : (x.1 == kv.1) = false := by simpa using h1 kv hm
      have := ih hm
      simp only [mget, List.find?_cons, hne] at this ⊢
      exact this
theorem Keys.nil : Keys [] := List.Pairwise.nil
theorem Keys.done {m : AMap} (h : Keys m) (c : CallS) : Keys (c.done m) := by
  unfold CallS.done
  split
  · exact h.del _
  · exact h.set _ _
theorem Keys.doneAll {m : AMap} (h : Keys m) (l : List CallS) : Keys (doneAll l m) := by
  induction l generalizing m with
  | nil => exact h
  | cons c l ih => exact ih (h.done c)
theorem doneAll_snoc (l : List CallS) (c : CallS) (m : AMap) : doneAll (l ++ [c]) m = c.done (doneAll l m) := by
  unfold Go.Proofs.YtfdmbomlkpkegaaGreat.doneAll
  rw [List.foldl_append]
  rfl
theorem wsum_snoc (l : List CallS) (c : CallS) : wsum (l ++ [c]) = wsum l + c.p.length := by
  induction l with
  | nil => simp [wsum]
  | cons x l ih => simp [wsum, ih]; omega

def OkAt (c : CallS) (m : AMap) : Prop := if c.drop then (mget m c.seg).isSome = true else (msum m : Int) + (c.p.length : Int) ≤ 2000
def callOf (a : ActS) : CallS := if a.dop = 0 then ⟨a.seg, a.p, false⟩ else ⟨a.seg, [], true⟩
structure St (d : DiskS) (ds : List ActS) : Prop where
  room : d.room = 2000
  full : d.full = false
  safe : d.safe = []
  wait : d.wait = ds.map callOf
  now : d.now = doneAll d.wait []
  wlen : wsum d.wait ≤ ds.length * 40
  dops : ∀ a ∈ ds, a.dop = 0 ∨ a.dop = 3
  plen : ∀ a ∈ ds, a.p.length ≤ 40
  valid : ∀ (j : Nat) c, d.wait[j]? = some c → OkAt c (doneAll (d.wait.take j) [])
theorem St.nil : St { room := 2000, full := false, now := [], safe := [], wait := [] } [] :=
  ⟨rfl, rfl, rfl, rfl, rfl, by simp [wsum], by simp, by simp, by simp⟩
theorem St.push {d : DiskS} {ds : List ActS} (h : St d ds) (a : ActS) (hd : a.dop = 0 ∨ a.dop = 3) (hp : a.p.length ≤ 40) (ho : OkAt (callOf a) d.now) : St (d.put (callOf a)) (ds ++ [a]) := by
  have hcp : (callOf a).p.length ≤ 40 := by
    unfold callOf; split
    · exact hp
    · simp
  refine ⟨h.room, h.full, h.safe, ?_, ?_, ?_, ?_, ?_, ?_⟩
  · simp [DiskS.put, h.wait]
  · simp only [DiskS.put]; rw [doneAll_snoc, ← h.now]
  · simp only [DiskS.put]; rw [wsum_snoc]; have := h.wlen; simp; omega
  · intro b hb
    rcases List.mem_append.1 hb with hb | hb
    · exact h.dops b hb
    · simp at hb; subst hb; exact hd
  · intro b hb
    rcases List.mem_append.1 hb with hb | hb
    · exact h.plen b hb
    · simp at hb; subst hb; exact hp
  · intro j c hc
    simp only [DiskS.put] at hc ⊢
    by_cases hj : j < d.wait.length
    · rw [List.getElem?_append_left hj] at hc
      rw [List.take_append_of_le_length (by omega)]
      exact h.valid j c hc
    · rw [List.getElem?_append_right (by omega)] at hc
      have hj0 : j - d.wait.length = 0 := by
        rcases Nat.eq_zero_or_pos (j - d.wait.length) with h | h
        · exact h
        · rw [List.getElem?_eq_none (by simp; omega)] at hc; cases hc
      rw [hj0] at hc
      simp at hc
      subst hc
      have : j = d.wait.length := by omega
      subst this
      rw [List.take_left, ← h.now]
      exact ho
theorem St.small {d : DiskS} {ds : List ActS} (h : St d ds) (hl : ds.length ≤ 20) : Small d ∧ msum d.now ≤ 800 ∧ wsum d.wait ≤ 800 ∧ d.wait.length = ds.length := by
  have h1 := msum_doneAll d.wait [] d.wait.length
  rw [List.take_length, ← h.now] at h1
  have h2 := h.wlen
  simp [msum] at h1
  have h3 : d.wait.length = ds.length := by rw [h.wait]; simp
  exact ⟨⟨by rw [h.room]; decide, by rw [h.room]; decide, by omega, by omega⟩, by omega, by omega, h3⟩
theorem St.append {d : DiskS} {ds : List ActS} (h : St d ds) (a : ActS) (ha : a.dop = 0) (hp : a.p.length ≤ 40) :
    (d.append a.seg a.p = (d.put (callOf a), 0) ∧ St (d.put (callOf a)) (ds ++ [a])) ∨ d.append a.seg a.p = (d, 5) := by
  unfold DiskS.append
  rw [h.full]
  simp only [Bool.false_eq_true, if_false]
  by_cases hlt : d.room - (msum d.now : Int) < (a.p.length : Int)
  · right; rw [if_pos hlt]
  · left
    rw [if_neg hlt]
    have e : callOf a = ⟨a.seg, a.p, false⟩ := by simp [callOf, ha]
    refine ⟨by rw [e], h.push a (.inl ha) hp ?_⟩
    rw [e]
    unfold OkAt
    have := h.room
    simp
    omega
theorem St.drop {d : DiskS} {ds : List ActS} (h : St d ds) (a : ActS) (ha : a.dop = 3) (hp : a.p.length ≤ 40) :
    (d.drop a.seg = (d.put (callOf a), 0) ∧ St (d.put (callOf a)) (ds ++ [a])) ∨ d.drop a.seg = (d, 4) := by
  unfold DiskS.drop
  cases hs : (mget d.now a.seg).isSome with
  | false => right; rfl
  | true =>
    left
    have e : callOf a = ⟨a.seg, [], true⟩ := by simp [callOf, ha]
    refine ⟨by rw [e]; rfl, h.push a (.inr ha) hp ?_⟩
    rw [e]
    unfold OkAt
    simpa using hs

end Go.Proofs.YtfdmbomlkpkegaaGreat

/-! ## Seg6 -/
namespace Go.Proofs.YtfdmbomlkpkegaaGreat
open Go Go.RowKit

def Sorted (m : AMap) : Prop := m.Pairwise (fun a b => a.1 < b.1)
theorem Sorted.keys {m : AMap} (h : Sorted m) : Keys m := h.imp (fun {a b} h => by omega)

/-- One call on the sorted list. -/
def step6 : AMap → CallS → AMap
  | [], c => if c.drop then [] else [(c.seg, c.p)]
  | e :: m, c =>
    if e.1 < c.seg then e :: step6 m c
    else if e.1 = c.seg then (if c.drop then m else (c.seg, e.2 ++ c.p) :: m)
    else (if c.drop then e :: m else (c.seg, c.p) :: e :: m)
def segs6 (l : List CallS) : AMap := l.foldl step6 []
theorem segs6_snoc (l : List CallS) (c : CallS) : segs6 (l ++ [c]) = step6 (segs6 l) c := by simp [segs6]

theorem step6_keys {m : AMap} {c : CallS} {e : Int × Bytes} (h : e ∈ step6 m c) : e.1 = c.seg ∨ e ∈ m := by
  induction m with
  | nil =>
    unfold step6 at h
    split at h
    · cases h
    · simp at h; exact .inl (by rw [h])
  | cons x m ih =>
    unfold step6 at h
    split at h
    · rcases List.mem_cons.1 h with rfl | h
      · exact .inr (by simp)
      · rcases ih h with h | h
        · exact .inl h
        · exact .inr (by simp [h])
    · split at h
      · split at h
        · exact .inr (by simp [h])
        · rcases List.mem_cons.1 h with rfl | h
          · exact .inl rfl
          · exact .inr (by simp [h])
      · split at h
        · exact .inr h
        · rcases List.mem_cons.1 h with rfl | h
          · exact .inl rfl
          · exact .inr h
theorem step6_sorted {m : AMap} (h : Sorted m) (c : CallS) : Sorted (step6 m c) := by
  induction m with
  | nil =>
    unfold step6
    split
    · exact List.Pairwise.nil
    · exact List.pairwise_singleton _ _
  | cons x m ih =>
    have h' := List.pairwise_cons.1 h
    unfold step6
    split
    · rename_i hlt
      refine List.pairwise_cons.2 ⟨fun e he => ?_, ih h'.2⟩
      rcases step6_keys he with he | he
      · omega
      · exact h'.1 e he
    · rename_i hge
      split
      · rename_i heq
        split
        · exact h'.2
        · exact List.pairwise_cons.2 ⟨fun e he => by have := h'.1 e he; simp only; omega, h'.2⟩
      · rename_i hne
        split
        · exact h
        · refine List.pairwise_cons.2 ⟨fun e he => ?_, h⟩
          simp only
          rcases List.mem_cons.1 he with rfl | he
          · omega
          · have := h'.1 e he; omega
theorem segs6_sorted (l : List CallS) : Sorted (segs6 l) := by
  unfold segs6
  suffices h : ∀ (l : List CallS) (m : AMap), Sorted m → Sorted (l.foldl step6 m) from h l [] List.Pairwise.nil
  intro l
  induction l with
  | nil => intro m h; exact h
  | cons c l ih => intro m h; exact ih _ (step6_sorted h c)

theorem mget_cons (e : Int × Bytes) (m : AMap) (k : Int) : mget (e :: m) k = if e.1 = k then some e.2 else mget m k := by
  unfold mget
  rw [List.find?_cons]
  by_cases h : e.1 = k
  · simp [h]
  · have : (e.1 == k) = false := by simp [h]
    simp [this, h]
theorem mget_lt {m : AMap} {k : Int} (h : ∀ e ∈ m, k < e.1) : mget m k = none := by
  induction m with
  | nil => rfl
  | cons e m ih =>
    have h1 := h e (by simp)
    rw [mget_cons, if_neg (by omega), ih (fun e he => h e (by simp [he]))]
/-- What the step leaves is what the call leaves of the map. -/
theorem step6_get {m : AMap} (h : Sorted m) (c : CallS) (k : Int) :
    mget (step6 m c) k = if k = c.seg then (if c.drop then none else some ((mget m k).getD [] ++ c.p)) else mget m k := by
  induction m with
  | nil =>
    unfold step6
    by_cases hk : k = c.seg
    · subst hk
      cases c.drop <;> simp [mget]
    · cases c.drop
      · simp [mget_cons, hk, Ne.symm hk]
      · simp [mget, hk]
  | cons x m ih =>
    have h' := List.pairwise_cons.1 h
    have hn : ∀ k, k ≤ x.1 → mget m k = none := fun k hk => mget_lt (fun e he => by have := h'.1 e he; omega)
    unfold step6
    by_cases h1 : x.1 < c.seg
    · rw [if_pos h1, mget_cons, mget_cons, ih h'.2]
      by_cases hk : k = c.seg
      · subst hk
        have hx : ¬ x.1 = c.seg := by omega
        simp [hx]
      · rw [if_neg hk, if_neg hk]
    · rw [if_neg h1]
      by_cases h2 : x.1 = c.seg
      · rw [if_pos h2]
        by_cases hk : k = c.seg
        · subst hk
          cases hd : c.drop
          · simp [mget_cons, h2]
          · simp [hn c.seg (by omega)]
        · cases hd : c.drop
          · simp [mget_cons, h2, hk, Ne.symm hk]
          · simp [mget_cons, h2, hk, Ne.symm hk]
      · rw [if_neg h2]
        by_cases hk : k = c.seg
        · subst hk
          have hq := hn c.seg (by omega)
          cases hd : c.drop
          · simp [mget_cons, h2, hq]
          · simp [mget_cons, h2, hq]
        · cases hd : c.drop
          · simp [mget_cons, hk, Ne.symm hk]
          · simp [hk]

/-! ### The same map -/
theorem mget_set_other {m : AMap} {k k' : Int} (h : k' ≠ k) (l : Bytes) : mget (mset m k l) k' = mget m k' := by
  induction m with
  | nil => simp [mset, mget_cons, Ne.symm h]
  | cons e m ih =>
    simp only [mset]
    split
    · rename_i he
      have he : e.1 = k := by simpa using he
      rw [mget_cons, mget_cons, if_neg (by simpa using Ne.symm h), if_neg (by rw [he]; exact Ne.symm h)]
    · rw [mget_cons, mget_cons, ih]
theorem mget_none {m : AMap} {k : Int} (h : ∀ e ∈ m, e.1 ≠ k) : mget m k = none := by
  induction m with
  | nil => rfl
  | cons e m ih => rw [mget_cons, if_neg (h e (by simp)), ih (fun e he => h e (by simp [he]))]
theorem mget_del {m : AMap} (h : Keys m) (k k' : Int) : mget (mdel m k) k' = if k' = k then none else mget m k' := by
  induction m with
  | nil => simp [mdel, mget]
  | cons e m ih =>
    have h' := List.pairwise_cons.1 h
    simp only [mdel]
    split
    · rename_i he
      have he : e.1 = k := by simpa using he
      by_cases hk : k' = k
      · rw [if_pos hk]
        exact mget_none (fun x hx => by have := h'.1 x hx; rw [hk, ← he]; exact Ne.symm this)
      · rw [if_neg hk, mget_cons, if_neg (by rw [he]; exact Ne.symm hk)]
    · rename_i he
      have he : e.1 ≠ k := by simpa using he
      rw [mget_cons, ih h'.2, mget_cons]
      by_cases hk : k' = k
      · simp [hk, he]
      · rw [if_neg hk, if_neg hk]
theorem done_get {m : AMap} (h : Keys m) (c : CallS) (k : Int) :
    mget (c.done m) k = if k = c.seg then (if c.drop then none else some ((mget m k).getD [] ++ c.p)) else mget m k := by
  unfold CallS.done
  cases hd : c.drop
  · simp only [Bool.false_eq_true, if_false]
    by_cases hk : k = c.seg
    · rw [if_pos hk, hk, mget_set_same]
    · rw [if_neg hk, mget_set_other hk]
  · simp only [if_true]
    rw [mget_del h]
def SameMap (a b : AMap) : Prop := ∀ k, mget a k = mget b k
theorem SameMap.step {a b : AMap} (h : SameMap a b) (ha : Sorted a) (hb : Keys b) (c : CallS) : SameMap (step6 a c) (c.done b) := fun k => by
  rw [step6_get ha, done_get hb, h k]
theorem mget_filter (m : AMap) (k k' : Int) : mget (m.filter (fun e => e.1 != k)) k' = if k' = k then none else mget m k' := by
  induction m with
  | nil => simp [mget]
  | cons e m ih =>
    rw [List.filter_cons]
    by_cases he : e.1 = k
    · have : (e.1 != k) = false := by simp [he]
      rw [this]
      simp only [Bool.false_eq_true, if_false]
      rw [ih, mget_cons]
      by_cases hk : k' = k
      · simp [hk]
      · rw [if_neg hk, if_neg hk, if_neg (by rw [he]; exact Ne.symm hk)]
    · have : (e.1 != k) = true := by simp [he]
      rw [this]
      simp only [if_true]
      rw [mget_cons, ih, mget_cons]
      by_cases hk : k' = k
      · simp [hk, he]
      · rw [if_neg hk, if_neg hk]
theorem mem_of_mget {m : AMap} {k : Int} {l : Bytes} (h : mget m k = some l) : (k, l) ∈ m := by
  induction m with
  | nil => simp [mget] at h
  | cons e m ih =>
    rw [mget_cons] at h
    split at h
    · rename_i he
      simp at h
      exact List.mem_cons.2 (.inl (by rw [← he, ← h]))
    · exact List.mem_cons.2 (.inr (ih h))
theorem SameMap.sum {a : AMap} : ∀ {b : AMap}, Keys a → Keys b → SameMap a b → msum a = msum b := by
  induction a with
  | nil =>
    intro b _ hb h
    cases b with
    | nil => rfl
    | cons e b => have := h e.1; rw [mget_cons, if_pos rfl] at this; cases this
  | cons e a ih =>
    intro b ha hb h
    have h' := List.pairwise_cons.1 ha
    have he : mget b e.1 = some e.2 := by rw [← h e.1, mget_cons, if_pos rfl]
    rw [msum_filter hb (mem_of_mget he), ← ih h'.2 (hb.filter _) (fun k => ?_)]
    · rfl
    · rw [mget_filter]
      by_cases hk : k = e.1
      · rw [if_pos hk]
        exact mget_none (fun x hx => by rw [hk]; exact Ne.symm (h'.1 x hx))
      · rw [if_neg hk, ← h k, mget_cons, if_neg (Ne.symm hk)]

end Go.Proofs.YtfdmbomlkpkegaaGreat

/-! ## Acts -/
namespace Go.Proofs.YtfdmbomlkpkegaaGreat
open Go Go.RowKit Go.Dr

/-! ### Acts in memory -/
def ActAt [bn : Inhabited Ban] (base : Nat) (w : World) (g o : Nat) (a : ActS) : Prop :=
  ∃ u, BytesAt base w u a.p ∧ w.cell? ⟨g, o, none⟩ = some (.int .u8 a.dop) ∧ w.cell? ⟨g, o + 1, none⟩ = some (.int .u64 a.seg) ∧ w.cell? ⟨g, o + 2, none⟩ = some u ∧
    w.cell? ⟨g, o + 3, none⟩ = some (.bool a.on) ∧ w.cell? ⟨g, o + 4, none⟩ = some (.int .i64 a.keep) ∧ w.cell? ⟨g, o + 5, none⟩ = some (.int .i64 a.torn)
theorem ActAt.keep [bn : Inhabited Ban] {base : Nat} {w w' : World} {g o : Nat} {a : ActS} {F : Nat → Prop} (h : ActAt base w g o a) (hF : Foot base w F) (k : Keep F w w') (hn : ¬ F g) : ActAt base w' g o a := by
  obtain ⟨u, h0, h1, h2, h3, h4, h5, h6⟩ := h
  exact ⟨u, h0.keep hF k, k.cell h1 hn, k.cell h2 hn, k.cell h3 hn, k.cell h4 hn, k.cell h5 hn, k.cell h6 hn⟩
theorem DiskAt.foot_kind [bn : Inhabited Ban] {base : Nat} {w : World} {p n s : Nat} {wv : Value} {d : DiskS} (h : DiskAt base w p n s wv d) {b : Nat} (hb : foot p n s wv b) {cs : Array Value} {t : TypeId} {fr : Nat × Nat} (hq : w.heap[b]? = some (.cells cs t fr)) :
    t = 135 ∨ t = 137 := by
  rcases hb with rfl | rfl | rfl | hb
  · rw [h.blk] at hq; simp at hq; exact .inl hq.2.1.symm
  · obtain ⟨_, _, hz⟩ := h.now.kind; rw [hz] at hq; cases hq
  · obtain ⟨_, _, hz⟩ := h.safe.kind; rw [hz] at hq; cases hq
  · obtain ⟨_, cur, hz⟩ := h.wait.kind b hb; rw [hz] at hq; simp at hq; exact .inr hq.2.1.symm
end Go.Proofs.YtfdmbomlkpkegaaGreat
