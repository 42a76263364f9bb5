/- The plain law behind DiskFull. -/
import Derived.Test.YtpjggnfiocplmaaNums
import Derived.Test.YtpjggnfiocplmaaCopy
import Derived.Test.YtpjggnfiocplmaaDrawC
import Derived.OwnWalk
namespace Go.Proofs.Ytpjggnfiocplmaa
open Go Go.RowKit Go.Dr

theorem msum_put (m : AMap) (k : Int) (l : Bytes) : msum (mset m k ((mget m k).getD [] ++ l)) = msum m + l.length := by
  induction m with
  | nil => simp [mset, mget, msum]
  | cons e m ih =>
    rw [mget_cons]
    simp only [mset]
    by_cases h : e.1 = k
    · simp [h, msum]; omega
    · have : (e.1 == k) = false := by simpa using h
      simp only [this, msum, if_neg h, Bool.false_eq_true, if_false]
      rw [ih]; omega
theorem mset_length (m : AMap) (k : Int) (l : Bytes) : (mset m k l).length ≤ m.length + 1 := by
  induction m with
  | nil => simp [mset]
  | cons e m ih =>
    simp only [mset]
    split
    · simp
    · simp; omega

structure Full1 (room : Int) (j : Nat) (d : DiskS) : Prop where
  hroom : d.room = room
  full : d.full = false
  used : (msum d.now : Int) ≤ room
  wl : d.wait.length ≤ j
  nl : d.now.length ≤ j
  keys : Keys d.now
theorem Full1.new {room : Int} (h : 0 ≤ room) : Full1 room 0 { room := room, full := false, now := [], safe := [], wait := [] } := ⟨rfl, rfl, by simpa [msum] using h, Nat.le_refl _, Nat.le_refl _, Keys.nil⟩
theorem Full1.mono {room : Int} {j k : Nat} {d : DiskS} (h : Full1 room j d) (hk : j ≤ k) : Full1 room k d := ⟨h.hroom, h.full, h.used, by have := h.wl; omega, by have := h.nl; omega, h.keys⟩
theorem Full1.small {room : Int} {j : Nat} {d : DiskS} (h : Full1 room j d) (h0 : 0 ≤ room) (h1 : room ≤ 255) (hj : j ≤ 30) : Small d :=
  ⟨by rw [h.hroom]; exact h0, by rw [h.hroom]; omega, by have := h.used; omega, by have := h.wl; omega⟩
theorem Full1.append {room : Int} {j : Nat} {d : DiskS} (h : Full1 room j d) (seg : Int) (l : Bytes) :
    (d.append seg l = (d.put ⟨seg, l, false⟩, 0) ∧ Full1 room (j + 1) (d.put ⟨seg, l, false⟩) ∧ msum (d.put ⟨seg, l, false⟩).now = msum d.now + l.length) ∨ d.append seg l = (d, 5) := by
  have hs := msum_put d.now seg l
  have hl := mset_length d.now seg ((mget d.now seg).getD [] ++ l)
  by_cases hlt : d.room - (msum d.now : Int) < (l.length : Int)
  · right; simp [DiskS.append, h.full, hlt]
  · left
    have hr := h.hroom
    have hw := h.wl
    have hn := h.nl
    refine ⟨by simp [DiskS.append, h.full, hlt], ⟨h.hroom, h.full, ?_, ?_, ?_, ?_⟩, ?_⟩
    · simp only [DiskS.put, CallS.done, Bool.false_eq_true, if_false]; rw [hs]; omega
    · simp only [DiskS.put, List.length_append, List.length_singleton]; omega
    · simp only [DiskS.put, CallS.done, Bool.false_eq_true, if_false]; omega
    · simp only [DiskS.put]; exact h.keys.done _
    · simp only [DiskS.put, CallS.done, Bool.false_eq_true, if_false]; exact hs

structure Full2 (room : Int) (m : AMap) (j : Nat) (d : DiskS) : Prop where
  hroom : d.room = room
  full : d.full = false
  used : (msum d.now : Int) ≤ room
  wl : d.wait.length ≤ 30 + j
  keys : Keys d.now
  now : ∀ k, mget d.now k = if k ∈ (sortedKeys m).take j then none else mget m k
theorem Full2.start {room : Int} {d : DiskS} (h : Full1 room 30 d) : Full2 room d.now 0 d := ⟨h.hroom, h.full, h.used, h.wl, h.keys, fun k => by simp⟩
theorem Full2.small {room : Int} {j : Nat} {m : AMap} {d : DiskS} (h : Full2 room m j d) (h0 : 0 ≤ room) (h1 : room ≤ 255) (hj : j ≤ 60) : Small d :=
  ⟨by rw [h.hroom]; exact h0, by rw [h.hroom]; omega, by have := h.used; omega, by have := h.wl; omega⟩
theorem not_mem_take {l : List Int} (h : l.Nodup) {j : Nat} {k : Int} (hk : l[j]? = some k) : k ∉ l.take j := by
  intro hm
  obtain ⟨i, hi, e⟩ := List.getElem_of_mem hm
  have hi' : i < j ∧ i < l.length := by rw [List.length_take] at hi; omega
  obtain ⟨hj, ej⟩ := List.getElem?_eq_some_iff.1 hk
  rw [List.getElem_take] at e
  exact (List.pairwise_iff_getElem.1 h) i j hi'.2 hj hi'.1 (by rw [e, ej])
theorem Full2.drop {room : Int} {j : Nat} {m : AMap} {d : DiskS} (h : Full2 room m j d) (hm : Keys m) {k : Int} (hk : (sortedKeys m)[j]? = some k) :
    d.drop k = (d.put ⟨k, [], true⟩, 0) ∧ (d.put ⟨k, [], true⟩).drop k = (d.put ⟨k, [], true⟩, 4) ∧ Full2 room m (j + 1) (d.put ⟨k, [], true⟩) := by
  have hnd : (sortedKeys m).Nodup := (List.mergeSort_perm _ _).nodup_iff.2 hm.nodup
  have hnot := not_mem_take hnd hk
  have hin : (mget m k).isSome = true := sortedKeys_mem.1 (List.mem_of_getElem? hk)
  have h1 : (mget d.now k).isSome = true := by rw [h.now k, if_neg hnot]; exact hin
  have h2 : (mget (mdel d.now k) k).isSome = false := by rw [mget_del h.keys]; simp
  have hms := msum_done ⟨k, [], true⟩ d.now
  have hu := h.used
  have hw := h.wl
  refine ⟨by simp [DiskS.drop, h1], by simp [DiskS.drop, DiskS.put, CallS.done, h2], h.hroom, h.full, ?_, ?_, by simp only [DiskS.put]; exact h.keys.done _, fun k' => ?_⟩
  · simp only [DiskS.put] ; simp only [List.length_nil] at hms; omega
  · simp only [DiskS.put, List.length_append, List.length_singleton]; omega
  · simp only [DiskS.put, CallS.done, if_true]
    rw [mget_del h.keys, List.take_add_one, hk, h.now k']
    simp only [Option.toList_some, List.mem_append, List.mem_singleton]
    by_cases e : k' = k
    · simp [e]
    · simp [e]
theorem Full2.done {room : Int} {m : AMap} {d : DiskS} (h : Full2 room m (sortedKeys m).length d) : d.now = [] := by
  cases hn : d.now with
  | nil => rfl
  | cons e r =>
    exfalso
    have h1 := h.now e.1
    rw [List.take_length, hn, mget_cons, if_pos rfl] at h1
    by_cases hin : e.1 ∈ sortedKeys m
    · rw [if_pos hin] at h1; cases h1
    · rw [if_neg hin] at h1
      exact hin (sortedKeys_mem.2 (by rw [← h1]; rfl))
theorem full_fill {d : DiskS} {r : Nat} (hn : d.now = []) (hf : d.full = false) (hr : d.room = (r : Int)) (q : Bytes) (hq : q.length = r) :
    d.append 1 q = (d.put ⟨1, q, false⟩, 0) ∧ (d.put ⟨1, q, false⟩).append 1 [1] = (d.put ⟨1, q, false⟩, 5) ∧ (d.put ⟨1, q, false⟩).append 1 [] = ((d.put ⟨1, q, false⟩).put ⟨1, [], false⟩, 0) ∧ msum (d.put ⟨1, q, false⟩).now = r := by
  have e : msum (d.put ⟨1, q, false⟩).now = r := by simp [DiskS.put, CallS.done, hn, mset, mget, msum, hq]
  refine ⟨?_, ?_, ?_, e⟩
  · simp [DiskS.append, hf, hn, msum, hr, hq]
  · have h1 : (d.put ⟨1, q, false⟩).full = false := hf
    have h2 : (d.put ⟨1, q, false⟩).room = (r : Int) := hr
    simp only [DiskS.append, h1, h2, e]
    simp
  · have h1 : (d.put ⟨1, q, false⟩).full = false := hf
    have h2 : (d.put ⟨1, q, false⟩).room = (r : Int) := hr
    simp only [DiskS.append, h1, h2, e]
    simp
theorem full_on (d : DiskS) (seg : Int) (l : Bytes) : ({ d with full := true }).append seg l = ({ d with full := true }, 5) := by simp [DiskS.append]

/-- A guarded operation in the middle part of a drawn region: done, or passed over. -/
theorem midN_want {P : Program} {ops : Array Oper} {Q : Exit → Act → World → Prop} {S : World → Prop} {K : Act → World → Prop} {i : Nat} {r : List Nat} {a : Act} {w : World} {o : Oper} (hi : ops.toList[i]? = some o) (hg : Region.wanted o (yielded ops a.tmps) = true)
    (h : ∀ K' : Act → World → Prop, (∀ a w, S w → midN P ops Q S K r a w → K' a w) → o.wp P a w K' Q) : midN P ops Q S K (i :: r) a w := by
  unfold midN
  refine ⟨o, hi, ?_⟩
  rw [if_pos hg]
  exact h _ (fun a w h1 h2 => ⟨h1, h2⟩)
theorem midN_pass {P : Program} {ops : Array Oper} {Q : Exit → Act → World → Prop} {S : World → Prop} {K : Act → World → Prop} {i : Nat} {r : List Nat} {a : Act} {w : World} {o : Oper} (hi : ops.toList[i]? = some o) (hg : Region.wanted o (yielded ops a.tmps) = false)
    (hS : S w) (h : midN P ops Q S K r (a.put o.dst undef) w) : midN P ops Q S K (i :: r) a w := by
  unfold midN
  refine ⟨o, hi, ?_⟩
  rw [if_neg (by rw [hg]; simp)]
  exact ⟨hS, h⟩
theorem info_u8' : (Try.prog.info? 5).map (fun i => (i.zero, i.size, i.bytes)) = some (some (.int .u8 0), 1, 1) := by kernel_rfl
/-- A row of zero bytes. -/
theorem make_bytes (w : World) (base r : Nat) (hr : r ≤ 1099511627776) (hb : base ≤ w.heap.size) :
    ∃ w', (Instr.makeSlice 27 (.int .i64 (r : Int)) (.int .i64 (r : Int))).run Try.prog w = .ok (.slice (some ⟨w.heap.size, 0, none⟩) r r) w' ∧ OwnB w' base (.slice (some ⟨w.heap.size, 0, none⟩) r r) (List.replicate r 0) ∧ w.grownBy w' none := by
  have hi := info_u8'
  cases hinf : Try.prog.info? 5 with
  | none => rw [hinf] at hi; cases hi
  | some i =>
    rw [hinf] at hi
    simp only [Option.map_some, Option.some.injEq, Prod.mk.injEq] at hi
    obtain ⟨h1, h2, h3⟩ := hi
    obtain ⟨w', hrun, hown, hg⟩ := run_make_full (P := Try.prog) w base 27 5 i (.int .u8 0) 1 Try.underlying27 hinf h1 h2 .i64 .i64 r (by rw [h3]; omega) (by unfold maxLen; omega) hb
    refine ⟨w', hrun, ?_, hg⟩
    have e : (madeCells (Value.cells (.int .u8 0)) (r * 1)).toList = (List.replicate r (0 : UInt8)).map u8v := by
      apply List.ext_getElem
      · simp [size_madeCells]
      · intro i h1 h2
        simp [madeCells, Value.cells, u8v, Nat.mod_one]
    unfold OwnB
    rw [List.length_replicate, ← e]
    exact hown
end Go.Proofs.Ytpjggnfiocplmaa
