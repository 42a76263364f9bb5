/- SeglogHolds: what was synced survives: the plain law. -/
import Derived.Test.YtpjggnfiocplmaaPairB
namespace Go.Proofs.Ytpjggnfiocplmaa
open Go Go.RowKit

/-- From so many calls on the segments hold a beginning of all records, of so many at the least. -/
def RH (sl cnt : Nat) (all : List Bytes) (k : Nat) (ss : List SegL) : Prop := sl ≤ k → ∃ m, cnt ≤ m ∧ m ≤ all.length ∧ recsOf ss = all.take m ∧ max (nextOf 0 ss) 1 = m + 1
theorem Inv.reset {j : Nat} {R R' : Nat → List SegL → Prop} {l : List CallS} (h : Inv j R l) {ss : List SegL} (hg : Good j l ss) (hr : R' l.length ss) (hlt : ∀ k ss, k < l.length → R' k ss) : Inv j R' l := by
  refine ⟨fun k hk => ?_, fun k c t hc h1 h2 h3 => ?_⟩
  · by_cases e : k = l.length
    · subst e
      exact ⟨ss, by rw [List.take_length]; exact hg, hr⟩
    · obtain ⟨s2, g2, _⟩ := h.1 k hk
      exact ⟨s2, g2, hlt _ _ (by omega)⟩
  · obtain ⟨s2, g2, _⟩ := h.2 k c t hc h1 h2 h3
    exact ⟨s2, g2, hlt _ _ (List.getElem?_eq_some_iff.1 hc).1⟩
structure Hold (j cnt : Nat) (all : List Bytes) (ss : List SegL) (d : DiskS) (x : RDiskS) : Prop where
  st : St7 j (RH x.safe.toNat cnt all) ss d x
  recs : recsOf ss = all
  next : max (nextOf 0 ss) 1 = all.length + 1
  cnt : cnt ≤ all.length
  full : d.full = false
  room : d.room = 60000
  short : ∀ b ∈ all, b.length ≤ 40
theorem Hold.mono {j k cnt : Nat} {all : List Bytes} {ss : List SegL} {d : DiskS} {x : RDiskS} (h : Hold j cnt all ss d x) (hk : j ≤ k) : Hold k cnt all ss d x :=
  ⟨⟨h.st.rel, h.st.good.mono hk, h.st.inv.mono hk (fun _ _ _ r => r), h.st.room0, h.st.room1⟩, h.recs, h.next, h.cnt, h.full, h.room, h.short⟩
theorem Hold.start : Hold 0 0 [] [] { room := 60000, full := false, now := [], safe := [], wait := [] } { room := 60000, full := false, l := [], safe := 0 } :=
  ⟨⟨⟨rfl, rfl, fun _ => rfl, fun _ => rfl, Int.le_refl _, Int.le_refl _, rfl, Keys.nil, Keys.nil⟩, Good.nil, Inv.nil _ (fun _ => ⟨0, Nat.le_refl _, Nat.le_refl _, rfl, rfl⟩), by decide, by decide⟩, rfl, rfl, Nat.le_refl _, rfl, rfl, by simp⟩
theorem Hold.append {j cnt : Nat} {all : List Bytes} {ss : List SegL} {d : DiskS} {x : RDiskS} (h : Hold j cnt all ss d x) (hj : j ≤ 100) (size : Int) (p : Bytes) (hp : p.length ≤ 40) :
    ∃ ss', (d.append (appS (logD size ss)).n (appB (logD size ss) p)).2 = 0 ∧ (logD size ss).append p = logD size ss' ∧
      Hold (j + 1) cnt (all ++ [p]) ss' (d.append (appS (logD size ss)).n (appB (logD size ss) p)).1 (x.append (appS (logD size ss)).n (appB (logD size ss) p)).1 := by
  obtain ⟨ss', hg', happ, hrec, htorn⟩ := h.st.good.append size p (by omega) (by omega)
  obtain ⟨hbl, _⟩ := appB_length (logD size ss) p
  obtain ⟨hr1, hr2⟩ := h.st.rel.append (appS (logD size ss)).n (appB (logD size ss) p)
  have hsum := h.st.rel.sum
  have hle := segs6_sum x.l
  have hws := h.st.good.sum
  generalize (appS (logD size ss)).n = sn at *
  generalize appB (logD size ss) p = B at *
  have hroom := h.room
  have hfull := h.full
  have hd : d.append sn B = (d.put ⟨sn, B, false⟩, 0) := by
    have hlt : ¬ d.room - (msum d.now : Int) < (B.length : Int) := by omega
    simp [DiskS.append, hfull, hlt]
  have hx : x.append sn B = (x.push ⟨sn, B, false⟩, 0) := by
    have e1 : x.full = false := by rw [h.st.rel.full]; exact hfull
    have e2 : ¬ (x.room < (msum (segs6 x.l) : Int) + (B.length : Int)) := by rw [h.st.rel.room]; omega
    unfold RDiskS.append
    rw [e1, if_neg (by decide), if_neg e2]
  rw [hd, hx] at hr1 ⊢
  refine ⟨ss', rfl, happ, ⟨⟨hr1, hg', ?_, h.st.room0, h.st.room1⟩, by rw [hrec, h.recs], ?_, by have := h.cnt; simp; omega, hfull, hroom, fun b hb => ?_⟩⟩
  · have hI := h.st.inv.mono (k := j + 1) (R' := RH x.safe.toNat cnt (all ++ [p])) (Nat.le_succ _) (fun i s _ r hs => by
      obtain ⟨m, m1, m2, m3, m4⟩ := r hs
      exact ⟨m, m1, by simp; omega, by rw [List.take_append_of_le_length m2]; exact m3, m4⟩)
    refine hI.push ⟨sn, B, false⟩ ⟨ss', hg', fun _ => ⟨all.length + 1, by have := h.cnt; omega, by simp, by rw [hrec, h.recs, List.take_of_length_le (by simp)], ?_⟩⟩ (fun _ t h0 h1 => ?_)
    · have e1 : (logD size ss').next = (logD size ss).next + 1 := by rw [← happ]; rfl
      have e2 : max (nextOf 0 ss') 1 = max (nextOf 0 ss) 1 + 1 := e1
      rw [e2, h.next]
    · obtain ⟨s2, g2, r2, n2⟩ := htorn t h0 h1
      exact ⟨s2, g2, fun _ => ⟨all.length, h.cnt, by simp, by rw [r2, h.recs, List.take_append_of_le_length (Nat.le_refl _), List.take_length], by rw [n2, h.next]⟩⟩
  · have e1 : (logD size ss').next = (logD size ss).next + 1 := by rw [← happ]; rfl
    have e2 : max (nextOf 0 ss') 1 = max (nextOf 0 ss) 1 + 1 := e1
    rw [e2, h.next]
    simp
  · rcases List.mem_append.1 hb with hb | hb
    · exact h.short b hb
    · rw [List.mem_singleton.1 hb]; exact hp
theorem Hold.sync {j cnt : Nat} {all : List Bytes} {ss : List SegL} {d : DiskS} {x : RDiskS} (h : Hold j cnt all ss d x) : Hold j all.length all ss d.sync x.sync := by
  refine ⟨⟨h.st.rel.sync, h.st.good, ?_, h.st.room0, h.st.room1⟩, h.recs, h.next, Nat.le_refl _, h.full, h.room, h.short⟩
  have e : x.sync.safe.toNat = x.l.length := by simp [RDiskS.sync]
  show Inv j (RH x.sync.safe.toNat all.length all) x.l
  rw [e]
  exact h.st.inv.reset h.st.good (fun _ => ⟨all.length, Nat.le_refl _, Nat.le_refl _, by rw [List.take_length]; exact h.recs, h.next⟩) (fun k s hk hs => by omega)
theorem Hold.crash {j cnt : Nat} {all : List Bytes} {ss : List SegL} {d : DiskS} {x : RDiskS} (h : Hold j cnt all ss d x) (keep torn : Int) :
    ∃ ss' m, Good j (x.crash keep torn).l ss' ∧ cnt ≤ m ∧ m ≤ all.length ∧ Hold j m (all.take m) ss' (d.crash keep torn) (x.crash keep torn) := by
  have hn := num_le h.st.rel.s1 keep
  have hge := num_ge h.st.rel.s0 h.st.rel.s1 keep
  have hI := h.st.inv.found keep torn hn
  have hfl := found_length keep torn hn
  obtain ⟨ss', g', r'⟩ := hI.1 (x.found keep torn).length (Nat.le_refl _)
  rw [List.take_length] at g'
  rw [Nat.min_eq_right hfl] at r'
  obtain ⟨m, m1, m2, m3, m4⟩ := r' hge
  have hl : (x.crash keep torn).l = x.found keep torn := rfl
  have hsafe : (x.crash keep torn).safe.toNat = (x.found keep torn).length := by simp [RDiskS.crash]
  have hml : (all.take m).length = m := by rw [List.length_take, Nat.min_eq_left m2]
  refine ⟨ss', m, g', m1, m2, ⟨h.st.rel.crash keep torn, g', ?_, h.st.room0, h.st.room1⟩, m3, by rw [hml]; exact m4, by rw [hml]; exact Nat.le_refl _, h.full, h.room, fun b hb => h.short b (List.mem_of_mem_take hb)⟩
  rw [hsafe, hl]
  exact hI.reset g' (fun _ => ⟨m, Nat.le_refl _, by rw [hml]; exact Nat.le_refl _, by rw [m3, List.take_take, Nat.min_self], m4⟩) (fun k s hk hs => by omega)
end Go.Proofs.Ytpjggnfiocplmaa
