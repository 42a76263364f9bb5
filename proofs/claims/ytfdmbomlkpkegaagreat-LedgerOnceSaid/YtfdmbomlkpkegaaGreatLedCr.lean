/- What a crash leaves of a log of records; what a beginning of records tells. -/
import Derived.Test.YtfdmbomlkpkegaaGreatLedCC
namespace Go.Proofs.YtfdmbomlkpkegaaGreat
open Go Go.RowKit

/-- Each beginning of the calls that wait, also one torn in the midst, leaves the records ahead of it. -/
structure CrI (d : DiskS) (rs : List Bytes) (s B : Nat) : Prop where
  len : s + d.wait.length = rs.length
  now : d.now = doneAll d.wait d.safe
  sum : msum d.safe + wsum d.wait = msum d.now
  whole : ∀ k, k ≤ d.wait.length → ∃ ss, OnDisk ss (rs.take (s + k)) (doneAll (d.wait.take k) d.safe) ∧ ss.length ≤ B
  torn : ∀ (k : Nat) (c : CallS) (t : Nat), d.wait[k]? = some c → 0 < t → t < c.p.length → ∃ ss, OnDisk ss (rs.take (s + k)) (CallS.done ⟨c.seg, c.p.take t, false⟩ (doneAll (d.wait.take k) d.safe)) ∧ ss.length ≤ B
theorem CrI.mono {d : DiskS} {rs : List Bytes} {s B B' : Nat} (h : CrI d rs s B) (hB : B ≤ B') : CrI d rs s B' :=
  ⟨h.len, h.now, h.sum, fun k hk => by obtain ⟨ss, h1, h2⟩ := h.whole k hk; exact ⟨ss, h1, by omega⟩, fun k c t a b e => by obtain ⟨ss, h1, h2⟩ := h.torn k c t a b e; exact ⟨ss, h1, by omega⟩⟩
theorem CrI.put {d : DiskS} {rs : List Bytes} {s B B' : Nat} {ss : List SegL} (h : CrI d rs s B) (ho : OnDisk ss rs d.now) (hss : ss.length + 1 ≤ B') (hB : B ≤ B') (size : Int) (p : Bytes) (hp : p.length ≤ 1048576) (hrs : rs.length < 1000000000) :
    CrI (d.put ⟨(appS (logD size ss)).n, appB (logD size ss) p, false⟩) (rs ++ [p]) s B' := by
  obtain ⟨ss', h1, _, hl, ht⟩ := ho.append size p hp hrs
  have hlen := h.len
  generalize hcc : (⟨(appS (logD size ss)).n, appB (logD size ss) p, false⟩ : CallS) = cc at *
  have hcd : cc.drop = false := by rw [← hcc]
  have hcs : cc.seg = (appS (logD size ss)).n := by rw [← hcc]
  have hcp : cc.p = appB (logD size ss) p := by rw [← hcc]
  rw [← hcs, ← hcp] at ht
  refine ⟨?_, ?_, ?_, fun k hk => ?_, fun k c t hc h0 h2 => ?_⟩
  · show s + (d.wait ++ [cc]).length = (rs ++ [p]).length
    simp
    omega
  · show cc.done d.now = doneAll (d.wait ++ [cc]) d.safe
    rw [doneAll_snoc, ← h.now]
  · show msum d.safe + wsum (d.wait ++ [cc]) = msum (cc.done d.now)
    unfold CallS.done
    rw [hcd, wsum_snoc]
    simp only [Bool.false_eq_true, if_false]
    rw [msum_put]
    have := h.sum
    omega
  · have hk : k ≤ d.wait.length + 1 := by simpa [DiskS.put] using hk
    show ∃ ss2, OnDisk ss2 ((rs ++ [p]).take (s + k)) (doneAll ((d.wait ++ [cc]).take k) d.safe) ∧ ss2.length ≤ B'
    by_cases hkl : k ≤ d.wait.length
    · rw [List.take_append_of_le_length hkl, List.take_append_of_le_length (by omega)]
      obtain ⟨s2, e1, e2⟩ := h.whole k hkl
      exact ⟨s2, e1, by omega⟩
    · obtain rfl : k = d.wait.length + 1 := by omega
      rw [List.take_of_length_le (l := rs ++ [p]) (by simp; omega), List.take_of_length_le (by simp), doneAll_snoc, ← h.now]
      exact ⟨ss', h1, by omega⟩
  · show ∃ ss2, OnDisk ss2 ((rs ++ [p]).take (s + k)) (CallS.done ⟨c.seg, c.p.take t, false⟩ (doneAll ((d.wait ++ [cc]).take k) d.safe)) ∧ ss2.length ≤ B'
    have hc : (d.wait ++ [cc])[k]? = some c := hc
    rcases getElem?_snoc hc with hc | ⟨rfl, rfl⟩
    · have hk := (List.getElem?_eq_some_iff.1 hc).1
      rw [List.take_append_of_le_length (by omega), List.take_append_of_le_length (by omega)]
      obtain ⟨s2, e1, e2⟩ := h.torn k c t hc h0 h2
      exact ⟨s2, e1, by omega⟩
    · rw [List.take_append_of_le_length (Nat.le_refl _), List.take_length, List.take_append_of_le_length (by omega), List.take_of_length_le (by omega), ← h.now]
      obtain ⟨s2, e1, e2⟩ := ht t h0 h2
      exact ⟨s2, e1, by omega⟩
theorem CrI.fresh {d : DiskS} {rs : List Bytes} {B : Nat} {ss : List SegL} (ho : OnDisk ss rs d.now) (hss : ss.length ≤ B) (hw : d.wait = []) (hs : d.safe = d.now) : CrI d rs rs.length B := by
  refine ⟨by rw [hw]; simp, by rw [hw, hs]; rfl, by rw [hw, hs]; simp [wsum], fun k hk => ?_, fun k c t hc => by rw [hw] at hc; simp at hc⟩
  rw [hw] at hk ⊢
  obtain rfl : k = 0 := by simpa using hk
  exact ⟨ss, by rw [Nat.add_zero, List.take_length, hs]; exact ho, hss⟩
theorem CrI.crash {d : DiskS} {rs : List Bytes} {s B : Nat} (h : CrI d rs s B) (keep torn : Int) :
    ∃ k, s ≤ k ∧ k ≤ rs.length ∧ ∃ ss, OnDisk ss (rs.take k) (d.crash keep torn).now ∧ ss.length ≤ B ∧ msum (d.crash keep torn).now ≤ msum d.now := by
  have hlen := h.len
  have hsum := h.sum
  obtain ⟨k, hk⟩ : ∃ k, k = keepNum d keep := ⟨_, rfl⟩
  have hkl : k ≤ d.wait.length := by rw [hk]; unfold keepNum; omega
  refine ⟨s + k, by omega, by omega, ?_⟩
  show ∃ ss, OnDisk ss _ (crashMap d (keepNum d keep) torn) ∧ _ ∧ msum (crashMap d (keepNum d keep) torn) ≤ _
  rw [← hk]
  have h1 := msum_doneAll d.wait d.safe k
  have h2 := wsum_take_le d.wait k
  have hwh : ∃ ss, OnDisk ss (rs.take (s + k)) (doneAll (d.wait.take k) d.safe) ∧ ss.length ≤ B ∧ msum (doneAll (d.wait.take k) d.safe) ≤ msum d.now := by
    obtain ⟨ss, e1, e2⟩ := h.whole k hkl
    exact ⟨ss, e1, e2, by omega⟩
  unfold crashMap
  cases hx : d.wait[k]? with
  | none => exact hwh
  | some c =>
    dsimp only
    by_cases hq : c.drop = false ∧ 0 < min torn ((c.p.length : Int) - 1)
    · rw [if_pos hq]
      obtain ⟨t, ht⟩ : ∃ t, (min torn ((c.p.length : Int) - 1)).toNat = t := ⟨_, rfl⟩
      have ht1 : 0 < t := by omega
      have ht2 : t < c.p.length := by omega
      rw [ht]
      obtain ⟨ss, e1, e2⟩ := h.torn k c t hx ht1 ht2
      refine ⟨ss, e1, e2, ?_⟩
      have h3 := msum_done ⟨c.seg, c.p.take t, false⟩ (doneAll (d.wait.take k) d.safe)
      have h4 := wsum_take hx
      have h5 := wsum_take_le d.wait (k + 1)
      dsimp only at h3
      rw [List.length_take] at h3
      omega
    · rw [if_neg hq]
      exact hwh

/-! ### Beginnings -/
theorem step_recs (L : LedS) (r : LRec) : L.recs <+: (L.step r).recs := by
  cases r with
  | inc n => exact List.prefix_refl _
  | floor a n => exact List.prefix_refl _
  | put a b l => exact List.prefix_append _ _
theorem told_append (width : Nat) (a b : List LRec) : told width (a ++ b) = b.foldl LedS.step (told width a) := by simp [told]
theorem fold_recs : ∀ (b : List LRec) (L : LedS), L.recs <+: (b.foldl LedS.step L).recs
  | [], _ => List.prefix_refl _
  | r :: b, L => (step_recs L r).trans (fold_recs b (L.step r))
theorem told_recs (width : Nat) (ts : List LRec) {k k' : Nat} (hk : k ≤ k') : (told width (ts.take k)).recs <+: (told width (ts.take k')).recs := by
  have e : ts.take k' = ts.take k ++ (ts.take k').drop k := by
    have h := (List.take_append_drop k (ts.take k')).symm
    rw [List.take_take, Nat.min_eq_left hk] at h
    exact h
  rw [e, told_append]
  exact fold_recs _ _
/-- What a beginning of the records tells is a ledger, too. -/
theorem Tells.take {width : Nat} {ts : List LRec} {L : LedS} (h : Tells width ts L) (k : Nat) : Tells width (ts.take k) (told width (ts.take k)) := by
  refine ⟨rfl, rfl, rfl, fun i r hi => ?_⟩
  have hlt := (List.getElem?_eq_some_iff.1 hi).1
  rw [List.length_take] at hlt
  rw [List.getElem?_take, if_pos (by omega)] at hi
  rw [List.take_take, Nat.min_eq_left (by omega)]
  exact h.can i r hi
theorem told_ok {width : Nat} (hw : 1 ≤ width ∧ width ≤ 1024) : ∀ {ts : List LRec}, (∀ (k : Nat) r, ts[k]? = some r → (told width (ts.take k)).can r) → (told width ts).Ok width := by
  intro ts
  induction hn : ts.length generalizing ts with
  | zero => intro _; rw [List.eq_nil_of_length_eq_zero hn]; exact LedS.Ok.start hw
  | succ n ih =>
    intro h
    rcases List.eq_nil_or_concat ts with rfl | ⟨ini, r, rfl⟩
    · simp at hn
    · rw [List.concat_eq_append] at h hn ⊢
      have hl : ini.length = n := by simpa using hn
      have h1 := ih hl (fun k x hk => by
        have hlt := (List.getElem?_eq_some_iff.1 hk).1
        have := h k x (by rw [List.getElem?_append_left hlt]; exact hk)
        rwa [List.take_append_of_le_length (by omega)] at this)
      have h2 := h ini.length r (by simp)
      rw [List.take_append_of_le_length (Nat.le_refl _), List.take_length] at h2
      rw [told_snoc]
      exact h1.step h2
end Go.Proofs.YtfdmbomlkpkegaaGreat
