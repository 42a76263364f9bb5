/- Which lists of calls the logs leave, and what each beginning of them holds: the plain law of the scripts. -/
import Derived.Test.YtfdmbomlkpkegaaGreatLogZ
import Derived.Test.YtfdmbomlkpkegaaGreatRef6
import Derived.Test.YtfdmbomlkpkegaaGreatRefP
namespace Go.Proofs.YtfdmbomlkpkegaaGreat
open Go Go.RowKit

/-- Calls that leave these segments; j bounds what went in. -/
structure Good (j : Nat) (l : List CallS) (ss : List SegL) : Prop where
  ok : ∀ s ∈ ss, s.Ok
  pos : ∀ s ∈ ss, 1 ≤ s.n ∧ s.n ≤ (j : Int)
  chain : ∀ (i : Nat) s, ss[i]? = some s → s.headed = true → nextOf 0 (ss.take i) = 0 ∨ s.first = nextOf 0 (ss.take i)
  map : segs6 l = segMap ss
  next : max (nextOf 0 ss) 1 ≤ j + 1
  recs : (recsOf ss).length + 1 ≤ max (nextOf 0 ss) 1
  len : l.length + ss.length ≤ 2 * j
  sum : wsum l ≤ 300 * j
theorem Good.nil : Good 0 [] [] := ⟨by simp, by simp, by simp, rfl, by decide, by decide, by decide, by decide⟩
theorem Good.mono {j k : Nat} {l : List CallS} {ss : List SegL} (h : Good j l ss) (hk : j ≤ k) : Good k l ss :=
  ⟨h.ok, fun s hs => by have := h.pos s hs; omega, h.chain, h.map, by have := h.next; omega, h.recs, by have := h.len; omega, by have := h.sum; omega⟩
theorem Good.sorted {j : Nat} {l : List CallS} {ss : List SegL} (h : Good j l ss) : Sorted (segMap ss) := by rw [← h.map]; exact segs6_sorted l
theorem segMap_snoc (ini : List SegL) (s : SegL) : segMap (ini ++ [s]) = segMap ini ++ [(s.n, s.bytes)] := by simp [segMap]
theorem Good.below {j : Nat} {l : List CallS} {ini : List SegL} {sl : SegL} (h : Good j l (ini ++ [sl])) : ∀ e ∈ segMap ini, e.1 < sl.n := by
  have hs := h.sorted
  rw [segMap_snoc] at hs
  unfold Sorted at hs
  rw [List.pairwise_append] at hs
  exact fun e he => hs.2.2 e he (sl.n, sl.bytes) (List.mem_singleton.2 rfl)
theorem nextOf_snoc (ss : List SegL) (s : SegL) : nextOf 0 (ss ++ [s]) = if s.headed then s.first + s.recs.length else nextOf 0 ss := by rw [nextOf_append]; rfl
theorem recsOf_snoc (ss : List SegL) (s : SegL) : recsOf (ss ++ [s]) = recsOf ss ++ s.recs := by rw [recsOf_append]; simp [recsOf]

theorem Good.putNew {j : Nat} {l : List CallS} {ss : List SegL} (h : Good j l ss) (s : SegL) (hs : s.Ok) (hlt : ∀ e ∈ segMap ss, e.1 < s.n) (h1 : 1 ≤ s.n) (h2 : s.n ≤ (j : Int) + 1)
    (hf : s.headed = true → s.first = max (nextOf 0 ss) 1) (hr : s.recs.length ≤ 1) (hb : s.bytes.length ≤ 300) : Good (j + 1) (l ++ [⟨s.n, s.bytes, false⟩]) (ss ++ [s]) := by
  have hn := h.next
  have hrc := h.recs
  refine ⟨fun t ht => ?_, fun t ht => ?_, fun i t ht hh => ?_, ?_, ?_, ?_, ?_, ?_⟩
  · rcases List.mem_append.1 ht with ht | ht
    · exact h.ok t ht
    · rw [List.mem_singleton.1 ht]; exact hs
  · rcases List.mem_append.1 ht with ht | ht
    · have := h.pos t ht; omega
    · rw [List.mem_singleton.1 ht]; omega
  · rcases getElem?_snoc ht with ht | ⟨rfl, rfl⟩
    · have := (List.getElem?_eq_some_iff.1 ht).1
      rw [take_snoc (by omega)]
      exact h.chain i t ht hh
    · rw [take_snoc (Nat.le_refl _), List.take_length]
      have := hf hh
      omega
  · rw [segs6_snoc, h.map, step6_new s.bytes hlt, segMap_snoc]
  · rw [nextOf_snoc]
    cases hh : s.headed with
    | true => have := hf hh; simp only [if_true]; omega
    | false => simp only [Bool.false_eq_true, if_false]; omega
  · rw [nextOf_snoc, recsOf_snoc, List.length_append]
    cases hh : s.headed with
    | true => have := hf hh; simp only [if_true]; omega
    | false => rw [(hs.bare hh).1]; simp only [Bool.false_eq_true, if_false, List.length_nil]; omega
  · have := h.len; simp; omega
  · rw [wsum_snoc]; have := h.sum; dsimp only; omega
theorem Good.putLast {j : Nat} {l : List CallS} {ini : List SegL} {sl sl' : SegL} {ex : List Bytes} (p : Bytes) (h : Good j l (ini ++ [sl])) (hs : sl'.Ok) (hn : sl'.n = sl.n) (hd : sl.headed = true) (hh : sl'.headed = true) (hf : sl'.first = sl.first) (hb : sl'.bytes = sl.bytes ++ p) (hr : sl'.recs = sl.recs ++ ex)
    (hex : ex.length ≤ 1) (hp : p.length ≤ 300) : Good (j + 1) (l ++ [⟨sl.n, p, false⟩]) (ini ++ [sl']) := by
  have hlt := h.below
  have hnx := h.next
  have hrc := h.recs
  rw [nextOf_snoc, hd] at hnx hrc
  rw [recsOf_snoc, List.length_append] at hrc
  simp only [if_true] at hnx hrc
  have hrl : sl'.recs.length = sl.recs.length + ex.length := by rw [hr, List.length_append]
  have hf1 := ((h.ok sl (by simp)).head hd).1
  refine ⟨fun t ht => ?_, fun t ht => ?_, fun i t ht hh' => ?_, ?_, ?_, ?_, ?_, ?_⟩
  · rcases List.mem_append.1 ht with ht | ht
    · exact h.ok t (by simp [ht])
    · rw [List.mem_singleton.1 ht]; exact hs
  · rcases List.mem_append.1 ht with ht | ht
    · have := h.pos t (by simp [ht]); omega
    · rw [List.mem_singleton.1 ht, hn]; have := h.pos sl (by simp); omega
  · rcases getElem?_snoc ht with ht | ⟨rfl, rfl⟩
    · have hi := (List.getElem?_eq_some_iff.1 ht).1
      have := h.chain i t (by rw [List.getElem?_append_left hi]; exact ht) hh'
      rw [take_snoc (by omega)] at this ⊢
      exact this
    · have := h.chain ini.length sl (by simp) hd
      rw [take_snoc (Nat.le_refl _)] at this ⊢
      rw [hf]; exact this
  · rw [segs6_snoc, h.map, segMap_snoc, step6_last _ _ hlt, segMap_snoc, hn, hb]
  · rw [nextOf_snoc, hh, hf, hrl]; simp only [if_true]; omega
  · rw [nextOf_snoc, recsOf_snoc, hh, hf, List.length_append, hrl]; simp only [if_true]; omega
  · have := h.len; simp at this ⊢; omega
  · rw [wsum_snoc]; have := h.sum; dsimp only; omega

/-- What an append leaves, whole or torn. -/
theorem Good.append {j : Nat} {l : List CallS} {ss : List SegL} (h : Good j l ss) (size : Int) (p : Bytes) (hp : p.length ≤ 255) (hj : j ≤ 1000000) :
    ∃ ss', Good (j + 1) (l ++ [⟨(appS (logD size ss)).n, appB (logD size ss) p, false⟩]) ss' ∧ (logD size ss).append p = logD size ss' ∧ recsOf ss' = recsOf ss ++ [p] ∧
      ∀ t, 0 < t → t < (appB (logD size ss) p).length → ∃ s2, Good (j + 1) (l ++ [⟨(appS (logD size ss)).n, (appB (logD size ss) p).take t, false⟩]) s2 ∧ recsOf s2 = recsOf ss ∧ max (nextOf 0 s2) 1 = max (nextOf 0 ss) 1 := by
  have hnx := h.next
  obtain ⟨nx, hnxe⟩ : ∃ nx, max (nextOf 0 ss) 1 = nx := ⟨_, rfl⟩
  have hL : (logD size ss).next = nx := hnxe
  rw [hnxe] at hnx
  have hnx1 : 1 ≤ nx := by omega
  cases hfr : freshB (logD size ss) (lastN (logD size ss)) with
  | true =>
    have eB : appB (logD size ss) p = headB nx ++ recB p := by unfold appB; rw [hfr, hL]; rfl
    have eS : appS (logD size ss) = newSeg (logD size ss) := by unfold appS; rw [hfr]; rfl
    obtain ⟨sn, hsn⟩ : ∃ sn, (appS (logD size ss)).n = sn := ⟨_, rfl⟩
    have hN : (∀ e ∈ segMap ss, e.1 < sn) ∧ 1 ≤ sn ∧ sn ≤ (j : Int) + 1 := by
      rw [← hsn, eS]
      rcases List.eq_nil_or_concat ss with rfl | ⟨ini, sl, rfl⟩
      · refine ⟨(fun e he => by cases he), (by show (1 : Int) ≤ 1; omega), (by show (1 : Int) ≤ _; omega)⟩
      · rw [List.concat_eq_append] at h ⊢
        have hb := h.below
        have hpn := h.pos sl (by simp)
        have e : (newSeg (logD size (ini ++ [sl]))).n = sl.n + 1 := by unfold newSeg; rw [logD_last]; rfl
        rw [e]
        refine ⟨fun e he => ?_, by omega, by omega⟩
        rw [segMap_snoc] at he
        rcases List.mem_append.1 he with he | he
        · have := hb e he; omega
        · rw [List.mem_singleton.1 he]; show sl.n < sl.n + 1; omega
    obtain ⟨hlt, hs1, hs2⟩ := hN
    have hbl : (headB nx ++ recB p).length ≤ 300 := by rw [List.length_append, headB_length, recB_length]; omega
    let s : SegL := { n := sn, first := nx, headed := true, recs := [p], tail := [] }
    have hsb : s.bytes = appB (logD size ss) p := by
      rw [eB]
      show headB nx ++ (recsB [p] ++ []) = _
      simp [recsB]
    have hso : s.Ok := ⟨fun _ => ⟨hnx1, by show nx < _; omega, fun r hr => by rw [List.mem_singleton.1 hr]; omega, torn_nil⟩, fun hc => (by cases hc)⟩
    have hput := h.putNew s hso hlt hs1 hs2 (fun _ => hnxe.symm) (by simp [s]) (by rw [hsb, eB]; exact hbl)
    refine ⟨ss ++ [s], ?_, ?_, by rw [recsOf_snoc], fun t h0 ht => ?_⟩
    · rw [hsn, ← hsb]; exact hput
    · unfold LogS.append
      rw [hfr, eS]
      have hv : { newSeg (logD size ss) with count := (newSeg (logD size ss)).count + 1, size := (newSeg (logD size ss)).size + (appB (logD size ss) p).length } = s.view := by
        have e1 : (newSeg (logD size ss)).n = s.n := by rw [← eS, hsn]
        have e2 : (newSeg (logD size ss)).first = s.first := hL
        unfold SegL.view
        rw [hsb]
        show SegV.mk (newSeg (logD size ss)).n (newSeg (logD size ss)).first (0 + 1) (0 + (appB (logD size ss) p).length) true true = SegV.mk s.n s.first 1 _ true true
        rw [e1, e2, Nat.zero_add, Nat.zero_add]
      rw [hv]
      show (LogS.mk _ _ _ _) = LogS.mk _ _ _ _
      congr 1
      · simp [logD, logOf]
      · show recsOf ss ++ [p] = recsOf (ss ++ [s])
        rw [recsOf_snoc]
      · show (logD size ss).next + 1 = max (nextOf 0 (ss ++ [s])) 1
        rw [hL, nextOf_snoc]
        show nx + 1 = max (nx + 1) 1
        omega
    · rw [eB] at ht ⊢
      rw [hsn]
      have htl : ((headB nx ++ recB p).take t).length ≤ 300 := by rw [List.length_take]; omega
      by_cases h12 : t < 12
      · let s2 : SegL := { n := sn, first := 0, headed := false, recs := [], tail := (headB nx ++ recB p).take t }
        have ho2 : s2.Ok := ⟨fun hc => (by cases hc), fun _ => ⟨rfl, by show ((headB nx ++ recB p).take t).length < 12; rw [List.length_take]; omega⟩⟩
        have := h.putNew s2 ho2 hlt hs1 hs2 (fun hc => by cases hc) (by simp [s2]) (by show ((headB nx ++ recB p).take t).length ≤ 300; exact htl)
        exact ⟨ss ++ [s2], by simpa [s2, SegL.bytes] using this, by rw [recsOf_snoc]; simp [s2], by rw [nextOf_snoc]; rfl⟩
      · have hh := headB_length nx
        let s2 : SegL := { n := sn, first := nx, headed := true, recs := [], tail := (recB p).take (t - 12) }
        have hb2 : s2.bytes = (headB nx ++ recB p).take t := by
          show headB nx ++ (recsB [] ++ (recB p).take (t - 12)) = _
          rw [List.take_append, hh, List.take_of_length_le (l := headB nx) (by omega)]
          simp [recsB]
        have ho2 : s2.Ok := ⟨fun _ => ⟨hnx1, by show nx < _; omega, fun r hr => (by cases hr), torn_rec p (by omega) (by rw [List.length_append, hh] at ht; omega)⟩, fun hc => (by cases hc)⟩
        have := h.putNew s2 ho2 hlt hs1 hs2 (fun _ => hnxe.symm) (by simp [s2]) (by rw [hb2]; exact htl)
        rw [hb2] at this
        exact ⟨ss ++ [s2], by simpa [s2] using this, by rw [recsOf_snoc]; simp [s2], by rw [nextOf_snoc]; show max (nx + 0) 1 = _; omega⟩
  | false =>
    rcases List.eq_nil_or_concat ss with rfl | ⟨ini, sl, rfl⟩
    · exact absurd hfr (by simp [freshB, logD, logOf])
    · rw [List.concat_eq_append] at *
      have hlast := logD_last size ini sl
      have hfr2 := hfr
      unfold freshB at hfr2
      rw [hlast] at hfr2
      simp only [Bool.or_eq_false_iff, Bool.not_eq_false'] at hfr2
      obtain ⟨hh, hw, _⟩ := hfr2
      have hh : sl.headed = true := hh
      have ht : sl.tail = [] := by
        have hw : (sl.headed && sl.tail.isEmpty) = true := hw
        rw [hh] at hw
        simpa using hw
      have eB : appB (logD size (ini ++ [sl])) p = recB p := by unfold appB; rw [hfr]; rfl
      have eS : appS (logD size (ini ++ [sl])) = sl.view := by unfold appS; rw [hfr, hlast]; rfl
      have hok := h.ok sl (by simp)
      obtain ⟨o1, o2, o3, o4⟩ := hok.head hh
      have hbs : sl.bytes = headB sl.first ++ recsB sl.recs := by unfold SegL.bytes; rw [hh, ht]; simp
      have hrl := recB_length p
      have hne := hnxe
      rw [nextOf_snoc, hh] at hne
      simp only [if_true] at hne
      rw [eB, eS]
      show ∃ ss', Good (j + 1) (l ++ [⟨sl.n, recB p, false⟩]) ss' ∧ (logD size (ini ++ [sl])).append p = logD size ss' ∧ recsOf ss' = recsOf (ini ++ [sl]) ++ [p] ∧ ∀ t, 0 < t → t < (recB p).length → ∃ s2, Good (j + 1) (l ++ [⟨sl.n, (recB p).take t, false⟩]) s2 ∧ recsOf s2 = recsOf (ini ++ [sl]) ∧ max (nextOf 0 s2) 1 = max (nextOf 0 (ini ++ [sl])) 1
      let s : SegL := { sl with recs := sl.recs ++ [p] }
      have hsb : s.bytes = sl.bytes ++ recB p := by
        have : s.bytes = headB sl.first ++ (recsB (sl.recs ++ [p]) ++ sl.tail) := by unfold SegL.bytes; simp only [s, hh, if_true]
        rw [this, ht, hbs, recsB_append]
        simp [recsB]
      have hso : s.Ok := ⟨fun _ => ⟨o1, o2, fun r hr => by
        rcases List.mem_append.1 hr with hr | hr
        · exact o3 r hr
        · rw [List.mem_singleton.1 hr]; omega, o4⟩, fun hc => by rw [show s.headed = sl.headed from rfl, hh] at hc; cases hc⟩
      have hput := h.putLast (sl' := s) (ex := [p]) (recB p) hso rfl hh hh rfl hsb rfl (by simp) (by omega)
      refine ⟨ini ++ [s], hput, ?_, by rw [recsOf_snoc, recsOf_snoc, List.append_assoc], fun t h0 ht' => ?_⟩
      · unfold LogS.append
        rw [hfr, eS, eB]
        have hv : { sl.view with count := sl.view.count + 1, size := sl.view.size + (recB p).length } = s.view := by
          show SegV.mk sl.n (if sl.headed = true then sl.first else 0) (sl.recs.length + 1) (sl.bytes.length + (recB p).length) (sl.headed && sl.tail.isEmpty) sl.headed = SegV.mk sl.n (if sl.headed = true then sl.first else 0) (sl.recs ++ [p]).length s.bytes.length (sl.headed && sl.tail.isEmpty) sl.headed
          rw [hsb]
          simp
        rw [hv]
        show (LogS.mk _ _ _ _) = LogS.mk _ _ _ _
        congr 1
        · simp [logD, logOf]
        · show recsOf (ini ++ [sl]) ++ [p] = recsOf (ini ++ [s])
          rw [recsOf_snoc, recsOf_snoc, List.append_assoc]
        · show (logD size (ini ++ [sl])).next + 1 = max (nextOf 0 (ini ++ [s])) 1
          rw [hL, nextOf_snoc]
          show nx + 1 = max (if sl.headed = true then sl.first + (sl.recs ++ [p]).length else nextOf 0 ini) 1
          rw [hh]
          simp only [if_true, List.length_append, List.length_singleton]
          omega
      · let s2 : SegL := { sl with tail := (recB p).take t }
        have hb2 : s2.bytes = sl.bytes ++ (recB p).take t := by
          have : s2.bytes = headB sl.first ++ (recsB sl.recs ++ (recB p).take t) := by unfold SegL.bytes; simp only [s2, hh, if_true]
          rw [this, hbs]
          simp
        have ho2 : s2.Ok := ⟨fun _ => ⟨o1, o2, o3, torn_rec p (by omega) ht'⟩, fun hc => by rw [show s2.headed = sl.headed from rfl, hh] at hc; cases hc⟩
        have hput2 := h.putLast (sl' := s2) (ex := []) ((recB p).take t) ho2 rfl hh hh rfl hb2 (by simp [s2]) (by decide) (by rw [List.length_take]; omega)
        exact ⟨ini ++ [s2], hput2, by rw [recsOf_snoc, recsOf_snoc], by rw [nextOf_snoc, nextOf_snoc]⟩

/-- Each beginning of the calls, also one torn in the midst of an append, leaves segments. -/
def Inv (j : Nat) (R : Nat → List SegL → Prop) (l : List CallS) : Prop :=
  (∀ k, k ≤ l.length → ∃ ss, Good j (l.take k) ss ∧ R k ss) ∧
  ∀ (k : Nat) (c : CallS) (t : Nat), l[k]? = some c → c.drop = false → 0 < t → t < c.p.length → ∃ ss, Good j (l.take k ++ [⟨c.seg, c.p.take t, false⟩]) ss ∧ R k ss
theorem Inv.nil (R : Nat → List SegL → Prop) (h : R 0 []) : Inv 0 R [] := by
  refine ⟨fun k hk => ?_, fun k c t hc => by simp at hc⟩
  obtain rfl : k = 0 := by simpa using hk
  exact ⟨[], Good.nil, h⟩
theorem Inv.mono {j k : Nat} {R R' : Nat → List SegL → Prop} {l : List CallS} (h : Inv j R l) (hk : j ≤ k) (hR : ∀ i ss, i ≤ l.length → R i ss → R' i ss) : Inv k R' l := by
  refine ⟨fun i hi => ?_, fun i c t hc h1 h2 h3 => ?_⟩
  · obtain ⟨ss, g, r⟩ := h.1 i hi
    exact ⟨ss, g.mono hk, hR _ _ hi r⟩
  · obtain ⟨ss, g, r⟩ := h.2 i c t hc h1 h2 h3
    exact ⟨ss, g.mono hk, hR _ _ (Nat.le_of_lt (List.getElem?_eq_some_iff.1 hc).1) r⟩
theorem Inv.push {j : Nat} {R : Nat → List SegL → Prop} {l : List CallS} (h : Inv j R l) (c : CallS) (hw : ∃ ss, Good j (l ++ [c]) ss ∧ R (l.length + 1) ss)
    (ht : c.drop = false → ∀ t, 0 < t → t < c.p.length → ∃ ss, Good j (l ++ [⟨c.seg, c.p.take t, false⟩]) ss ∧ R l.length ss) : Inv j R (l ++ [c]) := by
  refine ⟨fun k hk => ?_, fun k c' t hc h1 h2 h3 => ?_⟩
  · by_cases hkl : k ≤ l.length
    · rw [List.take_append_of_le_length hkl]; exact h.1 k hkl
    · have hk : k = l.length + 1 := by simp at hk; omega
      subst hk
      rw [List.take_of_length_le (by simp)]
      exact hw
  · rcases getElem?_snoc hc with hc | ⟨rfl, rfl⟩
    · rw [List.take_append_of_le_length (Nat.le_of_lt (List.getElem?_eq_some_iff.1 hc).1)]
      exact h.2 k c' t hc h1 h2 h3
    · rw [List.take_append_of_le_length (Nat.le_refl _), List.take_length]
      exact ht h1 t h2 h3
theorem Inv.cut {j : Nat} {R : Nat → List SegL → Prop} {l : List CallS} (h : Inv j R l) (n : Nat) (hn : n ≤ l.length) : Inv j R (l.take n) := by
  refine ⟨fun k hk => ?_, fun k c t hc h1 h2 h3 => ?_⟩
  · have hk : k ≤ n := by rw [List.length_take] at hk; omega
    rw [List.take_take, Nat.min_eq_left hk]
    exact h.1 k (by omega)
  · have hk : k < n := by have := (List.getElem?_eq_some_iff.1 hc).1; rw [List.length_take] at this; omega
    rw [List.getElem?_take, if_pos hk] at hc
    rw [List.take_take, Nat.min_eq_left (by omega)]
    exact h.2 k c t hc h1 h2 h3
/-- What a crash leaves. -/
theorem Inv.found {j : Nat} {R : Nat → List SegL → Prop} {x : RDiskS} (h : Inv j R x.l) (keep torn : Int) (hn : x.num keep ≤ x.l.length) :
    Inv j (fun k ss => R (min k (x.num keep)) ss) (x.found keep torn) := by
  have hc := (h.cut _ hn).mono (R' := fun k ss => R (min k (x.num keep)) ss) (Nat.le_refl _) (fun i ss hi r => by rw [List.length_take] at hi; rw [Nat.min_eq_left (by omega)]; exact r)
  have hlen : (x.l.take (x.num keep)).length = x.num keep := by rw [List.length_take, Nat.min_eq_left hn]
  unfold RDiskS.found tornOf
  cases hx : x.l[x.num keep]? with
  | none => simpa using hc
  | some c =>
    dsimp only
    by_cases hq : c.drop = false ∧ 0 < min torn ((c.p.length : Int) - 1)
    · rw [if_pos hq]
      obtain ⟨t, ht⟩ : ∃ t, (min torn ((c.p.length : Int) - 1)).toNat = t := ⟨_, rfl⟩
      have ht1 : 0 < t := by omega
      have ht2 : t < c.p.length := by omega
      rw [ht]
      refine hc.push _ ?_ (fun _ t' h1 h2 => ?_)
      · rw [hlen, Nat.min_eq_right (by omega)]
        exact h.2 _ c t hx hq.1 ht1 ht2
      · dsimp only at h2 ⊢
        rw [List.length_take] at h2
        rw [hlen, Nat.min_self, List.take_take, Nat.min_eq_left (by omega)]
        exact h.2 _ c t' hx hq.1 h1 (by omega)
    · rw [if_neg hq]
      simpa using hc
/-- What the calls of the walks want of good segments. -/
theorem Good.segsOk {j : Nat} {l : List CallS} {ss : List SegL} (h : Good j l ss) (hj : j ≤ 1000) : SegsOk ss := by
  have h1 := h.len
  have h2 := h.recs
  have h3 := h.next
  have h4 := segs6_sum l
  have h5 := h.sum
  rw [h.map] at h4
  exact ⟨h.ok, h.chain, by omega, by omega, by omega⟩
theorem Good.diskL {j : Nat} {l : List CallS} {ss : List SegL} (h : Good j l ss) (hj : j ≤ 1000) {d : DiskS} (hm : SameMap (segs6 l) d.now) (hk : Keys d.now) : DiskL d ss := by
  have hS := h.sorted
  have ho := h.segsOk hj
  rw [h.map] at hm
  refine ⟨?_, fun s hs => ?_, h.ok, h.chain, ho.few, ho.recs, ?_⟩
  · rw [sortedKeys_eq hS hk hm]
    simp [segMap]
  · rw [← hm s.n]
    have : (s.n, s.bytes) ∈ segMap ss := List.mem_map.2 ⟨s, hs, rfl⟩
    exact mget_mem hS.keys this
  · have := SameMap.sum hS.keys hk hm
    have h4 := ho.sum
    omega
end Go.Proofs.YtfdmbomlkpkegaaGreat
