/- The law's acts but Trim, on any disk; what Trim leaves. -/
import Derived.Test.YtpjggnfiocplmaaPairC
import Derived.Test.YtpjggnfiocplmaaTrimB
import Derived.Test.YtpjggnfiocplmaaHold
namespace Go.Proofs.Ytpjggnfiocplmaa
open Go Go.RowKit Go.Dr

def RT : Nat → List SegL → Prop := fun _ _ => True
theorem St7.mono {j k : Nat} {ss : List SegL} {d : DiskS} {x : RDiskS} (h : St7 j RT ss d x) (hk : j ≤ k) : St7 k RT ss d x :=
  ⟨h.rel, h.good.mono hk, h.inv.mono hk (fun _ _ _ r => r), h.room0, h.room1⟩
theorem St7.start (room : Int) (h0 : 0 ≤ room) (h1 : room ≤ 1000000) : St7 0 RT [] { room := room, full := false, now := [], safe := [], wait := [] } { room := room, full := false, l := [], safe := 0 } :=
  ⟨⟨rfl, rfl, fun _ => rfl, fun _ => rfl, Int.le_refl _, Int.le_refl _, rfl, Keys.nil, Keys.nil⟩, Good.nil, Inv.nil _ trivial, h0, h1⟩
theorem d_append_cases (d : DiskS) (n : Int) (B : Bytes) : d.append n B = (d, 5) ∨ (d.append n B = (d.put ⟨n, B, false⟩, 0)) := by
  unfold DiskS.append
  split
  · exact .inl rfl
  · split
    · exact .inl rfl
    · exact .inr rfl
theorem x_append_ok (x : RDiskS) (n : Int) (B : Bytes) (h : (x.append n B).2 = 0) : (x.append n B).1 = x.push ⟨n, B, false⟩ := by
  unfold RDiskS.append at h ⊢
  split at h
  · simp at h
  · rename_i h1
    rw [if_neg h1]
    split at h
    · simp at h
    · rename_i h2
      rw [if_neg h2]
theorem St7.append {j : Nat} {ss : List SegL} {d : DiskS} {x : RDiskS} (h : St7 j RT ss d x) (hj : j ≤ 100) (size : Int) (p : Bytes) (hp : p.length ≤ 255) :
    ((d.append (appS (logD size ss)).n (appB (logD size ss) p)).2 = 5 ∧ St7 (j + 1) RT ss (d.append (appS (logD size ss)).n (appB (logD size ss) p)).1 (x.append (appS (logD size ss)).n (appB (logD size ss) p)).1) ∨
    ((d.append (appS (logD size ss)).n (appB (logD size ss) p)).2 = 0 ∧ ∃ ss', (logD size ss).append p = logD size ss' ∧ St7 (j + 1) RT ss' (d.append (appS (logD size ss)).n (appB (logD size ss) p)).1 (x.append (appS (logD size ss)).n (appB (logD size ss) p)).1) := by
  obtain ⟨ss', hg', happ, _, htorn⟩ := h.good.append size p hp (by omega)
  obtain ⟨hr1, hr2⟩ := h.rel.append (appS (logD size ss)).n (appB (logD size ss) p)
  generalize (appS (logD size ss)).n = sn at *
  generalize appB (logD size ss) p = B at *
  rcases d_append_cases d sn B with hd | hd
  · left
    rcases x_append_cases x sn B with ⟨h1, _⟩ | h1
    · rw [hd, h1]
      exact ⟨rfl, h.mono (Nat.le_succ _)⟩
    · rw [hd, h1] at hr2; simp at hr2
  · right
    have hx2 : (x.append sn B).2 = 0 := by rw [← hr2, hd]
    have hx := x_append_ok x sn B hx2
    rw [hx, hd] at hr1
    rw [hx, hd]
    refine ⟨rfl, ss', happ, ⟨hr1, hg', ?_, h.room0, h.room1⟩⟩
    exact (h.inv.mono (k := j + 1) (Nat.le_succ _) (fun _ _ _ r => r)).push ⟨sn, B, false⟩ ⟨ss', hg', trivial⟩ (fun _ t h0 h1 => by
      obtain ⟨s2, g2, _⟩ := htorn t h0 h1
      exact ⟨s2, g2, trivial⟩)
theorem St7.sync {j : Nat} {ss : List SegL} {d : DiskS} {x : RDiskS} (h : St7 j RT ss d x) : St7 j RT ss d.sync x.sync := ⟨h.rel.sync, h.good, h.inv, h.room0, h.room1⟩
theorem St7.full {j : Nat} {ss : List SegL} {d : DiskS} {x : RDiskS} (h : St7 j RT ss d x) (on : Bool) : St7 j RT ss { d with full := on } { x with full := on } := ⟨h.rel.setFull on, h.good, h.inv, h.room0, h.room1⟩
theorem St7.crash {j : Nat} {ss : List SegL} {d : DiskS} {x : RDiskS} (h : St7 j RT ss d x) (keep torn : Int) :
    ∃ ss', Good j (x.crash keep torn).l ss' ∧ St7 j RT ss' (d.crash keep torn) (x.crash keep torn) := by
  have hI := h.inv.found keep torn (num_le h.rel.s1 keep)
  obtain ⟨ss', g', _⟩ := hI.1 (x.found keep torn).length (Nat.le_refl _)
  rw [List.take_length] at g'
  exact ⟨ss', g', h.rel.crash keep torn, g', hI.mono (Nat.le_refl _) (fun _ _ _ _ => trivial), h.room0, h.room1⟩

/-- What any act leaves. -/
def DoAny [bn : Inhabited Ban] (base : Nat) (w : World) (P : Nat) (G : Nat → Prop) (size : Int) (j : Nat) (e : Ending) (w' : World) : Prop :=
  e = .returned (.bool true) ∧ ∃ ss d x G', Pair base w' P size ss d x G' ∧ St7 (j + 1) RT ss d x ∧ Keep G w w' ∧ ∀ b, G' b → G b ∨ w.heap.size ≤ b
theorem Do7.any [bn : Inhabited Ban] {base : Nat} {w : World} {P : Nat} {G : Nat → Prop} {size : Int} {j : Nat} {ss : List SegL} {d : DiskS} {x : RDiskS} (h : St7 (j + 1) RT ss d x) {e : Ending} {w' : World} (hd : Do7 base w P G size ss d x e w') : DoAny base w P G size j e w' := by
  obtain ⟨h1, G', h2, h3, h4⟩ := hd
  exact ⟨h1, ss, d, x, G', h2, h, h3, h4⟩
theorem do7_any [bn : Inhabited Ban] {base : Nat} {w : World} {P : Nat} {size : Int} {ss : List SegL} {d : DiskS} {x : RDiskS} {G : Nat → Prop} {j : Nat} (h : Pair base w P size ss d x G) (hst : St7 j RT ss d x) (hj : j ≤ 100) (hb : base ≤ w.heap.size) (hT : ban.top ≤ w.heap.size) (hz : 1 ≤ size)
    {a : Act7S} {u : Value} (hu : BytesAt base w u a.p) (ok : a.Ok) (hc : a.dop % 7 ≠ 4) : Calls Try.prog 42 #[.pointer (some ⟨P, 0, none⟩), a.value u] w (DoAny base w P G size j) := by
  have h0 := ok.dop0
  by_cases h3 : a.dop % 7 = 3
  · exact (do7_sync h hb hu ok h3 (by have := hst.good.len; omega)).mono fun e w' => Do7.any (hst.sync.mono (Nat.le_succ _))
  · by_cases h5 : a.dop % 7 = 5
    · exact (do7_full h hu ok h5).mono fun e w' => Do7.any ((hst.full a.on).mono (Nat.le_succ _))
    · by_cases h6 : a.dop % 7 = 6
      · obtain ⟨ss', g', hst'⟩ := hst.crash a.keep a.torn
        exact (do7_crash h hst hj hb hT hu ok h6 hz g').mono fun e w' => Do7.any (hst'.mono (Nat.le_succ _))
      · rcases hst.append hj size (a.p.take 40) (by rw [List.length_take]; omega) with ⟨h1, h2⟩ | ⟨h1, ss', h2, h3'⟩
        · exact (do7_append_full h hst hj hb hT hu ok (by omega) h1).mono fun e w' => Do7.any h2
        · exact (do7_append h hst hj hb hT hu ok (by omega) h1 h2).mono fun e w' => Do7.any h3'

/-! ### What Trim leaves -/
section
variable {J : Nat} {l : List CallS} {ss : List SegL} {k : Nat} {last : Int}
theorem trim_logD (h : Good J l ss) (hlast : endOf (ss.map SegL.view) ss.length = last) (size : Int) : trimL size k last ss ((leftOf k last ss ss.length).map SegL.view) ss.length = logD size (leftOf k last ss ss.length) := by
  have I := trim_all h k hlast ss.length (Nat.le_refl _)
  have h1 := I.recs
  have h2 := I.next
  rw [List.drop_length, List.append_nil] at h1 h2
  unfold trimL logD logOf
  simp only [h1, h2]
theorem trim_good (h : Good J l ss) (hlast : endOf (ss.map SegL.view) ss.length = last) : Good J (l ++ dropsOf k last ss ss.length) (leftOf k last ss ss.length) := by
  have I := (trim_all h k hlast ss.length (Nat.le_refl _)).good
  rw [List.drop_length, List.append_nil] at I
  exact I
theorem trim_cnt (h : Good J l ss) (hlast : endOf (ss.map SegL.view) ss.length = last) : ∀ j s, ss[j]? = some s → cntOf k last ss j + s.recs.length ≤ (recsOf ss).length := fun j s hs => by
  have hj := (List.getElem?_eq_some_iff.1 hs).1
  have I := trim_all h k hlast j (by omega)
  have h1 := I.cnt
  have hd : ss.drop j = s :: ss.drop (j + 1) := by rw [List.drop_eq_getElem_cons hj]; congr 1; rw [List.getElem?_eq_getElem hj] at hs; exact Option.some.inj hs
  rw [hd, recsOf_append, recsOf_cons] at h1
  simp at h1
  omega
/-- Trimmed again nothing goes. -/
theorem trim_again (h : Good J l ss) (hlast : endOf (ss.map SegL.view) ss.length = last) : ∀ j, dropsOf k (endOf ((leftOf k last ss ss.length).map SegL.view) (leftOf k last ss ss.length).length) (leftOf k last ss ss.length) j = [] := by
  have I := (trim_all h k hlast ss.length (Nat.le_refl _)).left
  generalize leftOf k last ss ss.length = s2 at *
  intro j
  induction j with
  | zero => rfl
  | succ j ih =>
    cases hj : s2[j]? with
    | none => simp [dropsOf, hj, ih]
    | some s =>
      obtain ⟨h1, h2⟩ := I j s hj
      have hk : keepAt k (endOf (s2.map SegL.view) s2.length) j s = true := by
        rw [keepAt_eq]
        refine ⟨h1, ?_⟩
        rcases h2 with h2 | ⟨h2, _⟩
        · exact .inr h2
        · left
          rw [← h2]
          unfold endOf
          rw [List.getElem?_map, hj]
          simp [view_headed, h1]
      rw [dropsOf_keep hj hk, ih]
end
theorem trim_small {j : Nat} {ss : List SegL} {d : DiskS} {x : RDiskS} (hg : Good j x.l ss) (hr : Rel6 d x) (h0 : 0 ≤ d.room) (hm : d.room ≤ 1000000) (hj : j ≤ 100) (k : Nat) {last : Int} (hlast : endOf (ss.map SegL.view) ss.length = last) : ∀ i, i ≤ ss.length → Small (trimD k last ss d i) := fun i hi => by
  have hR := trim_rel hg hr k hlast i hi
  have I := trim_all hg k hlast i hi
  have h1 := hR.sum
  have h2 := segs6_sum (x.l ++ dropsOf k last ss i)
  have h3 := I.good.sum
  have h4 := I.good.len
  have h5 := hR.wait
  have h6 := hR.room
  have h7 := hr.room
  dsimp only at h1 h5 h6
  refine ⟨by omega, by omega, by omega, ?_⟩
  rw [h5, List.length_drop]
  simp at h4 ⊢
  omega
end Go.Proofs.Ytpjggnfiocplmaa
