/- The document's Segs: the walk. -/
import Derived.Test.YtpjggnfiocplmaaRefC
import Derived.Deep.DeepCutAuto
import Derived.Deep.CutBlock
import Derived.Deep.QuietTactic
import Derived.BigQuiet
namespace Go.Proofs.Ytpjggnfiocplmaa
open Go Go.RowKit Go.Dr

/-- The document's calls in memory. -/
def LAt [bn : Inhabited Ban] (base : Nat) (w : World) (v : Value) (l : List CallS) : Prop :=
  ∃ us : List Value, us.length = l.length ∧ (∀ (i : Nat) u c, us[i]? = some u → l[i]? = some c → BytesAt base w u c.p) ∧ w.ownsRow base 113 3 v l.length (callCells l us)
theorem LAt.form [bn : Inhabited Ban] {base : Nat} {w : World} {v : Value} {l : List CallS} (h : LAt base w v l) : ∃ ao cap, v = .slice ao l.length cap ∧ l.length ≤ cap ∧ cap ≤ maxLen := by
  obtain ⟨us, _, _, _, h⟩ := h
  rcases h with ⟨rfl, h⟩ | ⟨g, cap, cur, rfl, _, _, h1, h2, _⟩
  · exact ⟨none, 0, by rw [h], by omega, by decide⟩
  · exact ⟨_, _, rfl, h1, h2⟩
theorem LAt.cells [bn : Inhabited Ban] {base : Nat} {w : World} {ao : Option Addr} {n cap : Nat} {l : List CallS} (h : LAt base w (.slice ao n cap) l) (hn : 0 < l.length) :
    ∃ g, ao = some ⟨g, 0, none⟩ ∧ base ≤ g ∧ ∀ i c, l[i]? = some c → ∃ u, BytesAt base w u c.p ∧ w.cell? ⟨g, i * 3, none⟩ = some (.int .u64 c.seg) ∧ w.cell? ⟨g, i * 3 + 1, none⟩ = some u ∧ w.cell? ⟨g, i * 3 + 2, none⟩ = some (.bool c.drop) := by
  obtain ⟨us, hus, hb, hx, hw⟩ := h
  rcases hw with ⟨_, h0⟩ | ⟨g, cp, cur, hv, hbg, hg, h1, h2, h3, h4⟩
  · omega
  · simp only [Value.slice.injEq] at hv
    refine ⟨g, hv.1, hbg, fun i c hc => ?_⟩
    have hi : i < l.length := (List.getElem?_eq_some_iff.1 hc).1
    have hu : us[i]? = some us[i] := List.getElem?_eq_getElem (by omega)
    obtain ⟨e0, e1, e2⟩ := callCells_at hus hc hu
    have cell : ∀ j x, (callCells l us)[j]? = some x → w.cell? ⟨g, j, none⟩ = some x := by
      intro j x hj
      rw [cell_of hg]
      rw [← h4, List.getElem?_take] at hj
      split at hj
      · simpa using hj
      · cases hj
    exact ⟨us[i], hb i _ _ hu hc, cell _ _ e0, cell _ _ e1, cell _ _ e2⟩

theorem step6_length (m : AMap) (c : CallS) : (step6 m c).length ≤ m.length + 1 := by
  induction m with
  | nil => unfold step6; split <;> simp
  | cons e m ih =>
    unfold step6
    split
    · simp; omega
    · split
      · split
        · simp only [List.length_cons]; omega
        · simp
      · split
        · simp
        · simp
theorem step6_sum (m : AMap) (c : CallS) : msum (step6 m c) ≤ msum m + c.p.length := by
  induction m with
  | nil => unfold step6; split <;> simp [msum]
  | cons e m ih =>
    unfold step6
    split
    · simp only [msum]; omega
    · split
      · split
        · simp only [msum]; omega
        · simp only [msum, List.length_append]; omega
      · split
        · simp only [msum]; omega
        · simp only [msum]; omega
theorem msum_mem {m : AMap} : ∀ {a : Nat} {e : Int × Bytes}, m[a]? = some e → e.2.length ≤ msum m := by
  induction m with
  | nil => intro a e h; simp at h
  | cons x m ih =>
    intro a e h
    cases a with
    | zero => simp at h; subst h; simp [msum]
    | succ a => have := ih (by simpa using h); simp only [msum]; omega
theorem segs6_take {l : List CallS} {k : Nat} {c : CallS} (h : l[k]? = some c) : segs6 (l.take (k + 1)) = step6 (segs6 (l.take k)) c := by
  obtain ⟨hlt, rfl⟩ := List.getElem?_eq_some_iff.1 h
  rw [List.take_succ_eq_append_getElem hlt, segs6_snoc]

theorem segCells_set : ∀ {m : AMap} {us : List Value} {a : Nat} {e : Int × Bytes} (l : Bytes) (v : Value), us.length = m.length → m[a]? = some e → segCells (m.set a (e.1, l)) (us.set a v) = (segCells m us).set (a * 2 + 1) v := by
  intro m
  induction m with
  | nil => intro us a e l v _ h; simp at h
  | cons x m ih =>
    intro us a e l v hl h
    cases us with
    | nil => simp at hl
    | cons u us =>
      cases a with
      | zero => simp at h; subst h; simp [segCells]
      | succ a =>
        have e1 : (a + 1) * 2 + 1 = a * 2 + 1 + 1 + 1 := by omega
        have := ih (us := us) (a := a) (e := e) l v (by simpa using hl) (by simpa using h)
        simp only [List.set_cons_succ, segCells, e1, this]
theorem set_at {m : AMap} {a : Nat} {e x : Int × Bytes} (h : m[a]? = some e) : m.set a x = m.take a ++ x :: m.drop (a + 1) := by
  rw [List.set_eq_take_append_cons_drop, if_pos (List.getElem?_eq_some_iff.1 h).1]
/-- out[a].P = v. -/
theorem SegsAt.set [bn : Inhabited Ban] {base : Nat} {w : World} {g n cap : Nat} {m : AMap} {a : Nat} {e : Int × Bytes} {v : Value} {l : Bytes} (h : SegsAt base w (.slice (some ⟨g, 0, none⟩) n cap) m) (he : m[a]? = some e) (hv : BytesAt base w v l) :
    SegsAt base (w.setCell ⟨g, a * 2 + 1, none⟩ v) (.slice (some ⟨g, 0, none⟩) n cap) (m.set a (e.1, l)) := by
  have hF : Foot base w (· = g) := by
    rintro b rfl
    exact h.footOk b rfl
  have hK : Keep (· = g) w (w.setCell ⟨g, a * 2 + 1, none⟩ v) := Keep.setCell (F := (· = g)) (Keep.refl _ _) (p := ⟨g, a * 2 + 1, none⟩) (.inl rfl) _
  have hal : a < m.length := (List.getElem?_eq_some_iff.1 he).1
  obtain ⟨us, hus, hb, hx, hw⟩ := h
  have hcl := segCells_length hus
  rcases hw with ⟨h1, h0⟩ | ⟨g', cp, cur, hv', hbg, hg, h1, h2, h3, h4⟩
  · omega
  · simp at hv'
    obtain ⟨rfl, rfl, rfl⟩ := hv'
    refine ⟨us.set a v, by simp [hus], fun i u x hu hx => ?_, ?_, .inr ⟨g, cap, cur.setIfInBounds (a * 2 + 1) v, by simp, hbg, heap_setCell_same hg, by simpa using h1, h2, by simpa using h3, ?_⟩⟩
    · by_cases hia : a = i
      · subst hia
        rw [List.getElem?_set_self (by omega)] at hu
        rw [List.getElem?_set_self (by omega)] at hx
        simp at hu hx
        subst hu hx
        exact hv.keep hF hK
      · rw [List.getElem?_set_ne hia] at hu
        rw [List.getElem?_set_ne hia] at hx
        exact (hb i u x hu hx).keep hF hK
    · rw [segCells_set l v hus he]; simpa using hcl
    · rw [segCells_set l v hus he, ← h4, List.length_set, Array.toList_setIfInBounds, List.take_set]

def SegsPost [bn : Inhabited Ban] (base : Nat) (w : World) (m : AMap) (e : Ending) (w' : World) : Prop :=
  ∃ v', e = .returned v' ∧ SegsAt base w' v' m ∧ Keep No w w' ∧ ∀ b, v'.ownBlock = some b → w.heap.size ≤ b

set_option maxRecDepth 100000 in
set_option maxHeartbeats 1000000 in
theorem segs_spec [bn : Inhabited Ban] {base : Nat} {w : World} {v : Value} {l : List CallS} (h : LAt base w v l) (hb : base ≤ w.heap.size) (hl : l.length ≤ 1000) (hs : wsum l ≤ 1099511627776) :
    Calls Try.prog 23 #[v] w (SegsPost base w (segs6 l)) := by
  obtain ⟨ao, cap, rfl, hlc, hcm⟩ := h.form
  have hln : (l.length : Int) ≤ 1000 := by omega
  clear hlc hcm
  go_enter Try.func23, Try.ntmps23
  go_wp2
  go_loopw [3, 11] (fun v i wr => ∃ k : Nat, k ≤ l.length ∧ i = .int .i64 k ∧ SegsAt base wr v (segs6 (l.take k)) ∧ (segs6 (l.take k)).length ≤ k ∧ msum (segs6 (l.take k)) ≤ wsum (l.take k) ∧ Keep No w wr ∧ ∀ b, v.ownBlock = some b → w.heap.size ≤ b) (fun _ i _ => l.length - (intOf i).toNat)
  case atStart => exact ⟨0, Nat.zero_le _, rfl, SegsAt.nil _ _, Nat.le_refl _, Nat.le_refl _, Keep.refl _ _, fun b hb => by simp [Value.ownBlock] at hb⟩
  case round =>
    obtain ⟨k, hk, rfl, hS, hSl, hSs, hkp, hnew⟩ := hrel
    obtain ⟨so, sc, rfl, hmc, hcm⟩ := hS.form
    by_cases hlt : k < l.length
    · obtain ⟨g, rfl, hbg, hcells⟩ := h.cells (by omega)
      have hck : l[k]? = some l[k] := List.getElem?_eq_getElem hlt
      obtain ⟨u, hu, e0, e1, e2⟩ := hcells k _ hck
      have hT := segs6_take hck
      generalize l[k] = c at *
      generalize segs6 (l.take k) = m at *
      obtain ⟨uo, uc, rfl⟩ := hu.form
      have e0 := hkp.cell e0 (fun e => e)
      have e1 := hkp.cell e1 (fun e => e)
      have e2 := hkp.cell e2 (fun e => e)
      have hu := hu.no hkp
      have hki : (k : Int) < (l.length : Int) := by omega
      have hml : (m.length : Int) ≤ 1000 := by omega
      have HX := Lib.hid (And.intro hck (And.intro hT (And.intro hlt (And.intro hSl (And.intro hSs (And.intro hmc hcm))))))
      clear hcells hck hT hlt hSl hSs hmc hcm
      have kA : Keep No wr (wr.alloc (.cells #[.int .u64 c.seg, .slice uo c.p.length uc, .bool c.drop] 113)) := (Keep.refl _ _).alloc _
      have hbx := heap_new wr (.cells #[.int .u64 c.seg, .slice uo c.p.length uc, .bool c.drop] 113)
      go_upto_block 2 with fail
      obtain ⟨W, hW⟩ : ∃ W, W = wr.alloc (.cells #[.int .u64 c.seg, .slice uo c.p.length uc, .bool c.drop] 113) := ⟨_, rfl⟩
      rw [← hW] at kA hbx ⊢
      have HW := Lib.hid hW
      clear hW
      go_cut [6] (fun av wx => ∃ a : Nat, av = .int .i64 a ∧ IsAt m c.seg a ∧ Keep No W wx)
      case first =>
        go_wp2_with fail
        go_loopw [6] (fun i wx => ∃ a : Nat, a ≤ m.length ∧ i = .int .i64 a ∧ (∀ (j : Nat) (e : Int × Bytes), j < a → m[j]? = some e → e.1 < c.seg) ∧ Keep No W wx) (fun i _ => m.length - (intOf i).toNat)
        case atStart => exact ⟨0, Nat.zero_le _, rfl, fun j e hj => by omega, Keep.refl _ _⟩
        case round =>
          obtain ⟨a, ha, rfl, hlow, hkx⟩ := hrel
          by_cases hal : a < m.length
          · obtain ⟨g3, rfl, hbg3, hcells3⟩ := hS.cells (by omega)
            have hea : m[a]? = some m[a] := List.getElem?_eq_getElem hal
            obtain ⟨u3, hu3, x0, x1⟩ := hcells3 a _ hea
            generalize m[a] = e at *
            have x0 := (kA.then hkx).cell x0 (fun e => e)
            have y0 := hkx.cell (cell_of hbx 0) (fun e => e)
            simp at y0
            have hai : (a : Int) < (m.length : Int) := by omega
            have HL := Lib.hid (And.intro hlow (And.intro hea hal))
            clear hlow hea hal hcells3 x1 hu3 e0 e1 e2 hu
            by_cases hes : e.1 < c.seg
            · have hq : decide (e.1 < c.seg) = true := by simpa using hes
              go_wp2
              go_quiet (fail)
              go_wp2
              go_roundw
              case rel =>
                refine ⟨a + 1, by have := HL.out.2.2; omega, by go_num, fun j x hj hx => ?_, hkx.drewN _⟩
                by_cases hja : j = a
                · subst hja
                  rw [HL.out.2.1] at hx
                  simp at hx
                  subst hx
                  exact hes
                · exact HL.out.1 j x (by omega) hx
              case measure => have := HL.out.2.2; simp [intOf]; omega
            · have hq : decide (e.1 < c.seg) = false := by simpa using hes
              go_wp2
              go_quiet (fail)
              go_wp2
              go_meet
              exact ⟨a, rfl, ⟨ha, HL.out.1, fun x hx => by rw [HL.out.2.1] at hx; simp at hx; subst hx; have := hes; omega⟩, hkx.drewN _⟩
          · have hai : ¬ (a : Int) < (m.length : Int) := by omega
            have hq : decide (a < m.length) = false := by simpa using hal
            have HL := Lib.hid (And.intro hlow (And.intro ha hal))
            clear hlow ha hal hai
            go_wp2
            go_quiet (fail)
            go_wp2
            go_meet
            exact ⟨a, rfl, ⟨HL.out.2.1, HL.out.1, fun x hx => absurd (List.getElem?_eq_some_iff.1 hx).1 HL.out.2.2⟩, hkx.drewN _⟩
      case rest =>
        obtain ⟨a, rfl, hat, hkx⟩ := hcut
        have kx := kA.then hkx
        have hAw : w.heap.size ≤ wr.heap.size := hkp.size
        have hS := hS.no kx
        have hu := hu.no kx
        have hbx := hkx.heap hbx (fun e => e)
        have hkp := hkp.then kx
        have hwc := hkp.size
        have hAlt := heap_lt hbx
        clear kA hkx kx e0 e1 e2
        obtain ⟨th, ht1, ht2⟩ : ∃ th : Bool, (th = true → ∃ e, m[a]? = some e ∧ e.1 = c.seg) ∧ (th = false → ∀ e, m[a]? = some e → e.1 ≠ c.seg) := by
          by_cases hq : ∃ e, m[a]? = some e ∧ e.1 = c.seg
          · exact ⟨true, fun _ => hq, fun h => by cases h⟩
          · exact ⟨false, fun h => (by cases h), fun _ e he hk => hq ⟨e, he, hk⟩⟩
        generalize wr.heap.size = A at *
        generalize wc = wa at *
        go_upto_region 8 with fail
        go_cut [7] (fun tv wx => tv = .bool th ∧ Keep No wa wx)
        case first =>
          have y0 := cell_of hbx 0
          simp at y0
          by_cases hal : a < m.length
          · obtain ⟨g3, rfl, hbg3, hcells3⟩ := hS.cells (by omega)
            have hea : m[a]? = some m[a] := List.getElem?_eq_getElem hal
            obtain ⟨u3, hu3, x0, x1⟩ := hcells3 a _ hea
            generalize m[a] = e at *
            have hai : (a : Int) < (m.length : Int) := by omega
            by_cases hes : e.1 = c.seg
            · obtain rfl : th = true := by
                cases th
                · exact absurd hes (ht2 rfl e hea)
                · rfl
              have hq : (e.1 == c.seg) = true := by simpa using hes
              clear ht1 ht2 hea hal hcells3 x1 hu3 hat hes
              go_quiet (fail)
              go_wp2
              go_meet
              exact ⟨rfl, (Keep.refl _ _).drewN _⟩
            · obtain rfl : th = false := by
                cases th
                · rfl
                · obtain ⟨e', he', hk'⟩ := ht1 rfl
                  rw [hea] at he'
                  simp at he'
                  subst he'
                  exact absurd hk' hes
              have hq : (e.1 == c.seg) = false := by simpa using hes
              clear ht1 ht2 hea hal hcells3 x1 hu3 hat hes
              go_quiet (fail)
              go_wp2
              go_meet
              exact ⟨rfl, (Keep.refl _ _).drewN _⟩
          · obtain rfl : th = false := by
              cases th
              · rfl
              · obtain ⟨e', he', hk'⟩ := ht1 rfl
                exact absurd (List.getElem?_eq_some_iff.1 he').1 hal
            have hq : decide (a < m.length) = false := by simpa using hal
            clear ht1 ht2 hal hat
            go_quiet (fail)
            go_wp2
            go_meet
            exact ⟨rfl, (Keep.refl _ _).drewN _⟩
        case rest =>
          obtain ⟨rfl, hkx⟩ := hcut
          have hS := hS.no hkx
          have hu := hu.no hkx
          have hbx := hkx.heap hbx (fun e => e)
          have hkp := hkp.then hkx
          have hwb := hkp.size
          clear hkx hwc
          have y0 := cell_of hbx 0
          have y1 := cell_of hbx 1
          have y2 := cell_of hbx 2
          simp at y0 y1 y2
          have hBw : base ≤ wc.heap.size := by omega
          cases hd : c.drop with
          | true =>
            rw [hd] at y2
            cases th with
            | true =>
              obtain ⟨e, hea, hes⟩ := ht1 rfl
              have hT := step6_there_drop hat hea hes hd
              have hal : a < m.length := (List.getElem?_eq_some_iff.1 hea).1
              have hsc := HX.out.2.2.2.2.2.1
              have hscm := HX.out.2.2.2.2.2.2
              unfold maxLen at hscm
              obtain ⟨g3, rfl, hbg3, _⟩ := hS.cells (by omega)
              have i1 : (a : Int) ≤ (sc : Int) := by omega
              have i4 : (a : Int) ≤ 1000 := by omega
              have i5 : (sc : Int) ≤ 9223372036854775807 := by omega
              obtain ⟨b, hb1⟩ : ∃ b, b = a + 1 := ⟨_, rfl⟩
              have hwr : IntKind.i64.wrap ((a : Int) + 1) = (b : Int) := by rw [IntWalk.i64_in _ (by omega), hb1]; omega
              have i2 : (b : Int) ≤ (m.length : Int) := by omega
              have i3 : (b : Int) ≤ (sc : Int) := by omega
              have HH := Lib.hid (And.intro hT (And.intro hnew hkp))
              have HA := Lib.hid (And.intro hal (And.intro hsc hb1))
              clear hb1
              clear hT hnew ht1 ht2 hat hu hbx hd hkp hea hes hal hsc hscm
              go_wp2
              refine wp_drawN (fun w' => Keep No wc w') [1, 2, 3, 5, 6, 7, 8] [0, 4, 9] [10] (by kernel_rfl) (by kernel_rfl) (fun _ _ _ _ _ h => h) (Keep.refl _ _).drew ?_
              iterate 7 (refine earlyN_cons (v := ?_) rfl rfl rfl ?_ ?_; rotate_left; focus (
                intro w' hS
                go_simp
                try with_reducible rfl))
              refine earlyN_nil ?_
              refine midN_cons rfl rfl (fun K hK => ?_)
              go_simp
              have km : Keep No wc (wc.alloc (.cells #[] 49)).drew := ((Keep.refl _ _).alloc _).drew
              refine hK _ _ km ?_
              clear hK K
              have hmade := (SegsAt.made base wc hBw).no ((Keep.refl No _).drew)
              refine midN_cons rfl rfl (fun K hK => ?_)
              refine wp_append_segs (v := .slice (some ⟨wc.heap.size, 0, none⟩) 0 0) _ _ rfl rfl rfl hmade ((hS.no km).takeIn a (by have := HA.out.1; omega)) (by simp; omega) (Nat.le_trans hBw km.size) ?_
              intro v1 w1 hS1 hk1 hv1
              have hk1 : Keep No wc w1 := km.absorb hk1 (fun x hx => by have hx : some wc.heap.size = some x := hx; injection hx with hx; omega)
              have hv1 : ∀ b, v1.ownBlock = some b → wc.heap.size ≤ b := fun b hb => by
                rcases hv1 b hb with hx | hx
                · have hx : some wc.heap.size = some b := hx
                  injection hx with hx
                  omega
                · have := km.size; omega
              refine hK _ _ hk1 ?_
              clear hK K hmade
              have hsrc := (hS.no hk1).dropIn b (by have := HA.out; omega)
              simp only [Option.map_some, Addr.add_lit, Nat.zero_add] at hsrc
              refine midN_cons rfl rfl (fun K hK => ?_)
              refine wp_append_segs (v := v1) _ _ rfl rfl ?_ hS1 hsrc (by simp; omega) (Nat.le_trans hBw hk1.size) ?_
              · rfl
              intro v2 w2 hS2 hk2 hv2
              have hk2 : Keep No wc w2 := hk1.absorb hk2 hv1
              have hv2 : ∀ b, v2.ownBlock = some b → wc.heap.size ≤ b := fun b hb => by
                rcases hv2 b hb with hx | hx
                · exact hv1 b hx
                · have := hk1.size; omega
              refine hK _ _ hk2 ?_
              clear hK K hsrc
              refine midN_nil (tailN_cons rfl (tailN_nil ?_))
              have HB := Lib.hid (And.intro hS2 (And.intro hk2 hv2))
              clear hS2 hk2 hv2 hS1 hk1 hv1 hS hwr
              go_wp2
              go_roundw
              case rel =>
                have hTT : [] ++ m.take a ++ m.drop b = step6 m c := by rw [HH.out.1, HA.out.2.2, List.nil_append]
                refine ⟨k + 1, by have := HX.out.2.2.1; omega, by go_num, ?_, ?_, ?_, HH.out.2.2.then HB.out.2.1, fun b hb => by have := HB.out.2.2 b hb; omega⟩
                · rw [HX.out.2.1, ← hTT]; exact HB.out.1
                · rw [HX.out.2.1]; have := step6_length m c; have := HX.out.2.2.2.1; omega
                · rw [HX.out.2.1, wsum_take HX.out.1]; have := step6_sum m c; have := HX.out.2.2.2.2.1; omega
              case measure => have := HX.out.2.2.1; simp [intOf]; omega
            | false =>
              have hT := step6_not_drop hat (ht2 rfl) hd
              have HH := Lib.hid (And.intro hT (And.intro hS (And.intro hnew hkp)))
              clear hT hS hnew hkp ht1 ht2 hat hu hbx hd
              go_wp2
              go_roundw
              case rel =>
                refine ⟨k + 1, by have := HX.out.2.2.1; omega, by go_num, ?_, ?_, ?_, HH.out.2.2.2, HH.out.2.2.1⟩
                · rw [HX.out.2.1, HH.out.1]; exact HH.out.2.1
                · rw [HX.out.2.1, HH.out.1]; have := HX.out.2.2.2.1; omega
                · rw [HX.out.2.1, HH.out.1, wsum_take HX.out.1]; have := HX.out.2.2.2.2.1; omega
              case measure => have := HX.out.2.2.1; simp [intOf]; omega
          | false =>
            rw [hd] at y2
            cases th with
            | true =>
              obtain ⟨e, hea, hes⟩ := ht1 rfl
              have hT := step6_there hat hea hes hd
              have hal : a < m.length := (List.getElem?_eq_some_iff.1 hea).1
              obtain ⟨g3, rfl, hbg3, hcells3⟩ := hS.cells (by omega)
              obtain ⟨u3, hu3, x0, x1⟩ := hcells3 a _ hea
              obtain ⟨u3o, u3c, rfl⟩ := hu3.form
              have hai : (a : Int) < (m.length : Int) := by omega
              have hsum : e.2.length + c.p.length ≤ 35184372088832 := by
                have h1 := msum_mem hea
                have h2 := HX.out.2.2.2.2.1
                have h3 := wsum_take_le l (k + 1)
                rw [wsum_take HX.out.1] at h3
                omega
              have HH := Lib.hid (And.intro hT (And.intro hnew (And.intro hal (And.intro hea hes))))
              clear hT hnew ht1 ht2 hat hd hea hes hal hcells3
              have hwbx := hkp
              go_wp2
              refine wp_drawN (fun w' => Keep No wc w') [0, 1, 2, 3, 4, 5, 6, 7, 8] [9, 10] [11, 12, 13] (by kernel_rfl) (by kernel_rfl) (fun _ _ _ _ _ h => h) (Keep.refl _ _).drew ?_
              iterate 9 (refine earlyN_cons (v := ?_) rfl rfl rfl ?_ ?_; rotate_left; focus (
                intro w' hq
                have x1' := hq.cell x1 (fun e => e)
                have y1' := hq.cell y1 (fun e => e)
                go_simp
                try with_reducible rfl))
              refine earlyN_nil ?_
              have hk2 : Keep No wc (wc.alloc (.cells #[.slice u3o e.2.length u3c, .slice uo c.p.length uc] 27)).drew := ((Keep.refl _ _).alloc _).drew
              have hsl : SlicesAt base (wc.alloc (.cells #[.slice u3o e.2.length u3c, .slice uo c.p.length uc] 27)).drew (.slice (some ⟨wc.heap.size, 0, none⟩) 2 2) [e.2, c.p] :=
                SlicesAt.of_block (cs := #[.slice u3o e.2.length u3c, .slice uo c.p.length uc]) (heap_new wc _) [e.2, c.p] rfl (by simp [maxLen]) (fun i u' l h1 h2 => by
                  match i, h1, h2 with
                  | 0, h1, h2 => simp at h1 h2; subst h1 h2; exact hu3.no ((Keep.refl _ _).alloc _)
                  | 1, h1, h2 => simp at h1 h2; subst h1 h2; exact hu.no ((Keep.refl _ _).alloc _))
              refine midN_cons rfl rfl (fun K hK => ?_)
              go_simp
              refine hK _ _ hk2 ?_
              clear hK K
              refine midN_cons rfl rfl (fun K hK => ?_)
              go_simp
              refine (join_spec hsl (by simp; omega)).mono ?_
              rintro e' w3 ⟨v3, rfl, hown3, hk3⟩
              simp only []
              have hkk := hk2.then hk3
              refine hK _ _ hkk ?_
              clear hK K
              refine midN_nil (tailN_cons rfl (tailN_cons rfl (tailN_cons rfl (tailN_nil ?_))))
              have hS3 := hS.no hkk
              have hTop : e.2 ++ c.p ≠ [] → ban.top ≤ wc.heap.size := fun hne => by
                by_cases h1 : e.2 = []
                · exact hu.top (fun h2 => hne (by simp [h1, h2]))
                · exact hu3.top h1
              have hv3 : BytesAt base w3 v3 (e.2 ++ c.p) := by
                have := hown3.bytes (base := base) (fun hne => Nat.le_trans (hTop (by simpa using hne)) hk2.size)
                simpa using this
              have hset := hS3.set HH.out.2.2.2.1 hv3
              rw [HH.out.2.2.2.2, set_at HH.out.2.2.2.1, ← HH.out.1] at hset
              obtain ⟨v3o, v3c, rfl⟩ := hv3.form
              have z1 := hkk.cell x1 (fun e => e)
              have fz : w3.frozen? ⟨g3, a * 2 + 1, none⟩ = false := by
                obtain ⟨_, cur, hq⟩ := hS3.kind g3 rfl
                exact frozen_of hq _
              have hfin : Keep No w (w3.setCell ⟨g3, a * 2 + 1, none⟩ (.slice v3o (e.2 ++ c.p).length v3c)) :=
                (hwbx.then hkk).setCell (p := ⟨g3, a * 2 + 1, none⟩) (.inr (HH.out.2.1 g3 rfl)) _
              have HB := Lib.hid (And.intro hset hfin)
              clear hset hfin hS3 hv3 hown3 hk3 hk2 hkk hsl hS hu hu3 x0 x1 y0 y1 y2 hbx hwbx hkp
              go_wp2
              go_roundw
              case rel =>
                obtain ⟨q1, q2⟩ := HB.out
                rw [List.length_append] at q1 q2
                refine ⟨k + 1, by have := HX.out.2.2.1; omega, by go_num, ?_, ?_, ?_, q2, HH.out.2.1⟩
                · rw [HX.out.2.1]; exact q1
                · rw [HX.out.2.1]; have := step6_length m c; have := HX.out.2.2.2.1; omega
                · rw [HX.out.2.1, wsum_take HX.out.1]; have := step6_sum m c; have := HX.out.2.2.2.2.1; omega
              case measure => have := HX.out.2.2.1; simp [intOf]; omega
            | false =>
              have hT := step6_not hat (ht2 rfl) hd
              have hsc := HX.out.2.2.2.2.2.1
              have hscm := HX.out.2.2.2.2.2.2
              unfold maxLen at hscm
              have hale := hat.le
              have i1 : (a : Int) ≤ (sc : Int) := by omega
              have i2 : (a : Int) ≤ (m.length : Int) := by omega
              have i4 : (a : Int) ≤ 1000 := by omega
              have i5 : (sc : Int) ≤ 9223372036854775807 := by omega
              have hpl : c.p.length ≤ 35184372088832 := by
                have h3 := wsum_take_le l (k + 1)
                rw [wsum_take HX.out.1] at h3
                omega
              have HH := Lib.hid (And.intro hT (And.intro hnew hkp))
              have HA := Lib.hid (And.intro hale hsc)
              clear hT hnew ht1 ht2 hat hd hkp hale hsc hscm
              go_wp2
              refine wp_drawN (fun w' => Keep No wc w') [0, 1, 2, 3, 8, 9, 10] [4, 5, 6, 7, 11] [12] (by kernel_rfl) (by kernel_rfl) (fun _ _ _ _ _ h => h) (Keep.refl _ _).drew ?_
              iterate 7 (refine earlyN_cons (v := ?_) rfl rfl rfl ?_ ?_; rotate_left; focus (
                intro w' hq
                have y0' := hq.cell y0 (fun e => e)
                have y1' := hq.cell y1 (fun e => e)
                go_simp
                try with_reducible rfl))
              refine earlyN_nil ?_
              have hk2 : Keep No wc (wc.alloc (.cells #[.slice uo c.p.length uc] 27)).drew := ((Keep.refl _ _).alloc _).drew
              have hsl : SlicesAt base (wc.alloc (.cells #[.slice uo c.p.length uc] 27)).drew (.slice (some ⟨wc.heap.size, 0, none⟩) 1 1) [c.p] :=
                SlicesAt.of_block (cs := #[.slice uo c.p.length uc]) (heap_new wc _) [c.p] rfl (by simp [maxLen]) (fun i u' l h1 h2 => by
                  match i, h1, h2 with
                  | 0, h1, h2 => simp at h1 h2; subst h1 h2; exact hu.no ((Keep.refl _ _).alloc _))
              refine midN_cons rfl rfl (fun K hK => ?_)
              go_simp
              refine hK _ _ hk2 ?_
              clear hK K
              refine midN_cons rfl rfl (fun K hK => ?_)
              go_simp
              refine (join_spec hsl (by simp; omega)).mono ?_
              rintro e' w3 ⟨v3, rfl, hown3, hk3⟩
              simp only []
              have hkk := hk2.then hk3
              refine hK _ _ hkk ?_
              clear hK K
              have hv3 : BytesAt base w3 v3 c.p := by
                have := hown3.bytes (base := base) (fun hne => Nat.le_trans (hu.top (by simpa using hne)) hk2.size)
                simpa using this
              obtain ⟨v3o, v3c, rfl⟩ := hv3.form
              refine midN_cons rfl rfl (fun K hK => ?_)
              go_simp
              refine hK _ _ hkk ?_
              clear hK K
              refine midN_cons rfl rfl (fun K hK => ?_)
              go_simp
              have kn : Keep No w3 (w3.alloc (.cells #[.int .u64 c.seg, .slice v3o c.p.length v3c] 49)) := (Keep.refl _ _).alloc _
              have hkn := hkk.then kn
              refine hK _ _ hkn ?_
              clear hK K
              have hone := SegsAt.one (k := c.seg) hv3 (Nat.le_trans hBw hkk.size)
              have hsrc := (hS.no hkn).dropIn a (by have := HA.out.1; omega)
              have hadd : so.map (·.add (a * 2)) = so.map (·.add (a * 2)) := rfl
              refine midN_cons rfl rfl (fun K hK => ?_)
              refine wp_append_segs (v := .slice (some ⟨w3.heap.size, 0, none⟩) 1 1) _ _ rfl rfl rfl hone hsrc (by simp; omega) (Nat.le_trans hBw hkn.size) ?_
              intro v4 w4 hS4 hk4 hv4
              have hk4 : Keep No wc w4 := hkn.absorb hk4 (fun x hx => by have hx : some w3.heap.size = some x := hx; injection hx with hx; have := hkk.size; omega)
              refine hK _ _ hk4 ?_
              clear hK K hsrc hone hadd kn hkn hk3 hk2 hkk hsl hown3 hv3 y0 y1 y2 hbx hu hv4
              refine midN_nil (tailN_cons rfl (tailN_nil ?_))
              have kz : Keep No w4 (w4.alloc (.cells #[] 49)) := (Keep.refl _ _).alloc _
              have hBw4 : base ≤ w4.heap.size := Nat.le_trans hBw hk4.size
              have hw4 : w.heap.size ≤ w4.heap.size := Nat.le_trans hwb hk4.size
              have hmade := SegsAt.made base w4 hBw4
              have hsrc := (hS.no (hk4.then kz)).takeIn a (by have := HA.out.1; omega)
              have hl1 : ([] : AMap).length + (m.take a).length ≤ 1000000 := by simp; omega
              have hl2 : (([] : AMap) ++ m.take a).length + ([(c.seg, c.p)] ++ m.drop a).length ≤ 1000000 := by simp; omega
              have HK := Lib.hid (And.intro (HH.out.2.2.then hk4) hw4)
              have HL := Lib.hid (And.intro hl1 hl2)
              clear hw4 hl1 hl2 hk4 hS hwb
              go_wp2_with (at_builtin; first
                | (refine wpList_append_segs (v := .slice (some ⟨w4.heap.size, 0, none⟩) 0 0) rfl _ _ rfl rfl rfl hmade hsrc HL.out.1 (Nat.le_trans hBw4 kz.size) ?_; intro v5 w5 hS5 hk5 hv5; have k45 : Keep No w4 w5 := kz.absorb hk5 (fun x hx => by have hx : some w4.heap.size = some x := hx; injection hx with hx; omega); have hS45 := (hS4.no k45).allIn)
                | (refine wpList_append_segs (v := v5) rfl _ _ rfl rfl rfl hS5 hS45 HL.out.2 (Nat.le_trans hBw4 k45.size) ?_; intro v6 w6 hS6 hk6 hv6))
              go_roundw
              case rel =>
                have hTT : [] ++ m.take a ++ ([(c.seg, c.p)] ++ m.drop a) = step6 m c := by rw [HH.out.1]; rfl
                have o5 : ∀ b, v5.ownBlock = some b → w4.heap.size ≤ b := fun b hb => by
                  rcases hv5 b hb with hx | hx
                  · have hx : some w4.heap.size = some b := hx
                    injection hx with hx
                    omega
                  · have := kz.size; omega
                have k46 : Keep No w4 w6 := k45.absorb hk6 o5
                refine ⟨k + 1, by have := HX.out.2.2.1; omega, by go_num, ?_, ?_, ?_, HK.out.1.then k46, fun b hb => ?_⟩
                · rw [HX.out.2.1, ← hTT]; exact hS6
                · rw [HX.out.2.1]; have := step6_length m c; have := HX.out.2.2.2.1; omega
                · rw [HX.out.2.1, wsum_take HX.out.1]; have := step6_sum m c; have := HX.out.2.2.2.2.1; omega
                · have := HK.out.2
                  rcases hv6 b hb with hx | hx
                  · have := o5 b hx; omega
                  · have := k45.size; omega
              case measure => have := HX.out.2.2.1; simp [intOf]; omega
    · obtain rfl : k = l.length := by omega
      have e : l.take l.length = l := List.take_length
      rw [e] at hS hnew hmc
      have hki : ¬ (l.length : Int) < (l.length : Int) := by omega
      have HP : Hid (SegsPost base w (segs6 l) (.returned (.slice so (segs6 l).length sc)) wr) := ⟨_, rfl, hS, hkp, hnew⟩
      rw [e]
      clear hS hSl hSs hk hlt e hmc hcm hnew
      go_wp2
      go_ret
      exact HP.out
end Go.Proofs.Ytpjggnfiocplmaa
