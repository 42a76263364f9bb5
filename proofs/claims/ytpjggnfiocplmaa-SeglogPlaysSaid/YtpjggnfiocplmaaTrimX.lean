/- Spare; the document's Trim. -/
import Derived.Test.YtpjggnfiocplmaaTrimL
namespace Go.Proofs.Ytpjggnfiocplmaa
open Go Go.RowKit Go.Dr

set_option maxRecDepth 100000 in
set_option maxHeartbeats 4000000 in
theorem lSpare_spec [bn : Inhabited Ban] {base : Nat} {w : World} {g p : Nat} {sv lv : Value} {size : Int} {ss : List SegL} {J : Nat} {l : List CallS} (hl : LogAt base w g p sv lv (logD size ss))
    (hg : Good J l ss) (hJ : J ≤ 100) (k : Nat) {last : Int} (hlast : endOf (ss.map SegL.view) ss.length = last) :
    Calls Try.prog 51 #[.pointer (some ⟨g, 0, none⟩), .int .u64 k] w fun e w' => e = .returned (.int .i64 ((dropsOf k last ss ss.length).length : Nat)) ∧ Keep No w w' := by
  have hmap : (logD size ss).segs = ss.map SegL.view := rfl
  have hle := hg.len
  have hend := lend_spec hl (by rw [hmap, List.length_map]; omega)
  rw [hmap, List.length_map, hlast] at hend
  obtain ⟨so, sc, hsv, hsc1, hsc2⟩ := hl.segs.form
  rw [hmap, List.length_map] at hsv hsc1
  subst hsv
  have c2 := cell_of hl.blk 2
  simp at c2
  have hli : (ss.length : Int) ≤ 1099511627776 := by omega
  have HLAST := Lib.hid hlast
  have HH := Lib.hid (And.intro hg (And.intro hle hl))
  clear hg hle hmap hlast hl hsc1 hsc2
  go_enter Try.func51, Try.ntmps51
  go_upto_block 0 with (go_at_call 78; refine hend.mono ?_; rintro e w1 ⟨rfl, e1⟩; have e1 := e1.symm; subst e1)
  go_wp2_with fail
  go_loopw [6, 18] (fun cv iv wr => ∃ j : Nat, j ≤ ss.length ∧ iv = .int .i64 j ∧ cv = .int .i64 ((dropsOf k last ss j).length : Nat) ∧ Keep No w wr) (fun _ iv _ => ss.length - (intOf iv).toNat)
  case atStart => exact ⟨0, Nat.zero_le _, rfl, rfl, Keep.refl _ _⟩
  case round =>
    clear c2
    obtain ⟨j, hj, rfl, rfl, hK⟩ := hrel
    by_cases hlt : j < ss.length
    · have hsj : ss[j]? = some ss[j] := List.getElem?_eq_getElem hlt
      have I := trim_all HH.out.1 k HLAST.out j hj
      have hcnt := trim_cnt (k := k) HH.out.1 HLAST.out j _ hsj
      have hrn := HH.out.1.recs
      have hnx := HH.out.1.next
      have hfc : (ss[j]).view.first + (ss[j]).view.count ≤ 9223372036854775807 := by
        have h1 : (ss[j]).view.count ≤ (recsOf ss).length := by show (ss[j]).recs.length ≤ _; omega
        cases hh : (ss[j]).headed with
        | true =>
          have h3 := ((HH.out.1.ok _ (List.getElem_mem hlt)).head hh).2.1
          have h4 : (ss[j]).view.first = (ss[j]).first := by show (if (ss[j]).headed then (ss[j]).first else 0) = _; rw [hh]; rfl
          omega
        | false =>
          have h4 : (ss[j]).view.first = 0 := by show (if (ss[j]).headed then (ss[j]).first else 0) = _; rw [hh]; rfl
          omega
      have hmj : (ss.map SegL.view)[j]? = some (ss[j]).view := by rw [List.getElem?_map, hsj]; rfl
      have hLc := (HH.out.2.2.no hK).segs
      obtain ⟨r, rfl, s0, s1, s2, s3, s4, s5⟩ := LSegsAt.cell (l := ss.map SegL.view) hLc hmj
      have hkc : ∀ b, keepAt k last j (ss[j]) = b → neededB (ss[j]).view k ((j : Int) == last) = b := fun b e => e
      have hil := I.len
      generalize ss[j] = sg at *
      generalize hvw : sg.view = v at *
      have hneed := fun (w' : World) => lneeded_spec w' v k ((j : Int) == last) hfc
      have hji : (j : Int) < (ss.length : Int) := by omega
      have hdl : ((dropsOf k last ss j).length : Int) ≤ 1099511627776 := by omega
      have kA : Keep No wr (wr.alloc (.cells #[.int .u64 v.n, .int .u64 v.first, .int .u64 v.count, .int .i64 v.size, .bool v.whole, .bool v.headed] 124)) := (Keep.refl _ _).alloc _
      have HI := Lib.hid (And.intro hK (And.intro hlt (And.intro hsj kA)))
      clear hK hlt hsj kA hcnt hrn hnx hfc hmj hLc hil I hj hvw
      cases hk : keepAt k last j sg with
      | true =>
        have hnb := hkc _ hk
        clear hkc
        unfold segAgg at hneed
        rw [hnb] at hneed
        have eD := Lib.hid (dropsOf_keep HI.out.2.2.1 hk)
        go_wp2_with (go_at_call 79; refine (hneed _).mono ?_; rintro e w2 ⟨rfl, k2⟩)
        go_roundw
        case rel => exact ⟨j + 1, HI.out.2.1, by go_num, by rw [eD.out], (HI.out.1.then HI.out.2.2.2).then k2⟩
        case measure => have := HI.out.2.1; simp [intOf]; omega
      | false =>
        have hnb := hkc _ hk
        clear hkc
        unfold segAgg at hneed
        rw [hnb] at hneed
        have eD := Lib.hid (dropsOf_go HI.out.2.2.1 hk)
        go_wp2_with (go_at_call 79; refine (hneed _).mono ?_; rintro e w2 ⟨rfl, k2⟩)
        go_roundw
        case rel => exact ⟨j + 1, HI.out.2.1, by go_num, by rw [eD.out]; simp, (HI.out.1.then HI.out.2.2.2).then k2⟩
        case measure => have := HI.out.2.1; simp [intOf]; omega
    · obtain rfl : j = ss.length := by omega
      have hji : ¬ ((ss.length : Int) < (ss.length : Int)) := by omega
      clear hlt hj
      go_wp2
      go_ret
      exact ⟨rfl, hK⟩

theorem endOf_at {l : List SegV} {j : Nat} {s : SegV} {n : Nat} {last : Int} (h : endOf l n = last) (hs : l[j]? = some s) (hj : (j : Int) = last) : s.headed = true := by
  subst hj
  induction n with
  | zero => unfold endOf at h; omega
  | succ n ih =>
    unfold endOf at h
    by_cases e : (l[n]?.map (·.headed)).getD false = true
    · rw [if_pos e] at h
      obtain rfl : n = j := by omega
      rw [hs] at e
      exact e
    · rw [if_neg e] at h
      exact ih h

theorem Keep.first {F : Nat → Prop} {a b c : World} (h : Keep No a b) (k : Keep F b c) : Keep F a c := (Keep.no h).trans k (fun _ _ e => e)
/-- In the second loop of the document's Trim. -/
def R7TrimR [bn : Inhabited Ban] (base : Nat) (w : World) (q : Nat) (lv : Value) (x : RDiskS) (k : Nat) (last : Int) (ss : List SegL) (v7 : Value) (kv iv : Value) (wr : World) : Prop :=
  ∃ (j : Nat) (lv' : Value), j ≤ ss.length ∧ iv = .int .i64 j ∧ kv = .int .i64 ((dropsOf k last ss j).length : Nat) ∧ RDiskAt base wr q lv' { x with l := x.l ++ dropsOf k last ss j } ∧ R7 base wr v7 ss ∧ Keep (· = q) w wr ∧
    ∀ b, lv'.ownBlock = some b → lv.ownBlock = some b ∨ w.heap.size ≤ b

set_option maxRecDepth 100000 in
set_option maxHeartbeats 8000000 in
theorem r7Trim_spec [bn : Inhabited Ban] {base : Nat} {w : World} {q : Nat} {lv : Value} {x : RDiskS} {ss : List SegL} {J : Nat} (h : RDiskAt base w q lv x) (hb : base ≤ w.heap.size) (hT : ban.top ≤ w.heap.size)
    (hg : Good J x.l ss) (hJ : J ≤ 100) (k : Nat) {last : Int} (hlast : endOf (ss.map SegL.view) ss.length = last) :
    Calls Try.prog 73 #[.pointer (some ⟨q, 0, none⟩), .int .u64 k] w fun e w' => e = .returned (.int .i64 ((dropsOf k last ss ss.length).length : Nat)) ∧ ∃ lv', RDiskAt base w' q lv' { x with l := x.l ++ dropsOf k last ss ss.length } ∧ Keep (· = q) w w' ∧
      ∀ b, lv'.ownBlock = some b → lv.ownBlock = some b ∨ w.heap.size ≤ b := by
  have hle := hg.len
  have hsu := hg.sum
  have hrd := rRead_spec h hb hT (by omega) (by omega) hg.map (hg.segsOk (by omega))
  have hli : (ss.length : Int) ≤ 1099511627776 := by omega
  have HLAST := Lib.hid hlast
  have HH := Lib.hid (And.intro hg (And.intro h (And.intro hb (And.intro hle hsu))))
  clear hg h hb hT hle hsu hlast
  go_enter Try.func73, Try.ntmps73
  go_upto_block 0 with (go_at_call 75; refine hrd.mono ?_; rintro e w1 ⟨v1, rfl, hR1, _, k1⟩; obtain ⟨ps, hps, hRp⟩ := hR1; obtain ⟨ao, ac, rfl, _, _⟩ := hRp.form)
  have hpl : ps.length = ss.length := by rw [← hps, List.length_map]
  rw [hpl] at hRp ⊢
  have HR := Lib.hid (And.intro hps (And.intro hRp (And.intro k1 hpl)))
  clear hrd hps hRp k1 hpl
  go_wp2_with fail
  go_loopw [7, 20] (fun tv iv wr => ∃ j : Nat, j ≤ ss.length ∧ iv = .int .i64 j ∧ tv = .int .i64 (endOf (ss.map SegL.view) j) ∧ Keep No w1 wr) (fun _ iv _ => ss.length - (intOf iv).toNat)
  case atStart => exact ⟨0, Nat.zero_le _, rfl, rfl, Keep.refl _ _⟩
  case round =>
    obtain ⟨j, hj, rfl, rfl, hK⟩ := hrel
    by_cases hlt : j < ss.length
    · have hsj : ss[j]? = some ss[j] := List.getElem?_eq_getElem hlt
      obtain ⟨u, hpj⟩ := R7At.at HR.out.1 hsj
      have he : endOf (ss.map SegL.view) (j + 1) = if ss[j].headed then (j : Int) else endOf (ss.map SegL.view) j := by
        show (if ((ss.map SegL.view)[j]?.map (·.headed)).getD false then (j : Int) else endOf (ss.map SegL.view) j) = _
        rw [List.getElem?_map, hsj]; rfl
      generalize ss[j] = s at *
      have hRr := HR.out.2.1.no hK
      have hlu := hRr.recs _ (List.mem_of_getElem? hpj)
      dsimp only at hlu
      obtain ⟨lo, lc, rfl, _, _⟩ := hlu.form
      obtain ⟨g, rfl, c0, c1, c2, c3, c4, c5⟩ := hRr.cell hpj
      dsimp only at c0 c1 c2 c3 c4 c5
      have hji : (j : Int) < (ss.length : Int) := by omega
      have HC := Lib.hid (And.intro he (And.intro hlt hK))
      generalize (if s.headed = true then (s.first : Int) else 0) = fi at *
      generalize (s.headed && !s.tail.isEmpty) = tb at *
      generalize s.bytes.length = bl at *
      clear he hlt hK hpj hsj hRr hlu hj
      cases hd : s.headed with
      | false =>
        rw [hd] at c1
        go_wp2
        go_roundw
        case rel => exact ⟨j + 1, HC.out.2.1, by go_num, by rw [HC.out.1, hd]; rfl, HC.out.2.2.alloc _⟩
        case measure => have := HC.out.2.1; simp [intOf]; omega
      | true =>
        rw [hd] at c1
        go_wp2
        go_roundw
        case rel => exact ⟨j + 1, HC.out.2.1, by go_num, by rw [HC.out.1, hd]; rfl, HC.out.2.2.alloc _⟩
        case measure => have := HC.out.2.1; simp [intOf]; omega
    · obtain rfl : j = ss.length := by omega
      rw [HLAST.out]
      have hst : R7TrimR base w q lv x k last ss (.slice ao ss.length ac) (.int .i64 0) (.int .i64 0) wr :=
        ⟨0, lv, Nat.zero_le _, rfl, rfl, by simpa [dropsOf] using HH.out.2.1.no (HR.out.2.2.1.then hK), ⟨ps, HR.out.1, by have := HR.out.2.1.no hK; exact this⟩, (HR.out.2.2.1.then hK).no, fun b h => .inl h⟩
      have hji : ¬ ((ss.length : Int) < (ss.length : Int)) := by omega
      clear hlt hj hK
      go_wp2_with fail
      go_loopw [10, 31] (fun kv iv wr => R7TrimR base w q lv x k last ss (.slice ao ss.length ac) kv iv wr) (fun _ iv _ => ss.length - (intOf iv).toNat)
      case atStart => exact hst
      case round =>
        clear hst hji
        obtain ⟨j, lv', hj, rfl, rfl, hX, hR, hK, hO⟩ := hrel
        by_cases hlt : j < ss.length
        · have hsj : ss[j]? = some ss[j] := List.getElem?_eq_getElem hlt
          have I := trim_all HH.out.1 k HLAST.out j hj
          have hcnt := trim_cnt (k := k) HH.out.1 HLAST.out j _ hsj
          have hok := HH.out.1.ok _ (List.getElem_mem hlt)
          have hnx := HH.out.1.next
          have hrn := HH.out.1.recs
          have hd : ss.drop j = ss[j] :: ss.drop (j + 1) := List.drop_eq_getElem_cons hlt
          obtain ⟨ps', hps', hRp⟩ := hR
          obtain ⟨u, hpj⟩ := R7At.at hps' hsj
          generalize ss[j] = s at *
          have hlu := hRp.recs _ (List.mem_of_getElem? hpj)
          dsimp only at hlu
          obtain ⟨lo, lc, rfl, _, _⟩ := hlu.form
          obtain ⟨g, rfl, c0, c1, c2, c3, c4, c5⟩ := hRp.cell hpj
          dsimp only at c0 c1 c2 c3 c4 c5
          have hdl := I.len
          have hxl := I.good.len
          have hxs := I.good.sum
          rw [List.length_append] at hxl
          have hdi : ((dropsOf k last ss j).length : Int) ≤ 1099511627776 := by omega
          have hji : (j : Int) < (ss.length : Int) := by omega
          have hrlb : s.recs.length ≤ 1000 := by omega
          have hrli : (s.recs.length : Int) ≤ 1099511627776 := by omega
          have hmg : mget (segs6 (x.l ++ dropsOf k last ss j)) s.n = some s.bytes := by
            rw [I.good.map]
            exact mget_mem I.good.sorted.keys (List.mem_map.2 ⟨s, by rw [hd]; simp, rfl⟩)
          have hkq := keepAt_eq k last j s
          have hdr := fun (w' : World) (kk : Keep No wr w') => rdrop_spec (hX.no kk) (Nat.le_trans HH.out.2.2.1 (hK.then kk).size) (by show (x.l ++ dropsOf k last ss j).length ≤ 1000; rw [List.length_append]; omega) (by show wsum (x.l ++ dropsOf k last ss j) ≤ _; omega) s.n
          have hdx : ({ x with l := x.l ++ dropsOf k last ss j } : RDiskS).drop s.n = (({ x with l := x.l ++ dropsOf k last ss j } : RDiskS).push ⟨s.n, [], true⟩, 0) := by
            unfold RDiskS.drop
            dsimp only
            rw [hmg]
            rfl
          rw [hdx] at hdr
          have kA : ∀ hb fi tb bl, Keep No wr (wr.alloc (.cells #[.int .u64 s.n, .bool hb, .int .u64 fi, .slice lo s.recs.length lc, .bool tb, .int .i64 bl] 146)) := fun _ _ _ _ => (Keep.refl _ _).alloc _
          have HI := Lib.hid (And.intro hX (And.intro (⟨ps', hps', hRp⟩ : R7 base wr _ ss) (And.intro hK (And.intro hO (And.intro hlt (And.intro hsj (And.intro hdr kA)))))))
          generalize (s.headed && !s.tail.isEmpty) = tb at *
          generalize s.bytes.length = bl at *
          have hf2 : s.headed = true → s.first < 4611686018427387904 := fun hh => (hok.head hh).2.1
          clear hX hK hO hlt hsj hdr I hcnt hok hnx hrn hd hlu hRp hpj hmg hdx hxl hxs hdl hps' hj kA
          by_cases hjl : (j : Int) = last
          · have hd : s.headed = true := endOf_at HLAST.out (by rw [List.getElem?_map, HI.out.2.2.2.2.2.1]; rfl) hjl
            have eD := Lib.hid (dropsOf_keep HI.out.2.2.2.2.2.1 (hkq.2 ⟨hd, .inl hjl⟩))
            clear hkq hf2
            subst hjl
            rw [hd] at c1 c2
            simp only [if_true] at c2
            go_wp2_with fail
            go_roundw
            case rel => exact ⟨j + 1, lv', HI.out.2.2.2.2.1, by go_num, by rw [eD.out], by rw [eD.out]; exact HI.out.1.no (HI.out.2.2.2.2.2.2.2 _ _ _ _), R7.no HI.out.2.1 (HI.out.2.2.2.2.2.2.2 _ _ _ _), HI.out.2.2.1.then (HI.out.2.2.2.2.2.2.2 _ _ _ _), HI.out.2.2.2.1⟩
            case measure => have := HI.out.2.2.2.2.1; simp [intOf]; omega
          · cases hd : s.headed with
            | false =>
              have hkF : keepAt k last j s = false := by
                cases hk : keepAt k last j s with
                | false => rfl
                | true => rw [(hkq.1 hk).1] at hd; cases hd
              have eD := Lib.hid (dropsOf_go HI.out.2.2.2.2.2.1 hkF)
              rw [hd] at c1 c2
              simp only [Bool.false_eq_true, if_false] at c2
              clear hkq hf2 hkF
              go_wp2_with (go_at_call 62; refine (HI.out.2.2.2.2.2.2.1 _ (HI.out.2.2.2.2.2.2.2 _ _ _ _)).mono ?_; rintro e w2 ⟨rfl, lv2, hX2, k2, hO2⟩; have HY := Lib.hid (And.intro hX2 (And.intro k2 hO2)); clear hX2 k2 hO2)
              go_roundw
              case rel =>
                have kZ : Keep (· = q) wr w2 := Keep.first (HI.out.2.2.2.2.2.2.2 _ _ _ _) HY.out.2.1
                refine ⟨j + 1, lv2, HI.out.2.2.2.2.1, by go_num, by rw [eD.out]; simp, by rw [eD.out, ← List.append_assoc]; exact HY.out.1, R7.byX HI.out.2.1 HI.out.1 kZ, HI.out.2.2.1.trans kZ (fun _ _ e => e), fun b hb => ?_⟩
                rcases HY.out.2.2 b hb with h | h
                · exact HI.out.2.2.2.1 b h
                · exact .inr (Nat.le_trans (HI.out.2.2.1.then (HI.out.2.2.2.2.2.2.2 _ _ _ _)).size h)
              case measure => have := HI.out.2.2.2.2.1; simp [intOf]; omega
            | true =>
              have hf2 := hf2 hd
              rw [hd] at c1 c2
              simp only [if_true] at c2
              by_cases hrl : 0 < s.recs.length
              · have hri : (0 : Int) < (s.recs.length : Int) := by omega
                have hw1 : IntKind.u64.wrap ((s.first : Int) + (s.recs.length : Int)) = ((s.first + s.recs.length : Nat) : Int) := by rw [IntKind.wrap_u64]; omega
                have hw0 : IntKind.u64.wrap (s.recs.length : Int) = (s.recs.length : Int) := by rw [IntKind.wrap_u64]; omega
                have hw2 : IntKind.u64.wrap (((s.first + s.recs.length : Nat) : Int) - 1) = ((s.first + s.recs.length - 1 : Nat) : Int) := by rw [IntKind.wrap_u64]; omega
                by_cases hkk : k < s.first + s.recs.length
                · have hkg : (k : Int) ≤ ((s.first + s.recs.length - 1 : Nat) : Int) := by omega
                  have eD := Lib.hid (dropsOf_keep HI.out.2.2.2.2.2.1 (hkq.2 ⟨hd, .inr ⟨hrl, hkk⟩⟩))
                  generalize s.first + s.recs.length = fr at *
                  clear hkq hf2 hrl hkk hrlb
                  go_wp2_with fail
                  go_roundw
                  case rel => exact ⟨j + 1, lv', HI.out.2.2.2.2.1, by go_num, by rw [eD.out], by rw [eD.out]; exact HI.out.1.no (HI.out.2.2.2.2.2.2.2 _ _ _ _), R7.no HI.out.2.1 (HI.out.2.2.2.2.2.2.2 _ _ _ _), HI.out.2.2.1.then (HI.out.2.2.2.2.2.2.2 _ _ _ _), HI.out.2.2.2.1⟩
                  case measure => have := HI.out.2.2.2.2.1; simp [intOf]; omega
                · have hkg : ¬ (k : Int) ≤ ((s.first + s.recs.length - 1 : Nat) : Int) := by omega
                  have hkF : keepAt k last j s = false := by
                    cases hk : keepAt k last j s with
                    | false => rfl
                    | true => rcases (hkq.1 hk).2 with h | ⟨_, h⟩ <;> contradiction
                  have eD := Lib.hid (dropsOf_go HI.out.2.2.2.2.2.1 hkF)
                  generalize s.first + s.recs.length = fr at *
                  clear hkq hf2 hrl hkk hkF hrlb
                  go_wp2_with (go_at_call 62; refine (HI.out.2.2.2.2.2.2.1 _ (HI.out.2.2.2.2.2.2.2 _ _ _ _)).mono ?_; rintro e w2 ⟨rfl, lv2, hX2, k2, hO2⟩; have HY := Lib.hid (And.intro hX2 (And.intro k2 hO2)); clear hX2 k2 hO2)
                  go_roundw
                  case rel =>
                    have kZ : Keep (· = q) wr w2 := Keep.first (HI.out.2.2.2.2.2.2.2 _ _ _ _) HY.out.2.1
                    refine ⟨j + 1, lv2, HI.out.2.2.2.2.1, by go_num, by rw [eD.out]; simp, by rw [eD.out, ← List.append_assoc]; exact HY.out.1, R7.byX HI.out.2.1 HI.out.1 kZ, HI.out.2.2.1.trans kZ (fun _ _ e => e), fun b hb => ?_⟩
                    rcases HY.out.2.2 b hb with h | h
                    · exact HI.out.2.2.2.1 b h
                    · exact .inr (Nat.le_trans (HI.out.2.2.1.then (HI.out.2.2.2.2.2.2.2 _ _ _ _)).size h)
                  case measure => have := HI.out.2.2.2.2.1; simp [intOf]; omega
              · have hri : ¬ (0 : Int) < (s.recs.length : Int) := by omega
                have hkF : keepAt k last j s = false := by
                  cases hk : keepAt k last j s with
                  | false => rfl
                  | true => rcases (hkq.1 hk).2 with h | ⟨h, _⟩ <;> contradiction
                have eD := Lib.hid (dropsOf_go HI.out.2.2.2.2.2.1 hkF)
                clear hkq hf2 hkF hrl hrlb
                go_wp2_with (go_at_call 62; refine (HI.out.2.2.2.2.2.2.1 _ (HI.out.2.2.2.2.2.2.2 _ _ _ _)).mono ?_; rintro e w2 ⟨rfl, lv2, hX2, k2, hO2⟩; have HY := Lib.hid (And.intro hX2 (And.intro k2 hO2)); clear hX2 k2 hO2)
                go_roundw
                case rel =>
                  have kZ : Keep (· = q) wr w2 := Keep.first (HI.out.2.2.2.2.2.2.2 _ _ _ _) HY.out.2.1
                  refine ⟨j + 1, lv2, HI.out.2.2.2.2.1, by go_num, by rw [eD.out]; simp, by rw [eD.out, ← List.append_assoc]; exact HY.out.1, R7.byX HI.out.2.1 HI.out.1 kZ, HI.out.2.2.1.trans kZ (fun _ _ e => e), fun b hb => ?_⟩
                  rcases HY.out.2.2 b hb with h | h
                  · exact HI.out.2.2.2.1 b h
                  · exact .inr (Nat.le_trans (HI.out.2.2.1.then (HI.out.2.2.2.2.2.2.2 _ _ _ _)).size h)
                case measure => have := HI.out.2.2.2.2.1; simp [intOf]; omega
        · obtain rfl : j = ss.length := by omega
          have hji : ¬ ((ss.length : Int) < (ss.length : Int)) := by omega
          have HE := Lib.hid (And.intro hX (And.intro hK hO))
          clear hlt hj hX hR hK hO
          go_wp2
          go_ret
          exact ⟨rfl, lv', HE.out.1, HE.out.2.1, HE.out.2.2⟩
end Go.Proofs.Ytpjggnfiocplmaa
