/- The document's Read. -/
import Derived.Test.YtlbjkmpdakmgeaaDoorTaleLn
import Derived.Test.YtlbjkmpdakmgeaaDoorTaleY
namespace Go.Proofs.YtlbjkmpdakmgeaaDoor
open Go Go.RowKit

def ditemL (x : Item) : List Value := (dvC x.1 x.2.1 x.2.2).toList
structure DvRow (base : Nat) (w : World) (B : Nat) (v : Value) (its : List Item) : Prop where
  row : w.ownsRow B 33 11 v its.length (its.flatMap ditemL)
  bytes : ∀ x ∈ its, BytesAt (bn := noBan) base w x.2.1 x.1.body ∧ BytesAt (bn := noBan) base w x.2.2 x.1.p
theorem ditemL_len (x : Item) : (ditemL x).length = 11 := rfl
theorem DvRow.nil (base : Nat) (w : World) (B : Nat) : DvRow base w B (.slice none 0 0) [] := ⟨World.ownsRow_nil _ _ _ _, by simp⟩
theorem DvRow.keep {base B : Nat} {w w' : World} {v : Value} {its : List Item} {F : Nat → Prop} (h : DvRow base w B v its) (hk : Keep F w w') (hF : Foot base w F) (hv : ∀ b, v.ownBlock = some b → ¬ F b) : DvRow base w' B v its :=
  ⟨row_keepW h.row hk hv, fun x hx => ⟨BytesAt.keep (bn := noBan) (h.bytes x hx).1 hF hk, BytesAt.keep (bn := noBan) (h.bytes x hx).2 hF hk⟩⟩
theorem DvRow.no {base B : Nat} {w w' : World} {v : Value} {its : List Item} (h : DvRow base w B v its) (hk : Keep No w w') : DvRow base w' B v its := h.keep hk (Foot.no _ _) (fun _ _ e => e)
theorem dflat_at : ∀ (its : List Item) (j : Nat) (x : Item), its[j]? = some x → ∀ k, k < 11 → (its.flatMap ditemL)[j * 11 + k]? = (ditemL x)[k]?
  | [], _, _, h, _, _ => by simp at h
  | y :: r, 0, x, h, k, hk => by
    simp at h
    subst h
    rw [List.flatMap_cons, List.getElem?_append_left (by rw [ditemL_len]; omega)]
    simp
  | y :: r, j + 1, x, h, k, hk => by
    rw [List.flatMap_cons, List.getElem?_append_right (by rw [ditemL_len]; omega), ditemL_len]
    have e : (j + 1) * 11 + k - 11 = j * 11 + k := by omega
    rw [e]
    exact dflat_at r j x (by simpa using h) k hk
theorem DvRow.cells {base B : Nat} {w : World} {v : Value} {its : List Item} (h : DvRow base w B v its) {j : Nat} {x : Item} (hj : its[j]? = some x) :
    ∃ g cap, v = .slice (some ⟨g, 0, none⟩) its.length cap ∧ B ≤ g ∧ its.length ≤ cap ∧ cap ≤ maxLen ∧ ∀ k y, k < 11 → (ditemL x)[k]? = some y → w.cell? ⟨g, j * 11 + k, none⟩ = some y := by
  have hlt := (List.getElem?_eq_some_iff.1 hj).1
  rcases h.row.2 with ⟨_, h0⟩ | ⟨g, cap, cur, rfl, h1, h2, h3, h4, h5, h6⟩
  · omega
  · refine ⟨g, cap, rfl, h1, h3, h4, fun k y hk hy => ?_⟩
    rw [cell_of h2]
    have := dflat_at its j x hj k hk
    rw [hy, ← h6, List.getElem?_take] at this
    split at this
    · simpa using this
    · cases this
/-- A document's event in a row, cell by cell. -/
theorem DvRow.at {base B : Nat} {w : World} {g cap n : Nat} {its : List Item} (h : DvRow base w B (.slice (some ⟨g, 0, none⟩) n cap) its) {j : Nat} {e : EvS} {bv pv : Value} (hj : its[j]? = some (e, bv, pv)) :
    w.cell? ⟨g, j * 11, none⟩ = some (.int .i64 e.kind) ∧ w.cell? ⟨g, j * 11 + 1, none⟩ = some (.int .i64 e.who) ∧ w.cell? ⟨g, j * 11 + 2, none⟩ = some (.int .i64 e.cls) ∧ w.cell? ⟨g, j * 11 + 3, none⟩ = some bv ∧
    w.cell? ⟨g, j * 11 + 4, none⟩ = some (.int .i64 e.ix) ∧ w.cell? ⟨g, j * 11 + 5, none⟩ = some (.int .i64 e.pos) ∧ w.cell? ⟨g, j * 11 + 6, none⟩ = some (.int .u8 e.val.toNat) ∧ w.cell? ⟨g, j * 11 + 7, none⟩ = some (.int .i64 e.keep) ∧
    w.cell? ⟨g, j * 11 + 8, none⟩ = some (.int .i64 e.torn) ∧ w.cell? ⟨g, j * 11 + 9, none⟩ = some (.bool e.on) ∧ w.cell? ⟨g, j * 11 + 10, none⟩ = some pv := by
  obtain ⟨g', cap', he, _, _, _, hc⟩ := h.cells hj
  simp only [Value.slice.injEq, Option.some.injEq, Addr.mk.injEq] at he
  obtain ⟨⟨rfl, _, _⟩, _, _⟩ := he
  exact ⟨hc 0 _ (by decide) rfl, hc 1 _ (by decide) rfl, hc 2 _ (by decide) rfl, hc 3 _ (by decide) rfl, hc 4 _ (by decide) rfl, hc 5 _ (by decide) rfl, hc 6 _ (by decide) rfl, hc 7 _ (by decide) rfl, hc 8 _ (by decide) rfl, hc 9 _ (by decide) rfl, hc 10 _ (by decide) rfl⟩
theorem info_devent : (Tryd.prog.info? 33).map (fun i => (i.zero, i.size, i.bytes)) = some (some (.agg #[.int .i64 0, .int .i64 0, .int .i64 0, .slice none 0 0, .int .i64 0, .int .i64 0, .int .u8 0, .int .i64 0, .int .i64 0, .bool false, .slice none 0 0]), 11, 120) := by kernel_rfl
theorem wpList_append_dv {w : World} {ops : Array Oper} {rest : List Oper} {o : Oper} {a : Act} {Q : Exit → Act → World → Prop}
    (hg : o.guard = none) (s x : Operand) (hop : o.op = Op.call { callee := Callee.builtin Builtin.append, args := #[s, x], argTypes := #[60, 60] })
    {base B : Nat} {v : Value} {its : List Item} (hr : DvRow base w B v its) (e : EvS) (bv pv : Value) {g : Nat} {fr : Nat × Nat} (hz : w.heap[g]? = some (.cells (dvC e bv pv) 33 fr))
    (hbv : BytesAt (bn := noBan) base w bv e.body) (hpv : BytesAt (bn := noBan) base w pv e.p) (hf1 : bv.oneCell' = true) (hf2 : pv.oneCell' = true)
    (hs : a.eval s = v) (hx : a.eval x = .slice (some ⟨g, 0, none⟩) 1 1) (hlen : its.length ≤ 1000000) (hB : B ≤ w.heap.size) (hbB : base ≤ B)
    (hK : ∀ vo vc w', DvRow base w' B (.slice vo (its.length + 1) vc) (its ++ [(e, bv, pv)]) → Keep (fun b => v.ownBlock = some b) w w' → wpList Tryd.prog ops Q rest (a.put o.dst (.slice vo (its.length + 1) vc)) w') :
    wpList Tryd.prog ops Q (o :: rest) a w := by
  refine wpList_plain hg fun K hK' => ?_
  obtain ⟨i0, hi, hz0, hz1, hz2⟩ := info_parts info_devent
  have h1c : ∀ u ∈ ditemL (e, bv, pv), u.oneCell' = true := by
    intro u hu
    replace hu : u ∈ [Value.int .i64 e.kind, .int .i64 e.who, .int .i64 e.cls, bv, .int .i64 e.ix, .int .i64 e.pos, .int .u8 e.val.toNat, .int .i64 e.keep, .int .i64 e.torn, .bool e.on, pv] := hu
    simp only [List.mem_cons, List.not_mem_nil, or_false] at hu
    rcases hu with rfl | rfl | rfl | rfl | rfl | rfl | rfl | rfl | rfl | rfl | rfl <;> first | rfl | assumption
  obtain ⟨v', w', hrun, h1, h2, _⟩ := run_append_own (P := Tryd.prog) w B 60 o.type 33 i0 _ 11 120 Tryd.underlying60 hi hz0 hz1 hz2 rfl (by decide) v its.length (its.flatMap ditemL) hr.row
      ⟨g, 0, none⟩ 1 1 (ditemL (e, bv, pv)) rfl (World.news_of_block (cs := dvC e bv pv) hz) h1c (by unfold maxLen; omega) (by omega) hB
  obtain ⟨vo, vc, rfl, _, _⟩ := row_form h1
  unfold Oper.wp
  simp [execOp, hop, resolve, invoke, builtin, hs, hx, hrun, Result.andThen]
  have k := own_grown h2
  have hF : Foot base w (fun b => v.ownBlock = some b) := fun b hb => by
    obtain ⟨q1, cu, q2⟩ := row_kind hr.row b hb
    exact ⟨by omega, heap_lt q2, fun cs fr e => by rw [q2] at e; simp at e⟩
  refine hK' _ _ (hK vo vc w' ⟨by simpa using h1, fun z hz => ?_⟩ k)
  rcases List.mem_append.1 hz with hz | hz
  · exact ⟨BytesAt.keep (bn := noBan) (hr.bytes z hz).1 hF k, BytesAt.keep (bn := noBan) (hr.bytes z hz).2 hF k⟩
  · simp at hz
    subst hz
    exact ⟨BytesAt.keep (bn := noBan) hbv hF k, BytesAt.keep (bn := noBan) hpv hF k⟩



theorem DvRow.mono {base B B' : Nat} {w : World} {v : Value} {its : List Item} (h : DvRow base w B v its) (hB : B' ≤ B) : DvRow base w B' v its := by
  refine ⟨⟨h.row.1, ?_⟩, h.bytes⟩
  rcases h.row.2 with h3 | ⟨g, cap, cur, e, h3, h4, h5⟩
  · exact .inl h3
  · exact .inr ⟨g, cap, cur, e, Nat.le_trans hB h3, h4, h5⟩
def RReadPost (base : Nat) (w : World) : Option (List EvS) → Ending → World → Prop
  | some l, e, w' => Keep No w w' ∧ ∃ v its, e = .returned (.tuple #[v, .int .i64 0]) ∧ DvRow base w' w.heap.size v its ∧ its.map (·.1) = l
  | none, e, w' => Keep No w w' ∧ e = .returned (.tuple #[.slice none 0 0, .int .i64 10])
theorem splitC_each {c : UInt8} {s t : List UInt8} (h : t ∈ splitC c s) : t.length ≤ s.length := splitC_word_len c s t h
set_option maxRecDepth 100000 in
set_option maxHeartbeats 4000000 in
theorem rread_spec {base : Nat} {w : World} (hbase : base ≤ w.heap.size) (s : List UInt8) (hs : s.length ≤ 1000) :
    Calls Tryd.prog 29 #[strV s] w (RReadPost base w (readF s)) := by
  obtain ⟨R, hR⟩ : ∃ R, R = readF s := ⟨_, rfl⟩
  rw [← hR]
  obtain ⟨S, hS⟩ : ∃ S, S = strB s := ⟨_, rfl⟩
  have hsz : S.size = s.length := by rw [hS]; simp [ByteArray.size]
  show Calls Tryd.prog 29 #[.string (strB s)] w _
  rw [← hS]
  have hq : ¬ (20000 : Int) < (S.size : Int) := by omega
  have hls := rlines_spec (w := w) s (by omega)
  rw [show strV s = .string S by rw [hS]] at hls
  obtain ⟨ls, hlse⟩ : ∃ ls, ls = splitC 10 s := ⟨_, rfl⟩
  have hll : ls.length ≤ 1001 := by have := splitC_len 10 s; rw [← hlse] at this; omega
  have hle : ∀ t ∈ ls, t.length ≤ 1000 := fun t ht => by have := splitC_each (c := 10) (s := s) (by rw [← hlse]; exact ht); omega
  rw [← hlse] at hls
  have HH := Lib.hid (And.intro hR (And.intro hbase (And.intro hlse (And.intro hll hle))))
  clear hR hbase hs hS hsz hlse hll hle
  go_enter Tryd.func29, Tryd.ntmps29
  go_wp2_with fail
  refine hls.mono ?_
  rintro r w1 ⟨lv, rfl, hst, k1⟩
  clear hls
  obtain ⟨lo, lc, rfl⟩ := hst.form
  have hli : (ls.length : Int) ≤ 1001 := by have := HH.out.2.2.2.1; omega
  have HL := Lib.hid (And.intro hst k1)
  clear hst k1
  go_wp2_with fail
  go_loopw [4, 15] (fun vs i wr => ∃ (j : Nat) (its : List Item), j ≤ ls.length ∧ i = .int .i64 j ∧ readL (ls.take j) = some (its.map (·.1)) ∧ its.length ≤ j ∧ DvRow base wr w1.heap.size vs its ∧ Keep No w1 wr) (fun _ i _ => ls.length - (intOf i).toNat)
  case atStart => exact ⟨0, [], Nat.zero_le _, rfl, rfl, Nat.le_refl _, DvRow.nil _ _ _, Keep.refl _ _⟩
  case round =>
    obtain ⟨j, its, hj, rfl, hrd, hij, hr, hk⟩ := hrel
    obtain ⟨vo, vc, rfl, hv1, hv2⟩ := row_form hr.row
    by_cases hlt : j < ls.length
    · obtain ⟨x, hx⟩ : ∃ x, ls[j]? = some x := ⟨_, List.getElem?_eq_getElem hlt⟩
      obtain ⟨lg, lc', he, hlc1, hlc2, _, hlcell⟩ := HL.out.1.cells (by intro h; rw [h] at hlt; simp at hlt)
      simp only [Value.slice.injEq] at he
      obtain ⟨rfl, _, rfl⟩ := he
      have hcx := hk.cell (hlcell j x hx) (fun e => e)
      obtain ⟨T, hT⟩ : ∃ T, T = strB x := ⟨_, rfl⟩
      rw [show strV x = .string T by rw [hT]] at hcx
      have hl : T.toList = x := by rw [hT, ByteArray.toList_mk]
      have htk : ls.take (j + 1) = ls.take j ++ [x] := by
        obtain ⟨h1, h2⟩ := List.getElem?_eq_some_iff.1 hx
        rw [List.take_succ_eq_append_getElem h1, h2]
      have hlti : (j : Int) < (ls.length : Int) := by omega
      have hdone : skipF x = true → ∃ (j' : Nat) (its' : List Item), j' ≤ ls.length ∧ Value.int .i64 ((j : Int) + 1) = .int .i64 j' ∧ readL (ls.take j') = some (its'.map (·.1)) ∧ its'.length ≤ j' ∧ DvRow base wr w1.heap.size (.slice vo its.length vc) its' ∧ Keep No w1 wr := fun h =>
        ⟨j + 1, its, hlt, rfl, by rw [htk]; exact readL_skip hrd h, by omega, hr, hk⟩
      have HB := Lib.hid (And.intro hrd (And.intro hij (And.intro hr (And.intro hk (And.intro hlt (And.intro hx (And.intro htk hdone)))))))
      clear hrd hij hr hk hlt htk hdone hlcell hj hv1 hv2
      cases x with
      | nil =>
        have hq0 : T.toList = [] := hl
        clear hl hT hx
        go_wp2_with fail
        go_roundw
        case rel => exact HB.out.2.2.2.2.2.2.2 rfl
        case measure => have := HB.out.2.2.2.2.1; simp [intOf]; omega
      | cons c r =>
        have hq0 : (T.toList == []) = false := by rw [hl]; rfl
        have hq1 : T.toList.isEmpty = false := by rw [hl]; rfl
        have hix := index_str 9 (by kernel_rfl) (c :: r) 0 c rfl
        rw [← hT] at hix
        replace hix : ∀ w : World, (Instr.index 9 (.string T) (.int .i64 0)).run Tryd.prog w = .ok (.int .u8 c.toNat) w := hix
        by_cases hc : c = 35
        · subst hc
          clear hl hT hx
          replace hix : ∀ w : World, (Instr.index 9 (.string T) (.int .i64 0)).run Tryd.prog w = .ok (.int .u8 35) w := hix
          go_wp2_with fail
          go_roundw
          case rel => exact HB.out.2.2.2.2.2.2.2 rfl
          case measure => have := HB.out.2.2.2.2.1; simp [intOf]; omega
        · have hqc : ((c.toNat : Int) == 35) = false := by
            rw [beq_eq_false_iff_ne]
            intro e
            exact hc (UInt8.toNat_inj.1 (by simp; omega))
          have hsk : skipF (c :: r) = false := by simp [skipF, hc]
          have hps := rparse_spec (base := base) (w := wr) (Nat.le_trans HH.out.2.1 (HL.out.2.then HB.out.2.2.2.1).size) (c :: r) (HH.out.2.2.2.2 _ (List.mem_of_getElem? hx))
          rw [show strV (c :: r) = .string T by rw [hT]] at hps
          have HS := Lib.hid hsk
          clear hl hT hsk hc hx
          cases hp : parseF (c :: r) with
          | none =>
            rw [hp] at hps
            have HP := Lib.hid hp
            clear hp
            go_wp2_with fail
            refine hps.mono ?_
            rintro e w3 ⟨k3, rfl⟩
            clear hps
            have kw := (HL.out.2.then HB.out.2.2.2.1).then k3
            have HK := Lib.hid kw
            clear kw k3
            unfold dvV
            go_wp2_with fail
            go_ret2
            have hls : ls = ls.take j ++ (c :: r) :: ls.drop (j + 1) := by
              obtain ⟨h1, h2⟩ := List.getElem?_eq_some_iff.1 HB.out.2.2.2.2.2.1
              rw [← h2, ← List.drop_eq_getElem_cons h1, List.take_append_drop]
            have hRe : R = none := by rw [HH.out.1, readF, ← HH.out.2.2.1, hls]; exact readL_stop HS.out HP.out
            rw [hRe]
            exact ⟨HK.out.alloc _, rfl⟩
          | some y =>
            rw [hp] at hps
            have HP := Lib.hid hp
            clear hp
            go_wp2_with fail
            refine hps.mono ?_
            rintro e w3 ⟨k3, yv, zv, rfl, hyb, hzb⟩
            clear hps
            obtain ⟨yo, yc, rfl⟩ := BytesAt.form (bn := noBan) hyb
            obtain ⟨zo, zc, rfl⟩ := BytesAt.form (bn := noBan) hzb
            have hil : its.length ≤ 1000000 := by have := HB.out.2.1; have := HB.out.2.2.2.2.1; have := HH.out.2.2.2.1; omega
            have kA := fun (w : World) o => (Keep.refl No w).alloc o
            have k1w := HL.out.2.then HB.out.2.2.2.1
            have hr4 := HB.out.2.2.1.no (k3.then ((kA w3 (.cells (dvC y (.slice yo y.body.length yc) (.slice zo y.p.length zc)) 33)).then (kA _ (.cells (dvC y (.slice yo y.body.length yc) (.slice zo y.p.length zc)) 33))))
            have hy4 := BytesAt.no (bn := noBan) hyb ((kA w3 (.cells (dvC y (.slice yo y.body.length yc) (.slice zo y.p.length zc)) 33)).then (kA _ (.cells (dvC y (.slice yo y.body.length yc) (.slice zo y.p.length zc)) 33)))
            have hz4 := BytesAt.no (bn := noBan) hzb ((kA w3 (.cells (dvC y (.slice yo y.body.length yc) (.slice zo y.p.length zc)) 33)).then (kA _ (.cells (dvC y (.slice yo y.body.length yc) (.slice zo y.p.length zc)) 33)))
            have hh4 := heap_new (w3.alloc (.cells (dvC y (.slice yo y.body.length yc) (.slice zo y.p.length zc)) 33)) (.cells (dvC y (.slice yo y.body.length yc) (.slice zo y.p.length zc)) 33)
            rw [World.size_alloc] at hh4
            have hsz : w1.heap.size ≤ ((w3.alloc (.cells (dvC y (.slice yo y.body.length yc) (.slice zo y.p.length zc)) 33)).alloc (.cells (dvC y (.slice yo y.body.length yc) (.slice zo y.p.length zc)) 33)).heap.size := (HB.out.2.2.2.1.then (k3.then ((kA w3 _).then (kA _ _)))).size
            have HK := Lib.hid (And.intro k1w k3)
            clear k1w k3 hyb hzb
            unfold dvV
            go_wp2_with (at_builtin; refine wpList_append_dv rfl _ _ rfl hr4 y (.slice yo y.body.length yc) (.slice zo y.p.length zc) hh4 hy4 hz4 rfl rfl rfl rfl hil hsz (Nat.le_trans HH.out.2.1 HL.out.2.size) ?_; intro xo xc W7 hr7 k7)
            go_roundw
            case rel =>
              refine ⟨j + 1, _, HB.out.2.2.2.2.1, by go_num, ?_, by simp; exact HB.out.2.1, hr7, ((HB.out.2.2.2.1.then HK.out.2).then ((kA _ _).then (kA _ _))).trans k7 (fun x hx e => by have := (row_kind HB.out.2.2.1.row x e).1; omega)⟩
              rw [HB.out.2.2.2.2.2.2.1, List.map_append, List.map_singleton]
              exact readL_take HB.out.1 HS.out HP.out
            case measure => have := HB.out.2.2.2.2.1; simp [intOf]; omega
    · obtain rfl : j = ls.length := by omega
      have hjj : ¬ (ls.length : Int) < (ls.length : Int) := by omega
      rw [List.take_of_length_le (Nat.le_refl _)] at hrd
      have hRe : R = some (its.map (·.1)) := by rw [HH.out.1, readF, ← HH.out.2.2.1, hrd]
      have HK := Lib.hid (And.intro hr (And.intro (HL.out.2.then hk) hRe))
      clear hr hk hlt hRe hrd hj hij
      go_wp2_with fail
      go_ret2
      rw [HK.out.2.2]
      exact ⟨HK.out.2.1, _, its, rfl, HK.out.1.mono HL.out.2.size, rfl⟩
end Go.Proofs.YtlbjkmpdakmgeaaDoor
