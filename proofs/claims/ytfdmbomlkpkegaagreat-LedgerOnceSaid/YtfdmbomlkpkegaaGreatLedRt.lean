/- The document's Told: what the records of its disk tell. -/
import Derived.Test.YtfdmbomlkpkegaaGreatRefQS
import Derived.Test.YtfdmbomlkpkegaaGreatLedCC
import Derived.Laws.Tables
import Derived.Laws.Rows
namespace Go.Proofs.YtfdmbomlkpkegaaGreat
open Go Go.RowKit Go.Dr

/-- A state's cells. -/
def stCells (inc : Nat) (fl : List Nat) (ws : List (Nat × Nat × Value)) (lv : Value) : List Value := .int .u64 inc :: (fl.map u64v ++ (ws.flatMap (fun x => [u64v x.1, u64v x.2.1, x.2.2]) ++ [lv]))
def stW0 (width k : Nat) : List (Nat × Nat × Value) := List.replicate k (0, width, .slice none 0 0) ++ List.replicate (16 - k) (0, 0, .slice none 0 0)
def stStart (width k : Nat) : List Value := stCells 0 (List.replicate 16 0) (stW0 width k) (.slice none 0 0)
theorem state_zero : Tryz.zeroCells168 = (stStart 0 0).toArray := by kernel_rfl
theorem stStart_size (width k : Nat) (hk : k ≤ 16) : (stStart width k).length = 66 := by
  have h : (stW0 width k).length = 16 := by unfold stW0; simp; omega
  unfold stStart stCells
  rw [List.length_cons, List.length_append, List.length_append, List.length_map, flatMap_len (fun x : Nat × Nat × Value => [u64v x.1, u64v x.2.1, x.2.2]) 3 (fun _ => rfl), h]
  simp
theorem stStart_set (width k : Nat) (hk : k < 16) : (stStart width k).set (17 + k * 3 + 1) (.int .u64 width) = stStart width (k + 1) := by
  match k, hk with
  | 0, _ => rfl
  | 1, _ => rfl
  | 2, _ => rfl
  | 3, _ => rfl
  | 4, _ => rfl
  | 5, _ => rfl
  | 6, _ => rfl
  | 7, _ => rfl
  | 8, _ => rfl
  | 9, _ => rfl
  | 10, _ => rfl
  | 11, _ => rfl
  | 12, _ => rfl
  | 13, _ => rfl
  | 14, _ => rfl
  | 15, _ => rfl
  | k + 16, hk => omega
theorem stStart_at (width k : Nat) (hk : k < 16) : ∃ u, (stStart width k)[17 + k * 3 + 1]? = some u := by
  have h := stStart_size width k (by omega)
  exact ⟨_, List.getElem?_eq_getElem (by omega)⟩
theorem stStart_one (width k : Nat) : (stStart width k).toArray.all (·.oneCell') = true := by
  unfold stStart stCells stW0
  simp [u64v, Value.oneCell', List.all_append]
/-- The document's ledger in memory. -/
structure R16At [bn : Inhabited Ban] (base : Nat) (w : World) (p q : Nat) (lv : Value) (x : RDiskS) (width : Nat) (size safe : Int) : Prop where
  blk : w.heap[p]? = some (.cells #[.pointer (some ⟨q, 0, none⟩), .int .u64 width, .int .i64 size, .int .i64 safe] 157 (0, 0))
  rdisk : RDiskAt base w q lv x
  pb : base ≤ p
theorem R16At.no [bn : Inhabited Ban] {base : Nat} {w w' : World} {p q : Nat} {lv : Value} {x : RDiskS} {width : Nat} {size safe : Int} (h : R16At base w p q lv x width size safe) (k : Keep No w w') : R16At base w' p q lv x width size safe :=
  ⟨k.heap h.blk (fun e => e), h.rdisk.no k, h.pb⟩
/-- A predicate of states that only blocks of states may change under. -/
structure StLaw (St : Nat → World → Array Value → Prop) : Prop where
  size : ∀ k w cs, St k w cs → cs.size = 66 ∧ cs.all (·.oneCell') = true
  keep : ∀ k a b cs F, St k a cs → Keep F a b → (∀ x, F x → ∃ cs', a.heap[x]? = some (.cells cs' 168 (0, 0))) → St k b cs
theorem results_cell_tmp {P : Program} {fn : Func} {p r : Tmp} {ty : TypeId} (h : fn.results = #[.cell p ty, .tmp r]) (tmps : Array Value) (w : World) (g : Nat) (t : TypeId) (cs : Array Value) (fr : Nat × Nat) (d : TypeDesc) (v : Value)
    (hp : tmps.getD p undef = .pointer (some ⟨g, 0, none⟩)) (hr : tmps.getD r undef = v) (hg : w.heap[g]? = some (.cells cs t fr))
    (hu : P.underlying ty = some d) (hd : (match d with | .struct _ | .array _ _ => true | _ => false) = true) (hi : (P.info? ty).map (·.size) = some cs.size) :
    (results fn tmps).run P w = .ok (.tuple #[.agg cs, v]) w := by
  have hp' : tmps[p]?.getD undef = .pointer (some ⟨g, 0, none⟩) := by simpa using hp
  have hr' : tmps[r]?.getD undef = v := by simpa using hr
  simp [results, h, hp', hr', asAddr, run_loadVar_row w g t ty cs fr d hg hu hd hi]
def toldN (n : Int) (m : Nat) : Nat := if n < 0 then m else min n.toNat m
theorem keep_setRow (w : World) (g : Nat) (cs : Array Value) : Keep (· = g) w (w.setRow g cs) :=
  ⟨rfl, rfl, rfl, by simp [World.setRow], fun b _ hn => setRow_other w g b cs hn⟩
theorem info_state : (Tryz.prog.info? 168).map (·.size) = some 66 := by kernel_rfl
set_option maxRecDepth 100000 in
set_option maxHeartbeats 8000000 in
theorem r16Told_spec [bn : Inhabited Ban] {base : Nat} {w : World} {p q : Nat} {lv : Value} {x : RDiskS} {width : Nat} {size safe : Int} {ss : List SegL} {St : Nat → World → Array Value → Prop} (h : R16At base w p q lv x width size safe) (hb : base ≤ w.heap.size) (hT : ban.top ≤ w.heap.size)
    (hl : x.l.length ≤ 1000) (hs : wsum x.l ≤ 1099511627776) (hm : segs6 x.l = segMap ss) (ho : SegsOk ss) (hrec : (recsOf ss).length ≤ 400000) (n : Int) (hn : -9223372036854775808 ≤ n ∧ n ≤ 9223372036854775807) (hL : StLaw St)
    (h0 : ∀ w', Keep No w w' → St 0 w' (stStart width 16).toArray)
    (hone : ∀ (k : Nat) (r : Bytes) (w' : World) (cs : Array Value) (pv : Value), (recsOf ss)[k]? = some r → Keep No w w' → St k w' cs → BytesAt base w' pv r →
      Calls Tryz.prog 127 #[.agg cs, pv] w' fun e w2 => ∃ cs', e = .returned (.tuple #[.agg cs', .bool true]) ∧ St (k + 1) w2 cs' ∧ Keep No w' w2) :
    Calls Tryz.prog 74 #[.pointer (some ⟨p, 0, none⟩), .int .i64 n] w fun e w' => ∃ cs, e = .returned (.tuple #[.agg cs, .int .i64 0]) ∧ St (toldN n (recsOf ss).length) w' cs ∧ Keep No w w' := by
  have cp := fun i => cell_of h.blk i
  have c0 := cp 0
  have c1 := cp 1
  simp at c0 c1
  obtain ⟨rs, hrs⟩ : ∃ rs, rs = recsOf ss := ⟨_, rfl⟩
  rw [← hrs] at hrec hone ⊢
  have HH := Lib.hid (And.intro h (And.intro hb (And.intro hT (And.intro hl (And.intro hs (And.intro hm (And.intro ho (And.intro hrec (And.intro hn (And.intro hL (And.intro h0 hone)))))))))))
  have HS := Lib.hid hrs
  clear h hb hT hl hs hm ho hrec hn hL h0 hone cp hrs
  go_enter Tryz.func74, Tryz.ntmps74
  go_upto_region 3 with fail
  rw [state_zero]
  obtain ⟨W, hW⟩ : ∃ W, W = (w.alloc (.cells (stStart 0 0).toArray 168)).alloc (.cells (stStart 0 0).toArray 168) := ⟨_, rfl⟩
  have hz4 : W.heap[w.heap.size]? = some (.cells (stStart 0 0).toArray 168 (0, 0)) := by
    rw [hW]
    exact ((Keep.refl No _).alloc _).heap (heap_new w _) (fun e => e)
  have hz6 : W.heap[w.heap.size + 1]? = some (.cells (stStart width 0).toArray 168 (0, 0)) := by
    rw [hW]
    have := heap_new (w.alloc (.cells (stStart 0 0).toArray 168)) (.cells (stStart 0 0).toArray 168)
    rw [World.size_alloc] at this
    exact this
  have kW : Keep No w W := by rw [hW]; exact ((Keep.refl _ _).alloc _).alloc _
  rw [← hW]
  clear hW
  have hpl : p < w.heap.size := heap_lt HH.out.1.blk
  have hp4 : ¬ p = w.heap.size := by omega
  have hp6 : ¬ p = w.heap.size + 1 := by omega
  have c0 := kW.cell c0 (fun e => e)
  have c1 := kW.cell c1 (fun e => e)
  obtain ⟨b6, hb6⟩ : ∃ b6, b6 = w.heap.size + 1 := ⟨_, rfl⟩
  rw [← hb6] at hz6 hp6 ⊢
  have hz4n : ¬ w.heap.size = b6 := by omega
  have HW := Lib.hid (And.intro hz4 (And.intro kW (And.intro hb6 hpl)))
  clear kW hb6 hpl
  go_wp2_with fail
  go_loopw [13] (fun v13 wr => ∃ k, v13 = .int .i64 (k : Nat) ∧ k ≤ 16 ∧ wr.heap[b6]? = some (.cells (stStart width k).toArray 168 (0, 0)) ∧ Keep (· = b6) W wr) (fun v13 _ => 16 - (intOf v13).toNat)
  case atStart => exact ⟨0, rfl, Nat.zero_le _, hz6, Keep.refl _ _⟩
  case round =>
    obtain ⟨k, rfl, hk, hz, kr⟩ := hrel
    have c0 := kr.cell c0 hp6
    have c1 := kr.cell c1 hp6
    by_cases hlt : k < 16
    · have hki : (k : Int) < 16 := by omega
      obtain ⟨u, hu⟩ := stStart_at width k hlt
      have cu := cell_of hz (17 + k * 3 + 1)
      rw [List.getElem?_toArray, hu] at cu
      have fu := frozen_of hz (17 + k * 3 + 1)
      have hs := heap_setCell_same (i := 17 + k * 3 + 1) (u := .int .u64 width) hz
      rw [List.setIfInBounds_toArray, stStart_set width k hlt] at hs
      have ks : Keep (· = b6) W (wr.setCell ⟨b6, 17 + k * 3 + 1, none⟩ (.int .u64 width)) := kr.setCell (.inl rfl) _
      have HR := Lib.hid (And.intro hs (And.intro ks hlt))
      clear hs ks hlt hz hu hk kr hz6 hz4
      go_wp2_with fail
      go_roundw
      case rel => exact ⟨k + 1, by congr 1, by have := HR.out.2.2; omega, HR.out.1, HR.out.2.1⟩
      case measure => have := HR.out.2.2; simp [intOf]; omega
    · have hke : k = 16 := by omega
      subst hke
      have HR := Lib.hid (And.intro hz kr)
      clear hz kr hk hlt hz6 hz4
      have kw : Keep No w wr := HW.out.2.1.trans HR.out.2 (fun c hc e => by have := HW.out.2.2.1; have e : c = b6 := e; omega)
      have hrd := rRead_spec (HH.out.1.rdisk.no kw) (Nat.le_trans HH.out.2.1 kw.size) (Nat.le_trans HH.out.2.2.1 kw.size) HH.out.2.2.2.1 HH.out.2.2.2.2.1 HH.out.2.2.2.2.2.1 HH.out.2.2.2.2.2.2.1
      have hz6r := HR.out.1
      have HK := Lib.hid kw
      clear kw
      go_upto_region 9 with (go_at_call 125; refine hrd.mono ?_; rintro e w1 ⟨v1, rfl, h71, _, k1⟩)
      have hall := rAll_spec h71 (Nat.le_trans HH.out.2.1 (HK.out.then k1).size) HH.out.2.2.2.2.2.2.1.few (by rw [← HS.out]; exact HH.out.2.2.2.2.2.2.2.1)
      rw [← HS.out] at hall
      have hz61 := k1.heap hz6r (fun e => e)
      have HA := Lib.hid k1
      clear hrd h71 k1
      refine hall.mono ?_
      rintro e w2 ⟨v2, rfl, hrl, k2⟩
      have hz62 := k2.heap hz61 (fun e => e)
      have k02 := (HK.out.then HA.out).then k2
      have hz42 : w2.heap[w.heap.size]? = some (.cells (stStart 0 0).toArray 168 (0, 0)) := (HA.out.then k2).heap (HR.out.2.heap HW.out.1 hz4n) (fun e => e)
      obtain ⟨o2, cap2, rfl, _, _⟩ := hrl.form
      have hst0 := HH.out.2.2.2.2.2.2.2.2.2.2.1 w2 k02
      have hlen := HH.out.2.2.2.2.2.2.2.1
      have hli : (rs.length : Int) ≤ 400000 := by omega
      have HL := Lib.hid (And.intro hrl (And.intro k02 (And.intro hz42 (And.intro hz62 (And.intro hst0 hlen)))))
      clear hall hrl k2 hz42 hst0 hlen hz61 hz6r k02
      go_upto_region 10 with fail
      go_wp2_with fail
      go_loopw [40] (fun v40 wr => ∃ k cs, v40 = .int .i64 (k : Nat) ∧ k ≤ rs.length ∧ (n < 0 ∨ (k : Int) ≤ n) ∧ wr.heap[b6]? = some (.cells cs 168 (0, 0)) ∧ St k wr cs ∧ Keep (· = b6) w2 wr) (fun v40 _ => rs.length - (intOf v40).toNat)
      case atStart => exact ⟨0, _, rfl, Nat.zero_le _, by omega, HL.out.2.2.2.1, HL.out.2.2.2.2.1, Keep.refl _ _⟩
      case round =>
        obtain ⟨k, cs, rfl, hk, hkn, hz, hst, kr⟩ := hrel
        obtain ⟨hsz, hone⟩ := HH.out.2.2.2.2.2.2.2.2.2.1.size _ _ _ hst
        have hinf : (Tryz.prog.info? 168).map (·.size) = some cs.size := by rw [hsz]; exact info_state
        by_cases hA : k < rs.length ∧ (n < 0 ∨ (k : Int) < n)
        · obtain ⟨hlt, hn⟩ := hA
          have hx : rs[k]? = some rs[k] := List.getElem?_eq_getElem hlt
          generalize rs[k] = r at hx
          obtain ⟨g, u, hgo, cu, bu⟩ := HL.out.1.cell hx
          subst hgo
          obtain ⟨uo, uc, rfl⟩ := bu.form
          have hgb : ¬ g = b6 := fun e => by
            subst e
            obtain ⟨us, _, _, hrr⟩ := HL.out.1
            obtain ⟨_, cur, hz'⟩ := row_kind hrr g (by rfl)
            rw [HL.out.2.2.2.1] at hz'
            simp at hz'
          have cu := kr.cell cu hgb
          have hki : (k : Int) < (rs.length : Int) := by omega
          have hk2 := Nat.succ_le_of_lt hlt
          have kk := HL.out.2.1.trans kr (fun c hc e => by have := HW.out.2.2.1; have e : c = b6 := e; omega)
          have hFb : Foot base w2 (· = b6) := fun b e => by
            have e : b = b6 := e
            subst e
            have h1 := HW.out.2.2.1
            have h2 := HH.out.2.1
            exact ⟨by omega, heap_lt HL.out.2.2.2.1, fun cs fr e => by rw [HL.out.2.2.2.1] at e; simp at e⟩
          have hcall := HH.out.2.2.2.2.2.2.2.2.2.2.2 k r wr cs _ hx kk hst (bu.keep hFb kr)
          have HE := Lib.hid (And.intro hlt (And.intro hn (And.intro kk kr)))
          clear hst kk kr hlt hx bu hk hkn hFb
          have hge : 0 ≤ n ∧ ¬ n ≤ (k : Int) ∨ ¬ 0 ≤ n := by rcases hn with h | h <;> omega
          clear hn
          rcases hge with ⟨q1, q2⟩ | q1
          all_goals
            go_upto_region 14 with fail
            go_upto_region 15 with fail
            go_wp2_with (refine wpList_load_row rfl 168 _ rfl b6 rfl 168 cs (0, 0) _ hz Tryz.underlying168 rfl hinf ?_)
            refine hcall.mono ?_
            rintro e w3 ⟨cs', rfl, hst3, k3⟩
            have hz3 := k3.heap hz (fun e => e)
            obtain ⟨hsz3, hone3⟩ := HH.out.2.2.2.2.2.2.2.2.2.1.size _ _ _ hst3
            have hinf3 : (Tryz.prog.info? 168).map (·.size) = some cs'.size := by rw [hsz3]; exact info_state
            have hss : cs.size = cs'.size := by rw [hsz, hsz3]
            have hst4 := HH.out.2.2.2.2.2.2.2.2.2.1.keep _ _ _ _ (· = b6) hst3 (keep_setRow w3 b6 cs') (fun x e => by have e : x = b6 := e; subst e; exact ⟨_, hz3⟩)
            have hz4 := setRow_heap w3 b6 cs cs' _ _ hz3
            have H4 := Lib.hid (And.intro hst4 (And.intro hz4 ((HE.out.2.2.2.then k3).trans (keep_setRow w3 b6 cs') (fun c hc e => e))))
            clear hst3 hst4 hz4 hsz hsz3
            go_wp2_with (refine wpList_store_row rfl 168 _ _ rfl b6 cs' rfl rfl 168 cs hz3 hinf3 hss hone3 ?_)
            go_roundw
            case rel => exact ⟨k + 1, _, by congr 1, by have := HE.out.1; omega, by rcases HE.out.2.1 with h | h <;> omega, H4.out.2.1, H4.out.1, H4.out.2.2⟩
            case measure => have := HE.out.1; simp [intOf]; omega
        · have hK : toldN n rs.length = k := by unfold toldN; split <;> omega
          have hz4 := kr.heap HL.out.2.2.1 hz4n
          have kk := HL.out.2.1.trans kr (fun c hc e => by have := HW.out.2.2.1; have e : c = b6 := e; omega)
          have HE := Lib.hid (And.intro hst (And.intro kk (And.intro hK hone)))
          have hcs : k < rs.length ∧ 0 ≤ n ∧ n ≤ (k : Int) ∨ ¬ (k : Int) < (rs.length : Int) := by omega
          clear hst kk hK hone hA hk hkn
          rcases hcs with ⟨q1, q2, q3⟩ | q1
          · have q1 : (k : Int) < (rs.length : Int) := by omega
            obtain ⟨r, hx⟩ : ∃ r, rs[k]? = some r := ⟨_, List.getElem?_eq_getElem (by omega)⟩
            obtain ⟨g, u, hgo, cu, bu⟩ := HL.out.1.cell hx
            subst hgo
            obtain ⟨uo, uc, rfl⟩ := bu.form
            have hgb : ¬ g = b6 := fun e => by
              subst e
              obtain ⟨us, _, _, hrr⟩ := HL.out.1
              obtain ⟨_, cur, hz'⟩ := row_kind hrr g (by rfl)
              rw [HL.out.2.2.2.1] at hz'
              simp at hz'
            have cu := kr.cell cu hgb
            clear kr bu hx
            go_upto_region 19 with fail
            go_wp2_with (first | (refine wpList_load_row rfl 168 _ rfl b6 rfl 168 cs (0, 0) _ hz Tryz.underlying168 rfl hinf ?_) | (refine wpList_store_row rfl 168 _ _ rfl w.heap.size cs rfl rfl 168 _ hz4 hinf (by rw [hsz]; rfl) HE.out.2.2.2 ?_))
            have hz9 := setRow_heap wr w.heap.size _ cs _ _ hz4
            refine bodyPost_ret (v := .tuple #[.agg cs, .int .i64 0]) (results_cell_tmp rfl _ _ w.heap.size 168 cs (0, 0) _ _ rfl rfl hz9 Tryz.underlying168 rfl hinf) rfl ⟨cs, rfl, ?_, HE.out.2.1.trans (keep_setRow wr w.heap.size cs) (fun c hc e => by have e : c = w.heap.size := e; omega)⟩
            rw [HE.out.2.2.1]
            exact HH.out.2.2.2.2.2.2.2.2.2.1.keep _ _ _ _ (· = w.heap.size) HE.out.1 (keep_setRow wr w.heap.size cs) (fun x e => by have e : x = w.heap.size := e; subst e; exact ⟨_, hz4⟩)
          · clear kr
            go_upto_region 19 with fail
            go_wp2_with (first | (refine wpList_load_row rfl 168 _ rfl b6 rfl 168 cs (0, 0) _ hz Tryz.underlying168 rfl hinf ?_) | (refine wpList_store_row rfl 168 _ _ rfl w.heap.size cs rfl rfl 168 _ hz4 hinf (by rw [hsz]; rfl) HE.out.2.2.2 ?_))
            have hz9 := setRow_heap wr w.heap.size _ cs _ _ hz4
            refine bodyPost_ret (v := .tuple #[.agg cs, .int .i64 0]) (results_cell_tmp rfl _ _ w.heap.size 168 cs (0, 0) _ _ rfl rfl hz9 Tryz.underlying168 rfl hinf) rfl ⟨cs, rfl, ?_, HE.out.2.1.trans (keep_setRow wr w.heap.size cs) (fun c hc e => by have e : c = w.heap.size := e; omega)⟩
            rw [HE.out.2.2.1]
            exact HH.out.2.2.2.2.2.2.2.2.2.1.keep _ _ _ _ (· = w.heap.size) HE.out.1 (keep_setRow wr w.heap.size cs) (fun x e => by have e : x = w.heap.size := e; subst e; exact ⟨_, hz4⟩)
end Go.Proofs.YtfdmbomlkpkegaaGreat
