/- DiskFull: the walk. -/
import Derived.Test.YtpjggnfiocplmaaFull
import Derived.Test.YtpjggnfiocplmaaActs
import Derived.Test.YtpjggnfiocplmaaSeqD
namespace Go.Proofs.Ytpjggnfiocplmaa
open Go Go.RowKit Go.Dr

/-- In the first loop. -/
def F1 [bn : Inhabited Ban] (w : World) (room : Int) (p j : Nat) (wr : World) : Prop :=
  ∃ n s wv d, DiskAt w.heap.size wr p n s wv d ∧ Full1 room j d ∧ Keep No w wr ∧ ∀ b, foot p n s wv b → w.heap.size ≤ b
def F1R [bn : Inhabited Ban] (w : World) (room : Int) (p : Nat) (acts : List ActS) (i : Value) (wr : World) : Prop :=
  ∃ j : Nat, j ≤ acts.length ∧ i = .int .i64 j ∧ F1 w room p (min j 30) wr
/-- In the second loop. -/
def F2 [bn : Inhabited Ban] (w : World) (room : Int) (m : AMap) (p : Nat) (kv : Value) (j : Nat) (wr : World) : Prop :=
  ∃ n s wv d, DiskAt w.heap.size wr p n s wv d ∧ Full2 room m j d ∧ Keep No w wr ∧ (∀ b, foot p n s wv b → w.heap.size ≤ b) ∧ NumsAt wr kv (sortedKeys m)
def F2R [bn : Inhabited Ban] (w : World) (room : Int) (m : AMap) (p : Nat) (kv i : Value) (wr : World) : Prop :=
  ∃ j : Nat, j ≤ (sortedKeys m).length ∧ i = .int .i64 j ∧ F2 w room m p kv j wr
theorem DiskAt.nums [bn : Inhabited Ban] {base : Nat} {w w' : World} {p n s : Nat} {wv v : Value} {d : DiskS} {l : List Int} (h : DiskAt base w p n s wv d) (hn : NumsAt w v l) (k : Keep (foot p n s wv) w w') : NumsAt w' v l := by
  obtain ⟨ao, cap, rfl, h1, h2, h3⟩ := hn
  refine ⟨ao, cap, rfl, h1, h2, ?_⟩
  rcases h3 with h3 | ⟨g, rfl, h3⟩
  · exact .inl h3
  · refine .inr ⟨g, rfl, h3.keep k (fun hf => ?_)⟩
    obtain ⟨cs, hz, _⟩ := h3
    rcases hf with rfl | rfl | rfl | hf
    · rw [h.blk] at hz; simp at hz
    · obtain ⟨_, _, hz'⟩ := h.now.kind; rw [hz] at hz'; cases hz'
    · obtain ⟨_, _, hz'⟩ := h.safe.kind; rw [hz] at hz'; cases hz'
    · obtain ⟨_, cur, hz'⟩ := h.wait.kind g hf; rw [hz] at hz'; simp at hz'
theorem foot_next {p n s n' s' : Nat} {wv wv' : Value} {w w1 : World} (k : Keep No w w1) (h : ∀ b, foot p n s wv b → w.heap.size ≤ b) (f : ∀ b, foot p n' s' wv' b → foot p n s wv b ∨ w1.heap.size ≤ b) : ∀ b, foot p n' s' wv' b → w.heap.size ≤ b := fun b hb => by
  rcases f b hb with hb | hb
  · exact h b hb
  · exact Nat.le_trans k.size hb

set_option maxRecDepth 100000 in
set_option maxHeartbeats 4000000 in
theorem full_walk [bn : Inhabited Ban] {w : World} (hT : ban.top ≤ w.heap.size) (room : Int) (hr0 : 0 ≤ room) (hr1 : room ≤ 255) {v u : Value} {acts : List ActS} {l : Bytes} (hA : ActsAt w.heap.size w v acts) (hp : BytesAt w.heap.size w u l) :
    Calls Try.prog 6 #[.int .u8 room, v, u] w fun e w' => e = .returned (.bool true) ∧ Keep No w w' := by
  obtain ⟨ao, cap, rfl, hlc, hcm, hacts⟩ := hA
  obtain ⟨uo, uc, rfl⟩ := hp.form
  unfold maxLen at hcm
  have hlen1 : (acts.length : Int) ≤ 9223372036854775807 := by omega
  have hmax : max room 0 = room := by omega
  have hnew := fun (w' : World) (h : w.heap.size ≤ w'.heap.size) => new_spec (w := w') w.heap.size room h
  rw [hmax] at hnew
  clear hmax
  have HP := Lib.hid (And.intro hp hT)
  clear hp
  go_enter Try.func6, Try.ntmps6
  go_wp2_with fail
  refine (awake6_spec hT).mono ?_
  rintro e w1 ⟨rfl, k1⟩
  clear hT
  go_wp2_with fail
  refine (hnew _ k1.size).mono ?_
  rintro e w2 ⟨p, n, s, wv, rfl, h2, k2, f2⟩
  have hF1 : F1 w room p 0 w2 := ⟨n, s, wv, _, h2, Full1.new hr0, k1.then k2, fun b hb => Nat.le_trans k1.size (f2 b hb)⟩
  clear h2 k2 f2 k1 hnew
  go_upto_block 0 with fail
  go_cut [7] (fun pv wx => pv = .pointer (some ⟨p, 0, none⟩) ∧ F1 w room p 30 wx)
  case first =>
    go_wp2_with fail
    go_loopw [22] (fun i wr => F1R w room p acts i wr) (fun i _ => acts.length - (intOf i).toNat)
    case atStart => exact ⟨0, Nat.zero_le _, rfl, hF1⟩
    case round =>
      clear hF1
      obtain ⟨j, hj, rfl, n, s, wv, d, hD, hS, hkp, hG⟩ := hrel
      by_cases hlt : j < acts.length
      · rcases hacts with rfl | ⟨g, o, hg, rfl, hacts⟩
        · simp at hlt
        · have hji : (j : Int) < (acts.length : Int) := by omega
          have haj : acts[j]? = some acts[j] := List.getElem?_eq_getElem hlt
          obtain ⟨u, hu, e0, e1, e2, e3, e4, e5⟩ := hacts j _ haj
          generalize acts[j] = a at *
          obtain ⟨vo, vc, rfl⟩ := hu.form
          have e0 := hkp.cell e0 (fun e => e)
          have e1 := hkp.cell e1 (fun e => e)
          have e2 := hkp.cell e2 (fun e => e)
          have e3 := hkp.cell e3 (fun e => e)
          have e4 := hkp.cell e4 (fun e => e)
          have e5 := hkp.cell e5 (fun e => e)
          have hu := hu.no hkp
          have kA : Keep No wr (wr.alloc (.cells #[.int .u8 a.dop, .int .u64 a.seg, .slice vo a.p.length vc, .bool a.on, .int .i64 a.keep, .int .i64 a.torn] 29)) := (Keep.refl _ _).alloc _
          have HL := Lib.hid (And.intro hlt hG)
          clear haj hacts hlt hG
          by_cases h20 : j < 30
          · have hji20 : ¬ (30 : Int) ≤ (j : Int) := by omega
            have hSj := hS.mono (k := j) (by omega)
            have hcopy := copy_spec (hD.no kA) (Nat.le_trans hkp.size kA.size) (by have := hSj.wl; omega)
            have HS := Lib.hid hSj
            clear hS hSj
            go_wp2_with fail
            refine hcopy.mono ?_
            clear hcopy e0 e1 e2 e3 e4 e5
            rintro e w3 ⟨pc, nc, sc, wvc, rfl, hC, k3, fc⟩
            have hbx := k3.heap (heap_new wr (.cells #[.int .u8 a.dop, .int .u64 a.seg, .slice vo a.p.length vc, .bool a.on, .int .i64 a.keep, .int .i64 a.torn] 29)) (fun e => e)
            have b1 := cell_of hbx 1
            have b2 := cell_of hbx 2
            simp at b1 b2
            have kA3 := kA.then k3
            have hD3 := hD.no kA3
            have hu3 := hu.no kA3
            have hk3 := hkp.then kA3
            have hnb : ¬ foot p n s wv wr.heap.size := fun e => by have := hD.foot_lt _ e; omega
            have hcd : ∀ b, foot pc nc sc wvc b → ¬ foot p n s wv b := fun b h1 h2 => by have h3 := fc b h1; have h4 := hD.foot_lt b h2; have h5 := kA.size; omega
            have HSZ := Lib.hid (And.intro hnb hcd)
            clear hD hu hnb hcd fc hkp k3
            obtain ⟨B, hB⟩ : ∃ B, B = wr.heap.size := ⟨_, rfl⟩
            rw [← hB] at hbx b1 b2 HSZ ⊢
            clear hB kA kA3
            -- the region of the append
            obtain ⟨tk, htk⟩ : ∃ tk, a.p.take 60 = tk := ⟨_, rfl⟩
            have hl4 : tk.length ≤ 60 := by rw [← htk, List.length_take]; omega
            have HTK := Lib.hid htk
            clear htk
            go_wp2_with fail
            refine wp_drawN (fun w' => Keep (foot p n s wv) w3 w') [0, 1, 2, 3, 4] [5, 6] [7] (by kernel_rfl) (by kernel_rfl) (fun _ _ _ _ _ h => h) (Keep.refl _ _).drew ?_
            have kd : Keep No w3 w3.drew := (Keep.refl _ _).drew
            iterate 5 (refine earlyN_cons (v := ?_) rfl rfl rfl ?_ ?_; rotate_left; focus (
              intro w' hq
              have b1' := hq.cell b1 HSZ.out.1
              have b2' := hq.cell b2 HSZ.out.1
              go_simp
              try with_reducible rfl))
            refine earlyN_nil ?_
            refine midN_cons rfl rfl (fun K hK => ?_)
            go_simp
            have hc4 := cut_spec (hu3.no kd) 60 (by decide)
            rw [HTK.out] at hc4
            refine hc4.mono ?_
            rintro e w4 ⟨v4, rfl, own4, k4⟩
            have hu4 := own4.bytes (base := w.heap.size) (fun _ => Nat.le_trans HP.out.2 (hk3.then kd).size)
            have kd := kd.then k4
            clear own4
            refine hK _ _ kd.no ?_
            clear hK K
            refine midN_cons rfl rfl (fun K hK => ?_)
            go_simp
            refine (append_spec (hD3.no kd) (hk3.then kd).size (HS.out.small hr0 hr1 (by omega)) a.seg hu4 (by omega)).mono ?_
            rintro e w5 ⟨rfl, n5, s5, wv5, hD5, k5, f5⟩
            have k35 := kd.no.trans k5 (fun _ _ h => h)
            refine hK _ _ k35 ?_
            clear hK K
            refine midN_nil (tailN_cons rfl (tailN_nil ?_))
            have hC5 := hC.keep hD3.foot_ok k35 HSZ.out.2
            have hbx5 := k35.heap hbx HSZ.out.1
            have b1 := cell_of hbx5 1
            have b2 := cell_of hbx5 2
            simp at b1 b2
            have hu5 := hu3.keep hD3.foot_ok k35
            have hk5 := hk3.absorb k35 HL.out.2
            have f5 := foot_next (hk3.then kd) HL.out.2 f5
            have HC0 := Lib.hid (HS.out.append a.seg tk)
            have HB := Lib.hid (msame_refl HS.out.keys)
            have hdu : (msum d.now : Int) ≤ 255 := by have := HS.out.used; omega
            have hsame := fun w' (k : Keep No w5 w') => same_spec (hC5.no k) (hD5.no k) (hk5.then k).size
            have husedD := fun w' (k : Keep No w5 w') => used_spec (hD5.no k) (hk5.then k).size
            have husedC := fun w' (k : Keep No w5 w') => used_spec (hC5.no k) (hk5.then k).size (by omega)
            have hcut := fun w' (k : Keep No w5 w') => cut_spec (hu5.no k) 60 (by decide)
            simp only [HTK.out] at hcut
            have hwr0 : IntKind.i64.wrap room = room := IntWalk.i64_in _ (by omega)
            have HU0 := Lib.hid (And.intro hsame (And.intro husedD (And.intro husedC hcut)))
            have HW := Lib.hid (And.intro hk5 (And.intro hD5 f5))
            clear hsame husedD husedC hcut hk5 hD5 f5 hu5 hC5 hC hD3 hu3 hu4 hbx k5 k35 hk3 kd k4
            rcases HC0.out with ⟨ec, hS5, hm5⟩ | ec
            · rw [ec] at HW HU0 ⊢
              have HC := Lib.hid (And.intro True.intro hS5)
              have hused5 : (msum (d.put ⟨a.seg, tk, false⟩).now : Int) ≤ room := hS5.used
              have hnr : decide (room < (msum d.now : Int) + (tk.length : Int)) = false := by rw [hm5] at hused5; exact decide_eq_false (by omega)
              have hu1 := fun w' (k : Keep No w5 w') => HU0.out.2.1 w' k (by simp only; omega)
              simp only at hu1
              rw [hm5] at hu1
              have HU := Lib.hid (And.intro hu1 (And.intro HU0.out.2.2.1 HU0.out.2.2.2))
              have hcast : ((msum d.now + tk.length : Nat) : Int) = (msum d.now : Int) + (tk.length : Int) := by omega
              have hwr : IntKind.i64.wrap ((msum d.now : Int) + (tk.length : Int)) = (msum d.now : Int) + (tk.length : Int) := IntWalk.i64_in _ (by omega)
              clear hu1 HU0 HC0 ec hS5 hm5 hused5
              go_wp2_with fail
              refine wp_drawS (fun w' => Keep No w5 w') [([0, 2, 3], [1]), ([4, 5, 6, 7, 8, 9, 10, 11, 12, 13], [14]), ([15, 16, 17, 18, 19, 20, 21, 22, 23, 25, 27, 28], [24, 26, 29]), ([30, 31, 32, 33, 34], [])] (by kernel_rfl) (by kernel_rfl) (fun _ _ _ _ _ h => h) (Keep.refl _ _).drew ?_
              have kd : Keep No w5 w5.drew := (Keep.refl _ _).drew
              iterate 3 (refine earlyN_cons (v := ?_) rfl rfl rfl ?_ ?_; rotate_left; focus (
                intro w' hq
                go_simp
                try with_reducible rfl))
              refine earlyN_nil ?_
              refine midN_cons rfl rfl (fun K hK => ?_)
              go_simp
              refine (HU.out.1 _ kd).mono ?_
              rintro e w6 ⟨rfl, k6⟩
              have kd := kd.then k6
              refine hK _ _ kd ?_
              clear hK K
              refine midN_nil ?_
              iterate 2 (refine earlyN_cons (v := ?_) rfl rfl rfl ?_ ?_; rotate_left; focus (
                intro w' hq
                go_simp
                try with_reducible rfl))
              iterate 3 (refine earlyN_guarded (v := ?_) rfl rfl (by first | kernel_rfl | simp [Region.wanted, yielded, Act.put, undef]) ?_ ?_; rotate_left; focus (
                intro w' hq
                go_simp
                try with_reducible rfl))
              iterate 5 (refine earlyN_skip rfl rfl (by first | kernel_rfl | simp [Region.wanted, yielded, Act.put, undef]) ?_)
              refine earlyN_nil ?_
              refine midN_pass rfl (by first | kernel_rfl | simp [Region.wanted, yielded, Act.put, undef]) kd ?_
              refine midN_nil ?_
              iterate 2 (refine earlyN_skip rfl rfl (by first | kernel_rfl | simp [Region.wanted, yielded, Act.put, undef]) ?_)
              iterate 1 (refine earlyN_guarded (v := ?_) rfl rfl (by first | kernel_rfl | simp [Region.wanted, yielded, Act.put, undef]) ?_ ?_; rotate_left; focus (
                intro w' hq
                have b1' := hq.cell b1 (fun e => e)
                have b2' := hq.cell b2 (fun e => e)
                go_simp
                try with_reducible rfl))
              iterate 2 (refine earlyN_cons (v := ?_) rfl rfl rfl ?_ ?_; rotate_left; focus (
                intro w' hq
                have b1' := hq.cell b1 (fun e => e)
                have b2' := hq.cell b2 (fun e => e)
                go_simp
                try with_reducible rfl))
              iterate 3 (refine earlyN_guarded (v := ?_) rfl rfl (by first | kernel_rfl | simp [Region.wanted, yielded, Act.put, undef]) ?_ ?_; rotate_left; focus (
                intro w' hq
                have b1' := hq.cell b1 (fun e => e)
                have b2' := hq.cell b2 (fun e => e)
                go_simp
                try with_reducible rfl))
              iterate 4 (refine earlyN_guarded (v := ?_) rfl rfl (by first | kernel_rfl | simp [Region.wanted, yielded, Act.put, undef]) ?_ ?_; rotate_left; focus (
                intro w' hq
                have b1' := hq.cell b1 (fun e => e)
                have b2' := hq.cell b2 (fun e => e)
                go_simp
                try with_reducible rfl))
              refine earlyN_nil ?_
              refine midN_want rfl (by first | kernel_rfl | simp [Region.wanted, yielded, Act.put, undef]) (fun K hK => ?_)
              go_simp
              refine (HU.out.1 _ kd).mono ?_
              rintro e w7 ⟨rfl, k7⟩
              have kd := kd.then k7
              refine hK _ _ kd ?_
              clear hK K
              refine midN_want rfl (by first | kernel_rfl | simp [Region.wanted, yielded, Act.put, undef]) (fun K hK => ?_)
              go_simp
              refine (HU.out.2.1 _ kd).mono ?_
              rintro e w8 ⟨rfl, k8⟩
              have kd := kd.then k8
              refine hK _ _ kd ?_
              clear hK K
              refine midN_want rfl (by first | kernel_rfl | simp [Region.wanted, yielded, Act.put, undef]) (fun K hK => ?_)
              go_simp
              refine (HU.out.2.2 _ kd).mono ?_
              rintro e w9 ⟨v9, rfl, own9, k9⟩
              obtain ⟨o9, c9, rfl⟩ := own9.form
              have kd := kd.then k9
              refine hK _ _ kd ?_
              clear hK K own9
              refine midN_nil ?_
              iterate 4 (refine earlyN_guarded (v := ?_) rfl rfl (by first | kernel_rfl | simp [Region.wanted, yielded, Act.put, undef]) ?_ ?_; rotate_left; focus (
                intro w' hq
                go_simp
                try with_reducible rfl))
              iterate 1 (refine earlyN_cons (v := ?_) rfl rfl rfl ?_ ?_; rotate_left; focus (
                intro w' hq
                go_simp
                try with_reducible rfl))
              refine earlyN_nil ?_
              refine midN_nil ?_
              unfold stagesN

              clear b1 b2
              have kfin := HW.out.1.then kd
              go_wp2
              go_roundw
              case rel => exact ⟨j + 1, by have := HL.out.1; omega, by go_num, n5, s5, wv5, _, HW.out.2.1.no kd, HC.out.2.mono (by omega), kfin, HW.out.2.2⟩
              case measure => have := HL.out.1; simp [intOf]; omega
            · rw [ec] at HW HU0 ⊢
              have hS5 := HS.out.mono (k := j + 1) (by omega)
              have HC := Lib.hid (And.intro True.intro hS5)
              have hused5 : decide (room < (msum d.now : Int)) = false := by have := HS.out.used; exact decide_eq_false (by omega)
              have hu1 := fun w' (k : Keep No w5 w') => HU0.out.2.1 w' k (by simp only; omega)
              have hs1 := HU0.out.1
              simp only at hu1 hs1
              rw [HB.out] at hs1
              have HU := Lib.hid (And.intro hu1 (And.intro hs1 True.intro))
              clear hu1 hs1 HU0 HC0 ec hS5
              go_wp2_with fail
              refine wp_drawS (fun w' => Keep No w5 w') [([0, 2, 3], [1]), ([4, 5, 6, 7, 8, 9, 10, 11, 12, 13], [14]), ([15, 16, 17, 18, 19, 20, 21, 22, 23, 25, 27, 28], [24, 26, 29]), ([30, 31, 32, 33, 34], [])] (by kernel_rfl) (by kernel_rfl) (fun _ _ _ _ _ h => h) (Keep.refl _ _).drew ?_
              have kd : Keep No w5 w5.drew := (Keep.refl _ _).drew
              iterate 3 (refine earlyN_cons (v := ?_) rfl rfl rfl ?_ ?_; rotate_left; focus (
                intro w' hq
                go_simp
                try with_reducible rfl))
              refine earlyN_nil ?_
              refine midN_cons rfl rfl (fun K hK => ?_)
              go_simp
              refine (HU.out.1 _ kd).mono ?_
              rintro e w6 ⟨rfl, k6⟩
              have kd := kd.then k6
              refine hK _ _ kd ?_
              clear hK K
              refine midN_nil ?_
              iterate 2 (refine earlyN_cons (v := ?_) rfl rfl rfl ?_ ?_; rotate_left; focus (
                intro w' hq
                go_simp
                try with_reducible rfl))
              iterate 8 (refine earlyN_guarded (v := ?_) rfl rfl (by first | kernel_rfl | simp [Region.wanted, yielded, Act.put, undef]) ?_ ?_; rotate_left; focus (
                intro w' hq
                go_simp
                try with_reducible rfl))
              refine earlyN_nil ?_
              refine midN_want rfl (by first | kernel_rfl | simp [Region.wanted, yielded, Act.put, undef]) (fun K hK => ?_)
              go_simp
              refine (HU.out.2.1 _ kd).mono ?_
              rintro e w7 ⟨rfl, k7⟩
              have kd := kd.then k7
              refine hK _ _ kd ?_
              clear hK K
              refine midN_nil ?_
              iterate 3 (refine earlyN_guarded (v := ?_) rfl rfl (by first | kernel_rfl | simp [Region.wanted, yielded, Act.put, undef]) ?_ ?_; rotate_left; focus (
                intro w' hq
                go_simp
                try with_reducible rfl))
              iterate 2 (refine earlyN_cons (v := ?_) rfl rfl rfl ?_ ?_; rotate_left; focus (
                intro w' hq
                go_simp
                try with_reducible rfl))
              iterate 3 (refine earlyN_guarded (v := ?_) rfl rfl (by first | kernel_rfl | simp [Region.wanted, yielded, Act.put, undef]) ?_ ?_; rotate_left; focus (
                intro w' hq
                go_simp
                try with_reducible rfl))
              iterate 4 (refine earlyN_skip rfl rfl (by first | kernel_rfl | simp [Region.wanted, yielded, Act.put, undef]) ?_)
              refine earlyN_nil ?_
              refine midN_pass rfl (by first | kernel_rfl | simp [Region.wanted, yielded, Act.put, undef]) kd ?_
              refine midN_pass rfl (by first | kernel_rfl | simp [Region.wanted, yielded, Act.put, undef]) kd ?_
              refine midN_pass rfl (by first | kernel_rfl | simp [Region.wanted, yielded, Act.put, undef]) kd ?_
              refine midN_nil ?_
              iterate 3 (refine earlyN_skip rfl rfl (by first | kernel_rfl | simp [Region.wanted, yielded, Act.put, undef]) ?_)
              iterate 1 (refine earlyN_guarded (v := ?_) rfl rfl (by first | kernel_rfl | simp [Region.wanted, yielded, Act.put, undef]) ?_ ?_; rotate_left; focus (
                intro w' hq
                go_simp
                try with_reducible rfl))
              iterate 1 (refine earlyN_cons (v := ?_) rfl rfl rfl ?_ ?_; rotate_left; focus (
                intro w' hq
                go_simp
                try with_reducible rfl))
              refine earlyN_nil ?_
              refine midN_nil ?_
              unfold stagesN

              clear b1 b2
              have kfin := HW.out.1.then kd
              go_simp
              go_wp2
              go_roundw
              case rel => exact ⟨j + 1, by have := HL.out.1; omega, by go_num, n5, s5, wv5, _, HW.out.2.1.no kd, HC.out.2.mono (by omega), kfin, HW.out.2.2⟩
              case measure => have := HL.out.1; simp [intOf]; omega
          · have hji20 : (30 : Int) ≤ (j : Int) := by omega
            go_wp2
            go_meet
            exact ⟨rfl, n, s, wv, d, hD.no kA, hS.mono (by omega), hkp.then kA, HL.out.2⟩
      · have hji : ¬ (j : Int) < (acts.length : Int) := by omega
        clear hlt
        go_wp2
        go_meet
        exact ⟨rfl, n, s, wv, d, hD, hS.mono (by omega), hkp, hG⟩
  case rest =>
    clear hF1 hacts hcm hlc hlen1
    obtain ⟨rfl, n, s, wv, d, hD, hS, hk0, hG⟩ := hcut
    generalize wc = w3 at *
    obtain ⟨r, rfl⟩ := Int.eq_ofNat_of_zero_le hr0
    have hdf : ({ ({ d with full := true } : DiskS) with full := false } : DiskS) = d := by
      have h := hS.full
      cases d
      simp at h ⊢
      exact h
    have hsm := hS.small hr0 hr1 (Nat.le_refl _)
    have hsmT : Small { d with full := true } := by
      obtain ⟨a, b, c, e⟩ := hsm
      exact ⟨a, b, c, e⟩
    have hnl := hS.nl
    have hap := fun (w' : World) (n s : Nat) (wv : Value) (h : DiskAt w.heap.size w' p n s wv { d with full := true }) (hb : w.heap.size ≤ w'.heap.size) (u : Value) (l : Bytes) (hu : BytesAt w.heap.size w' u l) (hl : l.length ≤ 1099511627776) => append_spec h hb hsmT 9 hu hl
    simp only [full_on] at hap
    have HA := Lib.hid hap
    have HD := Lib.hid hdf
    have HS := Lib.hid hS
    have h5 : (l.take 5).length ≤ 1099511627776 := by rw [List.length_take]; omega
    have hc5 := fun (w' : World) (k : Keep No w w') => cut_spec (HP.out.1.no k) 5 (by decide)
    generalize l.take 5 = l5 at hc5 h5
    have HC := Lib.hid hc5
    have H5 := Lib.hid h5
    clear hap hdf hS hsm hsmT h5 hc5
    go_upto_block 2 with (first
      | (go_at_call 31; refine (dsegs_spec hD8 (by omega)).mono ?_; rintro e w9 ⟨kv, rfl, hN, k9⟩; obtain ⟨ko, kc, rfl, hkl, hkm⟩ := hN.form)
      | (go_at_call 24; refine (full_spec hD7 false).mono ?_; rintro e w8 ⟨rfl, n8, s8, wv8, hD8, k8, f8⟩; rw [HD.out] at hD8)
      | (go_at_call 17; refine (HA.out _ _ _ _ hD6 hk6.size _ _ hu6 H5.out).mono ?_; rintro e w7 ⟨rfl, n7, s7, wv7, hD7, k7, f7⟩; have hk7 := hk6.absorb k7 hG5; have hG7 := foot_next hk6 hG5 f7)
      | (go_at_call 16; refine (HC.out _ hk5).mono ?_; rintro e w6 ⟨v6, rfl, own6, k6⟩; have hu6 := own6.bytes (base := w.heap.size) (fun _ => Nat.le_trans HP.out.2 hk5.size); obtain ⟨o6, c6, rfl⟩ := own6.form; have hD6 := hD5.no k6; have hk6 := hk5.then k6)
      | (go_at_call 17; refine (HA.out _ _ _ _ hD4 hk4.size _ _ (BytesAt.nil _ _) (by decide)).mono ?_; rintro e w5 ⟨rfl, n5, s5, wv5, hD5, k5, f5⟩; have hk5 := hk4.absorb k5 hG4; have hG5 := foot_next hk4 hG4 f5)
      | (go_at_call 24; refine (full_spec hD true).mono ?_; rintro e w4 ⟨rfl, n4, s4, wv4, hD4, k4, f4⟩; have hk4 := hk0.absorb k4 hG; have hG4 := foot_next hk0 hG f4))
    have hk8 := hk7.absorb k8 hG7
    have hG8 := foot_next hk7 hG7 f8
    have hF2 : F2 w (r : Int) d.now p (.slice ko (sortedKeys d.now).length kc) 0 w9 := ⟨n8, s8, wv8, d, hD8.no k9, Full2.start HS.out, hk8.then k9, hG8, hN⟩
    have hkeys : Keys d.now := HS.out.keys
    have hlen : (sortedKeys d.now).length ≤ 30 := by rw [sortedKeys_length]; exact hnl
    have hleni : ((sortedKeys d.now).length : Int) ≤ 30 := by omega
    clear HS HD HA HC hnl hN hkl hkm hD8 hD7 hD6 hD5 hD4 k4 k5 k6 k7 k8 k9 f4 f5 f7 f8 hk4 hk5 hk6 hk7 hk8 hG4 hG5 hG7 hG8 hD hG own6 hu6 hk0
    generalize d.now = m at *
    go_cut [] (fun wx => F2 w (r : Int) m p (.slice ko (sortedKeys m).length kc) (sortedKeys m).length wx)
    case first =>
      go_wp2_with fail
      go_loopw [91] (fun i wr => F2R w (r : Int) m p (.slice ko (sortedKeys m).length kc) i wr) (fun i _ => (sortedKeys m).length - (intOf i).toNat)
      case atStart => exact ⟨0, Nat.zero_le _, rfl, hF2⟩
      case round =>
        clear hF2
        obtain ⟨j, hj, rfl, n, s, wv, d2, hD, hS, hkp, hG, hN⟩ := hrel
        by_cases hlt : j < (sortedKeys m).length
        · have hji : (j : Int) < ((sortedKeys m).length : Int) := by omega
          have hkj : (sortedKeys m)[j]? = some (sortedKeys m)[j] := List.getElem?_eq_getElem hlt
          generalize (sortedKeys m)[j] = k at *
          obtain ⟨g, rfl, hcell⟩ := hN.cell hkj
          obtain ⟨e1, e2, hS'⟩ := hS.drop hkeys hkj
          have hd1 := drop_spec hD hkp.size (hS.small hr0 hr1 (by omega)) k
          rw [e1] at hd1
          have hd2 := fun (w' : World) (n s : Nat) (wv : Value) (h : DiskAt w.heap.size w' p n s wv (d2.put ⟨k, [], true⟩)) (hb : w.heap.size ≤ w'.heap.size) => drop_spec h hb (hS'.small hr0 hr1 (by omega)) k
          rw [e2] at hd2
          generalize d2.put ⟨k, [], true⟩ = d3 at *
          have HS := Lib.hid (And.intro hS' hd2)
          have HL := Lib.hid hlt
          clear hS' hd2 hS e1 e2 hkj hlt
          go_wp2_with (first
            | (go_at_call 18; refine (HS.out.2 _ _ _ _ hD4 hk4.size).mono ?_; rintro e w5 ⟨rfl, n5, s5, wv5, hD5, k5, f5⟩)
            | (go_at_call 18; refine hd1.mono ?_; rintro e w4 ⟨rfl, n4, s4, wv4, hD4, k4, f4⟩; have hk4 := hkp.absorb k4 hG))
          have hG4 := foot_next hkp hG f4
          have hk5 := hk4.absorb k5 hG4
          have hG5 := foot_next hk4 hG4 f5
          have hN5 := hD4.nums (hD.nums hN k4) k5
          go_roundw
          case rel => exact ⟨j + 1, by have := HL.out; omega, by go_num, n5, s5, wv5, d3, hD5, HS.out.1, hk5, hG5, hN5⟩
          case measure => have := HL.out; simp [intOf]; omega
        · have hji : ¬ (j : Int) < ((sortedKeys m).length : Int) := by omega
          have hje : j = (sortedKeys m).length := by omega
          subst hje
          clear hlt
          go_wp2
          go_meet
          exact ⟨n, s, wv, d2, hD, hS, hkp, hG, hN⟩
    case rest =>
      clear hF2
      obtain ⟨n, s, wv, d2, hD, hS, hkp, hG, _⟩ := hcut
      generalize wc = w10 at *
      have hnow := hS.done
      obtain ⟨w11, hrun, hown, hgr⟩ := make_bytes w10 w.heap.size r (by omega) hkp.size
      have k11 : Keep No w10 w11 := (Keep.refl _ _).grown hgr (fun _ h => by cases h)
      have hk11 := hkp.then k11
      have hD11 := hD.no k11
      have hq := hown.bytes (base := w.heap.size) (fun _ => HP.out.2)
      have hrl : (List.replicate r (0 : UInt8)).length = r := List.length_replicate
      obtain ⟨g1, g2, g3, g4⟩ := full_fill hnow hS.full hS.hroom (List.replicate r (0 : UInt8)) hrl
      have hwl := hS.wl
      have hu0 := used_spec hD11 hk11.size (by rw [hnow]; simp [msum])
      have ez : ((msum d2.now : Nat) : Int) = 0 := by rw [hnow]; rfl
      rw [ez] at hu0
      have hsmall1 := hS.small hr0 hr1 (by omega)
      have hsmall2 : Small (d2.put ⟨1, List.replicate r 0, false⟩) := ⟨by show 0 ≤ d2.room; rw [hS.hroom]; exact hr0, by show d2.room ≤ _; rw [hS.hroom]; omega, by rw [g4]; omega, by simp only [DiskS.put, List.length_append, List.length_singleton]; omega⟩
      have ha1 := fun (w' : World) (k : Keep No w11 w') => append_spec (hD11.no k) (Nat.le_trans hk11.size k.size) hsmall1 1 (hq.no k) (by rw [hrl]; omega)
      rw [g1] at ha1
      generalize hd3 : d2.put ⟨1, List.replicate r 0, false⟩ = d3 at *
      have ha2 := fun (w' : World) (n s : Nat) (wv : Value) (h : DiskAt w.heap.size w' p n s wv d3) (hb : w.heap.size ≤ w'.heap.size) (u : Value) (hu : BytesAt w.heap.size w' u [1]) => append_spec h hb hsmall2 1 hu (by decide)
      have ha3 := fun (w' : World) (n s : Nat) (wv : Value) (h : DiskAt w.heap.size w' p n s wv d3) (hb : w.heap.size ≤ w'.heap.size) => append_spec h hb hsmall2 1 (BytesAt.nil _ _) (by decide)
      rw [g2] at ha2
      rw [g3] at ha3
      have HA := Lib.hid (And.intro ha1 (And.intro ha2 ha3))
      clear ha1 ha2 ha3 g1 g2 g3 g4 hd3 hsmall2 hsmall1 hwl ez hrl hnow hS hown hD hkp
      go_wp2_with (first
        | (go_at_call 17; refine (HA.out.2.2 _ _ _ _ hD15 hk15.size).mono ?_; rintro e w16 ⟨rfl, n16, s16, wv16, hD16, k16, f16⟩)
        | (go_at_call 17; refine (HA.out.2.1 _ _ _ _ hD14 hk14.size _ hu14).mono ?_; rintro e w15 ⟨rfl, n15, s15, wv15, hD15, k15, f15⟩; have hk15 := hk14.absorb k15 hG13; have hG15 := foot_next hk14 hG13 f15)
        | (go_at_call 17; refine (HA.out.1 _ k12).mono ?_; rintro e w13 ⟨rfl, n13, s13, wv13, hD13, k13, f13⟩; have hk13 := (hk11.then k12).absorb k13 hG; have hG13 := foot_next (hk11.then k12) hG f13; have kA := (Keep.refl No w13).alloc (.cells #[.int .u8 1] 5); have hD14 := hD13.no kA; have hk14 := hk13.then kA; have hu14 : BytesAt w.heap.size (w13.alloc (.cells #[.int .u8 1] 5)) (.slice (some ⟨w13.heap.size, 0, none⟩) 1 1) [1] := BytesAt.of_block [1] (heap_new w13 _) (by decide) (Nat.le_trans HP.out.2 hk13.size))
        | (go_at_call 30; refine hu0.mono ?_; rintro e w12 ⟨rfl, k12⟩))
      go_ret
      exact ⟨rfl, hk15.absorb k16 hG15⟩
end Go.Proofs.Ytpjggnfiocplmaa
