/- TaleWords, walked. -/
import Derived.Test.YtlbjkmpdakmgeaaDoorTaleRd
namespace Go.Proofs.YtlbjkmpdakmgeaaDoor
open Go Go.RowKit

theorem info_u8' : (Tryd.prog.info? 5).map (fun i => (i.zero, i.size, i.bytes)) = some (some (.int .u8 0), 1, 1) := by kernel_rfl
/-- A row of zero bytes. -/
theorem make_bytes (w : World) (base r : Nat) (hr : r ≤ 1099511627776) (hb : base ≤ w.heap.size) :
    ∃ w', (Instr.makeSlice 23 (.int .i64 (r : Int)) (.int .i64 (r : Int))).run Tryd.prog w = .ok (.slice (some ⟨w.heap.size, 0, none⟩) r r) w' ∧ OwnB w' base (.slice (some ⟨w.heap.size, 0, none⟩) r r) (List.replicate r 0) ∧ w.grownBy w' none := by
  have hi := info_u8'
  cases hinf : Tryd.prog.info? 5 with
  | none => rw [hinf] at hi; cases hi
  | some i =>
    rw [hinf] at hi
    simp only [Option.map_some, Option.some.injEq, Prod.mk.injEq] at hi
    obtain ⟨h1, h2, h3⟩ := hi
    obtain ⟨w', hrun, hown, hg⟩ := run_make_full (P := Tryd.prog) w base 23 5 i (.int .u8 0) 1 Tryd.underlying23 hinf h1 h2 .i64 .i64 r (by rw [h3]; omega) (by unfold maxLen; omega) hb
    refine ⟨w', hrun, ?_, hg⟩
    have e : (madeCells (Value.cells (.int .u8 0)) (r * 1)).toList = (List.replicate r (0 : UInt8)).map u8v := by
      apply List.ext_getElem
      · simp [size_madeCells]
      · intro i h1 h2
        simp [madeCells, Value.cells, u8v, Nat.mod_one]
    unfold OwnB
    rw [List.length_replicate, ← e]
    exact hown
def hashC (N k : Nat) : Array Value := ((List.replicate k (35 : UInt8) ++ List.replicate (N - k) 0).map u8v).toArray
theorem hashC_size {N k : Nat} (hk : k ≤ N) : (hashC N k).size = N := by simp [hashC]; omega
theorem hashC_step {N k : Nat} (hk : k < N) : (hashC N k).setIfInBounds k (.int .u8 35) = hashC N (k + 1) := by
  apply Array.ext'
  unfold hashC
  obtain ⟨m, hm⟩ : ∃ m, N - k = m + 1 := ⟨N - k - 1, by omega⟩
  have h2 : N - (k + 1) = m := by omega
  rw [hm, h2, List.replicate_succ, List.replicate_succ']
  simp [u8v]
theorem hashC_at {N k : Nat} (hk : k < N) : (hashC N k)[k]? = some (.int .u8 0) := by
  unfold hashC
  obtain ⟨m, hm⟩ : ∃ m, N - k = m + 1 := ⟨N - k - 1, by omega⟩
  rw [hm, List.replicate_succ]
  simp [u8v]
theorem hashC_zero {N : Nat} {cur : Array Value} (h1 : cur.size = N) (h2 : cur.toList.take N = (List.replicate N (0 : UInt8)).map u8v) : cur = hashC N 0 := by
  apply Array.ext'
  unfold hashC
  rw [List.take_of_length_le (by simp [h1])] at h2
  simpa using h2
theorem words_cut (S : ByteArray) : ∃ t : List UInt8, t.length ≤ 80 ∧ (80 < S.size → S.extract 0 80 = strB t) ∧ (S.size ≤ 80 → S = strB t) := by
  by_cases h : 80 < S.size
  · refine ⟨S.data.toList.take 80, by simp; omega, fun _ => ?_, fun h' => by omega⟩
    apply ByteArray.ext
    apply Array.ext'
    simp
  · refine ⟨S.data.toList, ?_, fun h' => by omega, fun _ => rfl⟩
    have : S.data.toList.length = S.size := rfl
    omega
theorem slice_80 (S : ByteArray) (h : 80 < S.size) (w : World) : (Instr.slice 9 (.string S) none (some (.int .i64 80)) none).run Tryd.prog w = .ok (.string (S.extract 0 80)) w := by
  have := run_slice_string_h (P := Tryd.prog) (w := w) (t := 9) (s := S) (by kernel_rfl) .i64 80 (by omega) (by omega)
  simpa using this
theorem readF_hash : ∀ N : Nat, readF (List.replicate (N + 1) 35) = some [] := by
  intro N
  unfold readF
  rw [splitC_free (by simp [List.mem_replicate])]
  have : skipF (List.replicate (N + 1) 35) = true := by unfold skipF; rw [List.replicate_succ]; rfl
  simp only [readL, this, if_true]
theorem read_hash {w : World} (hV : VarsAt w) {N r : Nat} (hN : N = 20000 + r) : Calls Tryd.prog 24 #[strV (List.replicate N 35)] w fun e w' => Keep No w w' ∧ ∃ ao n cap, e = .returned (.tuple #[.slice ao n cap, .int .i64 (if r = 0 then 0 else 6)]) := by
  by_cases h0 : r = 0
  · refine (read_spec (base := 0) hV (Nat.zero_le _) (List.replicate N 35) (by rw [List.length_replicate]; omega)).mono ?_
    obtain ⟨M, hM⟩ : ∃ M, N = M + 1 := ⟨N - 1, by omega⟩
    rw [hM, readF_hash]
    rintro e w' ⟨k, v, its, rfl, hrow, _⟩
    obtain ⟨ao, cap, rfl, _⟩ := row_form hrow.row
    exact ⟨k, _, _, _, by rw [if_pos h0]⟩
  · refine (read_long (strB (List.replicate N 35)) (by rw [strB_size, List.length_replicate]; omega)).mono ?_
    rintro e w' ⟨k, rfl⟩
    exact ⟨k, _, _, _, by rw [if_neg h0]⟩
set_option maxRecDepth 100000 in
set_option maxHeartbeats 4000000 in
theorem words_walk {base : Nat} {w : World} (hV : VarsAt w) (S : ByteArray) {pv : Value} {p : Bytes} (hp : BytesAt (bn := noBan) base w pv p) (hbase : base ≤ w.heap.size) (n : Int) (hn : Int64 n) (m : Int) (hm0 : 0 ≤ m) (hm1 : m ≤ 65535) :
    Calls Tryd.prog 5 #[.string S, pv, .int .i64 n, .int .u16 m] w fun e w' => e = .returned (.bool true) ∧ Keep No w w' := by
  obtain ⟨t, ht, hc1, hc2⟩ := words_cut S
  obtain ⟨po, pc, rfl⟩ := BytesAt.form (bn := noBan) hp
  have ha := awake_spec hV
  obtain ⟨T, hT⟩ : ∃ T, T = strB t := ⟨_, rfl⟩
  rw [← hT] at hc1 hc2
  obtain ⟨big, hbig⟩ : ∃ b : Bool, b = decide (80 < S.size) := ⟨_, rfl⟩
  have hsl : big = true → ∀ w : World, (Instr.slice 9 (.string S) none (some (.int .i64 80)) none).run Tryd.prog w = .ok (.string T) w := fun hb w => by
    rw [hb] at hbig
    have h := of_decide_eq_true hbig.symm
    rw [slice_80 S h, hc1 h]
  have hsm : big = false → S = T := fun hb => by
    rw [hb] at hbig
    have h := of_decide_eq_false hbig.symm
    exact hc2 (by omega)
  have hq : decide ((80 : Int) < (S.size : Int)) = big := by rw [hbig]; apply decide_eq_decide.2; omega
  have hcut := fun (w1 : World) (k : Keep No w w1) => cut_spec (bn := noBan) (BytesAt.no (bn := noBan) hp k) 40 (by omega)
  obtain ⟨P, hP⟩ : ∃ P, P = p.take 40 := ⟨_, rfl⟩
  rw [← hP] at hcut
  obtain ⟨kN, hkN⟩ : ∃ k, k = numN t := ⟨_, rfl⟩
  obtain ⟨bN, hbN⟩ : ∃ k, k = numB t := ⟨_, rfl⟩
  have hnum := fun (w1 : World) (k : Keep No w w1) => number_spec (hV.no k) t (by omega)
  have hrnum := fun (w1 : World) => rnumber_spec w1 t (by omega)
  rw [show strV t = .string T by rw [hT]] at hnum hrnum
  simp only [← hkN, ← hbN] at hnum hrnum
  obtain ⟨U, hU⟩ : ∃ k, k = unhexN t := ⟨_, rfl⟩
  obtain ⟨bU, hbU⟩ : ∃ k, k = unhexB t := ⟨_, rfl⟩
  have hun := fun (w1 : World) => unhex_spec (w := w1) t (by omega)
  have hrun := fun (w1 : World) => runhex_spec (w := w1) t (by omega)
  rw [show strV t = .string T by rw [hT]] at hun hrun
  simp only [← hU, ← hbU] at hun hrun
  have hPl : P.length ≤ 40 := by rw [hP]; simp; omega
  have HV := Lib.hid (And.intro hV (And.intro hT (And.intro ht (And.intro hbase (And.intro hPl (And.intro hn (And.intro hm0 hm1)))))))
  have HC := Lib.hid (And.intro hcut (And.intro hnum (And.intro hrnum (And.intro hun hrun))))
  clear hc1 hc2 hbig hV hT ht hbase hPl hn hm0 hm1 hcut hnum hrnum hun hrun hp hP hkN hbN hU hbU
  cases big
  focus (
    obtain rfl : T = S := (hsm rfl).symm
    clear hsl hsm
    go_enter Tryd.func5, Tryd.ntmps5
    go_wp2_with fail
    refine ha.mono ?_
    rintro r w1 ⟨rfl, k1⟩
    clear ha
    go_wp2_with fail)
  rotate_left
  focus (
    replace hsl := hsl rfl
    clear hsm
    go_enter Tryd.func5, Tryd.ntmps5
    go_wp2_with fail
    refine ha.mono ?_
    rintro r w1 ⟨rfl, k1⟩
    clear ha
    go_wp2_with fail
    clear hsl)
  all_goals
    refine (HC.out.1 _ k1).mono ?_
    rintro r w2 ⟨V, rfl, own1, k2⟩
    obtain ⟨vo, vc, rfl⟩ := own1.form
    have hb1 := own1.bytes (bn := noBan) (base := base) (fun _ => Nat.zero_le _)
    have k2 := k1.then k2
    have H1 := Lib.hid (And.intro hb1 k2)
    clear hb1 k1 own1
    go_wp2_with fail
    refine (HC.out.2.1 _ k2).mono ?_
    rintro r w3 ⟨rfl, k3⟩
    have kk3 := k2.then k3
    clear k2
    go_wp2_with fail
    refine (HC.out.2.2.1 _).mono ?_
    rintro r w4 ⟨rfl, m4, rfl⟩
    have kk4 := kk3.drewN m4
    clear kk3
    go_wp2_with fail
    refine (HC.out.2.2.2.1 _).mono ?_
    rintro r w5 ⟨V5, rfl, own5, k5⟩
    obtain ⟨vo5, vc5, rfl⟩ := own5.form
    have hb5 := own5.bytes (bn := noBan) (base := base) (fun _ => Nat.zero_le _)
    have H5 := Lib.hid hb5
    have kk5 := kk4.then k5
    clear kk4 own5 hb5
    go_wp2_with fail
    refine (HC.out.2.2.2.2 _).mono ?_
    rintro r w6 ⟨V6, rfl, own6, k6⟩
    obtain ⟨vo6, vc6, rfl⟩ := own6.form
    have hb6 := own6.bytes (bn := noBan) (base := base) (fun _ => Nat.zero_le _)
    have H6 := Lib.hid (And.intro (BytesAt.no (bn := noBan) H5.out k6) hb6)
    have HQ := Lib.hid ((k3.drewN m4).then (k5.then k6))
    have k6 := kk5.then k6
    clear kk5 own6 hb6
    go_wp2_with fail
    have H6k := Lib.hid k6
    clear k6
    refine (rdec_spec n HV.out.2.2.2.2.2.1 _).mono ?_
    rintro r w7 ⟨rfl, m7, rfl⟩
    have ka7 : Keep No w6 (w6.drewN m7) := (Keep.refl No w6).drewN m7
    have hnm := number_spec (HV.out.1.no (H6k.out.then ka7)) (Lib.itoa n) (by have := Lib.itoa_length_le n HV.out.2.2.2.2.2.1.1 HV.out.2.2.2.2.2.1.2; omega)
    rw [numN_itoa HV.out.2.2.2.2.2.1, numB_itoa HV.out.2.2.2.2.2.1] at hnm
    go_wp2_with fail
    refine hnm.mono ?_
    rintro r w8 ⟨rfl, k8⟩
    have ka8 := ka7.then k8
    have hhx := hex_spec (bn := noBan) (BytesAt.no (bn := noBan) H1.out.1 (HQ.out.then ka8)) (by have := HV.out.2.2.2.2.1; omega)
    clear hnm k8 ka7
    go_wp2_with fail
    refine hhx.mono ?_
    rintro r w9 ⟨rfl, k9⟩
    have hux := unhex_spec (w := w9) (hexF P) (by have := hexF_len P; have := HV.out.2.2.2.2.1; omega)
    rw [unhexN_hex, unhexB_hex] at hux
    have ka9 := ka8.then k9
    clear hhx k9 ka8
    go_wp2_with fail
    refine hux.mono ?_
    rintro r w10 ⟨V10, rfl, own10, k10⟩
    obtain ⟨vo10, vc10, rfl⟩ := own10.form
    have hb10 := own10.bytes (bn := noBan) (base := base) (fun _ => Nat.zero_le _)
    have ka10 := ka9.then k10
    obtain ⟨q, hq0⟩ : ∃ q : Nat, m % 3 = (q : Int) := ⟨(m % 3).toNat, by omega⟩
    have hq1 : Int.tmod m 3 = (q : Int) := by rw [Int.tmod_eq_emod_of_nonneg HV.out.2.2.2.2.2.2.1]; exact hq0
    obtain ⟨N, hN⟩ : ∃ N : Nat, N = 20000 + q := ⟨_, rfl⟩
    have hNq : (20000 : Int) + (q : Int) = (N : Int) := by omega
    have hqb : (q : Int) ≤ 2 := by omega
    obtain ⟨w11, hmk, own11, hg11⟩ := make_bytes w10 w10.heap.size N (by omega) (Nat.le_refl _)
    have k11 : Keep No w10 w11 := (Keep.refl _ _).grown hg11 (fun r e => by cases e)
    obtain ⟨g, hg⟩ : ∃ g, g = w10.heap.size := ⟨_, rfl⟩
    rw [← hg] at hmk own11
    have HL := Lib.hid (And.intro hb10 (And.intro ka10 (And.intro own11 (And.intro k11 (And.intro hN (And.intro hg hqb))))))
    clear hb10 ka10 own11 k11 hN ka9 k10 own10 hux hg hg11
    go_wp2_with fail
    have hN0 : (N : Int) ≤ 1099511627776 := by have := HL.out.2.2.2.2; omega
    go_loopw [22, 73] (fun _ vc wr => ∃ k : Nat, k ≤ N ∧ vc = .int .i64 k ∧ wr.heap[g]? = some (.cells (hashC N k) 5 (0, 0)) ∧ Keep (· = g) w11 wr) (fun _ vc _ => N - (intOf vc).toNat)
    case atStart =>
      have hown := HL.out.2.2.1
      unfold OwnB at hown
      rw [List.length_replicate] at hown
      refine ⟨0, Nat.zero_le _, rfl, ?_, Keep.refl _ _⟩
      rcases hown.2 with ⟨h, _⟩ | ⟨g', cap, cur, he, _, hh, _, _, hsz, htk⟩
      · cases h
      · cases he
        rw [hh]
        have := hashC_zero (N := N) (cur := cur) (by simpa using hsz) (by simpa using htk)
        rw [this]
    case round =>
      obtain ⟨k, hk, rfl, hgh, hkp⟩ := hrel
      by_cases hlt : k < N
      · have hlti : (k : Int) < (N : Int) := by omega
        have ck : wr.cell? ⟨g, k, none⟩ = some (.int .u8 0) := by rw [cell_of hgh k]; exact hashC_at hlt
        have fk := frozen_of hgh
        have HG := Lib.hid (And.intro hgh (And.intro hkp hlt))
        clear hgh hkp hk hlt
        go_wp2_with fail
        have kE : Keep (· = g) wr (wr.setCell ⟨g, k, none⟩ (.int .u8 35)) := Keep.setCell (F := (· = g)) (Keep.refl _ _) (.inl rfl) _
        have h8 := heap_setCell_same (i := k) (u := .int .u8 35) HG.out.1
        rw [hashC_step HG.out.2.2] at h8
        go_roundw
        case rel => exact ⟨k + 1, HG.out.2.2, by go_num, h8, HG.out.2.1.trans kE (fun _ _ e => e)⟩
        case measure => have := HG.out.2.2; simp [intOf]; omega
      · obtain rfl : k = N := by omega
        have hki : ¬ (k : Int) < (k : Int) := by omega
        clear hlt hk
        obtain ⟨hb10, ka10, own11, k11, hNe, hge, hqb⟩ := HL.out
        have ownR : OwnB wr g (.slice (some ⟨g, 0, none⟩) k k) (List.replicate k 35) :=
          ⟨by simp, .inr ⟨g, k, hashC k k, by rw [List.length_replicate], Nat.le_refl _, hgh, by simp, by unfold maxLen; omega, by rw [hashC_size (Nat.le_refl _)]; simp, by simp [hashC]⟩⟩
        have hbR := ownR.bytes (bn := noBan) (base := 0) (fun _ => Nat.zero_le _)
        have hcv := convert_bytes hbR
        have k6r : Keep No w6 wr := (ka10.then k11).trans hkp (fun x hx e => by have := e; have := ka10.size; omega)
        have k10r : Keep No w10 wr := k11.trans hkp (fun x hx e => by have := e; omega)
        have hrd := read_hash (HV.out.1.no (H6k.out.then k6r)) hNe
        obtain ⟨L, hL⟩ : ∃ L, L = strB (List.replicate k 35) := ⟨_, rfl⟩
        rw [show strV (List.replicate k 35) = .string L by rw [hL]] at hcv hrd
        obtain ⟨ev, hev⟩ : ∃ ev : Int, ev = if q = 0 then 0 else 6 := ⟨_, rfl⟩
        rw [← hev] at hrd
        obtain ⟨z, hz⟩ : ∃ z, z = decide ((0 : Int) < (q : Int)) := ⟨_, rfl⟩
        have hz1 : (ev == 6) = z := by
          rw [hz, hev]
          by_cases h0 : q = 0
          · subst h0; rfl
          · rw [if_neg h0]
            have : (0 : Int) < (q : Int) := by omega
            simp
            omega
        have HX := Lib.hid (And.intro hb10 (And.intro k6r k10r))
        clear hb10 ka10 own11 k11 hNe hge hqb ownR hbR k6r k10r hL hgh hkp hmk hNq hN0 hki hev
        go_wp2_with fail
        refine hrd.mono ?_
        rintro r w12 ⟨k12, eo, en, ec, rfl⟩
        clear hrd hcv
        have k6s := HX.out.2.1.then k12
        have hs1 := r1same_spec (bn := noBan) (BytesAt.no (bn := noBan) H6.out.1 k6s) (BytesAt.no (bn := noBan) H6.out.2 k6s)
        rw [show (U == U) = true from by simp] at hs1
        go_wp2_with fail
        refine hs1.mono ?_
        rintro r w13 ⟨rfl, k13⟩
        clear hs1
        have k10s := HX.out.2.2.then (k12.then k13)
        have k6s := k6s.then k13
        have hs2 := r1same_spec (bn := noBan) (BytesAt.no (bn := noBan) HX.out.1 k10s) (BytesAt.no (bn := noBan) H1.out.1 (HQ.out.then k6s))
        rw [show (P == P) = true from by simp] at hs2
        go_wp2_with fail
        refine hs2.mono ?_
        rintro r w14 ⟨rfl, k14⟩
        clear hs2
        have k6s := k6s.then k14
        obtain ⟨Hx, hHx⟩ : ∃ L, L = strB (hexF P) := ⟨_, rfl⟩
        have hx1 := hex_spec (bn := noBan) (BytesAt.no (bn := noBan) H1.out.1 (HQ.out.then k6s)) (by have := HV.out.2.2.2.2.1; omega)
        rw [show strV (hexF P) = .string Hx by rw [hHx]] at hx1
        go_wp2_with fail
        refine hx1.mono ?_
        rintro r w15 ⟨rfl, k15⟩
        clear hx1
        have k6s := k6s.then k15
        have hx2 := rhex_spec (bn := noBan) (BytesAt.no (bn := noBan) H1.out.1 (HQ.out.then k6s)) (by have := HV.out.2.2.2.2.1; omega)
        rw [show strV (hexF P) = .string Hx by rw [hHx]] at hx2
        clear hHx
        go_wp2_with fail
        refine hx2.mono ?_
        rintro r w16 ⟨rfl, m16, rfl⟩
        clear hx2
        have k6s := k6s.drewN m16
        have htx := text_spec (bn := noBan) (base := 0) (HV.out.1.no (H6k.out.then k6s)) (e := { kind := 12, cls := 1 }) (BytesAt.nil (bn := noBan) _ _) (BytesAt.nil (bn := noBan) _ _) ⟨by constructor <;> (unfold Int64; simp), by decide, by decide, by decide⟩
        rw [text_none (by decide)] at htx
        unfold evV at htx
        go_wp2_with fail
        refine htx.mono ?_
        rintro r w17 ⟨rfl, k17⟩
        clear htx
        go_wp2_with fail
        go_ret
        exact ⟨rfl, (H6k.out.then k6s).then k17⟩
end Go.Proofs.YtlbjkmpdakmgeaaDoor
