/- The document's numbers and bytes as words, walked. -/
import Derived.Test.YtlbjkmpdakmgeaaDoorBase
import Derived.Test.YtlbjkmpdakmgeaaDoorTaleE
namespace Go.Proofs.YtlbjkmpdakmgeaaDoor
open Go Go.RowKit Go.Dr

abbrev strB (l : List UInt8) : ByteArray := ⟨l.toArray⟩
abbrev strV (l : List UInt8) : Value := .string ⟨l.toArray⟩

def digI (n : Nat) : Int := if 48 ≤ n ∧ n ≤ 57 then (n : Int) - 48 else if 97 ≤ n ∧ n ≤ 102 then (n : Int) - 87 else -1
theorem digI_lo {n : Nat} (h : 48 ≤ (n : Int)) (h' : (n : Int) ≤ 57) : digI n = n - 48 := by unfold digI; rw [if_pos (by omega)]
theorem digI_hi {n : Nat} (h : 97 ≤ (n : Int)) (h' : (n : Int) ≤ 102) : digI n = n - 97 + 10 := by unfold digI; rw [if_neg (by omega), if_pos (by omega)]; omega
theorem digI_no {n : Nat} (h : ¬ (48 ≤ n ∧ n ≤ 57)) (h' : ¬ (97 ≤ n ∧ n ≤ 102)) : digI n = -1 := by unfold digI; rw [if_neg h, if_neg h']
theorem digI_eq (c : UInt8) : digI c.toNat = match digF c with | some x => (x : Int) | none => -1 := by
  unfold digF
  by_cases h : 48 ≤ c.toNat ∧ c.toNat ≤ 57
  · rw [digI_lo (by omega) (by omega), if_pos h]
    simp only
    omega
  · rw [if_neg h]
    by_cases h' : 97 ≤ c.toNat ∧ c.toNat ≤ 102
    · rw [digI_hi (by omega) (by omega), if_pos h']
      simp only
      omega
    · rw [digI_no h h', if_neg h']
theorem digit_spec (w : World) (n : Nat) (hn : n < 256) : Calls Tryd.prog 45 #[.int .u8 n] w fun e w' => e = .returned (.int .i64 (digI n)) ∧ w' = w := by
  have e1 : (n : Int) ≤ 255 := by omega
  clear hn
  obtain ⟨v, hv⟩ : ∃ v, digI n = v := ⟨_, rfl⟩
  rw [hv]
  have HV := Lib.hid hv
  clear hv
  go_enter Tryd.func45, Tryd.ntmps45
  go_wp2
  all_goals go_ret
  all_goals refine ⟨?_, rfl⟩
  all_goals rw [← HV.out]
  all_goals first | rw [digI_lo (by omega) (by omega)] | rw [digI_hi (by omega) (by omega)] | rw [digI_no (by omega) (by omega)]
  all_goals rfl

abbrev decS : ByteArray := { data := #[48, 49, 50, 51, 52, 53, 54, 55, 56, 57] }
theorem slice_dec (t : TypeId) (ht : Tryd.prog.underlying t = some .string) (d : Nat) (hd : d ≤ 9) (w : World) :
    (Instr.slice t (.string decS) (some (.int .u64 d)) (some (.int .u64 ((d : Int) + 1))) none).run Tryd.prog w = .ok (strV [UInt8.ofNat (48 + d)]) w := by
  rw [run_slice_string w t _ .u64 .u64 d (d + 1) ht (by omega) (by omega) (by simp [ByteArray.size]; omega)]
  have : ∀ d : Fin 10, decS.extract d.val (d.val + 1) = strB [UInt8.ofNat (48 + d.val)] := by decide
  have h := this ⟨d, by omega⟩
  simp only at h
  have e1 : (d : Int).toNat = d := by omega
  have e2 : ((d : Int) + 1).toNat = d + 1 := by omega
  rw [e1, e2, h]
theorem strB_append (a b : List UInt8) : strB a ++ strB b = strB (a ++ b) := by
  apply ByteArray.ext
  simp [ByteArray.data_append]
set_option maxRecDepth 100000 in
theorem rsize_spec : ∀ (n : Nat), n < 18446744073709551616 → ∀ (w : World), Calls Tryd.prog 46 #[.int .u64 n] w fun e w' => e = .returned (strV (Lib.decDigits n)) ∧ ∃ m, w' = w.drewN m := by
  intro n
  induction n using Nat.strongRecOn with
  | ind n ih =>
    intro hn w
    obtain ⟨d, q, hd, hq, hdl⟩ : ∃ d q : Nat, (n : Int) % 10 = (d : Int) ∧ (n : Int) / 10 = (q : Int) ∧ d ≤ 9 := ⟨n % 10, n / 10, by omega, by omega, by omega⟩
    have hdi : (d : Int) ≤ 9 := by omega
    have hs := slice_dec 9 (by kernel_rfl) d hdl
    obtain ⟨X, hX⟩ : ∃ X, strB [UInt8.ofNat (48 + d)] = X := ⟨_, rfl⟩
    have hs' : ∀ w : World, (Instr.slice 9 (.string decS) (some (.int .u64 d)) (some (.int .u64 ((d : Int) + 1))) none).run Tryd.prog w = .ok (.string X) w := by rw [← hX]; exact hs
    clear hs
    obtain ⟨v, hv⟩ : ∃ v, strV (Lib.decDigits n) = v := ⟨_, rfl⟩
    rw [hv]
    obtain ⟨z, hz⟩ : ∃ z : Int, z = (n : Int) := ⟨_, rfl⟩
    have hz0 : 0 ≤ z := by omega
    have hz1 : z ≤ 18446744073709551615 := by omega
    rw [← hz] at hd hq ⊢
    have HR : (z < 10 ∧ Hid (v = .string X)) ∨ (10 ≤ z ∧ ∃ dq : ByteArray, dq.size ≤ 19 ∧ Hid (v = .string (dq ++ X)) ∧ ∀ w, Calls Tryd.prog 46 #[.int .u64 q] w fun e w' => e = .returned (.string dq) ∧ ∃ m, w' = w.drewN m) := by
      by_cases h10 : z < 10
      · refine .inl ⟨h10, Lib.hid ?_⟩
        rw [← hv, Lib.decDigits, dif_pos (by omega), ← hX, show n = d from by omega]
      · refine .inr ⟨by omega, strB (Lib.decDigits q), by simpa [ByteArray.size] using nDigits_le19 (u := q) (by omega), Lib.hid ?_, ih q (by omega) (by omega)⟩
        rw [← hv, ← hX, strB_append]
        conv => lhs; rw [Lib.decDigits]
        rw [dif_neg (by omega), show n / 10 = q from by omega, show n % 10 = d from by omega]
    have hXs : X.size = 1 := by rw [← hX]; rfl
    clear hn ih hv hdl hX hz
    rcases HR with ⟨HR, HV⟩ | ⟨HR, dq, hdq, HV, hc⟩
    · go_enter Tryd.func46, Tryd.ntmps46
      go_wp2
      go_ret
      exact ⟨by rw [HV.out]; rfl, 0, rfl⟩
    · go_enter Tryd.func46, Tryd.ntmps46
      go_wp2_with (go_at_call 46; refine (hc _).mono ?_; rintro e w' ⟨rfl, m, rfl⟩)
      go_ret
      exact ⟨by rw [HV.out]; rfl, m, rfl⟩

def decF (n : Int) : List UInt8 := Lib.itoa n
theorem rdec_spec (n : Int) (hn : Int64 n) (w : World) : Calls Tryd.prog 22 #[.int .i64 n] w fun e w' => e = .returned (strV (Lib.itoa n)) ∧ ∃ m, w' = w.drewN m := by
  obtain ⟨h1, h2⟩ := hn
  by_cases h0 : n < 0
  · obtain ⟨u, hu⟩ : ∃ u : Nat, -(n + 1) + 1 = (u : Int) := ⟨n.natAbs, by omega⟩
    have hc := rsize_spec u (by omega)
    have hD := nDigits_le19 (u := u) (by omega)
    have e : strV (Lib.itoa n) = .string (strB [45] ++ strB (Lib.decDigits u)) := by
      rw [strB_append]
      unfold Lib.itoa
      rw [if_pos h0, show n.natAbs = u from by omega]
      rfl
    rw [e]
    generalize Lib.decDigits u = D at *
    have hu' : (u : Int) - 1 = -(n + 1) := by omega
    have hu1 : 1 ≤ (u : Int) := by omega
    have hu2 : (u : Int) ≤ 9223372036854775808 := by omega
    clear e
    go_enter Tryd.func22, Tryd.ntmps22
    go_wp2_with (go_at_call 46; refine (hc _).mono ?_; rintro e w' ⟨rfl, m, rfl⟩)
    go_ret
    exact ⟨rfl, m, rfl⟩
  · obtain ⟨u, rfl⟩ : ∃ u : Nat, n = (u : Int) := ⟨n.toNat, by omega⟩
    have hc := rsize_spec u (by omega)
    have e : Lib.itoa (u : Int) = Lib.decDigits u := by
      unfold Lib.itoa
      rw [if_neg h0]
      rfl
    rw [e]
    generalize Lib.decDigits u = D at *
    generalize (u : Int) = z at *
    go_enter Tryd.func22, Tryd.ntmps22
    go_wp2_with (go_at_call 46; refine (hc _).mono ?_; rintro e w' ⟨rfl, m, rfl⟩)
    go_ret
    exact ⟨rfl, m, rfl⟩

/-! ### Hex -/
abbrev hexS : ByteArray := { data := #[48, 49, 50, 51, 52, 53, 54, 55, 56, 57, 97, 98, 99, 100, 101, 102] }
theorem slice_hex (t : TypeId) (ht : Tryd.prog.underlying t = some .string) (d : Nat) (hd : d ≤ 15) (w : World) :
    (Instr.slice t (.string hexS) (some (.int .u8 d)) (some (.int .u8 ((d : Int) + 1))) none).run Tryd.prog w = .ok (strV [hexD d]) w := by
  rw [run_slice_string w t _ .u8 .u8 d (d + 1) ht (by omega) (by omega) (by simp [ByteArray.size]; omega)]
  have : ∀ d : Fin 16, hexS.extract d.val (d.val + 1) = strB [hexD d.val] := by decide
  have h := this ⟨d, by omega⟩
  simp only at h
  have e1 : (d : Int).toNat = d := by omega
  have e2 : ((d : Int) + 1).toNat = d + 1 := by omega
  rw [e1, e2, h]
def hexK (l : List UInt8) (k : Nat) : ByteArray := strB ((l.take k).flatMap hexB)
theorem hexB_len (l : List UInt8) : (l.flatMap hexB).length = 2 * l.length := by
  induction l with
  | nil => rfl
  | cons a l ih => rw [List.flatMap_cons, List.length_append, ih]; simp [hexB]; omega
theorem hexK_size (l : List UInt8) (k : Nat) : (hexK l k).size ≤ 2 * l.length := by
  show ((l.take k).flatMap hexB).toArray.size ≤ _
  rw [List.size_toArray, hexB_len]
  simp
  omega
theorem hexK_succ {l : List UInt8} {k : Nat} {x : UInt8} (h : l[k]? = some x) : hexK l (k + 1) = hexK l k ++ (strB [hexD (x.toNat / 16)] ++ strB [hexD (x.toNat % 16)]) := by
  obtain ⟨hk, rfl⟩ := List.getElem?_eq_some_iff.1 h
  unfold hexK
  rw [List.take_succ_eq_append_getElem hk, List.flatMap_append, strB_append, strB_append]
  simp [hexB]
theorem hexK_all {l : List UInt8} (h : l ≠ []) : hexK l l.length = strB (hexF l) := by
  unfold hexK hexF
  rw [if_neg h, List.take_length]
set_option maxRecDepth 100000 in
theorem rhex_spec [bn : Inhabited Ban] {base : Nat} {w : World} {v : Value} {l : Bytes} (h : BytesAt base w v l) (hl : l.length ≤ 1000000) :
    Calls Tryd.prog 26 #[v] w fun e w' => e = .returned (strV (hexF l)) ∧ ∃ m, w' = w.drewN m := by
  obtain ⟨ao, cap, rfl, hlc, hcm, _, hcell⟩ := h
  unfold maxLen at hcm
  by_cases h0 : l = []
  · subst h0
    go_enter Tryd.func26, Tryd.ntmps26
    go_wp2
    go_ret
    exact ⟨rfl, 0, rfl⟩
  · have hne : ¬ ((l.length : Int) = 0) := by
      have := List.length_pos_iff.2 h0
      omega
    have hln : (l.length : Int) ≤ 1000000 := by omega
    have H0 := Lib.hid h0
    clear h0 hcm hlc hl
    go_enter Tryd.func26, Tryd.ntmps26
    go_wp2
    go_loopw [3, 11] (fun v i wr => ∃ k m : Nat, k ≤ l.length ∧ i = .int .i64 k ∧ v = .string (hexK l k) ∧ wr = w.drewN m) (fun _ i _ => l.length - (intOf i).toNat)
    case atStart => exact ⟨0, 0, Nat.zero_le _, rfl, rfl, rfl⟩
    case round =>
      obtain ⟨k, m, hk, rfl, rfl, rfl⟩ := hrel
      by_cases hlt : k < l.length
      · have hki : (k : Int) < (l.length : Int) := by omega
        have hlx : l[k]? = some l[k] := List.getElem?_eq_getElem hlt
        obtain ⟨ad, rfl, _, hx⟩ := hcell k l[k] hlx
        generalize l[k] = x at *
        have hxl := x.toNat_lt
        obtain ⟨p, q, hp, hq, hp1, hq1⟩ : ∃ p q : Nat, (x.toNat : Int) / 16 = (p : Int) ∧ (x.toNat : Int) % 16 = (q : Int) ∧ p ≤ 15 ∧ q ≤ 15 := ⟨x.toNat / 16, x.toNat % 16, by omega, by omega, by omega, by omega⟩
        have hs1 := slice_hex 9 (by kernel_rfl) p hp1
        have hs2 := slice_hex 9 (by kernel_rfl) q hq1
        have hsz := hexK_size l k
        have hsc := hexK_succ hlx
        have ep : x.toNat / 16 = p := by omega
        have eq : x.toNat % 16 = q := by omega
        rw [ep, eq] at hsc
        have hpi : (p : Int) ≤ 15 := by omega
        have hqi : (q : Int) ≤ 15 := by omega
        obtain ⟨X, hX⟩ : ∃ X, strB [hexD p] = X := ⟨_, rfl⟩
        obtain ⟨Y, hY⟩ : ∃ Y, strB [hexD q] = Y := ⟨_, rfl⟩
        have hXs : X.size = 1 := by rw [← hX]; rfl
        have hYs : Y.size = 1 := by rw [← hY]; rfl
        have hs1' : ∀ w : World, (Instr.slice 9 (.string hexS) (some (.int .u8 p)) (some (.int .u8 ((p : Int) + 1))) none).run Tryd.prog w = .ok (.string X) w := by rw [← hX]; exact hs1
        have hs2' : ∀ w : World, (Instr.slice 9 (.string hexS) (some (.int .u8 q)) (some (.int .u8 ((q : Int) + 1))) none).run Tryd.prog w = .ok (.string Y) w := by rw [← hY]; exact hs2
        rw [hX, hY] at hsc
        have HS := Lib.hid hsc
        have hxi : 0 ≤ (x.toNat : Int) ∧ (x.toNat : Int) ≤ 255 := ⟨by omega, by omega⟩
        obtain ⟨hxi0, hxi1⟩ := hxi
        clear hsc hs1 hs2 hX hY hlx ep eq hp1 hq1 hxl
        have hszi : (hexK l k).size ≤ 2000000 := by omega
        unfold u8v at hx
        generalize hexK l k = S at *
        go_wp2
        go_quiet (fail)
        go_wp2
        go_roundw
        case rel => exact ⟨k + 1, _, by omega, by go_num, by rw [HS.out], rfl⟩
        case measure => simp [intOf]; omega
      · have hki : ¬ (k : Int) < (l.length : Int) := by omega
        obtain rfl : k = l.length := by omega
        have HK := Lib.hid (hexK_all H0.out)
        generalize hexK l l.length = S at *
        clear hki hlt hk
        go_wp2
        go_ret
        exact ⟨by rw [HK.out]; rfl, _, rfl⟩
theorem index_str (t : TypeId) (ht : Tryd.prog.underlying t = some .string) (l : List UInt8) (k : Nat) (x : UInt8) (h : l[k]? = some x) (w : World) :
    (Instr.index t (.string (strB l)) (.int .i64 k)).run Tryd.prog w = .ok (.int .u8 x.toNat) w := by
  obtain ⟨hk, rfl⟩ := List.getElem?_eq_some_iff.1 h
  rw [run_index_string w t _ .i64 k ht, dif_pos (by simp [ByteArray.size]; omega)]
  rfl
theorem bytes_lit (w : World) (m : Bytes) (hm : m.length ≤ 1000) : BytesAt (bn := noBan) 0 (w.alloc (.cells (m.map u8v).toArray 5)) (.slice (some ⟨w.heap.size, 0, none⟩) m.length m.length) m := by
  refine ⟨_, _, rfl, Nat.le_refl _, by unfold maxLen; omega, fun h => (by cases h), fun i x hx => ⟨_, rfl, ⟨by simp, .inr ⟨_, _, heap_new _ _⟩, fun h => h, Nat.zero_le _⟩, ?_⟩⟩
  have e : (⟨w.heap.size, 0, none⟩ : Addr).add i = ⟨w.heap.size, i, none⟩ := by simp [Addr.add]; omega
  rw [e, cell_of (heap_new _ _)]
  simp [hx]

/-! ### Unhex -/
theorem pairsF_drop {s : List UInt8} {k : Nat} {a b : UInt8} (ha : s[2 * k]? = some a) (hb : s[2 * k + 1]? = some b) :
    pairsF (s.drop (2 * k)) = match digF a, digF b with
      | some x, some y => (pairsF (s.drop (2 * (k + 1)))).map (UInt8.ofNat (16 * x + y) :: ·)
      | _, _ => none := by
  obtain ⟨h1, rfl⟩ := List.getElem?_eq_some_iff.1 ha
  obtain ⟨h2, rfl⟩ := List.getElem?_eq_some_iff.1 hb
  rw [List.drop_eq_getElem_cons h1, List.drop_eq_getElem_cons h2, show 2 * (k + 1) = 2 * k + 1 + 1 from by omega]
  rfl
theorem digI_some {c : UInt8} {x : Nat} (h : digF c = some x) : digI c.toNat = (x : Int) := by rw [digI_eq, h]
theorem digI_none {c : UInt8} (h : digF c = none) : digI c.toNat = -1 := by rw [digI_eq, h]
theorem unhex_mid {s : List UInt8} (h1 : s ≠ [45]) (h2 : s ≠ []) : unhexF s = pairsF s := by unfold unhexF; rw [if_neg h1, if_neg h2]
theorem unhexN_some {s p : List UInt8} (h : unhexF s = some p) : unhexN s = p ∧ unhexB s = true := by unfold unhexN unhexB; rw [h]; exact ⟨rfl, rfl⟩
theorem unhexN_none {s : List UInt8} (h : unhexF s = none) : unhexN s = [] ∧ unhexB s = false := by unfold unhexN unhexB; rw [h]; exact ⟨rfl, rfl⟩

set_option maxRecDepth 100000 in
set_option maxHeartbeats 400000 in
theorem runhex_spec {w : World} (s : List UInt8) (hs : s.length ≤ 1000000) :
    Calls Tryd.prog 21 #[strV s] w fun e w' => ∃ v, e = .returned (.tuple #[v, .bool (unhexB s)]) ∧ OwnB w' w.heap.size v (unhexN s) ∧ Keep No w w' := by
  obtain ⟨S, hS⟩ : ∃ S, S = strB s := ⟨_, rfl⟩
  have hsz : S.size = s.length := by rw [hS]; simp [ByteArray.size]
  have hl : S.toList = s := by rw [hS, ByteArray.toList_mk]
  show Calls Tryd.prog 21 #[.string (strB s)] w _
  rw [← hS]
  have hsi : (s.length : Int) ≤ 1000000 := by omega
  by_cases h45 : s = [45]
  · have h1 : unhexN s = [] ∧ unhexB s = true := by subst h45; exact ⟨rfl, rfl⟩
    have hq : (S.toList == [45]) = true := by rw [hl, h45]; rfl
    rw [h1.1, h1.2]
    clear h1 hS hl hsz hs hsi h45
    go_enter Tryd.func21, Tryd.ntmps21
    go_wp2
    go_ret2
    exact ⟨_, rfl, OwnB.nil _ _, Keep.refl _ _⟩
  · have hq : (S.toList == [45]) = false := by rw [hl]; simpa using h45
    obtain ⟨N, hN⟩ : ∃ N, N = unhexN s := ⟨_, rfl⟩
    obtain ⟨T, hT⟩ : ∃ T, T = unhexB s := ⟨_, rfl⟩
    rw [← hN, ← hT]
    have H := Lib.hid (And.intro h45 (And.intro hS (And.intro hN hT)))
    clear h45 hS hl hN hT hs
    have hsz' : (S.size : Int) = (s.length : Int) := by omega
    go_enter Tryd.func21, Tryd.ntmps21
    go_wp2
    go_loopw [4, 5] (fun v i wr => ∃ (k : Nat) (pre : Bytes), 2 * k ≤ s.length ∧ pre.length = k ∧ i = .int .i64 ((2 * k : Nat) : Int) ∧ Hid (pairsF s = (pairsF (s.drop (2 * k))).map (pre ++ ·)) ∧ OwnB wr w.heap.size v pre ∧ Keep No w wr) (fun _ i _ => s.length - (intOf i).toNat)
    case atStart => exact ⟨0, [], Nat.zero_le _, rfl, rfl, Lib.hid (by simp), OwnB.nil _ _, Keep.refl _ _⟩
    case round =>
      obtain ⟨k, pre, hk, hpl, rfl, hpr, hown, hkp⟩ := hrel
      by_cases hlt : 2 * k + 1 < s.length
      · obtain ⟨a, ha⟩ : ∃ a, s[2 * k]? = some a := ⟨_, List.getElem?_eq_getElem (by omega)⟩
        obtain ⟨b, hb⟩ : ∃ b, s[2 * k + 1]? = some b := ⟨_, List.getElem?_eq_getElem hlt⟩
        have hix := index_str 9 (by kernel_rfl) s (2 * k) a ha
        have hiy := index_str 9 (by kernel_rfl) s (2 * k + 1) b hb
        have hd := pairsF_drop ha hb
        rw [← H.out.2.1] at hix hiy
        have hal := a.toNat_lt
        have hbl := b.toNat_lt
        have e1 : ((2 * k + 1 : Nat) : Int) = ((2 * k : Nat) : Int) + 1 := by omega
        rw [e1] at hiy
        have hki : ((2 * k : Nat) : Int) + 1 < (s.length : Int) := by omega
        obtain ⟨i, hi⟩ : ∃ i : Int, i = ((2 * k : Nat) : Int) := ⟨_, rfl⟩
        rw [← hi] at hix hiy hki ⊢
        have hi0 : 0 ≤ i := by omega
        obtain ⟨an, han⟩ : ∃ n, n = a.toNat := ⟨_, rfl⟩
        obtain ⟨bn, hbn⟩ : ∃ n, n = b.toNat := ⟨_, rfl⟩
        rw [← han] at hix hal
        rw [← hbn] at hiy hbl
        cases hda : digF a with
        | none =>
          have e : unhexF s = none := by
            rw [unhex_mid H.out.1 (by rintro rfl; simp at ha), hpr.out, hd, hda]
            rfl
          have hg : digI an = -1 := by rw [han, digI_none hda]
          have HN := Lib.hid (unhexN_none e)
          clear e hd ha hb hda e1 han hbn hi hlt hk
          obtain ⟨c, hc⟩ : ∃ c, c = digI bn := ⟨_, rfl⟩
          go_wp2
          go_quiet (first | (go_at_call 45; refine Calls.quiet_of_same (digit_spec _ _ (by omega))))
          go_wp2
          go_ret2
          exact ⟨_, by rw [H.out.2.2.2, HN.out.2]; rfl, by rw [H.out.2.2.1, HN.out.1]; exact OwnB.nil _ _, hkp.drewN _⟩
        | some x =>
          have hg : digI an = x := by rw [han, digI_some hda]
          cases hdb : digF b with
          | none =>
            have e : unhexF s = none := by
              rw [unhex_mid H.out.1 (by rintro rfl; simp at ha), hpr.out, hd, hda, hdb]
              rfl
            have hg' : digI bn = -1 := by rw [hbn, digI_none hdb]
            have HN := Lib.hid (unhexN_none e)
            clear e hd ha hb hda e1 han hbn hi hlt hk hdb
            have hx0 : ¬ ((x : Int) < 0) := by omega
            go_wp2
            go_quiet (first | (go_at_call 45; refine Calls.quiet_of_same (digit_spec _ _ (by omega))))
            go_wp2
            go_ret2
            exact ⟨_, by rw [H.out.2.2.2, HN.out.2]; rfl, by rw [H.out.2.2.1, HN.out.1]; exact OwnB.nil _ _, hkp.drewN _⟩
          | some y =>
            have hg' : digI bn = y := by rw [hbn, digI_some hdb]
            have hxl := digF_lt hda
            have hyl := digF_lt hdb
            rw [hda, hdb] at hd
            simp only at hd
            have hpr' : Hid (pairsF s = (pairsF (s.drop (2 * (k + 1)))).map ((pre ++ [UInt8.ofNat (16 * x + y)]) ++ ·)) := Lib.hid (by
              rw [hpr.out, hd, Option.map_map]
              congr 1
              funext t
              simp)
            have hk' : 2 * (k + 1) ≤ s.length := by omega
            have hlit := fun W : World => bytes_lit W [UInt8.ofNat (16 * x + y)] (by simp)
            have hu : u8v (UInt8.ofNat (16 * x + y)) = .int .u8 (16 * (x : Int) + y) := by
              unfold u8v
              have : (UInt8.ofNat (16 * x + y)).toNat = 16 * x + y := by simp; omega
              rw [this]
              simp
            simp only [List.map_cons, List.map_nil, hu, List.length_cons, List.length_nil] at hlit
            have HL := Lib.hid hlit
            have hx0 : ¬ ((x : Int) < 0) := by omega
            have hy0 : ¬ ((y : Int) < 0) := by omega
            have hx1 : (x : Int) ≤ 15 := by omega
            have hy1 : (y : Int) ≤ 15 := by omega
            have HK := Lib.hid hk'
            have hpk : pre.length ≤ 1000000 := by omega
            have hpl' := Lib.hid hpl
            generalize UInt8.ofNat (16 * x + y) = z at *
            have HI := Lib.hid hi
            clear hd ha hb hda e1 han hbn hi hlt hk hdb hpr hlit hu hk' hxl hyl hpl
            have hBs := hkp.size
            go_wp2
            go_quiet (first | (go_at_call 45; refine Calls.quiet_of_same (digit_spec _ _ (by omega))))
            go_wp2_with (at_builtin; refine wpList_append_bytes (bn := noBan) rfl _ _ rfl w.heap.size (OwnB.keep hown (((Keep.refl No _).drewN _).alloc _) (fun _ _ h => h)) (HL.out _) rfl rfl (by simp; omega) (by simp; omega) ?_; intro v' w' hown' hk')
            go_roundw
            case rel => exact ⟨k + 1, pre ++ [z], HK.out, by simp [hpl'.out], by have := HI.out; congr 1; omega, hpr', hown', (((hkp.drewN nq).alloc _).trans hk' (fun b hb hbb => by have := (hown.lt b hbb).1; omega))⟩
            case measure => have := HI.out; simp [intOf]; omega
      · obtain ⟨i, hi⟩ : ∃ i : Int, i = ((2 * k : Nat) : Int) := ⟨_, rfl⟩
        rw [← hi]
        have hki : ¬ (i + 1 < (s.length : Int)) := by omega
        have hi0 : 0 ≤ i := by omega
        have hi1 : i ≤ 1000000 := by omega
        by_cases h0 : s = []
        · have e : unhexF s = none := by subst h0; rfl
          have HN := Lib.hid (unhexN_none e)
          have hln : (s.length : Int) = 0 := by rw [h0]; rfl
          clear e h0 hlt hk hpl hi
          go_wp2
          go_ret2
          exact ⟨_, by rw [H.out.2.2.2, HN.out.2]; rfl, by rw [H.out.2.2.1, HN.out.1]; exact OwnB.nil _ _, hkp⟩
        · have hln : ¬ ((s.length : Int) = 0) := by
            have := List.length_pos_iff.2 h0
            omega
          by_cases hodd : s.length = 2 * k + 1
          · have e : unhexF s = none := by
              have hd : s.drop (2 * k) = [s[2 * k]'(by omega)] := by
                rw [List.drop_eq_getElem_cons (by omega), List.drop_of_length_le (by omega)]
              rw [unhex_mid H.out.1 h0, hpr.out, hd]
              rfl
            have HN := Lib.hid (unhexN_none e)
            have hr : (s.length : Int) % 2 = 1 := by omega
            clear e hlt hk hpl hi hodd
            go_wp2
            go_ret2
            exact ⟨_, by rw [H.out.2.2.2, HN.out.2]; rfl, by rw [H.out.2.2.1, HN.out.1]; exact OwnB.nil _ _, hkp⟩
          · have e : unhexF s = some pre := by
              have hd : s.drop (2 * k) = [] := List.drop_of_length_le (by omega)
              rw [unhex_mid H.out.1 h0, hpr.out, hd]
              simp [pairsF]
            have HN := Lib.hid (unhexN_some e)
            have hr : (s.length : Int) % 2 = 0 := by omega
            clear e hlt hk hpl hi hodd
            go_wp2
            go_ret2
            exact ⟨_, by rw [H.out.2.2.2, HN.out.2]; rfl, by rw [H.out.2.2.1, HN.out.1]; exact hown, hkp⟩
end Go.Proofs.YtlbjkmpdakmgeaaDoor
