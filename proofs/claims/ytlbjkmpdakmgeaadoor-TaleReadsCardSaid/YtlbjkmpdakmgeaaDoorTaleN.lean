/- The document reads numbers. -/
import Derived.Test.YtlbjkmpdakmgeaaDoorTaleD
import Derived.Deep.CutBlock
import Derived.Deep.DeepCutAuto
namespace Go.Proofs.YtlbjkmpdakmgeaaDoor
open Go Go.RowKit Go.Dr

theorem slice_tail (t : TypeId) (ht : Tryd.prog.underlying t = some .string) (c : UInt8) (r : List UInt8) (w : World) :
    (Instr.slice t (.string (strB (c :: r))) (some (.int .i64 1)) none none).run Tryd.prog w = .ok (strV r) w := by
  have hz : (strB (c :: r)).size = r.length + 1 := by simp [ByteArray.size]
  have e : (strB (c :: r)).extract (1 : Int).toNat (strB (c :: r)).size = strB r := by rw [hz]; exact extract_mk_tail c r
  rw [run_slice_string_from_if w t _ .i64 1 ht, if_pos ⟨by omega, by rw [hz]; omega⟩, e]

/-! ### Numbers -/
theorem numN_some {s : List UInt8} {n : Int} (h : numD s = some n) : numN s = n ∧ numB s = true := by unfold numN numB; rw [← numD_eq, h]; exact ⟨rfl, rfl⟩
theorem numN_none {s : List UInt8} (h : numD s = none) : numN s = 0 ∧ numB s = false := by unfold numN numB; rw [← numD_eq, h]; exact ⟨rfl, rfl⟩
theorem numD_below {r : List UInt8} : numD (45 :: r) = match magD r true with
    | some n => if 9223372036854775808 < n then none else some (-(n : Int))
    | none => none := by
  unfold numD
  simp only [List.head?_cons, if_true, List.tail_cons]
  cases magD r true <;> rfl
theorem numD_above {c : UInt8} {r : List UInt8} (h : c ≠ 45) : numD (c :: r) = match magD (c :: r) false with
    | some n => if 9223372036854775807 < n then none else some (n : Int)
    | none => none := by
  unfold numD
  rw [if_neg (by simpa using h)]
  cases magD (c :: r) false <;> rfl
theorem magD_mid {d : List UInt8} {below : Bool} (h1 : 1 ≤ d.length) (h2 : d.length ≤ 19) (h3 : ¬ (d.head? = some 48 ∧ (1 < d.length ∨ below = true))) : magD d below = Lib.decFrom 0 d := by
  unfold magD
  rw [if_neg (by intro h; rcases h with h | h | h; omega; omega; exact h3 h)]
theorem magD_none {d : List UInt8} {below : Bool} (h : d.length < 1 ∨ 19 < d.length ∨ (d.head? = some 48 ∧ (1 < d.length ∨ below = true))) : magD d below = none := by
  unfold magD
  rw [if_pos h]
theorem decFrom_drop {d : List UInt8} {k : Nat} {c : UInt8} (h : d[k]? = some c) (m : Nat) : Lib.decFrom m (d.drop k) = match Lib.digitVal c with
    | some x => Lib.decFrom (m * 10 + x) (d.drop (k + 1))
    | none => none := by
  obtain ⟨h1, rfl⟩ := List.getElem?_eq_some_iff.1 h
  rw [List.drop_eq_getElem_cons h1]
  rfl
theorem pow_bound {k m : Nat} (h : m < 10 ^ k) (hk : k ≤ 18) : m ≤ 999999999999999999 := by
  have : 10 ^ k ≤ 10 ^ 18 := Nat.pow_le_pow_right (by omega) hk
  omega

set_option maxRecDepth 100000 in
set_option maxHeartbeats 1600000 in
theorem rnumber_below (w : World) (r : List UInt8) (hs : (45 :: r).length ≤ 1000000) :
    Calls Tryd.prog 19 #[strV (45 :: r)] w fun e w' => e = .returned (.tuple #[.int .i64 (numN (45 :: r)), .bool (numB (45 :: r))]) ∧ ∃ m, w' = w.drewN m := by
  obtain ⟨S, hS⟩ : ∃ S, S = strB (45 :: r) := ⟨_, rfl⟩
  obtain ⟨D, hD⟩ : ∃ D, D = strB r := ⟨_, rfl⟩
  have hS0 := index_str 9 (by kernel_rfl) (45 :: r) 0 45 rfl
  have hsl : ∀ w, (Instr.slice 9 (.string S) (some (.int .i64 1)) none none).run Tryd.prog w = .ok (.string D) w := fun w => by
    rw [hS, hD]
    exact slice_tail 9 (by kernel_rfl) 45 r w
  rw [← hS] at hS0
  have hS0' : ∀ w, (Instr.index 9 (.string S) (.int .i64 0)).run Tryd.prog w = .ok (.int .u8 45) w := hS0
  clear hS0
  have hSp : 0 < (S.size : Int) := by rw [hS]; simp [ByteArray.size]
  obtain ⟨L, hL⟩ : ∃ L, L = (r).length := ⟨_, rfl⟩
  have hDs : D.size = L := by rw [hD, hL]; simp [ByteArray.size]
  show Calls Tryd.prog 19 #[.string (strB (45 :: r))] w _
  rw [← hS]
  obtain ⟨N, hN⟩ : ∃ N, N = numN (45 :: r) := ⟨_, rfl⟩
  obtain ⟨T, hT⟩ : ∃ T, T = numB (45 :: r) := ⟨_, rfl⟩
  rw [← hN, ← hT]
  obtain ⟨d, hd⟩ : ∃ d, d = r := ⟨_, rfl⟩
  rw [← hd] at hD hL
  have hnone : magD d true = none → N = 0 ∧ T = false := fun h => by
    have := numN_none (s := (45 :: r)) (by rw [numD_below, ← hd, h])
    rw [hN, hT]; exact this
  have hsome : ∀ m : Nat, magD d true = some m → m ≤ 9223372036854775808 → N = (-(m : Int)) ∧ T = true := fun m h hm => by
    have := numN_some (s := (45 :: r)) (n := (-(m : Int))) (by rw [numD_below, ← hd, h]; simp only; rw [if_neg (by omega)])
    rw [hN, hT]; exact this
  have hbig : ∀ m : Nat, magD d true = some m → 9223372036854775808 < m → N = 0 ∧ T = false := fun m h hm => by
    have := numN_none (s := (45 :: r)) (by rw [numD_below, ← hd, h]; simp only; rw [if_pos (by omega)])
    rw [hN, hT]; exact this
  have hLi : (L : Int) ≤ 1000000 := by rw [hL, hd]; simp at hs ⊢; omega
  have HA := Lib.hid (And.intro hD (And.intro hL (And.intro hnone (And.intro hsome hbig))))
  clear hN hT hnone hsome hbig hS hs hD hL
  clear hd
  go_enter Tryd.func19, Tryd.ntmps19
  go_upto_region 5 with fail
  go_cut [40] (fun v wx => wx = w ∧ ((v = .bool true ∧ Hid (magD d true = none)) ∨ (v = .bool false ∧ Hid (magD d true = Lib.decFrom 0 d ∧ 1 ≤ L ∧ L ≤ 19))))
  case first =>
    by_cases ha : L = 0
    · subst ha
      have HN := Lib.hid (magD_none (d := d) (below := true) (.inl (by have := HA.out.2.1; omega)))
      go_wp2_with fail
      go_meet
      exact ⟨rfl, .inl ⟨rfl, HN⟩⟩
    · by_cases hb : 19 < L
      · have HN := Lib.hid (magD_none (d := d) (below := true) (.inr (.inl (by have := HA.out.2.1; omega))))
        have hbi : (19 : Int) < (L : Int) := by omega
        clear ha hb
        go_wp2_with fail
        go_meet
        exact ⟨rfl, .inl ⟨rfl, HN⟩⟩
      · obtain ⟨c, hc⟩ : ∃ c, d[0]? = some c := ⟨_, List.getElem?_eq_getElem (by have := HA.out.2.1; omega)⟩
        have hix := index_str 9 (by kernel_rfl) d 0 c hc
        rw [← HA.out.1] at hix
        have hhd : d.head? = some c := by rw [List.head?_eq_getElem?]; exact hc
        have h1i : ¬ ((L : Int) < 1) := by omega
        have h19i : ¬ (19 : Int) < (L : Int) := by omega
        by_cases h48 : c = 48
        · subst h48
          have hix' : ∀ w, (Instr.index 9 (.string D) (.int .i64 0)).run Tryd.prog w = .ok (.int .u8 48) w := hix
          clear hix
          by_cases h1 : 1 < L
          · have HN := Lib.hid (magD_none (d := d) (below := true) (.inr (.inr ⟨hhd, .inl (by have := HA.out.2.1; omega)⟩)))
            have h1j : (1 : Int) < (L : Int) := by omega
            clear ha hb hc hhd h1
            go_wp2_with fail
            go_meet
            exact ⟨rfl, .inl ⟨rfl, HN⟩⟩
          · obtain rfl : L = 1 := by omega
            have HN := Lib.hid (magD_none (d := d) (below := true) (.inr (.inr ⟨hhd, .inr rfl⟩)))
            clear ha hb hc hhd h1
            go_wp2_with fail
            go_meet
            exact ⟨rfl, .inl ⟨rfl, HN⟩⟩
        · have hn48 : ((c.toNat : Int) == 48) = false := by
            rw [beq_eq_false_iff_ne]
            intro e
            exact h48 (UInt8.toNat_inj.1 (by simp; omega))
          have HM := Lib.hid (magD_mid (d := d) (below := true) (by have := HA.out.2.1; omega) (by have := HA.out.2.1; omega) (fun h => h48 (by rw [hhd] at h; simpa using h.1)))
          have HLL := Lib.hid (And.intro ha hb)
          have hix' : ∀ w, (Instr.index 9 (.string D) (.int .i64 0)).run Tryd.prog w = .ok (.int .u8 c.toNat) w := hix
          clear ha hb hc hhd h48 hix
          go_wp2_with fail
          go_meet
          exact ⟨rfl, .inr ⟨rfl, Lib.hid ⟨HM.out, by have := HLL.out.1; omega, by have := HLL.out.2; omega⟩⟩⟩
  case rest =>
    obtain ⟨rfl, ⟨rfl, HN⟩ | ⟨rfl, HM⟩⟩ := hcut
    · have HN := Lib.hid (HA.out.2.2.1 HN.out)
      go_wp2_with fail
      go_ret2
      exact ⟨by rw [HN.out.1, HN.out.2]; rfl, 0, rfl⟩
    have HL1 := HM.out.2.1
    have HL2 := HM.out.2.2
    go_wp2_with fail
    go_loopw [6, 7] (fun v i wr => ∃ (k m : Nat), k ≤ L ∧ i = .int .i64 k ∧ v = .int .u64 m ∧ m < 10 ^ k ∧ Hid (Lib.decFrom 0 d = Lib.decFrom m (d.drop k)) ∧ wr = wc) (fun _ i _ => L - (intOf i).toNat)
    case atStart => exact ⟨0, 0, Nat.zero_le _, rfl, rfl, by simp, Lib.hid (by simp), rfl⟩
    case round =>
      obtain ⟨k, m, hk, rfl, rfl, hm, hde, rfl⟩ := hrel
      by_cases hlt : k < L
      · have hki : (k : Int) < (L : Int) := by omega
        obtain ⟨c, hc⟩ : ∃ c, d[k]? = some c := ⟨_, List.getElem?_eq_getElem (by have := HA.out.2.1; omega)⟩
        have hix := index_str 9 (by kernel_rfl) d k c hc
        rw [← HA.out.1] at hix
        have hdd := decFrom_drop hc m
        have hcl := c.toNat_lt
        have hmb := pow_bound hm (by omega)
        obtain ⟨z, hz⟩ : ∃ z : Int, z = (m : Int) := ⟨_, rfl⟩
        have hz0 : 0 ≤ z := by omega
        have hz1 : z ≤ 999999999999999999 := by omega
        rw [← hz]
        by_cases hdg : 48 ≤ c.toNat ∧ c.toNat ≤ 57
        · obtain ⟨x, hx⟩ : ∃ x, x = c.toNat - 48 := ⟨_, rfl⟩
          have hv : Lib.digitVal c = some x := by unfold Lib.digitVal; rw [if_pos hdg, hx]
          rw [hv] at hdd
          simp only at hdd
          have HS : Hid (k + 1 ≤ L ∧ 10 * z + ((c.toNat : Int) - 48) = ((m * 10 + x : Nat) : Int) ∧ m * 10 + x < 10 ^ (k + 1) ∧ Lib.decFrom 0 d = Lib.decFrom (m * 10 + x) (d.drop (k + 1))) :=
            Lib.hid ⟨by omega, by omega, by rw [Nat.pow_succ]; omega, by rw [hde.out, hdd]⟩
          have h48i : 48 ≤ (c.toNat : Int) := by omega
          have h57i : (c.toNat : Int) ≤ 57 := by omega
          have HKL := Lib.hid hlt
          generalize c.toNat = cn at *
          clear hdg hv hdd hx hc hcl hmb hz hm hde hk hlt
          go_wp2_with fail
          go_roundw
          case rel => exact ⟨k + 1, m * 10 + x, HS.out.1, by go_num, by rw [← HS.out.2.1], HS.out.2.2.1, Lib.hid HS.out.2.2.2, trivial⟩
          case measure => have := HKL.out; simp [intOf]; omega
        · have hv : Lib.digitVal c = none := by unfold Lib.digitVal; rw [if_neg hdg]
          rw [hv] at hdd
          have HN := Lib.hid (HA.out.2.2.1 (by rw [HM.out.1, hde.out, hdd]))
          have hcn : (c.toNat : Int) < 48 ∨ (48 ≤ (c.toNat : Int) ∧ 57 < (c.toNat : Int)) := by omega
          generalize c.toNat = cn at *
          have hcl' : (cn : Int) ≤ 255 := by omega
          clear hdg hv hdd hc hcl hmb hz hm hde hk hlt
          rcases hcn with hcn | ⟨hcn0, hcn⟩
          · go_wp2_with fail
            go_ret2
            exact ⟨by rw [HN.out.1, HN.out.2]; rfl, 0, rfl⟩
          · go_wp2_with fail
            go_ret2
            exact ⟨by rw [HN.out.1, HN.out.2]; rfl, 0, rfl⟩
      · have hki : ¬ (k : Int) < (L : Int) := by omega
        obtain rfl : k = L := by omega
        have he : magD d true = some m := by
          rw [HM.out.1, hde.out, List.drop_of_length_le (by have := HA.out.2.1; omega)]
          rfl
        have hmb : m < 10 ^ 19 := Nat.lt_of_lt_of_le hm (Nat.pow_le_pow_right (by omega) HL2)
        have h1m := (digits_magD he).2
        obtain ⟨z, hz⟩ : ∃ z : Int, z = (m : Int) := ⟨_, rfl⟩
        have hz0 : 1 ≤ z := by have := h1m rfl; omega
        have hz1 : z ≤ 9999999999999999999 := by omega
        by_cases hbg : 9223372036854775808 < m
        · have HN := Lib.hid (HA.out.2.2.2.2 m he hbg)
          have hzb : 9223372036854775808 < z := by omega
          rw [← hz]
          clear he hmb hbg hm hz h1m hde hk hlt
          go_wp2_with fail
          go_ret2
          exact ⟨by rw [HN.out.1, HN.out.2]; rfl, 0, rfl⟩
        · have HN := Lib.hid (HA.out.2.2.2.1 m he (by omega))
          have hzb : z ≤ 9223372036854775808 := by omega
          rw [← hz]
          have HZ := Lib.hid hz
          clear he hmb hbg hm hz h1m hde hk hlt
          go_wp2_with fail
          go_ret2
          exact ⟨by rw [HN.out.1, HN.out.2, ← HZ.out]; exact congrArg (fun x => Ending.returned (Value.tuple #[.int .i64 x, .bool true])) (by omega), 0, rfl⟩

set_option maxRecDepth 100000 in
set_option maxHeartbeats 1600000 in
theorem rnumber_above (w : World) (c0 : UInt8) (r : List UInt8) (hc0 : c0 ≠ 45) (hs : (c0 :: r).length ≤ 1000000) :
    Calls Tryd.prog 19 #[strV (c0 :: r)] w fun e w' => e = .returned (.tuple #[.int .i64 (numN (c0 :: r)), .bool (numB (c0 :: r))]) ∧ ∃ m, w' = w.drewN m := by
  obtain ⟨S, hS⟩ : ∃ S, S = strB (c0 :: r) := ⟨_, rfl⟩
  obtain ⟨D, hD⟩ : ∃ D, D = strB (c0 :: r) := ⟨_, rfl⟩
  have hS0 := index_str 9 (by kernel_rfl) (c0 :: r) 0 c0 rfl
  rw [← hS] at hS0
  have hS0' : ∀ w, (Instr.index 9 (.string S) (.int .i64 0)).run Tryd.prog w = .ok (.int .u8 c0.toNat) w := hS0
  clear hS0
  have hn45 : ((c0.toNat : Int) == 45) = false := by
    rw [beq_eq_false_iff_ne]
    intro e
    exact hc0 (UInt8.toNat_inj.1 (by simp; omega))
  have hSp : 0 < (S.size : Int) := by rw [hS]; simp [ByteArray.size]

  obtain ⟨L, hL⟩ : ∃ L, L = ((c0 :: r)).length := ⟨_, rfl⟩
  have hDs : D.size = L := by rw [hD, hL]; simp [ByteArray.size]
  obtain rfl : D = S := by rw [hS, hD]
  show Calls Tryd.prog 19 #[.string (strB (c0 :: r))] w _
  rw [← hD]
  obtain ⟨N, hN⟩ : ∃ N, N = numN (c0 :: r) := ⟨_, rfl⟩
  obtain ⟨T, hT⟩ : ∃ T, T = numB (c0 :: r) := ⟨_, rfl⟩
  rw [← hN, ← hT]
  obtain ⟨d, hd⟩ : ∃ d, d = (c0 :: r) := ⟨_, rfl⟩
  rw [← hd] at hD hL
  have hnone : magD d false = none → N = 0 ∧ T = false := fun h => by
    have := numN_none (s := (c0 :: r)) (by rw [numD_above hc0, ← hd, h])
    rw [hN, hT]; exact this
  have hsome : ∀ m : Nat, magD d false = some m → m ≤ 9223372036854775807 → N = ((m : Int)) ∧ T = true := fun m h hm => by
    have := numN_some (s := (c0 :: r)) (n := ((m : Int))) (by rw [numD_above hc0, ← hd, h]; simp only; rw [if_neg (by omega)])
    rw [hN, hT]; exact this
  have hbig : ∀ m : Nat, magD d false = some m → 9223372036854775807 < m → N = 0 ∧ T = false := fun m h hm => by
    have := numN_none (s := (c0 :: r)) (by rw [numD_above hc0, ← hd, h]; simp only; rw [if_pos (by omega)])
    rw [hN, hT]; exact this
  have hLi : (L : Int) ≤ 1000000 := by rw [hL, hd]; simp at hs ⊢; omega
  have HA := Lib.hid (And.intro hD (And.intro hL (And.intro hnone (And.intro hsome hbig))))
  clear hN hT hnone hsome hbig hS hs hD hL
  clear hd hc0
  go_enter Tryd.func19, Tryd.ntmps19
  go_upto_region 5 with fail
  go_cut [40] (fun v wx => wx = w ∧ ((v = .bool true ∧ Hid (magD d false = none)) ∨ (v = .bool false ∧ Hid (magD d false = Lib.decFrom 0 d ∧ 1 ≤ L ∧ L ≤ 19))))
  case first =>
    clear hS0' hn45
    by_cases ha : L = 0
    · subst ha
      have HN := Lib.hid (magD_none (d := d) (below := false) (.inl (by have := HA.out.2.1; omega)))
      go_wp2_with fail
      go_meet
      exact ⟨rfl, .inl ⟨rfl, HN⟩⟩
    · by_cases hb : 19 < L
      · have HN := Lib.hid (magD_none (d := d) (below := false) (.inr (.inl (by have := HA.out.2.1; omega))))
        have hbi : (19 : Int) < (L : Int) := by omega
        clear ha hb
        go_wp2_with fail
        go_meet
        exact ⟨rfl, .inl ⟨rfl, HN⟩⟩
      · obtain ⟨c, hc⟩ : ∃ c, d[0]? = some c := ⟨_, List.getElem?_eq_getElem (by have := HA.out.2.1; omega)⟩
        have hix := index_str 9 (by kernel_rfl) d 0 c hc
        rw [← HA.out.1] at hix
        have hhd : d.head? = some c := by rw [List.head?_eq_getElem?]; exact hc
        have h1i : ¬ ((L : Int) < 1) := by omega
        have h19i : ¬ (19 : Int) < (L : Int) := by omega
        by_cases h48 : c = 48
        · subst h48
          have hix' : ∀ w, (Instr.index 9 (.string D) (.int .i64 0)).run Tryd.prog w = .ok (.int .u8 48) w := hix
          clear hix
          by_cases h1 : 1 < L
          · have HN := Lib.hid (magD_none (d := d) (below := false) (.inr (.inr ⟨hhd, .inl (by have := HA.out.2.1; omega)⟩)))
            have h1j : (1 : Int) < (L : Int) := by omega
            clear ha hb hc hhd h1
            go_wp2_with fail
            go_meet
            exact ⟨rfl, .inl ⟨rfl, HN⟩⟩
          · obtain rfl : L = 1 := by omega
            have HM := Lib.hid (magD_mid (d := d) (below := false) (by have := HA.out.2.1; omega) (by have := HA.out.2.1; omega) (fun h => by have := HA.out.2.1; rcases h.2 with h | h; omega; cases h))
            clear ha hb hc hhd h1
            go_wp2_with fail
            go_meet
            exact ⟨rfl, .inr ⟨rfl, Lib.hid ⟨HM.out, by omega, by omega⟩⟩⟩
        · have hn48 : ((c.toNat : Int) == 48) = false := by
            rw [beq_eq_false_iff_ne]
            intro e
            exact h48 (UInt8.toNat_inj.1 (by simp; omega))
          have HM := Lib.hid (magD_mid (d := d) (below := false) (by have := HA.out.2.1; omega) (by have := HA.out.2.1; omega) (fun h => h48 (by rw [hhd] at h; simpa using h.1)))
          have HLL := Lib.hid (And.intro ha hb)
          have hix' : ∀ w, (Instr.index 9 (.string D) (.int .i64 0)).run Tryd.prog w = .ok (.int .u8 c.toNat) w := hix
          clear ha hb hc hhd h48 hix
          go_wp2_with fail
          go_meet
          exact ⟨rfl, .inr ⟨rfl, Lib.hid ⟨HM.out, by have := HLL.out.1; omega, by have := HLL.out.2; omega⟩⟩⟩
  case rest =>
    clear hS0' hn45
    obtain ⟨rfl, ⟨rfl, HN⟩ | ⟨rfl, HM⟩⟩ := hcut
    · have HN := Lib.hid (HA.out.2.2.1 HN.out)
      go_wp2_with fail
      go_ret2
      exact ⟨by rw [HN.out.1, HN.out.2]; rfl, 0, rfl⟩
    have HL1 := HM.out.2.1
    have HL2 := HM.out.2.2
    go_wp2_with fail
    go_loopw [6, 7] (fun v i wr => ∃ (k m : Nat), k ≤ L ∧ i = .int .i64 k ∧ v = .int .u64 m ∧ m < 10 ^ k ∧ Hid (Lib.decFrom 0 d = Lib.decFrom m (d.drop k)) ∧ wr = wc) (fun _ i _ => L - (intOf i).toNat)
    case atStart => exact ⟨0, 0, Nat.zero_le _, rfl, rfl, by simp, Lib.hid (by simp), rfl⟩
    case round =>
      obtain ⟨k, m, hk, rfl, rfl, hm, hde, rfl⟩ := hrel
      by_cases hlt : k < L
      · have hki : (k : Int) < (L : Int) := by omega
        obtain ⟨c, hc⟩ : ∃ c, d[k]? = some c := ⟨_, List.getElem?_eq_getElem (by have := HA.out.2.1; omega)⟩
        have hix := index_str 9 (by kernel_rfl) d k c hc
        rw [← HA.out.1] at hix
        have hdd := decFrom_drop hc m
        have hcl := c.toNat_lt
        have hmb := pow_bound hm (by omega)
        obtain ⟨z, hz⟩ : ∃ z : Int, z = (m : Int) := ⟨_, rfl⟩
        have hz0 : 0 ≤ z := by omega
        have hz1 : z ≤ 999999999999999999 := by omega
        rw [← hz]
        by_cases hdg : 48 ≤ c.toNat ∧ c.toNat ≤ 57
        · obtain ⟨x, hx⟩ : ∃ x, x = c.toNat - 48 := ⟨_, rfl⟩
          have hv : Lib.digitVal c = some x := by unfold Lib.digitVal; rw [if_pos hdg, hx]
          rw [hv] at hdd
          simp only at hdd
          have HS : Hid (k + 1 ≤ L ∧ 10 * z + ((c.toNat : Int) - 48) = ((m * 10 + x : Nat) : Int) ∧ m * 10 + x < 10 ^ (k + 1) ∧ Lib.decFrom 0 d = Lib.decFrom (m * 10 + x) (d.drop (k + 1))) :=
            Lib.hid ⟨by omega, by omega, by rw [Nat.pow_succ]; omega, by rw [hde.out, hdd]⟩
          have h48i : 48 ≤ (c.toNat : Int) := by omega
          have h57i : (c.toNat : Int) ≤ 57 := by omega
          have HKL := Lib.hid hlt
          generalize c.toNat = cn at *
          clear hdg hv hdd hx hc hcl hmb hz hm hde hk hlt
          go_wp2_with fail
          go_roundw
          case rel => exact ⟨k + 1, m * 10 + x, HS.out.1, by go_num, by rw [← HS.out.2.1], HS.out.2.2.1, Lib.hid HS.out.2.2.2, trivial⟩
          case measure => have := HKL.out; simp [intOf]; omega
        · have hv : Lib.digitVal c = none := by unfold Lib.digitVal; rw [if_neg hdg]
          rw [hv] at hdd
          have HN := Lib.hid (HA.out.2.2.1 (by rw [HM.out.1, hde.out, hdd]))
          have hcn : (c.toNat : Int) < 48 ∨ (48 ≤ (c.toNat : Int) ∧ 57 < (c.toNat : Int)) := by omega
          generalize c.toNat = cn at *
          have hcl' : (cn : Int) ≤ 255 := by omega
          clear hdg hv hdd hc hcl hmb hz hm hde hk hlt
          rcases hcn with hcn | ⟨hcn0, hcn⟩
          · go_wp2_with fail
            go_ret2
            exact ⟨by rw [HN.out.1, HN.out.2]; rfl, 0, rfl⟩
          · go_wp2_with fail
            go_ret2
            exact ⟨by rw [HN.out.1, HN.out.2]; rfl, 0, rfl⟩
      · have hki : ¬ (k : Int) < (L : Int) := by omega
        obtain rfl : k = L := by omega
        have he : magD d false = some m := by
          rw [HM.out.1, hde.out, List.drop_of_length_le (by have := HA.out.2.1; omega)]
          rfl
        have hmb : m < 10 ^ 19 := Nat.lt_of_lt_of_le hm (Nat.pow_le_pow_right (by omega) HL2)
        have h1m := (digits_magD he).2
        obtain ⟨z, hz⟩ : ∃ z : Int, z = (m : Int) := ⟨_, rfl⟩
        have hz0 : 0 ≤ z := by omega
        have hz1 : z ≤ 9999999999999999999 := by omega
        by_cases hbg : 9223372036854775807 < m
        · have HN := Lib.hid (HA.out.2.2.2.2 m he hbg)
          have hzb : 9223372036854775807 < z := by omega
          rw [← hz]
          clear he hmb hbg hm hz h1m hde hk hlt
          go_wp2_with fail
          go_ret2
          exact ⟨by rw [HN.out.1, HN.out.2]; rfl, 0, rfl⟩
        · have HN := Lib.hid (HA.out.2.2.2.1 m he (by omega))
          have hzb : z ≤ 9223372036854775807 := by omega
          rw [← hz]
          have HZ := Lib.hid hz
          clear he hmb hbg hm hz h1m hde hk hlt
          go_wp2_with fail
          go_ret2
          exact ⟨by rw [HN.out.1, HN.out.2, ← HZ.out]; rfl, 0, rfl⟩

theorem rnumber_spec (w : World) (s : List UInt8) (hs : s.length ≤ 1000000) :
    Calls Tryd.prog 19 #[strV s] w fun e w' => e = .returned (.tuple #[.int .i64 (numN s), .bool (numB s)]) ∧ ∃ m, w' = w.drewN m := by
  cases s with
  | nil =>
    have h := numN_none (s := []) rfl
    rw [h.1, h.2]
    go_enter Tryd.func19, Tryd.ntmps19
    go_wp2_with fail
    go_ret2
    exact ⟨rfl, 0, rfl⟩
  | cons c r =>
    by_cases h : c = 45
    · subst h
      exact rnumber_below w r hs
    · exact rnumber_above w c r h hs
end Go.Proofs.YtlbjkmpdakmgeaaDoor
