/- Package tale: Unhex. -/
import Derived.Test.YtlbjkmpdakmgeaaDoorTaleT
namespace Go.Proofs.YtlbjkmpdakmgeaaDoor
open Go Go.RowKit Go.Dr

theorem indexByte_hex (c : UInt8) : Lib.indexByte hexS.data.toList c = digI c.toNat := by
  have : ∀ n : Fin 256, Lib.indexByte [48, 49, 50, 51, 52, 53, 54, 55, 56, 57, 97, 98, 99, 100, 101, 102] (UInt8.ofNat n.val) = digI n.val := by decide +kernel
  have h := this ⟨c.toNat, c.toNat_lt⟩
  simpa using h
theorem index_spec (c : UInt8) (w : World) : Calls Tryd.prog 44 #[.string hexS, .int .u8 c.toNat] w fun e w' => e = .returned (.int .i64 (digI c.toNat)) ∧ w' = w := by
  have := indexByte_spec hexS.data.toList c.toNat w
  rw [show UInt8.ofNat c.toNat = c from by simp, indexByte_hex] at this
  exact this

theorem index_n (n : Nat) (w : World) (hn : n < 256) : Calls Tryd.prog 44 #[.string hexS, .int .u8 n] w fun e w' => e = .returned (.int .i64 (digI n)) ∧ w' = w := by
  have := index_spec (UInt8.ofNat n) w
  rw [show (UInt8.ofNat n).toNat = n from by simp; omega] at this
  exact this
theorem bits_or {x y : Nat} (hx : x < 16) (hy : y < 16) : bits .or .i64 ((x : Int) * 16) (y : Int) % 256 = 16 * (x : Int) + y := by
  have : ∀ x y : Fin 16, bits .or .i64 ((x.val : Int) * 16) (y.val : Int) % 256 = 16 * (x.val : Int) + (y.val : Int) := by decide +kernel
  exact this ⟨x, hx⟩ ⟨y, hy⟩
theorem pairsF_odd : ∀ s : List UInt8, s.length % 2 = 1 → pairsF s = none
  | [], h => by simp at h
  | [a], _ => rfl
  | a :: b :: r, h => by
    have := pairsF_odd r (by simp at h; omega)
    unfold pairsF
    rw [this]
    cases digF a <;> cases digF b <;> rfl

set_option maxRecDepth 100000 in
set_option maxHeartbeats 400000 in
theorem unhex_spec {w : World} (s : List UInt8) (hs : s.length ≤ 1000000) :
    Calls Tryd.prog 20 #[strV s] w fun e w' => ∃ v, e = .returned (.tuple #[v, .bool (unhexB s)]) ∧ OwnB w' w.heap.size v (unhexN s) ∧ Keep No w w' := by
  obtain ⟨S, hS⟩ : ∃ S, S = strB s := ⟨_, rfl⟩
  have hsz : S.size = s.length := by rw [hS]; simp [ByteArray.size]
  have hl : S.toList = s := by rw [hS, ByteArray.toList_mk]
  show Calls Tryd.prog 20 #[.string (strB s)] w _
  rw [← hS]
  have hsi : (s.length : Int) ≤ 1000000 := by omega
  by_cases h45 : s = [45]
  · have h1 : unhexN s = [] ∧ unhexB s = true := by subst h45; exact ⟨rfl, rfl⟩
    have hq : (S.toList == [45]) = true := by rw [hl, h45]; rfl
    rw [h1.1, h1.2]
    clear h1 hS hl hsz hs hsi h45
    go_enter Tryd.func20, Tryd.ntmps20
    go_wp2
    go_ret2
    exact ⟨_, rfl, OwnB.nil _ _, Keep.refl _ _⟩
  · have hq : (S.toList == [45]) = false := by rw [hl]; simpa using h45
    obtain ⟨N, hN⟩ : ∃ N, N = unhexN s := ⟨_, rfl⟩
    obtain ⟨T, hT⟩ : ∃ T, T = unhexB s := ⟨_, rfl⟩
    rw [← hN, ← hT]
    by_cases h0 : s = []
    · have hq0 : S.toList = [] := by rw [hl]; exact h0
      have e : unhexF s = none := by subst h0; rfl
      have HN := Lib.hid (unhexN_none e)
      have H := Lib.hid (And.intro hN hT)
      clear e h0 hl hS hN hT hs hsi hsz h45
      go_enter Tryd.func20, Tryd.ntmps20
      go_wp2
      go_ret2
      exact ⟨_, by rw [H.out.2, HN.out.2]; rfl, by rw [H.out.1, HN.out.1]; exact OwnB.nil _ _, Keep.refl _ _⟩
    · have hq0 : (S.toList == []) = false := by rw [hl]; simpa using h0
      have hq1 : S.toList.isEmpty = false := by rw [hl]; simpa using h0
      by_cases hodd : s.length % 2 = 1
      · have e : unhexF s = none := by
          rw [unhex_mid h45 h0]
          exact pairsF_odd s hodd
        have hr : (S.size : Int) % 2 = 1 := by omega
        have HN := Lib.hid (unhexN_none e)
        have H := Lib.hid (And.intro hN hT)
        clear e h0 hl hS hN hT hs hsi hsz h45 hodd
        go_enter Tryd.func20, Tryd.ntmps20
        go_wp2
        go_ret2
        exact ⟨_, by rw [H.out.2, HN.out.2]; rfl, by rw [H.out.1, HN.out.1]; exact OwnB.nil _ _, Keep.refl _ _⟩
      · obtain ⟨n, hn⟩ : ∃ n, s.length = 2 * n := ⟨s.length / 2, by omega⟩
        have hr : (S.size : Int) % 2 = 0 := by omega
        have hdv : (S.size : Int) / 2 = (n : Int) := by omega
        have H := Lib.hid (And.intro h45 (And.intro hS (And.intro hN (And.intro hT (And.intro h0 hn)))))
        have hn1 : (n : Int) ≤ 1000000 := by omega
        have hS1 : (S.size : Int) ≤ 1000000 := by omega
        clear h45 hS hl hN hT hs h0 hsi hsz hodd hn
        go_enter Tryd.func20, Tryd.ntmps20
        go_wp2
        go_loopw [4, 21] (fun v i wr => ∃ (k : Nat) (pre : Bytes), k ≤ n ∧ pre.length = k ∧ i = .int .i64 k ∧ Hid (pairsF s = (pairsF (s.drop (2 * k))).map (pre ++ ·)) ∧ OwnB wr w.heap.size v pre ∧ Keep No w wr) (fun _ i _ => n - (intOf i).toNat)
        case atStart => exact ⟨0, [], Nat.zero_le _, rfl, rfl, Lib.hid (by simp), OwnB.nil _ _, Keep.refl _ _⟩
        case round =>
          obtain ⟨k, pre, hk, hpl, rfl, hpr, hown, hkp⟩ := hrel
          clear hr hdv
          by_cases hlt : k < n
          · have hsl := H.out.2.2.2.2.2
            obtain ⟨a, ha⟩ : ∃ a, s[2 * k]? = some a := ⟨_, List.getElem?_eq_getElem (by omega)⟩
            obtain ⟨b, hb⟩ : ∃ b, s[2 * k + 1]? = some b := ⟨_, List.getElem?_eq_getElem (by omega)⟩
            have hix := index_str 9 (by kernel_rfl) s (2 * k) a ha
            have hiy := index_str 9 (by kernel_rfl) s (2 * k + 1) b hb
            have hd := pairsF_drop ha hb
            rw [← H.out.2.1] at hix hiy
            have e1 : ((2 * k + 1 : Nat) : Int) = 2 * (k : Int) + 1 := by omega
            have e0 : ((2 * k : Nat) : Int) = 2 * (k : Int) := by omega
            rw [e1] at hiy
            rw [e0] at hix
            have hki : (k : Int) < (n : Int) := by omega
            have w1 : IntKind.i64.wrap (2 * (k : Int)) = 2 * (k : Int) := IntWalk.i64_in _ (by omega)
            have w2 : IntKind.i64.wrap (2 * (k : Int) + 1) = 2 * (k : Int) + 1 := IntWalk.i64_in _ (by omega)
            have hal : a.toNat < 256 := a.toNat_lt
            have hbl : b.toNat < 256 := b.toNat_lt
            have HK := Lib.hid (And.intro hk (And.intro hpl (And.intro hlt hsl)))
            clear hk hpl hlt hsl e0 e1
            obtain ⟨an, han⟩ : ∃ z, z = a.toNat := ⟨_, rfl⟩
            obtain ⟨bn, hbn⟩ : ∃ z, z = b.toNat := ⟨_, rfl⟩
            rw [← han] at hix hal
            rw [← hbn] at hiy hbl
            cases hda : digF a with
            | none =>
              have e : unhexF s = none := by
                rw [unhex_mid H.out.1 H.out.2.2.2.2.1, hpr.out, hd, hda]
                rfl
              have hg : digI an = -1 := by rw [han, digI_none hda]
              have HN := Lib.hid (unhexN_none e)
              clear e hd ha hb hda hbn han
              go_wp2
              go_quiet (first | (go_at_call 44; refine Calls.quiet_of_same (index_n _ _ (by assumption))))
              go_wp2
              go_ret2
              exact ⟨_, by rw [H.out.2.2.2.1, HN.out.2]; rfl, by rw [H.out.2.2.1, HN.out.1]; exact OwnB.nil _ _, hkp.drewN _⟩
            | some x =>
              have hg : digI an = x := by rw [han, digI_some hda]
              have hxl := digF_lt hda
              have hx0 : ¬ ((x : Int) < 0) := by omega
              cases hdb : digF b with
              | none =>
                have e : unhexF s = none := by
                  rw [unhex_mid H.out.1 H.out.2.2.2.2.1, hpr.out, hd, hda, hdb]
                  rfl
                have hg' : digI bn = -1 := by rw [hbn, digI_none hdb]
                have HN := Lib.hid (unhexN_none e)
                clear e hd ha hb hda hdb hbn han
                go_wp2
                go_quiet (first | (go_at_call 44; refine Calls.quiet_of_same (index_n _ _ (by assumption))))
                go_wp2
                go_ret2
                exact ⟨_, by rw [H.out.2.2.2.1, HN.out.2]; rfl, by rw [H.out.2.2.1, HN.out.1]; exact OwnB.nil _ _, hkp.drewN _⟩
              | some y =>
                have hg' : digI bn = y := by rw [hbn, digI_some hdb]
                have hyl := digF_lt hdb
                have hy0 : ¬ ((y : Int) < 0) := by omega
                have hx1 : (x : Int) ≤ 15 := by omega
                have hy1 : (y : Int) ≤ 15 := by omega
                rw [hda, hdb] at hd
                simp only at hd
                have hpr' : Hid (pairsF s = (pairsF (s.drop (2 * (k + 1)))).map ((pre ++ [UInt8.ofNat (16 * x + y)]) ++ ·)) := Lib.hid (by
                  rw [hpr.out, hd, Option.map_map]
                  congr 1
                  funext t
                  simp)
                have hbo := bits_or hxl hyl
                have hlit := fun W : World => bytes_lit W [UInt8.ofNat (16 * x + y)] (by simp)
                have hu : u8v (UInt8.ofNat (16 * x + y)) = .int .u8 (bits .or .i64 ((x : Int) * 16) (y : Int) % 256) := by
                  unfold u8v
                  rw [hbo]
                  have : (UInt8.ofNat (16 * x + y)).toNat = 16 * x + y := by simp; omega
                  rw [this]
                  simp
                simp only [List.map_cons, List.map_nil, hu, List.length_cons, List.length_nil] at hlit
                have HL := Lib.hid hlit
                generalize UInt8.ofNat (16 * x + y) = z at *
                have hpk : pre.length ≤ 1000000 := by have := HK.out.1; have := HK.out.2.1; have := hn1; omega
                clear hd ha hb hda hdb hbn han hpr hbo hlit hu
                have hBs := hkp.size
                go_wp2
                go_quiet (first | (go_at_call 44; refine Calls.quiet_of_same (index_n _ _ (by assumption))))
                go_wp2_with (at_builtin; refine wpList_append_bytes (bn := noBan) rfl _ _ rfl w.heap.size (OwnB.keep hown (((Keep.refl No _).drewN _).alloc _) (fun _ _ h => h)) (HL.out _) rfl rfl (by simp; omega) (by simp; omega) ?_; intro v' w' hown' hk')
                go_roundw
                case rel => exact ⟨k + 1, pre ++ [z], by have := HK.out.2.2.1; omega, by simp [HK.out.2.1], by go_num, hpr', hown', (((hkp.drewN nq).alloc _).trans hk' (fun b hb hbb => by have := (hown.lt b hbb).1; omega))⟩
                case measure => have := HK.out.2.2.1; simp [intOf]; omega
          · have hki : ¬ (k : Int) < (n : Int) := by omega
            obtain rfl : k = n := by omega
            have e : unhexF s = some pre := by
              have hd : s.drop (2 * k) = [] := List.drop_of_length_le (by have := H.out.2.2.2.2.2; omega)
              rw [unhex_mid H.out.1 H.out.2.2.2.2.1, hpr.out, hd]
              simp [pairsF]
            have HN := Lib.hid (unhexN_some e)
            clear e hlt hk hpl hpr
            go_wp2
            go_ret2
            exact ⟨_, by rw [H.out.2.2.2.1, HN.out.2]; rfl, by rw [H.out.2.2.1, HN.out.1]; exact hown, hkp⟩
end Go.Proofs.YtlbjkmpdakmgeaaDoor
