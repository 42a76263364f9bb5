/- The document's lines. -/
import Derived.Test.YtlbjkmpdakmgeaaDoorTaleQ
namespace Go.Proofs.YtlbjkmpdakmgeaaDoor
open Go Go.RowKit Go.Dr

theorem rwho_spec (n : Int) (hn : Int64 n) (w : World) : Calls Tryd.prog 39 #[.int .i64 n] w fun e w' => e = .returned (strV (whoF n)) ∧ ∃ m, w' = w.drewN m := by
  have hI := rdec_spec n hn w
  unfold whoF
  by_cases e : n = -1
  · subst e
    clear hI
    go_enter Tryd.func39, Tryd.ntmps39
    go_wp2_with fail
    go_ret
    exact ⟨rfl, 0, rfl⟩
  · have hq : (n == -1) = false := by simpa using e
    rw [if_neg e]
    clear e
    generalize Lib.itoa n = T at *
    go_enter Tryd.func39, Tryd.ntmps39
    go_wp2_with fail
    refine hI.mono ?_
    rintro e w1 ⟨rfl, k1⟩
    go_wp2_with fail
    go_ret
    exact ⟨rfl, k1⟩
theorem rwhom_spec (s : List UInt8) (hs : s.length ≤ 1000000) (w : World) :
    Calls Tryd.prog 34 #[strV s] w fun e w' => e = .returned (.tuple #[.int .i64 (whomN s), .bool (whomB s)]) ∧ ∃ m, w' = w.drewN m := by
  have hI := rnumber_spec w s hs
  by_cases e : s = [99]
  · subst e
    clear hI
    go_enter Tryd.func34, Tryd.ntmps34
    go_wp2_with fail
    go_ret2
    exact ⟨rfl, 0, rfl⟩
  · obtain ⟨h1, h2⟩ := whomN_of99 e
    rw [h1, h2]
    clear h1 h2
    obtain ⟨S, hS⟩ : ∃ S, S = strB s := ⟨_, rfl⟩
    have hq : (S.toList == [99]) = false := by rw [hS, strB_toList]; simpa using e
    show Calls Tryd.prog 34 #[.string (strB s)] w _
    rw [← hS]
    have hI : Calls Tryd.prog 19 #[.string S] w fun e w' => e = .returned (.tuple #[.int .i64 (numN s), .bool (numB s)]) ∧ ∃ m, w' = w.drewN m := by rw [hS]; exact hI
    generalize numN s = n at *
    generalize numB s = b at *
    clear hS e hs
    cases b
    · go_enter Tryd.func34, Tryd.ntmps34
      go_wp2_with fail
      refine hI.mono ?_
      rintro e w1 ⟨rfl, k1⟩
      go_wp2_with fail
      go_ret2
      exact ⟨rfl, k1⟩
    · obtain ⟨c, hc⟩ : ∃ c, (n != -1) = c := ⟨_, rfl⟩
      rw [hc]
      go_enter Tryd.func34, Tryd.ntmps34
      go_wp2_with fail
      refine hI.mono ?_
      rintro e w1 ⟨rfl, k1⟩
      go_wp2_with fail
      go_ret2
      exact ⟨rfl, k1⟩

/-! ### The document's events -/
def dvC (e : EvS) (bv pv : Value) : Array Value := #[.int .i64 e.kind, .int .i64 e.who, .int .i64 e.cls, bv, .int .i64 e.ix, .int .i64 e.pos, .int .u8 e.val.toNat, .int .i64 e.keep, .int .i64 e.torn, .bool e.on, pv]
def dvV (e : EvS) (bv pv : Value) : Value := .agg #[.int .i64 e.kind, .int .i64 e.who, .int .i64 e.cls, bv, .int .i64 e.ix, .int .i64 e.pos, .int .u8 e.val.toNat, .int .i64 e.keep, .int .i64 e.torn, .bool e.on, pv]
theorem rwho_op (n : Int) (hn : Int64 n) : ∃ T : ByteArray, T = strB (whoF n) ∧ T.size ≤ 21 ∧ ∀ w, Calls Tryd.prog 39 #[.int .i64 n] w fun e w' => e = .returned (.string T) ∧ ∃ m, w' = w.drewN m :=
  ⟨_, rfl, by have := whoF_len hn; simpa [ByteArray.size] using this, rwho_spec n hn⟩
theorem rdec_op (n : Int) (hn : Int64 n) : ∃ T : ByteArray, T = strB (Lib.itoa n) ∧ T.size ≤ 21 ∧ ∀ w, Calls Tryd.prog 22 #[.int .i64 n] w fun e w' => e = .returned (.string T) ∧ ∃ m, w' = w.drewN m :=
  ⟨_, rfl, by have := Lib.itoa_length_le n hn.1 hn.2; simpa [ByteArray.size] using this, rdec_spec n hn⟩
theorem rhex_op [bn : Inhabited Ban] {base : Nat} {w : World} {v : Value} {l : Bytes} (h : BytesAt base w v l) (hl : l.length ≤ 100000) : ∃ T : ByteArray, T = strB (hexF l) ∧ T.size ≤ 200001 ∧ ∀ w', Keep No w w' → Calls Tryd.prog 26 #[v] w' fun e w'' => e = .returned (.string T) ∧ ∃ m, w'' = w'.drewN m :=
  ⟨_, rfl, by have := hexF_len l; simp [ByteArray.size]; omega, fun w' k => rhex_spec (h.no k) (by omega)⟩
theorem join_add (a : List UInt8) (ws : List (List UInt8)) (b : List UInt8) : Lib.join (a :: ws ++ [b]) [32] = Lib.join (a :: ws) [32] ++ [32] ++ b := by
  rw [List.cons_append, Lib.join_cons, Lib.join_cons]
  simp [Lib.joinTail]
set_option maxRecDepth 100000 in
set_option maxHeartbeats 400000 in
theorem rtext_0 [bn : Inhabited Ban] {base : Nat} {w : World} {e : EvS} {bv pv : Value} (hk : e.kind = 0) (hb : BytesAt base w bv e.body) (hp : BytesAt base w pv e.p) (hok : EvOk e) :
    Calls Tryd.prog 15 #[dvV e bv pv] w fun r w' => r = .returned (strV (textF e)) ∧ Keep No w w' := by
  obtain ⟨bo, bc, rfl⟩ := hb.form
  obtain ⟨po, pc, rfl⟩ := hp.form
  obtain ⟨T0, hT0, zT0, cT0⟩ := rwho_op e.who hok.ok.who
  obtain ⟨T1, hT1, zT1, cT1⟩ := rdec_op e.cls hok.ok.cls
  obtain ⟨T2, hT2, zT2, cT2⟩ := rhex_op hb hok.body
  have ht : strB (textF e) = ((((((⟨#[111, 102, 102, 101, 114, 32]⟩ : ByteArray) ++ T0) ++ (⟨#[32]⟩ : ByteArray)) ++ T1) ++ (⟨#[32]⟩ : ByteArray)) ++ T2) := by
    rw [textF_line (k := ⟨0, nOffer, [119, 115]⟩) (by decide) hk.symm]
    rw [show (nOffer :: List.flatMap (wordsF e) [119, 115]) = nOffer :: [whoF e.who, Lib.itoa e.cls, hexF e.body] from rfl, Lib.join_cons]
    simp only [hT0, hT1, hT2]
    apply ByteArray.ext
    simp [Lib.joinTail, nOffer, ByteArray.data_append]
  have HT := Lib.hid ht
  clear ht hT0 hT1 hT2
  obtain ⟨kd, who, cls, body, ix, pos, val, keep, torn, on, p⟩ := e
  simp only at hk
  subst hk
  unfold dvV
  have kA : Keep No w (w.alloc (.cells (dvC ⟨0, who, cls, body, ix, pos, val, keep, torn, on, p⟩ (.slice bo body.length bc) (.slice po p.length pc)) 33)) := (Keep.refl _ _).alloc _
  clear hb hp
  go_enter Tryd.func15, Tryd.ntmps15
  go_wp2_with fail
  go_quiet (first | (go_at_call 39; (with_reducible refine Calls.quiet_of (cT0 _))) | (go_at_call 22; (with_reducible refine Calls.quiet_of (cT1 _))) | (go_at_call 26; refine Calls.quiet_of (cT2 _ ((kA).drewN _))))
  go_wp2_with fail
  go_ret
  exact ⟨congrArg (fun x => Ending.returned (Value.string x)) HT.out.symm, kA.drewN _⟩
set_option maxRecDepth 100000 in
set_option maxHeartbeats 400000 in
theorem rtext_2 [bn : Inhabited Ban] {base : Nat} {w : World} {e : EvS} {bv pv : Value} (hk : e.kind = 2) (hb : BytesAt base w bv e.body) (hp : BytesAt base w pv e.p) (hok : EvOk e) :
    Calls Tryd.prog 15 #[dvV e bv pv] w fun r w' => r = .returned (strV (textF e)) ∧ Keep No w w' := by
  obtain ⟨bo, bc, rfl⟩ := hb.form
  obtain ⟨po, pc, rfl⟩ := hp.form
  obtain ⟨T0, hT0, zT0, cT0⟩ := rdec_op e.ix hok.ok.ix
  have ht : strB (textF e) = ((⟨#[100, 101, 108, 105, 118, 101, 114, 32]⟩ : ByteArray) ++ T0) := by
    rw [textF_line (k := ⟨2, nDeliver, [105]⟩) (by decide) hk.symm]
    rw [show (nDeliver :: List.flatMap (wordsF e) [105]) = nDeliver :: [Lib.itoa e.ix] from rfl, Lib.join_cons]
    simp only [hT0]
    apply ByteArray.ext
    simp [Lib.joinTail, nDeliver, ByteArray.data_append]
  have HT := Lib.hid ht
  clear ht hT0
  obtain ⟨kd, who, cls, body, ix, pos, val, keep, torn, on, p⟩ := e
  simp only at hk
  subst hk
  unfold dvV
  have kA : Keep No w (w.alloc (.cells (dvC ⟨2, who, cls, body, ix, pos, val, keep, torn, on, p⟩ (.slice bo body.length bc) (.slice po p.length pc)) 33)) := (Keep.refl _ _).alloc _
  clear hb hp
  go_enter Tryd.func15, Tryd.ntmps15
  go_wp2_with fail
  refine (cT0 _).mono ?_
  rintro e w1 ⟨rfl, m, rfl⟩
  go_wp2_with fail
  go_ret
  exact ⟨congrArg (fun x => Ending.returned (Value.string x)) HT.out.symm, kA.drewN _⟩
set_option maxRecDepth 100000 in
set_option maxHeartbeats 400000 in
theorem rtext_3 [bn : Inhabited Ban] {base : Nat} {w : World} {e : EvS} {bv pv : Value} (hk : e.kind = 3) (hb : BytesAt base w bv e.body) (hp : BytesAt base w pv e.p) (hok : EvOk e) :
    Calls Tryd.prog 15 #[dvV e bv pv] w fun r w' => r = .returned (strV (textF e)) ∧ Keep No w w' := by
  obtain ⟨bo, bc, rfl⟩ := hb.form
  obtain ⟨po, pc, rfl⟩ := hp.form
  obtain ⟨T0, hT0, zT0, cT0⟩ := rdec_op e.ix hok.ok.ix
  have ht : strB (textF e) = ((⟨#[100, 114, 111, 112, 32]⟩ : ByteArray) ++ T0) := by
    rw [textF_line (k := ⟨3, nDrop, [105]⟩) (by decide) hk.symm]
    rw [show (nDrop :: List.flatMap (wordsF e) [105]) = nDrop :: [Lib.itoa e.ix] from rfl, Lib.join_cons]
    simp only [hT0]
    apply ByteArray.ext
    simp [Lib.joinTail, nDrop, ByteArray.data_append]
  have HT := Lib.hid ht
  clear ht hT0
  obtain ⟨kd, who, cls, body, ix, pos, val, keep, torn, on, p⟩ := e
  simp only at hk
  subst hk
  unfold dvV
  have kA : Keep No w (w.alloc (.cells (dvC ⟨3, who, cls, body, ix, pos, val, keep, torn, on, p⟩ (.slice bo body.length bc) (.slice po p.length pc)) 33)) := (Keep.refl _ _).alloc _
  clear hb hp
  go_enter Tryd.func15, Tryd.ntmps15
  go_wp2_with fail
  refine (cT0 _).mono ?_
  rintro e w1 ⟨rfl, m, rfl⟩
  go_wp2_with fail
  go_ret
  exact ⟨congrArg (fun x => Ending.returned (Value.string x)) HT.out.symm, kA.drewN _⟩
set_option maxRecDepth 100000 in
set_option maxHeartbeats 400000 in
theorem rtext_4 [bn : Inhabited Ban] {base : Nat} {w : World} {e : EvS} {bv pv : Value} (hk : e.kind = 4) (hb : BytesAt base w bv e.body) (hp : BytesAt base w pv e.p) (hok : EvOk e) :
    Calls Tryd.prog 15 #[dvV e bv pv] w fun r w' => r = .returned (strV (textF e)) ∧ Keep No w w' := by
  obtain ⟨bo, bc, rfl⟩ := hb.form
  obtain ⟨po, pc, rfl⟩ := hp.form
  obtain ⟨T0, hT0, zT0, cT0⟩ := rdec_op e.ix hok.ok.ix
  have ht : strB (textF e) = ((⟨#[100, 111, 117, 98, 108, 101, 32]⟩ : ByteArray) ++ T0) := by
    rw [textF_line (k := ⟨4, nDouble, [105]⟩) (by decide) hk.symm]
    rw [show (nDouble :: List.flatMap (wordsF e) [105]) = nDouble :: [Lib.itoa e.ix] from rfl, Lib.join_cons]
    simp only [hT0]
    apply ByteArray.ext
    simp [Lib.joinTail, nDouble, ByteArray.data_append]
  have HT := Lib.hid ht
  clear ht hT0
  obtain ⟨kd, who, cls, body, ix, pos, val, keep, torn, on, p⟩ := e
  simp only at hk
  subst hk
  unfold dvV
  have kA : Keep No w (w.alloc (.cells (dvC ⟨4, who, cls, body, ix, pos, val, keep, torn, on, p⟩ (.slice bo body.length bc) (.slice po p.length pc)) 33)) := (Keep.refl _ _).alloc _
  clear hb hp
  go_enter Tryd.func15, Tryd.ntmps15
  go_wp2_with fail
  refine (cT0 _).mono ?_
  rintro e w1 ⟨rfl, m, rfl⟩
  go_wp2_with fail
  go_ret
  exact ⟨congrArg (fun x => Ending.returned (Value.string x)) HT.out.symm, kA.drewN _⟩
set_option maxRecDepth 100000 in
set_option maxHeartbeats 400000 in
theorem rtext_7 [bn : Inhabited Ban] {base : Nat} {w : World} {e : EvS} {bv pv : Value} (hk : e.kind = 7) (hb : BytesAt base w bv e.body) (hp : BytesAt base w pv e.p) (hok : EvOk e) :
    Calls Tryd.prog 15 #[dvV e bv pv] w fun r w' => r = .returned (strV (textF e)) ∧ Keep No w w' := by
  obtain ⟨bo, bc, rfl⟩ := hb.form
  obtain ⟨po, pc, rfl⟩ := hp.form
  obtain ⟨T0, hT0, zT0, cT0⟩ := rdec_op e.ix hok.ok.ix
  have ht : strB (textF e) = ((⟨#[114, 101, 112, 108, 97, 121, 32]⟩ : ByteArray) ++ T0) := by
    rw [textF_line (k := ⟨7, nReplay, [105]⟩) (by decide) hk.symm]
    rw [show (nReplay :: List.flatMap (wordsF e) [105]) = nReplay :: [Lib.itoa e.ix] from rfl, Lib.join_cons]
    simp only [hT0]
    apply ByteArray.ext
    simp [Lib.joinTail, nReplay, ByteArray.data_append]
  have HT := Lib.hid ht
  clear ht hT0
  obtain ⟨kd, who, cls, body, ix, pos, val, keep, torn, on, p⟩ := e
  simp only at hk
  subst hk
  unfold dvV
  have kA : Keep No w (w.alloc (.cells (dvC ⟨7, who, cls, body, ix, pos, val, keep, torn, on, p⟩ (.slice bo body.length bc) (.slice po p.length pc)) 33)) := (Keep.refl _ _).alloc _
  clear hb hp
  go_enter Tryd.func15, Tryd.ntmps15
  go_wp2_with fail
  refine (cT0 _).mono ?_
  rintro e w1 ⟨rfl, m, rfl⟩
  go_wp2_with fail
  go_ret
  exact ⟨congrArg (fun x => Ending.returned (Value.string x)) HT.out.symm, kA.drewN _⟩
set_option maxRecDepth 100000 in
set_option maxHeartbeats 400000 in
theorem rtext_5 [bn : Inhabited Ban] {base : Nat} {w : World} {e : EvS} {bv pv : Value} (hk : e.kind = 5) (hb : BytesAt base w bv e.body) (hp : BytesAt base w pv e.p) (hok : EvOk e) :
    Calls Tryd.prog 15 #[dvV e bv pv] w fun r w' => r = .returned (strV (textF e)) ∧ Keep No w w' := by
  obtain ⟨bo, bc, rfl⟩ := hb.form
  obtain ⟨po, pc, rfl⟩ := hp.form
  obtain ⟨T0, hT0, zT0, cT0⟩ := rdec_op e.ix hok.ok.ix
  obtain ⟨T1, hT1, zT1, cT1⟩ := rdec_op e.pos hok.ok.pos
  obtain ⟨T2, hT2, zT2, cT2⟩ := rdec_op (e.val.toNat : Int) (u8_int64 _)
  have ht : strB (textF e) = ((((((⟨#[116, 117, 114, 110, 32]⟩ : ByteArray) ++ T0) ++ (⟨#[32]⟩ : ByteArray)) ++ T1) ++ (⟨#[32]⟩ : ByteArray)) ++ T2) := by
    rw [textF_line (k := ⟨5, nTurn, [105, 97, 121]⟩) (by decide) hk.symm]
    rw [show (nTurn :: List.flatMap (wordsF e) [105, 97, 121]) = nTurn :: [Lib.itoa e.ix, Lib.itoa e.pos, Lib.itoa (e.val.toNat : Int)] from rfl, Lib.join_cons]
    simp only [hT0, hT1, hT2]
    apply ByteArray.ext
    simp [Lib.joinTail, nTurn, ByteArray.data_append]
  have HT := Lib.hid ht
  clear ht hT0 hT1 hT2
  obtain ⟨kd, who, cls, body, ix, pos, val, keep, torn, on, p⟩ := e
  simp only at hk
  subst hk
  have hv0 : (val.toNat : Int) ≤ 255 := by have := val.toNat_lt; omega
  unfold dvV
  have kA : Keep No w (w.alloc (.cells (dvC ⟨5, who, cls, body, ix, pos, val, keep, torn, on, p⟩ (.slice bo body.length bc) (.slice po p.length pc)) 33)) := (Keep.refl _ _).alloc _
  clear hb hp
  go_enter Tryd.func15, Tryd.ntmps15
  go_wp2_with fail
  go_quiet (first | (go_at_call 22; (with_reducible refine Calls.quiet_of (cT0 _))) | (go_at_call 22; (with_reducible refine Calls.quiet_of (cT1 _))) | (go_at_call 22; (with_reducible refine Calls.quiet_of (cT2 _))))
  go_wp2_with fail
  go_ret
  exact ⟨congrArg (fun x => Ending.returned (Value.string x)) HT.out.symm, kA.drewN _⟩
set_option maxRecDepth 100000 in
set_option maxHeartbeats 400000 in
theorem rtext_6 [bn : Inhabited Ban] {base : Nat} {w : World} {e : EvS} {bv pv : Value} (hk : e.kind = 6) (hb : BytesAt base w bv e.body) (hp : BytesAt base w pv e.p) (hok : EvOk e) :
    Calls Tryd.prog 15 #[dvV e bv pv] w fun r w' => r = .returned (strV (textF e)) ∧ Keep No w w' := by
  obtain ⟨bo, bc, rfl⟩ := hb.form
  obtain ⟨po, pc, rfl⟩ := hp.form
  obtain ⟨T0, hT0, zT0, cT0⟩ := rwho_op e.who hok.ok.who
  obtain ⟨T1, hT1, zT1, cT1⟩ := rhex_op hp hok.p
  have ht : strB (textF e) = ((((⟨#[102, 111, 114, 103, 101, 32]⟩ : ByteArray) ++ T0) ++ (⟨#[32]⟩ : ByteArray)) ++ T1) := by
    rw [textF_line (k := ⟨6, nForge, [119, 104]⟩) (by decide) hk.symm]
    rw [show (nForge :: List.flatMap (wordsF e) [119, 104]) = nForge :: [whoF e.who, hexF e.p] from rfl, Lib.join_cons]
    simp only [hT0, hT1]
    apply ByteArray.ext
    simp [Lib.joinTail, nForge, ByteArray.data_append]
  have HT := Lib.hid ht
  clear ht hT0 hT1
  obtain ⟨kd, who, cls, body, ix, pos, val, keep, torn, on, p⟩ := e
  simp only at hk
  subst hk
  unfold dvV
  have kA : Keep No w (w.alloc (.cells (dvC ⟨6, who, cls, body, ix, pos, val, keep, torn, on, p⟩ (.slice bo body.length bc) (.slice po p.length pc)) 33)) := (Keep.refl _ _).alloc _
  clear hb hp
  go_enter Tryd.func15, Tryd.ntmps15
  go_wp2_with fail
  go_quiet (first | (go_at_call 39; (with_reducible refine Calls.quiet_of (cT0 _))) | (go_at_call 26; refine Calls.quiet_of (cT1 _ ((kA).drewN _))))
  go_wp2_with fail
  go_ret
  exact ⟨congrArg (fun x => Ending.returned (Value.string x)) HT.out.symm, kA.drewN _⟩
set_option maxRecDepth 100000 in
set_option maxHeartbeats 400000 in
theorem rtext_9 [bn : Inhabited Ban] {base : Nat} {w : World} {e : EvS} {bv pv : Value} (hk : e.kind = 9) (hb : BytesAt base w bv e.body) (hp : BytesAt base w pv e.p) (hok : EvOk e) :
    Calls Tryd.prog 15 #[dvV e bv pv] w fun r w' => r = .returned (strV (textF e)) ∧ Keep No w w' := by
  obtain ⟨bo, bc, rfl⟩ := hb.form
  obtain ⟨po, pc, rfl⟩ := hp.form
  obtain ⟨T0, hT0, zT0, cT0⟩ := rwho_op e.who hok.ok.who
  obtain ⟨T1, hT1, zT1, cT1⟩ := rdec_op e.keep hok.ok.keep
  obtain ⟨T2, hT2, zT2, cT2⟩ := rdec_op e.torn hok.ok.torn
  have ht : strB (textF e) = ((((((⟨#[99, 114, 97, 115, 104, 32]⟩ : ByteArray) ++ T0) ++ (⟨#[32]⟩ : ByteArray)) ++ T1) ++ (⟨#[32]⟩ : ByteArray)) ++ T2) := by
    rw [textF_line (k := ⟨9, nCrash, [119, 107, 116]⟩) (by decide) hk.symm]
    rw [show (nCrash :: List.flatMap (wordsF e) [119, 107, 116]) = nCrash :: [whoF e.who, Lib.itoa e.keep, Lib.itoa e.torn] from rfl, Lib.join_cons]
    simp only [hT0, hT1, hT2]
    apply ByteArray.ext
    simp [Lib.joinTail, nCrash, ByteArray.data_append]
  have HT := Lib.hid ht
  clear ht hT0 hT1 hT2
  obtain ⟨kd, who, cls, body, ix, pos, val, keep, torn, on, p⟩ := e
  simp only at hk
  subst hk
  unfold dvV
  have kA : Keep No w (w.alloc (.cells (dvC ⟨9, who, cls, body, ix, pos, val, keep, torn, on, p⟩ (.slice bo body.length bc) (.slice po p.length pc)) 33)) := (Keep.refl _ _).alloc _
  clear hb hp
  go_enter Tryd.func15, Tryd.ntmps15
  go_wp2_with fail
  go_quiet (first | (go_at_call 39; (with_reducible refine Calls.quiet_of (cT0 _))) | (go_at_call 22; (with_reducible refine Calls.quiet_of (cT1 _))) | (go_at_call 22; (with_reducible refine Calls.quiet_of (cT2 _))))
  go_wp2_with fail
  go_ret
  exact ⟨congrArg (fun x => Ending.returned (Value.string x)) HT.out.symm, kA.drewN _⟩
set_option maxRecDepth 100000 in
set_option maxHeartbeats 400000 in
theorem rtext_10 [bn : Inhabited Ban] {base : Nat} {w : World} {e : EvS} {bv pv : Value} (hk : e.kind = 10) (hb : BytesAt base w bv e.body) (hp : BytesAt base w pv e.p) (hok : EvOk e) :
    Calls Tryd.prog 15 #[dvV e bv pv] w fun r w' => r = .returned (strV (textF e)) ∧ Keep No w w' := by
  obtain ⟨bo, bc, rfl⟩ := hb.form
  obtain ⟨po, pc, rfl⟩ := hp.form
  obtain ⟨T0, hT0, zT0, cT0⟩ := rwho_op e.who hok.ok.who
  have ht : strB (textF e) = ((⟨#[98, 111, 111, 116, 32]⟩ : ByteArray) ++ T0) := by
    rw [textF_line (k := ⟨10, nBoot, [119]⟩) (by decide) hk.symm]
    rw [show (nBoot :: List.flatMap (wordsF e) [119]) = nBoot :: [whoF e.who] from rfl, Lib.join_cons]
    simp only [hT0]
    apply ByteArray.ext
    simp [Lib.joinTail, nBoot, ByteArray.data_append]
  have HT := Lib.hid ht
  clear ht hT0
  obtain ⟨kd, who, cls, body, ix, pos, val, keep, torn, on, p⟩ := e
  simp only at hk
  subst hk
  unfold dvV
  have kA : Keep No w (w.alloc (.cells (dvC ⟨10, who, cls, body, ix, pos, val, keep, torn, on, p⟩ (.slice bo body.length bc) (.slice po p.length pc)) 33)) := (Keep.refl _ _).alloc _
  clear hb hp
  go_enter Tryd.func15, Tryd.ntmps15
  go_wp2_with fail
  refine (cT0 _).mono ?_
  rintro e w1 ⟨rfl, m, rfl⟩
  go_wp2_with fail
  go_ret
  exact ⟨congrArg (fun x => Ending.returned (Value.string x)) HT.out.symm, kA.drewN _⟩
set_option maxRecDepth 100000 in
set_option maxHeartbeats 400000 in
theorem rtext_11 [bn : Inhabited Ban] {base : Nat} {w : World} {e : EvS} {bv pv : Value} (hk : e.kind = 11) (hb : BytesAt base w bv e.body) (hp : BytesAt base w pv e.p) (hok : EvOk e) :
    Calls Tryd.prog 15 #[dvV e bv pv] w fun r w' => r = .returned (strV (textF e)) ∧ Keep No w w' := by
  obtain ⟨bo, bc, rfl⟩ := hb.form
  obtain ⟨po, pc, rfl⟩ := hp.form
  obtain ⟨T0, hT0, zT0, cT0⟩ := rwho_op e.who hok.ok.who
  obtain ⟨T1, hT1, zT1, cT1⟩ := rdec_op e.cls hok.ok.cls
  obtain ⟨T2, hT2, zT2, cT2⟩ := rhex_op hb hok.body
  obtain ⟨T3, hT3, zT3, cT3⟩ := rdec_op e.keep hok.ok.keep
  obtain ⟨T4, hT4, zT4, cT4⟩ := rdec_op e.torn hok.ok.torn
  have ht : strB (textF e) = ((((((((((⟨#[104, 97, 108, 116, 32]⟩ : ByteArray) ++ T0) ++ (⟨#[32]⟩ : ByteArray)) ++ T1) ++ (⟨#[32]⟩ : ByteArray)) ++ T2) ++ (⟨#[32]⟩ : ByteArray)) ++ T3) ++ (⟨#[32]⟩ : ByteArray)) ++ T4) := by
    rw [textF_line (k := ⟨11, nHalt, [119, 115, 107, 116]⟩) (by decide) hk.symm]
    rw [show (nHalt :: List.flatMap (wordsF e) [119, 115, 107, 116]) = nHalt :: [whoF e.who, Lib.itoa e.cls, hexF e.body, Lib.itoa e.keep, Lib.itoa e.torn] from rfl, Lib.join_cons]
    simp only [hT0, hT1, hT2, hT3, hT4]
    apply ByteArray.ext
    simp [Lib.joinTail, nHalt, ByteArray.data_append]
  have HT := Lib.hid ht
  clear ht hT0 hT1 hT2 hT3 hT4
  obtain ⟨kd, who, cls, body, ix, pos, val, keep, torn, on, p⟩ := e
  simp only at hk
  subst hk
  unfold dvV
  have kA : Keep No w (w.alloc (.cells (dvC ⟨11, who, cls, body, ix, pos, val, keep, torn, on, p⟩ (.slice bo body.length bc) (.slice po p.length pc)) 33)) := (Keep.refl _ _).alloc _
  clear hb hp
  go_enter Tryd.func15, Tryd.ntmps15
  go_wp2_with fail
  go_quiet (first | (go_at_call 39; (with_reducible refine Calls.quiet_of (cT0 _))) | (go_at_call 22; (with_reducible refine Calls.quiet_of (cT1 _))) | (go_at_call 26; refine Calls.quiet_of (cT2 _ ((kA).drewN _))) | (go_at_call 22; (with_reducible refine Calls.quiet_of (cT3 _))) | (go_at_call 22; (with_reducible refine Calls.quiet_of (cT4 _))))
  go_wp2_with fail
  go_ret
  exact ⟨congrArg (fun x => Ending.returned (Value.string x)) HT.out.symm, kA.drewN _⟩
set_option maxRecDepth 100000 in
set_option maxHeartbeats 400000 in
theorem rtext_8_true [bn : Inhabited Ban] {base : Nat} {w : World} {e : EvS} {bv pv : Value} (hk : e.kind = 8) (hb : BytesAt base w bv e.body) (hp : BytesAt base w pv e.p) (hok : EvOk e) (hon : e.on = true) :
    Calls Tryd.prog 15 #[dvV e bv pv] w fun r w' => r = .returned (strV (textF e)) ∧ Keep No w w' := by
  obtain ⟨bo, bc, rfl⟩ := hb.form
  obtain ⟨po, pc, rfl⟩ := hp.form
  obtain ⟨T0, hT0, zT0, cT0⟩ := rwho_op e.who hok.ok.who
  have ht : strB (textF e) = (((⟨#[102, 117, 108, 108, 32]⟩ : ByteArray) ++ T0) ++ (⟨#[32, 111, 110]⟩ : ByteArray)) := by
    rw [textF_line (k := ⟨8, nFull, [119, 111]⟩) (by decide) hk.symm]
    rw [show (nFull :: List.flatMap (wordsF e) [119, 111]) = nFull :: [whoF e.who, onF e.on] from rfl, Lib.join_cons, hon]
    simp only [hT0]
    apply ByteArray.ext
    simp [Lib.joinTail, nFull, ByteArray.data_append, onF, wOn]
  have HT := Lib.hid ht
  clear ht hT0
  obtain ⟨kd, who, cls, body, ix, pos, val, keep, torn, on, p⟩ := e
  simp only at hk hon
  subst hk hon
  unfold dvV
  have kA : Keep No w (w.alloc (.cells (dvC ⟨8, who, cls, body, ix, pos, val, keep, torn, true, p⟩ (.slice bo body.length bc) (.slice po p.length pc)) 33)) := (Keep.refl _ _).alloc _
  clear hb hp
  go_enter Tryd.func15, Tryd.ntmps15
  go_wp2_with fail
  refine (cT0 _).mono ?_
  rintro e w1 ⟨rfl, m, rfl⟩
  go_wp2_with fail
  go_ret
  exact ⟨congrArg (fun x => Ending.returned (Value.string x)) HT.out.symm, kA.drewN _⟩
set_option maxRecDepth 100000 in
set_option maxHeartbeats 400000 in
theorem rtext_8_false [bn : Inhabited Ban] {base : Nat} {w : World} {e : EvS} {bv pv : Value} (hk : e.kind = 8) (hb : BytesAt base w bv e.body) (hp : BytesAt base w pv e.p) (hok : EvOk e) (hon : e.on = false) :
    Calls Tryd.prog 15 #[dvV e bv pv] w fun r w' => r = .returned (strV (textF e)) ∧ Keep No w w' := by
  obtain ⟨bo, bc, rfl⟩ := hb.form
  obtain ⟨po, pc, rfl⟩ := hp.form
  obtain ⟨T0, hT0, zT0, cT0⟩ := rwho_op e.who hok.ok.who
  have ht : strB (textF e) = (((⟨#[102, 117, 108, 108, 32]⟩ : ByteArray) ++ T0) ++ (⟨#[32, 111, 102, 102]⟩ : ByteArray)) := by
    rw [textF_line (k := ⟨8, nFull, [119, 111]⟩) (by decide) hk.symm]
    rw [show (nFull :: List.flatMap (wordsF e) [119, 111]) = nFull :: [whoF e.who, onF e.on] from rfl, Lib.join_cons, hon]
    simp only [hT0]
    apply ByteArray.ext
    simp [Lib.joinTail, nFull, ByteArray.data_append, onF, wOff]
  have HT := Lib.hid ht
  clear ht hT0
  obtain ⟨kd, who, cls, body, ix, pos, val, keep, torn, on, p⟩ := e
  simp only at hk hon
  subst hk hon
  unfold dvV
  have kA : Keep No w (w.alloc (.cells (dvC ⟨8, who, cls, body, ix, pos, val, keep, torn, false, p⟩ (.slice bo body.length bc) (.slice po p.length pc)) 33)) := (Keep.refl _ _).alloc _
  clear hb hp
  go_enter Tryd.func15, Tryd.ntmps15
  go_wp2_with fail
  refine (cT0 _).mono ?_
  rintro e w1 ⟨rfl, m, rfl⟩
  go_wp2_with fail
  go_ret
  exact ⟨congrArg (fun x => Ending.returned (Value.string x)) HT.out.symm, kA.drewN _⟩
set_option maxRecDepth 100000 in
theorem rtext_1 [bn : Inhabited Ban] {base : Nat} {w : World} {e : EvS} {bv pv : Value} (hk : e.kind = 1) (hb : BytesAt base w bv e.body) (hp : BytesAt base w pv e.p) (_hok : EvOk e) :
    Calls Tryd.prog 15 #[dvV e bv pv] w fun r w' => r = .returned (strV (textF e)) ∧ Keep No w w' := by
  obtain ⟨bo, bc, rfl⟩ := hb.form
  obtain ⟨po, pc, rfl⟩ := hp.form
  have ht : textF e = nTick := by rw [textF_line (k := ⟨1, nTick, []⟩) (by decide) hk.symm]; rfl
  rw [ht]
  obtain ⟨kd, who, cls, body, ix, pos, val, keep, torn, on, p⟩ := e
  simp only at hk
  subst hk
  unfold dvV
  clear hb hp ht
  go_enter Tryd.func15, Tryd.ntmps15
  go_wp2_with fail
  go_ret
  exact ⟨rfl, (Keep.refl _ _).alloc _⟩
set_option maxRecDepth 100000 in
theorem rtext_no [bn : Inhabited Ban] {base : Nat} {w : World} {e : EvS} {bv pv : Value} (hk : 12 ≤ e.kind) (hb : BytesAt base w bv e.body) (hp : BytesAt base w pv e.p) (hok : EvOk e) :
    Calls Tryd.prog 15 #[dvV e bv pv] w fun r w' => r = .returned (strV (textF e)) ∧ Keep No w w' := by
  obtain ⟨bo, bc, rfl⟩ := hb.form
  obtain ⟨po, pc, rfl⟩ := hp.form
  rw [text_none hk]
  obtain ⟨kd, who, cls, body, ix, pos, val, keep, torn, on, p⟩ := e
  simp only at hk
  obtain ⟨z, hz⟩ : ∃ z : Int, z = (kd : Int) := ⟨_, rfl⟩
  have hz1 : 12 ≤ z := by omega
  have hq : ∀ n : Int, n < 12 → (z == n) = false := fun n hn => by rw [beq_eq_false_iff_ne]; omega
  have q0 := hq 0 (by decide)
  have q1 := hq 1 (by decide)
  have q2 := hq 2 (by decide)
  have q3 := hq 3 (by decide)
  have q4 := hq 4 (by decide)
  have q5 := hq 5 (by decide)
  have q6 := hq 6 (by decide)
  have q7 := hq 7 (by decide)
  have q8 := hq 8 (by decide)
  have q9 := hq 9 (by decide)
  have q10 := hq 10 (by decide)
  have q11 := hq 11 (by decide)
  unfold dvV
  simp only
  rw [← hz]
  clear hb hp hk hok hz hq
  go_enter Tryd.func15, Tryd.ntmps15
  go_wp2_with fail
  go_ret
  exact ⟨rfl, (Keep.refl _ _).alloc _⟩
theorem rtext_spec [bn : Inhabited Ban] {base : Nat} {w : World} {e : EvS} {bv pv : Value} (hb : BytesAt base w bv e.body) (hp : BytesAt base w pv e.p) (hok : EvOk e) :
    Calls Tryd.prog 15 #[dvV e bv pv] w fun r w' => r = .returned (strV (textF e)) ∧ Keep No w w' := by
  by_cases h : e.kind < 12
  · match hk : e.kind, h with
    | 0, _ => exact rtext_0 hk hb hp hok
    | 1, _ => exact rtext_1 hk hb hp hok
    | 2, _ => exact rtext_2 hk hb hp hok
    | 3, _ => exact rtext_3 hk hb hp hok
    | 4, _ => exact rtext_4 hk hb hp hok
    | 5, _ => exact rtext_5 hk hb hp hok
    | 6, _ => exact rtext_6 hk hb hp hok
    | 7, _ => exact rtext_7 hk hb hp hok
    | 8, _ =>
      cases ho : e.on with
      | true => exact rtext_8_true hk hb hp hok ho
      | false => exact rtext_8_false hk hb hp hok ho
    | 9, _ => exact rtext_9 hk hb hp hok
    | 10, _ => exact rtext_10 hk hb hp hok
    | 11, _ => exact rtext_11 hk hb hp hok
  · exact rtext_no (by omega) hb hp hok
end Go.Proofs.YtlbjkmpdakmgeaaDoor
