/- DiskPrefix: the walk. -/
import Derived.Test.YtpjggnfiocplmaaActs
namespace Go.Proofs.Ytpjggnfiocplmaa
open Go Go.RowKit Go.Dr

structure RI (w0 w : World) (p n s : Nat) (wv dv : Value) (d : DiskS) (ds : List ActS) : Prop where
  hD : DiskAt w0.heap.size w p n s wv d
  hdn : DoneAt w0.heap.size w dv ds
  kr : Keep No w0 w
  hf : ∀ b, foot p n s wv b → w0.heap.size ≤ b
theorem RI.no {w0 w w' : World} {p n s : Nat} {wv dv : Value} {d : DiskS} {ds : List ActS} (h : RI w0 w p n s wv dv d ds) (k : Keep No w w') : RI w0 w' p n s wv dv d ds :=
  ⟨h.hD.no k, h.hdn.no k, h.kr.then k, h.hf⟩
theorem RI.set {w0 w : World} {p n s : Nat} {wv dv : Value} {d : DiskS} {ds : List ActS} (h : RI w0 w p n s wv dv d ds) {A : Nat} {cs : Array Value} {fr : Nat × Nat} (hbx : w.heap[A]? = some (.cells cs 29 fr)) (hA : w0.heap.size ≤ A)
    (hnA : ∀ b, dv.ownBlock = some b → b ≠ A) (i : Nat) (u : Value) : RI w0 (w.setCell ⟨A, i, none⟩ u) p n s wv dv d ds ∧ Foot w0.heap.size w (· = A) ∧ Keep (· = A) w (w.setCell ⟨A, i, none⟩ u) := by
  have hF : Foot w0.heap.size w (· = A) := by
    rintro b rfl
    exact ⟨hA, heap_lt hbx, fun cs fr e => by rw [hbx] at e; simp at e⟩
  have hK : Keep (· = A) w (w.setCell ⟨A, i, none⟩ u) := Keep.setCell (F := (· = A)) (Keep.refl _ _) (p := ⟨A, i, none⟩) (.inl rfl) _
  refine ⟨⟨h.hD.keep hF hK (fun b hb e => ?_), h.hdn.keep hF hK hnA, h.kr.absorb hK (fun x e => by rw [e]; exact hA), h.hf⟩, hF, hK⟩
  have e : b = A := e
  rw [← e] at hbx
  rcases h.hD.foot_kind hb hbx with h | h <;> simp at h
theorem RI.push {w0 w w' : World} {p n s : Nat} {wv dv v' : Value} {d : DiskS} {ds ds' : List ActS} (hD : DiskAt w0.heap.size w p n s wv d) (hdn : DoneAt w0.heap.size w dv ds) (kr : Keep No w0 w) (hf : ∀ b, foot p n s wv b → w0.heap.size ≤ b)
    (hdn' : DoneAt w0.heap.size w' v' ds') (k : Keep (fun b => dv.ownBlock = some b) w w') : RI w0 w' p n s wv v' d ds' :=
  ⟨hD.keep hdn.footOk k (fun b hb e => by
    obtain ⟨_, cur, hz⟩ := hdn.kind b e
    rcases hD.foot_kind hb hz with h | h <;> simp at h), hdn', kr.absorb k (fun x e => (hdn.kind x e).1), hf⟩

/-- Behind the first loop. -/
def Rel1 (w : World) (p : Nat) (dv : Value) (wr : World) : Prop :=
  ∃ (ds : List ActS) (d : DiskS) (n s : Nat) (wv : Value), RI w wr p n s wv dv d ds ∧ St d ds ∧ ds.length ≤ 20
/-- In the second loop. -/
def Rel2 (w : World) (p n s : Nat) (wv dv : Value) (d : DiskS) (ds : List ActS) (px k : Nat) (i : Value) (wr : World) : Prop :=
  ∃ j : Nat, j ≤ k ∧ i = .int .i64 j ∧ ∃ (nx sx : Nat) (wvx : Value), DiskAt w.heap.size wr px nx sx wvx (Xs d.wait j) ∧ RI w wr p n s wv dv d ds ∧ (∀ b, foot px nx sx wvx b → w.heap.size ≤ b) ∧ ∀ b, foot p n s wv b → ¬ foot px nx sx wvx b
theorem RI.other {w0 w w' : World} {p n s px nx sx : Nat} {wv dv wvx : Value} {d dx : DiskS} {ds : List ActS} (h : RI w0 w p n s wv dv d ds) (hx : DiskAt w0.heap.size w px nx sx wvx dx) (k : Keep (foot px nx sx wvx) w w')
    (hf : ∀ b, foot px nx sx wvx b → w0.heap.size ≤ b) (hd : ∀ b, foot p n s wv b → ¬ foot px nx sx wvx b) : RI w0 w' p n s wv dv d ds :=
  ⟨h.hD.keep hx.foot_ok k hd, h.hdn.disk hx k, h.kr.absorb k hf, h.hf⟩

def Rel (w : World) (p : Nat) (acts : List ActS) (dv i : Value) (wr : World) : Prop :=
  ∃ j : Nat, j ≤ acts.length ∧ i = .int .i64 j ∧ ∃ (ds : List ActS) (d : DiskS) (n s : Nat) (wv : Value), RI w wr p n s wv dv d ds ∧ St d ds ∧ ds.length ≤ j ∧ ds.length ≤ 20

set_option maxRecDepth 100000 in
set_option maxHeartbeats 4000000 in
theorem prefix_walk {w : World} {v : Value} {acts : List ActS} (hA : ActsAt w.heap.size w v acts) (hok : ∀ a ∈ acts, a.Ok) (keep torn : Int) (hkeep : (Lit.int .i64 keep).wf = true) (htorn : (Lit.int .i64 torn).wf = true) :
    Calls Try.prog 3 #[v, .int .i64 keep, .int .i64 torn] w fun e w' => e = .returned (.bool true) ∧ Keep No w w' := by
  obtain ⟨ao, cap, rfl, hlc, hcm, hacts⟩ := hA
  unfold maxLen at hcm
  have hlen : (acts.length : Int) ≤ 9223372036854775807 := by omega
  go_enter Try.func3, Try.ntmps3
  go_wp2_with fail
  refine awake6_spec.mono ?_
  rintro e w1 ⟨rfl, k1⟩
  go_wp2_with fail
  refine (new_spec w.heap.size 2000 k1.size).mono ?_
  rintro e w2 ⟨p, n, s, wv, rfl, h2, k2, f2⟩
  have k2 := k1.then k2
  have f2 : ∀ b, foot p n s wv b → w.heap.size ≤ b := fun b hb => Nat.le_trans k1.size (f2 b hb)
  change DiskAt w.heap.size w2 p n s wv { room := 2000, full := false, now := [], safe := [], wait := [] } at h2
  go_upto_block 0 with fail
  go_cut [8] (fun dv wx => Rel1 w p dv wx)
  case first =>
   go_wp2_with fail
   go_loopw [8, 20] (fun dv i wr => Rel w p acts dv i wr) (fun _ i _ => acts.length - (intOf i).toNat)
   case atStart => exact ⟨0, Nat.zero_le _, rfl, [], _, n, s, wv, ⟨h2, DoneAt.nil _ _, k2, f2⟩, St.nil, Nat.le_refl _, by decide⟩
   case round =>
     clear h2 f2 k2 k1
     obtain ⟨j, hj, rfl, ds, d, n, s, wv, hR, hS, hds, hd20⟩ := hrel
     by_cases hlt : j < acts.length
     · rcases hacts with rfl | ⟨g, o, hg, rfl, hacts⟩
       · simp at hlt
       · have hji : (j : Int) < (acts.length : Int) := by omega
         have haj : acts[j]? = some acts[j] := List.getElem?_eq_getElem hlt
         obtain ⟨u, hu, e0, e1, e2, e3, e4, e5⟩ := hacts j _ haj
         have hoj := hok _ (List.getElem_mem hlt)
         generalize acts[j] = a at *
         obtain ⟨uo, uc, rfl⟩ := hu.form
         have e0 := hR.kr.cell e0 (fun e => e)
         have e1 := hR.kr.cell e1 (fun e => e)
         have e2 := hR.kr.cell e2 (fun e => e)
         have e3 := hR.kr.cell e3 (fun e => e)
         have e4 := hR.kr.cell e4 (fun e => e)
         have e5 := hR.kr.cell e5 (fun e => e)
         have hu := hu.no hR.kr
         clear haj
         by_cases h20 : j < 20
         · clear hacts hok
           have hji20 : (j : Int) < 20 := by omega
           have h20' : ¬ (20 : Int) ≤ (j : Int) := by omega
           have hd0 := hoj.dop0
           have hd1 := hoj.dop1
           go_wp2_with fail
           have kA : Keep No wr (wr.alloc (.cells #[.int .u8 a.dop, .int .u64 a.seg, .slice uo a.p.length uc, .bool a.on, .int .i64 a.keep, .int .i64 a.torn] 29)) := (Keep.refl _ _).alloc _
           have hbx := heap_new wr (.cells #[.int .u8 a.dop, .int .u64 a.seg, .slice uo a.p.length uc, .bool a.on, .int .i64 a.keep, .int .i64 a.torn] 29)
           refine (cut_spec (hu.no kA) 40 (by decide)).mono ?_
           rintro e w3 ⟨v3, rfl, hown3, k3⟩
           obtain ⟨q, hq⟩ : ∃ q, q = a.p.take 40 := ⟨_, rfl⟩
           have hq40 : q.length ≤ 40 := by rw [hq]; simp; omega
           rw [← hq] at hown3
           obtain ⟨vo, vc, rfl⟩ := hown3.form
           have kA3 := kA.then k3
           have hbx := k3.heap hbx (fun e => e)
           have hu3 : BytesAt w.heap.size w3 _ q := hown3.bytes
           have hnA : ∀ b, u8.ownBlock = some b → b ≠ wr.heap.size := fun b hb e => by
             obtain ⟨_, cur, hz⟩ := hR.hdn.kind b hb
             have := heap_lt hz
             omega
           have hA := hR.kr.size
           have hR := hR.no kA3
           clear e0 e1 e2 e3 e4 e5 hu kA k3 kA3 hown3 hq hoj
           generalize hAA : wr.heap.size = A at *
           have c0 := cell_of hbx 0
           have c1 := cell_of hbx 1
           have c2 := cell_of hbx 2
           have c3 := cell_of hbx 3
           have c4 := cell_of hbx 4
           have c5 := cell_of hbx 5
           have f0 := frozen_of hbx 0
           have f2 := frozen_of hbx 2
           simp at c0 c1 c2 c3 c4 c5
           obtain ⟨hR4, hF4, hK4⟩ := hR.set hbx hA hnA 2 (.slice vo q.length vc)
           have hu4 := hu3.keep hF4 hK4
           have hbx4 := heap_setCell_same (i := 2) (u := .slice vo q.length vc) hbx
           simp at hbx4
           clear hR hF4 hK4 hu3 hbx
           have hsm := hS.small hd20
           by_cases hpar : a.dop % 2 = 0
           · go_wp2_with fail
             clear c0 c1 c2 c3 c4 c5 f0 f2
             generalize w3.setCell ⟨A, 2, none⟩ (.slice vo q.length vc) = w4 at *
             have hap := append_spec hR4.hD hR4.kr.size hsm.1 a.seg hu4 (by omega)
             rcases hS.append { a with dop := 0, p := q } rfl hq40 with ⟨e1, hS'⟩ | e1
             · simp only at e1
               rw [e1] at hap
               refine hap.mono ?_
               rintro e w5 ⟨rfl, n5, s5, wv5, hD5, k5, f5⟩
               have hdn5 := hR4.hdn.disk hR4.hD k5
               have hbx5 := k5.heap hbx4 (fun e => by rcases hR4.hD.foot_kind e hbx4 with h | h <;> simp at h)
               have hu5 := hu4.keep hR4.hD.foot_ok k5
               have kr5 := hR4.kr.absorb k5 hR4.hf
               have hf5 : ∀ b, foot p n5 s5 wv5 b → w.heap.size ≤ b := fun b hb => by rcases f5 b hb with h | h; exact hR4.hf b h; have := hR4.kr.size; omega
               have hR5 := RI.mk hD5 hdn5 kr5 hf5
               clear hR4 hap e1 k5 f5 hu4 hbx4 hsm hD5 hdn5 kr5 hf5
               have c0 := cell_of hbx5 0
               have c1 := cell_of hbx5 1
               have c2 := cell_of hbx5 2
               have c3 := cell_of hbx5 3
               have c4 := cell_of hbx5 4
               have c5 := cell_of hbx5 5
               have f0 := frozen_of hbx5 0
               simp at c0 c1 c2 c3 c4 c5
               obtain ⟨hR6, hF6, hK6⟩ := hR5.set hbx5 hA hnA 0 (.int .u8 0)
               have hu6 := hu5.keep hF6 hK6
               have hbx6 := heap_setCell_same (i := 0) (u := .int .u8 0) hbx5
               simp at hbx6
               have hk7 : Keep No (w5.setCell ⟨A, 0, none⟩ (.int .u8 0)) ((w5.setCell ⟨A, 0, none⟩ (.int .u8 0)).alloc (.cells #[.int .u8 0, .int .u64 a.seg, .slice vo q.length vc, .bool a.on, .int .i64 a.keep, .int .i64 a.torn] 29)) := (Keep.refl _ _).alloc _
               have hbx7 := heap_new (w5.setCell ⟨A, 0, none⟩ (.int .u8 0)) (.cells #[.int .u8 0, .int .u64 a.seg, .slice vo q.length vc, .bool a.on, .int .i64 a.keep, .int .i64 a.torn] 29)
               have hbxA := hk7.heap hbx6 (fun e => e)
               have hR7 := hR6.no hk7
               have hu7 := hu6.no hk7
               have hB7 := hR7.kr.size
               have hdl : ds.length ≤ 1000000 := by omega
               simp only [World.size_setCell] at hbx7
               clear hR5 hR6 hF6 hK6 hu5 hu6 hbx5 hbx6 hk7
               go_wp2_with (at_builtin; refine wpList_append_act { a with dop := 0, p := q } rfl _ _ rfl hR7.hdn hu7 w5.heap.size hbx7 rfl rfl hdl hB7 ?_; intro dv' w8 hdn8 hk8; have hb8 := hk8.heap hbxA (fun e => hnA _ e rfl); have c0' := cell_of hb8 0; simp at c0'; have HR8 := Lib.hid (RI.push hR7.hD hR7.hdn hR7.kr hR7.hf hdn8 hk8); clear hR7 hdn8 hk8 hb8 hbxA hbx7 hu7 c0 c1 c2 c3 c4 c5 f0)
               go_roundw
               case rel => exact ⟨j + 1, by omega, by go_num, _, _, n5, s5, wv5, HR8.out, hS', by simp; omega, by simp; omega⟩
               case measure => simp [intOf]; omega
             · simp only at e1
               rw [e1] at hap
               refine hap.mono ?_
               rintro e w5 ⟨rfl, n5, s5, wv5, hD5, k5, f5⟩
               have hdn5 := hR4.hdn.disk hR4.hD k5
               have hbx5 := k5.heap hbx4 (fun e => by rcases hR4.hD.foot_kind e hbx4 with h | h <;> simp at h)
               have kr5 := hR4.kr.absorb k5 hR4.hf
               have hf5 : ∀ b, foot p n5 s5 wv5 b → w.heap.size ≤ b := fun b hb => by rcases f5 b hb with h | h; exact hR4.hf b h; have := hR4.kr.size; omega
               have c0 := cell_of hbx5 0
               simp at c0
               have HR := Lib.hid (RI.mk hD5 hdn5 kr5 hf5)
               clear hR4 hap e1 k5 f5 hu4 hbx4 hsm hD5 hdn5 hbx5 kr5 hf5
               go_wp2
               go_roundw
               case rel => exact ⟨j + 1, by omega, by go_num, ds, d, n5, s5, wv5, HR.out, hS, by omega, hd20⟩
               case measure => simp [intOf]; omega
           · have hpar' : a.dop % 2 = 1 := by omega
             go_wp2_with fail
             clear c0 c1 c2 c3 c4 c5 f0 f2
             generalize w3.setCell ⟨A, 2, none⟩ (.slice vo q.length vc) = w4 at *
             have hap := drop_spec hR4.hD hR4.kr.size hsm.1 a.seg
             rcases hS.drop { a with dop := 3, p := q } rfl hq40 with ⟨e1, hS'⟩ | e1
             · simp only at e1
               rw [e1] at hap
               refine hap.mono ?_
               rintro e w5 ⟨rfl, n5, s5, wv5, hD5, k5, f5⟩
               have hdn5 := hR4.hdn.disk hR4.hD k5
               have hbx5 := k5.heap hbx4 (fun e => by rcases hR4.hD.foot_kind e hbx4 with h | h <;> simp at h)
               have hu5 := hu4.keep hR4.hD.foot_ok k5
               have kr5 := hR4.kr.absorb k5 hR4.hf
               have hf5 : ∀ b, foot p n5 s5 wv5 b → w.heap.size ≤ b := fun b hb => by rcases f5 b hb with h | h; exact hR4.hf b h; have := hR4.kr.size; omega
               have hR5 := RI.mk hD5 hdn5 kr5 hf5
               clear hR4 hap e1 k5 f5 hu4 hbx4 hsm hD5 hdn5 kr5 hf5
               have c0 := cell_of hbx5 0
               have c1 := cell_of hbx5 1
               have c2 := cell_of hbx5 2
               have c3 := cell_of hbx5 3
               have c4 := cell_of hbx5 4
               have c5 := cell_of hbx5 5
               have f0 := frozen_of hbx5 0
               simp at c0 c1 c2 c3 c4 c5
               obtain ⟨hR6, hF6, hK6⟩ := hR5.set hbx5 hA hnA 0 (.int .u8 3)
               have hu6 := hu5.keep hF6 hK6
               have hbx6 := heap_setCell_same (i := 0) (u := .int .u8 3) hbx5
               simp at hbx6
               have hk7 : Keep No (w5.setCell ⟨A, 0, none⟩ (.int .u8 3)) ((w5.setCell ⟨A, 0, none⟩ (.int .u8 3)).alloc (.cells #[.int .u8 3, .int .u64 a.seg, .slice vo q.length vc, .bool a.on, .int .i64 a.keep, .int .i64 a.torn] 29)) := (Keep.refl _ _).alloc _
               have hbx7 := heap_new (w5.setCell ⟨A, 0, none⟩ (.int .u8 3)) (.cells #[.int .u8 3, .int .u64 a.seg, .slice vo q.length vc, .bool a.on, .int .i64 a.keep, .int .i64 a.torn] 29)
               have hbxA := hk7.heap hbx6 (fun e => e)
               have hR7 := hR6.no hk7
               have hu7 := hu6.no hk7
               have hB7 := hR7.kr.size
               have hdl : ds.length ≤ 1000000 := by omega
               simp only [World.size_setCell] at hbx7
               clear hR5 hR6 hF6 hK6 hu5 hu6 hbx5 hbx6 hk7
               go_wp2_with (at_builtin; refine wpList_append_act { a with dop := 3, p := q } rfl _ _ rfl hR7.hdn hu7 w5.heap.size hbx7 rfl rfl hdl hB7 ?_; intro dv' w8 hdn8 hk8; have hb8 := hk8.heap hbxA (fun e => hnA _ e rfl); have c0' := cell_of hb8 0; simp at c0'; have HR8 := Lib.hid (RI.push hR7.hD hR7.hdn hR7.kr hR7.hf hdn8 hk8); clear hR7 hdn8 hk8 hb8 hbxA hbx7 hu7 c0 c1 c2 c3 c4 c5 f0)
               go_roundw
               case rel => exact ⟨j + 1, by omega, by go_num, _, _, n5, s5, wv5, HR8.out, hS', by simp; omega, by simp; omega⟩
               case measure => simp [intOf]; omega
             · simp only at e1
               rw [e1] at hap
               refine hap.mono ?_
               rintro e w5 ⟨rfl, n5, s5, wv5, hD5, k5, f5⟩
               have hdn5 := hR4.hdn.disk hR4.hD k5
               have hbx5 := k5.heap hbx4 (fun e => by rcases hR4.hD.foot_kind e hbx4 with h | h <;> simp at h)
               have kr5 := hR4.kr.absorb k5 hR4.hf
               have hf5 : ∀ b, foot p n5 s5 wv5 b → w.heap.size ≤ b := fun b hb => by rcases f5 b hb with h | h; exact hR4.hf b h; have := hR4.kr.size; omega
               have c0 := cell_of hbx5 0
               simp at c0
               have HR := Lib.hid (RI.mk hD5 hdn5 kr5 hf5)
               clear hR4 hap e1 k5 f5 hu4 hbx4 hsm hD5 hdn5 hbx5 kr5 hf5
               go_wp2
               go_roundw
               case rel => exact ⟨j + 1, by omega, by go_num, ds, d, n5, s5, wv5, HR.out, hS, by omega, hd20⟩
               case measure => simp [intOf]; omega
         · have h20' : (20 : Int) ≤ (j : Int) := by omega
           have HR := Lib.hid hR
           clear hu hds hoj hacts hok h20 hlt hj hR
           go_wp2
           go_meet
           exact ⟨ds, d, n, s, wv, HR.out.no ((Keep.refl _ _).alloc _), hS, hd20⟩
     · have hji : ¬ (j : Int) < (acts.length : Int) := by omega
       have HR := Lib.hid hR
       clear hR hacts hok hlt
       go_wp2
       go_meet
       exact ⟨ds, d, n, s, wv, HR.out, hS, hd20⟩
  case rest =>
    clear h2 k2 k1 f2 hacts hok hlc hcm hlen
    obtain ⟨ds, d, n, s, wv, hR, hS, hd20⟩ := hcut
    obtain ⟨dO, dc, rfl, hdl, hdm⟩ := hR.hdn.form
    unfold maxLen at hdm
    have hdci : (dc : Int) ≤ 9223372036854775807 := by omega
    obtain ⟨k, hk⟩ : ∃ k : Nat, max (min keep (ds.length : Int)) 0 = (k : Int) := ⟨(max (min keep (ds.length : Int)) 0).toNat, by omega⟩
    have HK := Lib.hid hk
    have hkl : k ≤ ds.length := by omega
    have hkc : (k : Int) ≤ (dc : Int) := by omega
    have hki20 : (k : Int) ≤ 20 := by omega
    clear hk hdm
    go_wp2_with (first | (refine wpList_min _ _ rfl _ _ rfl rfl rfl ?_) | (refine wpList_max _ _ rfl _ _ rfl rfl rfl ?_; rw [HK.out]))
    refine (new_spec w.heap.size 2000 hR.kr.size).mono ?_
    rintro e w4 ⟨px, nx, sx, wvx, rfl, h4, k4, f4⟩
    change DiskAt w.heap.size w4 px nx sx wvx { room := 2000, full := false, now := [], safe := [], wait := [] } at h4
    rw [← Xs_zero d.wait] at h4
    have hdis : ∀ b, foot p n s wv b → ¬ foot px nx sx wvx b := fun b hb hx => by have := f4 b hx; have := hR.hD.foot_lt b hb; omega
    have hfx : ∀ b, foot px nx sx wvx b → w.heap.size ≤ b := fun b hb => Nat.le_trans hR.kr.size (f4 b hb)
    have hR := hR.no k4
    clear k4 f4
    go_upto_block 2 with fail
    go_cut [] (fun wx => ∃ (nx sx : Nat) (wvx : Value), DiskAt w.heap.size wx px nx sx wvx (Xs d.wait k) ∧ RI w wx p n s wv (.slice dO ds.length dc) d ds ∧ (∀ b, foot px nx sx wvx b → w.heap.size ≤ b) ∧ ∀ b, foot p n s wv b → ¬ foot px nx sx wvx b)
    case first =>
      go_wp2_with fail
      go_loopw [76] (fun i wr => Rel2 w p n s wv (.slice dO ds.length dc) d ds px k i wr) (fun i _ => k - (intOf i).toNat)
      case atStart => exact ⟨0, Nat.zero_le _, rfl, nx, sx, wvx, h4, hR, hfx, hdis⟩
      case round =>
        clear h4 hR hfx hdis
        obtain ⟨j, hj, rfl, nx, sx, wvx, hX, hR, hfx, hdis⟩ := hrel
        by_cases hlt : j < k
        · have hji : (j : Int) < (k : Int) := by omega
          obtain ⟨g, rfl, hbg, hact⟩ := hR.hdn.act (by omega)
          have haj : ds[j]? = some ds[j] := List.getElem?_eq_getElem (by omega)
          have hdop := hS.dops _ (List.getElem_mem (by omega : j < ds.length))
          have hapd := fun h => Xs_append hS haj h
          have hdrp := fun h => Xs_drop hS haj h
          have hxs := Xs_small hS hd20 j
          obtain ⟨u, hu, e0, e1, e2, e3, e4, e5⟩ := hact j _ haj
          have hpl := hS.plen _ (List.getElem_mem (by omega : j < ds.length))
          generalize ds[j] = a at *
          obtain ⟨uo, uc, rfl⟩ := hu.form
          have kA : Keep No wr (wr.alloc (.cells #[.int .u8 a.dop, .int .u64 a.seg, .slice uo a.p.length uc, .bool a.on, .int .i64 a.keep, .int .i64 a.torn] 29)) := (Keep.refl _ _).alloc _
          have hRA := hR.no kA
          have hXA := hX.no kA
          have huA := hu.no kA
          have hszA := hRA.kr.size
          have hfr : ∀ (w5 : World) n5 s5 wv5, Keep (foot px nx sx wvx) (wr.alloc (.cells #[.int .u8 a.dop, .int .u64 a.seg, .slice uo a.p.length uc, .bool a.on, .int .i64 a.keep, .int .i64 a.torn] 29)) w5 →
              (∀ b, foot px n5 s5 wv5 b → foot px nx sx wvx b ∨ (wr.alloc (.cells #[.int .u8 a.dop, .int .u64 a.seg, .slice uo a.p.length uc, .bool a.on, .int .i64 a.keep, .int .i64 a.torn] 29)).heap.size ≤ b) →
              RI w w5 p n s wv (.slice (some ⟨g, 0, none⟩) ds.length dc) d ds ∧ (∀ b, foot px n5 s5 wv5 b → w.heap.size ≤ b) ∧ ∀ b, foot p n s wv b → ¬ foot px n5 s5 wv5 b := by
            intro w5 n5 s5 wv5 k5 f5
            refine ⟨hRA.other hXA k5 hfx hdis, fun b hb => ?_, fun b hb hx => ?_⟩
            · rcases f5 b hb with h | h
              · exact hfx b h
              · omega
            · rcases f5 b hx with h | h
              · exact hdis b hb h
              · have := hRA.hD.foot_lt b hb; omega
          rcases hdop with hd0 | hd3
          · have hap := append_spec hXA hszA hxs.1 a.seg huA (by omega)
            rw [hapd hd0] at hap
            rw [hd0] at e0
            have HA := Lib.hid (And.intro hap hfr)
            clear hR hRA hX hXA hu huA hap hfr hapd hdrp hact kA hszA hxs hpl haj
            rw [hd0] at HA
            go_wp2_with (go_at_call 17; refine HA.out.1.mono ?_; rintro e w5 ⟨rfl, n5, s5, wv5, h5, k5, f5⟩; have HB := Lib.hid (HA.out.2 w5 n5 s5 wv5 k5 f5); have H5 := Lib.hid h5; clear HA h5 k5 f5)
            go_roundw
            case rel => exact ⟨j + 1, by omega, by go_num, n5, s5, wv5, H5.out, HB.out.1, HB.out.2.1, HB.out.2.2⟩
            case measure => simp [intOf]; omega
          · have hap := drop_spec hXA hszA hxs.1 a.seg
            rw [hdrp hd3] at hap
            rw [hd3] at e0
            have HA := Lib.hid (And.intro hap hfr)
            clear hR hRA hX hXA hu huA hap hfr hapd hdrp hact kA hszA hxs hpl haj
            rw [hd3] at HA
            go_wp2_with (go_at_call 18; refine HA.out.1.mono ?_; rintro e w5 ⟨rfl, n5, s5, wv5, h5, k5, f5⟩; have HB := Lib.hid (HA.out.2 w5 n5 s5 wv5 k5 f5); have H5 := Lib.hid h5; clear HA h5 k5 f5)
            go_roundw
            case rel => exact ⟨j + 1, by omega, by go_num, n5, s5, wv5, H5.out, HB.out.1, HB.out.2.1, HB.out.2.2⟩
            case measure => simp [intOf]; omega
        · obtain rfl : j = k := by omega
          have hji : ¬ (j : Int) < (j : Int) := by omega
          have HX := Lib.hid (And.intro hX (And.intro hR (And.intro hfx hdis)))
          clear hX hR hfx hdis hlt hj
          go_wp2
          go_meet
          exact ⟨nx, sx, wvx, HX.out⟩
    case rest =>
      clear h4 hR hfx hdis
      obtain ⟨nx, sx, wvx, hX, hR, hfx, hdis⟩ := hcut
      have hsm := hS.small hd20
      have hcs : msum d.safe + wsum d.wait ≤ 1099511627776 := by rw [hS.safe]; simp [msum]; omega
      have hcw : d.wait.length ≤ 1000000 := by omega
      have hkw : k ≤ d.wait.length := by omega
      go_wp2_with fail
      refine (crash_spec hR.hD hR.kr.size hcs hcw (k : Int) 0 (by decide)).mono ?_
      rintro e w5 ⟨p5, n5, s5, wv5, rfl, h5, k5, f5⟩
      have hR := hR.no k5
      have hX := hX.no k5
      go_wp2_with fail
      refine (same_spec h5 hX hR.kr.size).mono ?_
      rintro e w6 ⟨rfl, k6⟩
      rw [crash_zero hS k hkw]
      have hR := hR.no k6
      have hX := hX.no k6
      clear h5 k5 f5 k6
      by_cases hc : ∃ a, ds[k]? = some a ∧ a.dop = 0 ∧ 0 < torn ∧ 1 < a.p.length
      · obtain ⟨a, hak, hd0, ht0, hp1⟩ := hc
        have hkd : k < ds.length := (List.getElem?_eq_some_iff.1 hak).1
        obtain ⟨g, rfl, hbg, hact⟩ := hR.hdn.act (by omega)
        obtain ⟨u, hu, e0, e1, e2, e3, e4, e5⟩ := hact k _ hak
        obtain ⟨uo, uc, rfl⟩ := hu.form
        rw [hd0] at e0
        have hpl := hS.plen a (List.mem_of_getElem? hak)
        have hki : (k : Int) < (ds.length : Int) := by omega
        have hk0 : (0 : Int) ≤ (k : Int) := by omega
        have hp1i : (1 : Int) < (a.p.length : Int) := by omega
        have hp40 : (a.p.length : Int) ≤ 40 := by omega
        obtain ⟨m, hm⟩ : ∃ m : Nat, min torn ((a.p.length : Int) - 1) = (m : Int) := ⟨(min torn ((a.p.length : Int) - 1)).toNat, by omega⟩
        obtain ⟨hxa, hsm2⟩ := crash_torn hS hd20 k torn hak hd0 ht0 hp1 hm
        have HM := Lib.hid hm
        have hml : m ≤ a.p.length := by omega
        have hcap : a.p.length ≤ uc := by obtain ⟨_, _, hq, h1, _⟩ := hu; simp at hq; omega
        have hmc : (m : Int) ≤ (uc : Int) := by omega
        have hm0 : (0 : Int) ≤ (m : Int) := by omega
        clear hm hact
        go_wp2
        obtain ⟨W, hW⟩ : ∃ W, W = w6 := ⟨_, rfl⟩
        rw [← hW] at hR hX e0 e1 e2 e3 e4 e5 hu ⊢
        clear hW
        refine wp_drawN (fun w' => w' = W.drew) [0, 1, 2, 3, 4, 5, 6, 7, 8, 9, 10, 11, 12, 13, 14, 15, 16, 17] [18, 19, 20] [21] (by kernel_rfl) (by kernel_rfl) (fun _ _ _ _ _ h => h) rfl ?_
        iterate 18 (refine earlyN_cons (v := ?_) rfl rfl rfl ?_ ?_; rotate_left; focus (
          rintro w' rfl
          go_simp
          try with_reducible rfl))
        have hwr : IntKind.i64.wrap ((a.p.length : Int) - 1) = (a.p.length : Int) - 1 := IntWalk.i64_in _ (by omega)
        refine earlyN_nil (midN_cons rfl rfl (fun K hK => ?_))
        go_simp
        clear hwr
        refine hK _ _ rfl ?_
        clear hK K
        refine midN_cons rfl rfl (fun K hK => ?_)
        refine wp_min torn ((a.p.length : Int) - 1) _ _ rfl rfl rfl ?_
        rw [HM.out]
        refine hK _ _ rfl ?_
        clear hK K
        refine midN_cons rfl rfl (fun K hK => ?_)
        go_simp
        refine hK _ _ rfl ?_
        clear hK K
        refine midN_nil (tailN_cons rfl (tailN_nil ?_))
        have hdr : Keep No W W.drew := (Keep.refl _ _).drew
        have hut := (hu.no hdr).take m hml
        have hXd := hX.no hdr
        have hRd := hR.no hdr
        have hap := append_spec hXd hRd.kr.size (Xs_small hS hd20 k).1 a.seg hut (by simp; omega)
        rw [hxa] at hap
        have HA := Lib.hid hap
        clear hap hX hu e0 e1 e2 e3 e4 e5 hut hxa hR hdr
        go_wp2_with (go_at_call 17; refine HA.out.mono ?_; rintro e w7 ⟨rfl, n7, s7, wv7, hx, k7, f7⟩)
        have hR := hRd.other hXd k7 hfx hdis
        clear hRd hXd k7 f7 HA
        clear hX hdis hfx
        go_wp2_with fail
        refine (crash_spec hR.hD hR.kr.size hcs hcw (k : Int) torn htorn).mono ?_
        rintro e w9 ⟨p9, n9, s9, wv9, rfl, h9, k9, f9⟩
        have hR := hR.no k9
        have hx := hx.no k9
        go_wp2_with fail
        refine (same_spec h9 hx hR.kr.size).mono ?_
        rintro e w10 ⟨rfl, k10⟩
        rw [hsm2]
        have hR := hR.no k10
        clear h9 k9 f9 k10 hx
        go_wp2_with fail
        refine (crash_spec hR.hD hR.kr.size hcs hcw keep torn htorn).mono ?_
        rintro e w11 ⟨p11, n11, s11, wv11, rfl, h11, k11, f11⟩
        have hR := hR.no k11
        go_wp2_with fail
        refine (crash_spec hR.hD hR.kr.size hcs hcw (k : Int) torn htorn).mono ?_
        rintro e w12 ⟨p12, n12, s12, wv12, rfl, h12, k12, f12⟩
        have hR := hR.no k12
        go_wp2_with fail
        refine (same_spec (h11.no k12) h12 hR.kr.size).mono ?_
        rintro e w13 ⟨rfl, k13⟩
        have hsm3 : msame (d.crash keep torn).now (d.crash (k : Int) torn).now = true := by
          have hwl := (hS.small hd20).2.2.2
          rw [crash_keep d keep torn k (by rw [hwl]; exact HK.out)]
          exact msame_refl (crash_keys hS _ _)
        rw [hsm3]
        have HF := Lib.hid (hR.kr.then k13)
        clear hR h11 h12 k11 k12 k13 f11 f12 hsm3 hsm2 hcs hcw
        go_wp2
        go_ret
        exact ⟨rfl, HF.out⟩
      · have hsm2 : msame (d.crash (k : Int) torn).now (Xs d.wait k).now = true := crash_untorn hS k hkw torn (fun a ha hh => hc ⟨a, ha, hh⟩)
        have hx := hX
        go_upto_region 28 with fail
        go_cut [124] (fun v wx => v = .bool false ∧ wx = w6)
        case first =>
          have hdn0 := hR.hdn
          have HC := Lib.hid hc
          have hk0 : (0 : Int) ≤ (k : Int) := by omega
          clear hX hx hR hfx hdis hsm2 hcs hcw hsm hkw hS HK hd20 hki20 hkl hc
          by_cases hkd : k < ds.length
          · obtain ⟨g, rfl, hbg, hact⟩ := hdn0.act (by omega)
            have hak : ds[k]? = some ds[k] := List.getElem?_eq_getElem hkd
            obtain ⟨u, hu, e0, e1, e2, e3, e4, e5⟩ := hact k _ hak
            have hcn := fun h0 h1 h2 => HC.out ⟨_, hak, h0, h1, h2⟩
            have hki : (k : Int) < (ds.length : Int) := by omega
            generalize ds[k] = a at *
            obtain ⟨uo, uc, rfl⟩ := hu.form
            clear hact hak hu hdn0
            by_cases h0 : a.dop = 0
            · rw [h0] at e0
              by_cases h1 : 0 < torn
              · have h2 : ¬ (1 : Int) < (a.p.length : Int) := fun h => hcn h0 h1 (by omega)
                clear hcn
                go_wp2
                go_meet
                exact ⟨rfl, rfl⟩
              · clear hcn
                go_wp2
                go_meet
                exact ⟨rfl, rfl⟩
            · have h0' : (a.dop == 0) = false := by simpa using h0
              clear hcn
              go_wp2
              go_meet
              exact ⟨rfl, rfl⟩
          · have hki : ¬ (k : Int) < (ds.length : Int) := by omega
            clear hdn0
            go_wp2
            go_meet
            exact ⟨rfl, rfl⟩
        case rest =>
          obtain ⟨rfl, rfl⟩ := hcut
          clear hX hdis hfx
          go_wp2_with fail
          refine (crash_spec hR.hD hR.kr.size hcs hcw (k : Int) torn htorn).mono ?_
          rintro e w9 ⟨p9, n9, s9, wv9, rfl, h9, k9, f9⟩
          have hR := hR.no k9
          have hx := hx.no k9
          go_wp2_with fail
          refine (same_spec h9 hx hR.kr.size).mono ?_
          rintro e w10 ⟨rfl, k10⟩
          rw [hsm2]
          have hR := hR.no k10
          clear h9 k9 f9 k10 hx
          go_wp2_with fail
          refine (crash_spec hR.hD hR.kr.size hcs hcw keep torn htorn).mono ?_
          rintro e w11 ⟨p11, n11, s11, wv11, rfl, h11, k11, f11⟩
          have hR := hR.no k11
          go_wp2_with fail
          refine (crash_spec hR.hD hR.kr.size hcs hcw (k : Int) torn htorn).mono ?_
          rintro e w12 ⟨p12, n12, s12, wv12, rfl, h12, k12, f12⟩
          have hR := hR.no k12
          go_wp2_with fail
          refine (same_spec (h11.no k12) h12 hR.kr.size).mono ?_
          rintro e w13 ⟨rfl, k13⟩
          have hsm3 : msame (d.crash keep torn).now (d.crash (k : Int) torn).now = true := by
            have hwl := (hS.small hd20).2.2.2
            rw [crash_keep d keep torn k (by rw [hwl]; exact HK.out)]
            exact msame_refl (crash_keys hS _ _)
          rw [hsm3]
          have HF := Lib.hid (hR.kr.then k13)
          clear hR h11 h12 k11 k12 k13 f11 f12 hsm3 hsm2 hcs hcw
          go_wp2
          go_ret
          exact ⟨rfl, HF.out⟩
end Go.Proofs.Ytpjggnfiocplmaa
