/- The law's own: own, same. -/
import Derived.Test.YtlbjkmpdakmgeaaDoorTaleR
namespace Go.Proofs.YtlbjkmpdakmgeaaDoor
open Go Go.RowKit Go.Dr

theorem dvcCells {w : World} {g : Nat} {e : EvS} {bv pv : Value} {t : TypeId} {fr : Nat × Nat} (h : w.heap[g]? = some (.cells (dvC e bv pv) t fr)) :
    w.cell? ⟨g, 0, none⟩ = some (.int .i64 e.kind) ∧ w.cell? ⟨g, 1, none⟩ = some (.int .i64 e.who) ∧ w.cell? ⟨g, 2, none⟩ = some (.int .i64 e.cls) ∧ w.cell? ⟨g, 3, none⟩ = some bv ∧
    w.cell? ⟨g, 4, none⟩ = some (.int .i64 e.ix) ∧ w.cell? ⟨g, 5, none⟩ = some (.int .i64 e.pos) ∧ w.cell? ⟨g, 6, none⟩ = some (.int .u8 e.val.toNat) ∧ w.cell? ⟨g, 7, none⟩ = some (.int .i64 e.keep) ∧
    w.cell? ⟨g, 8, none⟩ = some (.int .i64 e.torn) ∧ w.cell? ⟨g, 9, none⟩ = some (.bool e.on) ∧ w.cell? ⟨g, 10, none⟩ = some pv := by
  simp only [cell_of h]
  exact ⟨rfl, rfl, rfl, rfl, rfl, rfl, rfl, rfl, rfl, rfl, rfl⟩
set_option maxRecDepth 100000 in
theorem own_spec {w : World} {e : EvS} {bo po : Option Addr} {bn bc pn pc : Nat} (hk : e.kind < 256) :
    Calls Tryd.prog 12 #[evV e (.slice bo bn bc) (.slice po pn pc)] w fun r w' => r = .returned (dvV e (.slice bo bn bc) (.slice po pn pc)) ∧ Keep No w w' := by
  have hk1 : (e.kind : Int) ≤ 255 := by omega
  unfold evV
  go_enter Tryd.func12, Tryd.ntmps12
  go_wp2_with fail
  exact bodyPost_ret (v := dvV e (.slice bo bn bc) (.slice po pn pc)) (by simp [results, Tryd.results12, go_sem, dvV]) rfl ⟨rfl, ((Keep.refl _ _).alloc _).alloc _⟩

theorem r4same_spec [bn : Inhabited Ban] {base : Nat} {w : World} {c : Int} {u v : Value} {l : Bytes} (hu : BytesAt base w u l) (hv : BytesAt base w v l) :
    Calls Tryd.prog 35 #[.agg #[.int .i64 c, u], .agg #[.int .i64 c, v]] w fun e w' => e = .returned (.bool true) ∧ Keep No w w' := by
  obtain ⟨uo, uc, rfl⟩ := hu.form
  obtain ⟨vo, vc, rfl⟩ := hv.form
  have k2 : Keep No w ((w.alloc (.cells #[.int .i64 c, .slice uo l.length uc] 31)).alloc (.cells #[.int .i64 c, .slice vo l.length vc] 31)) := ((Keep.refl _ _).alloc _).alloc _
  have hs := r1same_spec (hu.no k2) (hv.no k2)
  rw [show (l == l) = true from by simp] at hs
  clear hu hv
  go_enter Tryd.func35, Tryd.ntmps35
  go_wp2_with fail
  refine hs.mono ?_
  rintro e w1 ⟨rfl, k1⟩
  go_wp2_with fail
  go_ret
  exact ⟨rfl, k2.then k1⟩
set_option maxRecDepth 100000 in
set_option maxHeartbeats 400000 in
theorem same_spec [bn : Inhabited Ban] {base : Nat} {w : World} {e : EvS} {bv pv bv' pv' : Value} (hb : BytesAt base w bv e.body) (hp : BytesAt base w pv e.p) (hb' : BytesAt base w bv' e.body) (hp' : BytesAt base w pv' e.p) :
    Calls Tryd.prog 11 #[dvV e bv pv, dvV e bv' pv'] w fun r w' => r = .returned (.bool true) ∧ Keep No w w' := by
  obtain ⟨bo, bc, rfl⟩ := hb.form
  obtain ⟨po, pc, rfl⟩ := hp.form
  obtain ⟨bo', bc', rfl⟩ := hb'.form
  obtain ⟨po', pc', rfl⟩ := hp'.form
  have k2 : Keep No w ((w.alloc (.cells (dvC e (.slice bo e.body.length bc) (.slice po e.p.length pc)) 33)).alloc (.cells (dvC e (.slice bo' e.body.length bc') (.slice po' e.p.length pc')) 33)) := ((Keep.refl _ _).alloc _).alloc _
  have h1 := heap_new (w.alloc (.cells (dvC e (.slice bo e.body.length bc) (.slice po e.p.length pc)) 33)) (.cells (dvC e (.slice bo' e.body.length bc') (.slice po' e.p.length pc')) 33)
  have h0 := ((Keep.refl No _).alloc (.cells (dvC e (.slice bo' e.body.length bc') (.slice po' e.p.length pc')) 33)).heap (heap_new w (.cells (dvC e (.slice bo e.body.length bc) (.slice po e.p.length pc)) 33)) (fun e => e)
  rw [World.size_alloc] at h1
  have hs := r4same_spec (c := e.cls) (hb.no k2) (hb'.no k2)
  have HB := Lib.hid (And.intro (hp.no k2) (hp'.no k2))
  unfold dvV
  clear hb hp hb' hp'
  go_enter Tryd.func11, Tryd.ntmps11
  go_wp2_with fail
  refine hs.mono ?_
  rintro r w1 ⟨rfl, k1⟩
  have g1 := dvcCells (k1.heap h1 (fun e => e))
  have g0 := dvcCells (k1.heap h0 (fun e => e))
  obtain ⟨a0, a1, a2, a3, a4, a5, a6, a7, a8, a9, a10⟩ := g0
  obtain ⟨b0, b1, b2, b3, b4, b5, b6, b7, b8, b9, b10⟩ := g1
  clear h0 h1 hs
  go_wp2_with fail
  have hz := r1same_spec (HB.out.1.no k1) (HB.out.2.no k1)
  rw [show (e.p == e.p) = true from by simp] at hz
  refine hz.mono ?_
  rintro r w2 ⟨rfl, k3⟩
  go_wp2_with fail
  go_ret
  exact ⟨rfl, (k2.then k1).then k3⟩
end Go.Proofs.YtlbjkmpdakmgeaaDoor
