/- The document's Read. -/
import Derived.Test.YtpjggnfiocplmaaRefE
namespace Go.Proofs.Ytpjggnfiocplmaa
open Go Go.RowKit Go.Dr

theorem find6_get (m : AMap) (k : Int) : (∃ (i : Nat) (l : Bytes), find6 m k = i ∧ m[i]? = some (k, l) ∧ mget m k = some l) ∨ (find6 m k = -1 ∧ mget m k = none) := by
  induction m with
  | nil => right; exact ⟨rfl, rfl⟩
  | cons e m ih =>
    by_cases he : e.1 = k
    · left
      refine ⟨0, e.2, ?_, by simp [← he], by rw [mget_cons, if_pos he]⟩
      exact find6_found (i := 0) (e := e) rfl he (fun j x hj => by omega)
    · have hs : ∀ i : Nat, m.findIdx? (fun e => e.1 == k) = some i → find6 (e :: m) k = ((i + 1 : Nat) : Int) := fun i hi => by
        unfold find6
        rw [List.findIdx?_cons]
        simp [he, hi]
      rcases ih with ⟨i, l, h1, h2, h3⟩ | ⟨h1, h2⟩
      · left
        refine ⟨i + 1, l, ?_, by simpa using h2, by rw [mget_cons, if_neg he, h3]⟩
        cases hq : m.findIdx? (fun e => e.1 == k) with
        | none => simp [find6, hq] at h1
        | some j =>
          simp [find6, hq] at h1
          have h1 : j = i := by omega
          subst h1
          exact hs j hq
      · right
        refine ⟨?_, by rw [mget_cons, if_neg he, h2]⟩
        cases hq : m.findIdx? (fun e => e.1 == k) with
        | none =>
          unfold find6
          rw [List.findIdx?_cons]
          simp [he, hq]
        | some j => simp [find6, hq] at h1
def read6 (m : AMap) (k : Int) : Bytes × Int := match mget m k with | some l => (l, 0) | none => ([], 4)
def RReadPost [bn : Inhabited Ban] (base : Nat) (w : World) (l : Bytes) (c : Int) (e : Ending) (w' : World) : Prop := ∃ v, e = .returned (.tuple #[v, .int .i64 c]) ∧ BytesAt base w' v l ∧ Keep No w w'

set_option maxRecDepth 100000 in
set_option maxHeartbeats 1000000 in
theorem rread_spec [bn : Inhabited Ban] {base : Nat} {w : World} {q : Nat} {lv : Value} {x : RDiskS} (h : RDiskAt base w q lv x) (hb : base ≤ w.heap.size) (hl : x.l.length ≤ 1000) (hs : wsum x.l ≤ 1099511627776) (seg : Int) :
    Calls Try.prog 64 #[.pointer (some ⟨q, 0, none⟩), .int .u64 seg] w (RReadPost base w (read6 (segs6 x.l) seg).1 (read6 (segs6 x.l) seg).2) := by
  have c2 := cell_of h.blk 2
  simp at c2
  go_enter Try.func64, Try.ntmps64
  go_wp2_with fail
  refine (segs_spec h.calls hb hl (by omega)).mono ?_
  rintro e w1 ⟨v, rfl, hS, hk1, hn1⟩
  generalize hm : segs6 x.l = m at *
  have HM := Lib.hid hm
  clear hm
  obtain ⟨so, sc, rfl, hmc, hcm⟩ := hS.form
  clear hmc hcm h c2
  go_wp2_with fail
  refine (find_spec hS seg).mono ?_
  rintro e w2 ⟨rfl, hk2⟩
  rcases find6_get m seg with ⟨i, l, h1, h2, h3⟩ | ⟨h1, h2⟩
  · have hlt : i < m.length := (List.getElem?_eq_some_iff.1 h2).1
    obtain ⟨g, rfl, hbg, hcells⟩ := hS.cells (by omega)
    obtain ⟨u, hu, e0, e1⟩ := hcells i _ h2
    obtain ⟨uo, uc, rfl⟩ := hu.form
    have e1 := hk2.cell e1 (fun e => e)
    have hr : read6 m seg = (l, 0) := by simp [read6, h3]
    have hki : (i : Int) < (m.length : Int) := by omega
    have HR := Lib.hid hr
    simp only at e1
    rw [h1]
    have hn : ¬ (i : Int) < 0 := by omega
    have hu2 := (hu.no hk2)
    have HU := Lib.hid (And.intro hu2 (hk1.then hk2))
    clear hr h1 h2 h3 hlt hcells e0 hu hu2 hk1 hk2
    go_wp2
    go_ret2
    rw [HR.out]
    exact ⟨_, rfl, HU.out.1, HU.out.2⟩
  · have hr : read6 m seg = ([], 4) := by simp [read6, h2]
    have HR := Lib.hid hr
    rw [h1]
    clear hr h1 h2
    go_wp2
    go_ret2
    rw [HR.out]
    exact ⟨_, rfl, BytesAt.nil _ _, hk1.then hk2⟩
end Go.Proofs.Ytpjggnfiocplmaa
