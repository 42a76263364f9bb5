/- DiskPlays: the walk. -/
import Derived.Test.YtpjggnfiocplmaaLike
import Derived.Test.YtpjggnfiocplmaaSafeW
namespace Go.Proofs.Ytpjggnfiocplmaa
open Go Go.RowKit Go.Dr

theorem Safe1.begin (room : Int) : Safe1 room 0 { room := room, full := false, now := [], safe := [], wait := [] } { room := room, full := false, l := [], safe := 0 } :=
  ⟨⟨rfl, rfl, fun _ => rfl, fun _ => rfl, Int.le_refl _, Int.le_refl _, rfl, Keys.nil, Keys.nil⟩, rfl, Nat.le_refl _, Nat.le_refl _⟩

set_option maxRecDepth 100000 in
set_option maxHeartbeats 4000000 in
theorem plays_walk [bn : Inhabited Ban] {w : World} (hT : ban.top ≤ w.heap.size) (room : Int) (hr0 : 0 ≤ room) (hr1 : room ≤ 255) {v : Value} {acts : List ActS} (hA : ActsAt w.heap.size w v acts) (hok : ∀ a ∈ acts, a.Ok) :
    Calls Try.prog 5 #[.int .u8 room, v] w fun e w' => e = .returned (.bool true) ∧ Keep No w w' := by
  obtain ⟨ao, cap, rfl, hlc, hcm, hacts⟩ := hA
  unfold maxLen at hcm
  have hlen1 : (acts.length : Int) ≤ 9223372036854775807 := by omega
  have hmax : max room 0 = room := by omega
  have hnew := fun (w' : World) (h : w.heap.size ≤ w'.heap.size) => new_spec (w := w') w.heap.size room h
  rw [hmax] at hnew
  clear hmax
  go_enter Try.func5, Try.ntmps5
  go_wp2_with fail
  refine (awake6_spec hT).mono ?_
  rintro e w1 ⟨rfl, k1⟩
  go_wp2_with fail
  refine (hnew _ k1.size).mono ?_
  rintro e w2 ⟨p, n, s, wv, rfl, h2, k2, f2⟩
  have k2 := k1.then k2
  have f2 : ∀ b, foot p n s wv b → w.heap.size ≤ b := fun b hb => Nat.le_trans k1.size (f2 b hb)
  have kx : Keep No w2 (w2.alloc (.cells #[.int .i64 room, .bool false, .slice none 0 0, .int .i64 0] 40)) := (Keep.refl _ _).alloc _
  have hx2 : RDiskAt w.heap.size (w2.alloc (.cells #[.int .i64 room, .bool false, .slice none 0 0, .int .i64 0] 40)) w2.heap.size (.slice none 0 0) { room := room, full := false, l := [], safe := 0 } :=
    ⟨heap_new w2 _, LAt.nil _ _, k2.size⟩
  have hS1 : S1 w room 0 (.pointer (some ⟨p, 0, none⟩)) (.pointer (some ⟨w2.heap.size, 0, none⟩)) (w2.alloc (.cells #[.int .i64 room, .bool false, .slice none 0 0, .int .i64 0] 40)) :=
    ⟨p, w2.heap.size, _, _, _, rfl, rfl, ⟨n, s, wv, _, h2.no kx, hx2, rfl⟩, Safe1.begin room, k2.then kx, fun b hb => by
      rcases hb with hb | hb | hb
      · exact f2 b hb
      · rw [hb]; exact k2.size
      · simp [Value.ownBlock] at hb⟩
  clear h2 f2 kx hx2
  go_wp2
  go_loopw [5, 6, 21] (fun pv qv i wr => S1R w room 40 acts pv qv i wr) (fun _ _ i _ => acts.length - (intOf i).toNat)
  case atStart => exact ⟨0, Nat.zero_le _, rfl, hS1⟩
  case round =>
    clear hS1 k2 k1 hnew
    obtain ⟨j, hj, rfl, p, q, d, x, G, rfl, rfl, hB, hS, hkp, hG⟩ := hrel
    by_cases hlt : j < acts.length
    · rcases hacts with rfl | ⟨g, o, hg, rfl, hacts⟩
      · simp at hlt
      · have hji : (j : Int) < (acts.length : Int) := by omega
        have haj : acts[j]? = some acts[j] := List.getElem?_eq_getElem hlt
        obtain ⟨u, hu, e0, e1, e2, e3, e4, e5⟩ := hacts j _ haj
        have hoj := hok _ (List.getElem_mem hlt)
        generalize acts[j] = a at *
        obtain ⟨uo, uc, rfl⟩ := hu.form
        have e0 := hkp.cell e0 (fun e => e)
        have e1 := hkp.cell e1 (fun e => e)
        have e2 := hkp.cell e2 (fun e => e)
        have e3 := hkp.cell e3 (fun e => e)
        have e4 := hkp.cell e4 (fun e => e)
        have e5 := hkp.cell e5 (fun e => e)
        have hu := hu.no hkp
        have kA : Keep No wr (wr.alloc (.cells #[.int .u8 a.dop, .int .u64 a.seg, .slice uo a.p.length uc, .bool a.on, .int .i64 a.keep, .int .i64 a.torn] 29)) := (Keep.refl _ _).alloc _
        have HL := Lib.hid (And.intro hlt (And.intro hoj hG))
        clear haj hacts hok hlt hoj hG
        by_cases h20 : j < 40
        · have hji20 : ¬ (40 : Int) ≤ (j : Int) := by omega
          have hSj := hS.mono (k := j) (by omega)
          have hS' := (hSj.act a).mono (k := min (j + 1) 40) (by omega)
          have hdb : doB d x a = true := (hS.rel.act a).2
          have hdo := do6_spec (hB.no kA) (Nat.le_trans hkp.size kA.size) (a := a) (hu.no kA) (hS.ok hr0 (by omega) (by omega) HL.out.2.1)
          rw [hdb] at hdo
          have HD := Lib.hid (And.intro hS' hdo)
          clear hS hSj hS' hdb hdo
          go_wp2_with fail
          refine HD.out.2.mono ?_
          rintro e w3 ⟨p', q', G', rfl, hB3, k3, hG3⟩
          have k3' := hkp.then kA |>.absorb k3 (HL.out.2.2)
          obtain ⟨n3, s3, wv3, lv3, hD3, hX3, rfl⟩ := hB3
          have hlike := like_spec hD3 hX3 k3'.size HD.out.1.rel (by have := HD.out.1.xl; omega) (by have := HD.out.1.xs; omega)
          clear e0 e1 e2 e3 e4 e5 hu
          go_wp2_with (go_at_call 28; refine hlike.mono ?_; rintro e w4 ⟨rfl, k4⟩)
          go_roundw
          case rel =>
            refine ⟨j + 1, by have := HL.out.1; omega, by go_num, p', q', _, _, _, rfl, rfl, ⟨n3, s3, wv3, lv3, hD3.no k4, hX3.no k4, rfl⟩, HD.out.1, k3'.then k4, fun b hb => ?_⟩
            rcases hG3 b hb with h | h
            · exact HL.out.2.2 b h
            · have := hkp.size; have := kA.size; omega
          case measure => have := HL.out.1; simp [intOf]; omega
        · have hji20 : (40 : Int) ≤ (j : Int) := by omega
          go_wp2
          go_ret
          exact ⟨rfl, hkp.then kA⟩
    · have hji : ¬ (j : Int) < (acts.length : Int) := by omega
      clear hlt
      go_wp2
      go_ret
      exact ⟨rfl, hkp⟩
end Go.Proofs.Ytpjggnfiocplmaa
