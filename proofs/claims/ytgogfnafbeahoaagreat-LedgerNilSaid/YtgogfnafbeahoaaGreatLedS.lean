/- The ledger: done, agent. -/
import Derived.Test.YtgogfnafbeahoaaGreatLedR
namespace Go.Proofs.YtgogfnafbeahoaaGreat
open Go Go.RowKit Go.Dr

theorem byte_cons (b : UInt8) (r : List UInt8) : InS.byte ⟨b :: r, 0⟩ = (b.toNat, ⟨r, 0⟩) := rfl
def DonePost [bn : Inhabited Ban] (base : Nat) (w : World) (q g m : Nat) (lv : Value) (L : LedS) (w' : World) : Prop :=
  ∃ lv', LedAt base w' q g m lv' L ∧ Keep (gfoot q m lv) w w' ∧ (∀ c, lv'.ownBlock = some c → lv.ownBlock = some c ∨ w.heap.size ≤ c)
set_option maxRecDepth 100000 in
set_option maxHeartbeats 2000000 in
theorem gDone_spec [bn : Inhabited Ban] {base : Nat} {w : World} {q g m width : Nat} {lv pv : Value} {L : LedS} {r : LRec} (h : LedAt base w q g m lv L) (hok : L.Ok width) (hp : BytesAt base w pv r.bytes) (hc : L.can r)
    (hlen : r.bytes.length ≤ 1073741824) (hrec : L.recs.length ≤ 1073741824) (hb : base ≤ w.heap.size) (hT : ban.top ≤ w.heap.size) :
    Calls Tryz.prog 61 #[.pointer (some ⟨q, 0, none⟩), pv] w fun e w' => e = .returned (.bool true) ∧ DonePost base w q g m lv (L.step r) w' := by
  obtain ⟨po, pc, rfl⟩ := hp.form
  have hof := pOf_spec hp hb hT (by omega)
  obtain ⟨n, hn⟩ : ∃ n, n = r.bytes.length := ⟨_, rfl⟩
  rw [← hn] at hof ⊢
  have HH := Lib.hid (And.intro h (And.intro hok (And.intro hc (And.intro hlen (And.intro hrec (And.intro hb hT))))))
  clear h hok hp hlen hrec hb hT hn
  have fin : ∀ {w1 w2 w' : World} {i : Nat} {lv' : Value} {L' : LedS}, Keep No w w1 → w.heap.size ≤ i → Keep (· = i) w1 w2 → LedAt base w' q g m lv' L' → Keep (fun c => gfoot q m lv c ∨ c = i) w2 w' → (∀ c, lv'.ownBlock = some c → lv.ownBlock = some c ∨ w2.heap.size ≤ c) → DonePost base w q g m lv L' w' := by
    intro w1 w2 w' i lv' L' k1 hi k2 hl k3 ho
    refine ⟨lv', hl, ((k1.no (F := gfoot q m lv)).trans k2 (fun c hc e => ?_)).trans k3 (fun c hc e => ?_), fun c hcc => ?_⟩
    · have e : c = i := e
      omega
    · rcases e with e | e
      · exact e
      · omega
    · rcases ho c hcc with e | e
      · exact .inl e
      · exact .inr (Nat.le_trans (Nat.le_trans k1.size k2.size) e)
  cases r with
  | inc z =>
    have HC := Lib.hid hc
    clear hc
    go_enter Tryz.func61, Tryz.ntmps61
    go_wp2_with fail
    refine hof.mono ?_
    rintro e w1 ⟨i, rfl, hwi, hi1, k1⟩
    have hby := iByte_spec hi1
    rw [show (⟨(LRec.inc z).bytes, 0⟩ : InS).byte = (1, ⟨numB z, 0⟩) from rfl] at hby
    have H1 := Lib.hid (And.intro hwi (And.intro hi1 k1))
    clear hwi hi1 k1 hof
    go_wp2_with fail
    refine hby.mono ?_
    rintro e w2 ⟨rfl, hi2, k2⟩
    have hl2 := (HH.out.1.no H1.out.2.2).byIn H1.out.2.1 k2
    have hd := gDoneInc_spec hl2 hi2 HC.out.2 HC.out.1
    have H2 := Lib.hid k2
    clear hby hi2 k2 hl2
    go_wp2_with fail
    refine hd.mono ?_
    rintro e w3 ⟨rfl, hl3, k3⟩
    go_wp2_with fail
    go_ret
    exact ⟨rfl, fin H1.out.2.2 H1.out.1 H2.out hl3 (k3.mono (fun c _ e => by rcases e with e | e; exact .inl (.inl e); exact .inr e)) (fun c e => .inl e)⟩
  | floor a z =>
    have HC := Lib.hid hc
    clear hc
    go_enter Tryz.func61, Tryz.ntmps61
    go_wp2_with fail
    refine hof.mono ?_
    rintro e w1 ⟨i, rfl, hwi, hi1, k1⟩
    have hby := iByte_spec hi1
    rw [show (⟨(LRec.floor a z).bytes, 0⟩ : InS).byte = (2, ⟨numB a ++ numB z, 0⟩) from rfl] at hby
    have H1 := Lib.hid (And.intro hwi (And.intro hi1 k1))
    clear hwi hi1 k1 hof
    go_wp2_with fail
    refine hby.mono ?_
    rintro e w2 ⟨rfl, hi2, k2⟩
    have hl2 := (HH.out.1.no H1.out.2.2).byIn H1.out.2.1 k2
    obtain ⟨x, hx, _, _, hxf⟩ := HH.out.2.1.at HC.out.1
    have hd := gDoneFloor_spec hl2 hi2 hx HC.out.1 HC.out.2.2 (by have := HC.out.2.1; rw [hxf] at this; exact this)
    have H2 := Lib.hid k2
    clear hby hi2 k2 hl2 hxf hx
    go_wp2_with fail
    refine hd.mono ?_
    rintro e w3 ⟨rfl, hl3, k3⟩
    go_wp2_with fail
    go_ret
    exact ⟨rfl, fin H1.out.2.2 H1.out.1 H2.out hl3 (k3.mono (fun c _ e => by rcases e with e | e; exact .inl (.inl e); exact .inr e)) (fun c e => .inl e)⟩
  | put a b l =>
    have HC := Lib.hid hc
    clear hc
    go_enter Tryz.func61, Tryz.ntmps61
    go_wp2_with fail
    refine hof.mono ?_
    rintro e w1 ⟨i, rfl, hwi, hi1, k1⟩
    have hby := iByte_spec hi1
    rw [show (⟨(LRec.put a b l).bytes, 0⟩ : InS).byte = (3, ⟨numB a ++ (numB b ++ (numB l.length ++ itemsB l)), 0⟩) from rfl] at hby
    have H1 := Lib.hid (And.intro hwi (And.intro hi1 k1))
    clear hwi hi1 k1 hof
    go_wp2_with fail
    refine hby.mono ?_
    rintro e w2 ⟨rfl, hi2, k2⟩
    have hl2 := (HH.out.1.no H1.out.2.2).byIn H1.out.2.1 k2
    have hsz : w.heap.size ≤ w2.heap.size := Nat.le_trans H1.out.2.2.size k2.size
    have hd := gDonePut_spec hl2 HH.out.2.1 hi2 HC.out (by have := HH.out.2.2.2.1; simp [LRec.bytes] at this; omega) HH.out.2.2.2.2.1 (Nat.le_trans HH.out.2.2.2.2.2.1 hsz) (Nat.le_trans HH.out.2.2.2.2.2.2 hsz)
    have H2 := Lib.hid k2
    clear hby hi2 k2 hl2 hsz
    go_wp2_with fail
    refine hd.mono ?_
    rintro e w3 ⟨rfl, lv', hl3, k3, ho⟩
    go_wp2_with fail
    go_ret
    exact ⟨rfl, fin H1.out.2.2 H1.out.1 H2.out hl3 k3 ho⟩
/-- An agent; none. -/
theorem gAgent_in {w : World} (q a : Nat) (ha : a < 16) : Calls Tryz.prog 40 #[.pointer (some ⟨q, 0, none⟩), .int .i64 a] w fun e w' => e = .returned (.pointer (some ⟨q, 2 + a * 7, none⟩)) ∧ w' = w := by
  have h1 : ¬ (a : Int) < 0 := by omega
  have h2 : ¬ 16 ≤ (a : Int) := by omega
  have h3 : (a : Int) < 16 := by omega
  go_enter Tryz.func40, Tryz.ntmps40
  go_wp2_with fail
  go_ret
  exact ⟨rfl, rfl⟩
theorem gAgent_out {w : World} (q : Nat) (a : Int) (ha : a < 0 ∨ 16 ≤ a) : Calls Tryz.prog 40 #[.pointer (some ⟨q, 0, none⟩), .int .i64 a] w fun e w' => e = .returned (.pointer none) ∧ w' = w := by
  by_cases h1 : a < 0
  · clear ha
    go_enter Tryz.func40, Tryz.ntmps40
    go_wp2_with fail
    go_ret
    exact ⟨rfl, rfl⟩
  · have h2 : 16 ≤ a := by omega
    clear ha
    go_enter Tryz.func40, Tryz.ntmps40
    go_wp2_with fail
    go_ret
    exact ⟨rfl, rfl⟩
theorem gAgent_nil {w : World} (a : Int) : Calls Tryz.prog 40 #[.pointer none, .int .i64 a] w fun e w' => e = .returned (.pointer none) ∧ w' = w := by
  go_enter Tryz.func40, Tryz.ntmps40
  go_wp2_with fail
  go_ret
  exact ⟨rfl, rfl⟩
end Go.Proofs.YtgogfnafbeahoaaGreat
