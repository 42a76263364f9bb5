/- The ledger: right; rows of numbers. -/
import Derived.Test.YtgogfnafbeahoaaGreatLedW
namespace Go.Proofs.YtgogfnafbeahoaaGreat
open Go Go.RowKit Go.Dr

def ItemS.rightB (x : ItemS) : Bool := decide (x.n < 2305843009213693952) && x.s.right
theorem ItemS.rightB_iff (x : ItemS) : x.rightB = true ↔ x.Right := by
  unfold ItemS.rightB ItemS.Right SpanS.right SpanS.Right
  simp
def rightB (b : Nat) (l : List ItemS) : Bool := l.all ItemS.rightB && decide (b < 2305843009213693952)
theorem rightB_iff (b : Nat) (l : List ItemS) : rightB b l = true ↔ (∀ x ∈ l, x.Right) ∧ b < 2305843009213693952 := by
  unfold rightB
  rw [Bool.and_eq_true, List.all_eq_true, decide_eq_true_eq]
  simp only [ItemS.rightB_iff]
set_option maxRecDepth 100000 in
set_option maxHeartbeats 2000000 in
theorem gRight_spec [bn : Inhabited Ban] {base B : Nat} {w : World} {v : Value} {l : List ItemS} (b : Nat) (h : ItsAt base w B v l) (hl : l.length ≤ 1048576) (hbl : ∀ x ∈ l, x.s.body.length ≤ 1073741824) :
    Calls Tryz.prog 41 #[.int .u64 b, v] w fun e w' => e = .returned (.bool (rightB b l)) ∧ Keep No w w' := by
  obtain ⟨vo, vc, rfl, _, _⟩ := h.form
  obtain ⟨rb, hrb⟩ : ∃ rb, rb = rightB b l := ⟨_, rfl⟩
  rw [← hrb]
  have HH := Lib.hid (And.intro h (And.intro hbl hrb))
  have hli : (l.length : Int) ≤ 1048576 := by omega
  clear h hl hbl hrb
  go_enter Tryz.func41, Tryz.ntmps41
  go_wp2_with fail
  go_loopw [9] (fun v9 wr => ∃ k, v9 = .int .i64 (k : Nat) ∧ k ≤ l.length ∧ (∀ x ∈ l.take k, x.rightB = true) ∧ Keep No w wr) (fun v9 _ => l.length - (intOf v9).toNat)
  case atStart => exact ⟨0, rfl, Nat.zero_le _, fun x hx => by simp at hx, Keep.refl _ _⟩
  case round =>
    obtain ⟨k, rfl, hk, hall, kr⟩ := hrel
    by_cases hlt : k < l.length
    · have hx : l[k]? = some l[k] := List.getElem?_eq_getElem hlt
      have htake : l.take (k + 1) = l.take k ++ [l[k]] := List.take_succ_eq_append_getElem hlt
      generalize l[k] = z at hx htake
      obtain ⟨gi, ui, hgi, hub, e0, e1, e2⟩ := (HH.out.1.no kr).cell hx
      obtain ⟨uo, uc, rfl⟩ := hub.form
      subst hgi
      have hki : (k : Int) < (l.length : Int) := by omega
      have hzb := HH.out.2.1 z (List.mem_of_getElem? hx)
      have hmem := List.mem_of_getElem? hx
      have hsr := fun (w' : World) => sRight_spec (w := w') (s := z.s) (ao := uo) (cap := uc) (by omega)
      have kA := (Keep.refl No wr).alloc (.cells #[.int .u64 z.n, .int .i64 z.s.c, .slice uo z.s.body.length uc] 53)
      by_cases hn : z.n < 2305843009213693952
      · have hni : ¬ (2305843009213693952 : Int) ≤ (z.n : Int) := by omega
        cases hzs : z.s.right
        · rw [hzs] at hsr
          have hf : rightB b l = false := by
            unfold rightB
            have : l.all ItemS.rightB = false := by
              rw [List.all_eq_false]
              exact ⟨z, hmem, by unfold ItemS.rightB; simp [hzs]⟩
            rw [this]; rfl
          obtain rfl : rb = false := HH.out.2.2.trans hf
          have HR := Lib.hid (kr.then kA)
          clear hall hlt hx htake hub hzb hmem kA hzs hf kr hk hn
          go_wp2_with (go_at_call 79; refine (hsr _).mono ?_; rintro e w2 ⟨rfl, k2⟩)
          go_ret
          exact ⟨rfl, HR.out.then k2⟩
        · rw [hzs] at hsr
          have hz1 : z.rightB = true := by unfold ItemS.rightB; simp [hn, hzs]
          have HR := Lib.hid (And.intro (kr.then kA) (And.intro hlt (show ∀ x ∈ l.take (k + 1), x.rightB = true by
            rw [htake]
            intro x hx
            rcases List.mem_append.1 hx with hx | hx
            · exact hall x hx
            · rw [List.mem_singleton.1 hx]; exact hz1)))
          clear hall hlt hx htake hub hzb hmem kA hzs hz1 kr hk hn
          go_wp2_with (go_at_call 79; refine (hsr _).mono ?_; rintro e w2 ⟨rfl, k2⟩)
          go_roundw
          case rel => exact ⟨k + 1, by congr 1, by have := HR.out.2.1; omega, HR.out.2.2, HR.out.1.then k2⟩
          case measure => have := HR.out.2.1; simp [intOf]; omega
      · have hni : (2305843009213693952 : Int) ≤ (z.n : Int) := by omega
        have hf : rightB b l = false := by
          unfold rightB
          have : l.all ItemS.rightB = false := by
            rw [List.all_eq_false]
            exact ⟨z, hmem, by unfold ItemS.rightB; simp [hn]⟩
          rw [this]; rfl
        obtain rfl : rb = false := HH.out.2.2.trans hf
        have HR := Lib.hid (kr.then kA)
        clear hall hlt hx htake hub hzb hmem kA hf kr hk hn hsr
        go_wp2_with fail
        go_ret
        exact ⟨rfl, HR.out⟩
    · have hke : k = l.length := by omega
      have hki : ¬ (k : Int) < (l.length : Int) := by omega
      rw [hke, List.take_of_length_le (Nat.le_refl _)] at hall
      have hf : rightB b l = decide (b < 2305843009213693952) := by
        unfold rightB
        rw [List.all_eq_true.2 hall]
        rfl
      have HR := Lib.hid kr
      have hf3 : rb = decide (b < 2305843009213693952) := HH.out.2.2.trans hf
      clear kr hall hk hlt hke hf
      by_cases hbl : b < 2305843009213693952
      · have hbi : (b : Int) < 2305843009213693952 := by omega
        obtain rfl : rb = true := hf3.trans (decide_eq_true hbl)
        clear hf3 hbl
        go_wp2_with fail
        go_ret
        exact ⟨rfl, HR.out⟩
      · have hbi : ¬ (b : Int) < 2305843009213693952 := by omega
        obtain rfl : rb = false := hf3.trans (decide_eq_false hbl)
        clear hf3 hbl
        go_wp2_with fail
        go_ret
        exact ⟨rfl, HR.out⟩
def u64v (n : Nat) : Value := .int .u64 (n : Int)
def OwnN (w : World) (B : Nat) (v : Value) (l : List Nat) : Prop := w.ownsRow B 27 1 v l.length (l.map u64v)
theorem OwnN.nil (w : World) (B : Nat) : OwnN w B (.slice none 0 0) [] := World.ownsRow_nil _ _ _ _
theorem OwnN.form {w : World} {B : Nat} {v : Value} {l : List Nat} (h : OwnN w B v l) : ∃ ao cap, v = .slice ao l.length cap ∧ l.length ≤ cap ∧ cap ≤ maxLen := row_form h
theorem OwnN.keep {w w' : World} {B : Nat} {v : Value} {l : List Nat} {F : Nat → Prop} (h : OwnN w B v l) (k : Keep F w w') (hF : ∀ b, v.ownBlock = some b → ¬ F b) : OwnN w' B v l := row_keep h k hF
theorem OwnN.kind {w : World} {B : Nat} {v : Value} {l : List Nat} (h : OwnN w B v l) : ∀ b, v.ownBlock = some b → B ≤ b ∧ ∃ cur, w.heap[b]? = some (.cells cur 27 (0, 0)) := row_kind h
theorem info_u64n : (Tryz.prog.info? 27).map (fun i => (i.zero, i.size, i.bytes)) = some (some (.int .u64 0), 1, 8) := by kernel_rfl
theorem wpList_append_num {w : World} {ops : Array Oper} {rest : List Oper} {o : Oper} {a : Act} {Q : Exit → Act → World → Prop} (hg : o.guard = none) (s x : Operand)
    (ho : o.op = .call { callee := .builtin .append, args := #[s, x], argTypes := #[45, 45] }) {B : Nat} {v : Value} {l : List Nat} (h : OwnN w B v l) (hs : a.eval s = v) {D n : Nat}
    (hD : w.heap[D]? = some (.cells #[.int .u64 n] 27 (0, 0))) (hx : a.eval x = .slice (some ⟨D, 0, none⟩) 1 1) (hl : l.length ≤ 1099511627776) (hb : B ≤ w.heap.size)
    (hK : ∀ vo vc w', OwnN w' B (.slice vo (l.length + 1) vc) (l ++ [n]) → Keep (fun b => v.ownBlock = some b) w w' → wpList Tryz.prog ops Q rest (a.put o.dst (.slice vo (l.length + 1) vc)) w') : wpList Tryz.prog ops Q (o :: rest) a w := by
  obtain ⟨i0, hi0, hz0, hz1, hz2⟩ := info_parts info_u64n
  refine wpList_plain hg fun K hK' => ?_
  refine wp_append_lies w s x 45 ho B 27 i0 _ 1 8 Tryz.underlying45 hi0 hz0 hz1 hz2 rfl (by omega) v l.length (l.map u64v) hs h
    ⟨D, 0, none⟩ 1 1 [.int .u64 n] hx rfl (World.news_of_block (cs := #[.int .u64 n]) (t := 27) (fr := (0, 0)) hD) (by simp [Value.oneCell']) (by omega) (by unfold maxLen; omega) (by omega) hb w.heap.size rfl ?_
  intro g cap w' hown hgr hat hlt
  refine hK' _ _ (hK _ _ _ ?_ (own_grown hgr))
  unfold OwnN
  rw [List.length_append, List.map_append]
  exact hown
end Go.Proofs.YtgogfnafbeahoaaGreat
