/- bytes.Equal, maps.EqualFunc, disk.Same, and the small methods. -/
import Derived.Test.YtpjggnfiocplmaaDiskC
import Derived.Maps.OwnSet
namespace Go.Proofs.Ytpjggnfiocplmaa
open Go Go.RowKit Go.Dr

theorem run_conv [bn : Inhabited Ban] {base : Nat} {w : World} {v : Value} {l : Bytes} (h : BytesAt base w v l) : (convert 27 9 v).run Try.prog w = .ok (.string ⟨l.toArray⟩) w := by
  obtain ⟨ao, cap, rfl, h1, h2, h3, h4⟩ := h
  cases ao with
  | none =>
    obtain rfl := h3 rfl
    obtain rfl : l = [] := List.eq_nil_of_length_eq_zero (by omega)
    rw [run_convert_bytes_string w _ _ _ none _ _ Try.underlying27 Try.underlying5 Try.underlying9]
    rfl
  | some ad =>
    refine run_convert_bytes_back w _ _ _ ad cap l Try.underlying27 Try.underlying5 Try.underlying9 (fun j hj => ?_)
    obtain ⟨ad', e, _, hc⟩ := h4 j l[j] (List.getElem?_eq_getElem hj)
    cases e
    exact hc

theorem bequal_spec [bn : Inhabited Ban] {base : Nat} {w : World} {u v : Value} {l m : Bytes} (hu : BytesAt base w u l) (hv : BytesAt base w v m) :
    Calls Try.prog 59 #[u, v] w fun e w' => e = .returned (.bool (l == m)) ∧ w = w' := by
  have h1 := run_conv hu
  have h2 := run_conv hv
  have e : ∀ l : Bytes, ByteArray.toList ⟨l.toArray⟩ = l := fun l => ByteArray.toList_eq _
  have HE := Lib.hid e
  generalize h3 : (⟨l.toArray⟩ : ByteArray) = s1 at h1
  generalize h4 : (⟨m.toArray⟩ : ByteArray) = s2 at h2
  have H34 := Lib.hid (And.intro h3 h4)
  clear e hu hv h3 h4
  go_enter Try.func59, Try.ntmps59
  go_wp2
  go_ret
  refine ⟨?_, rfl⟩
  rw [← HE.out l, ← HE.out m, H34.out.1, H34.out.2]
  rfl

theorem wpList_len_map {w : World} {ops : Array Oper} {rest : List Oper} {o : Oper} {a : Act} {Q : Exit → Act → World → Prop}
    (hg : o.guard = none) (x : Operand) (hop : o.op = Op.call { callee := Callee.builtin Builtin.len, args := #[x], argTypes := #[96] })
    {r : Nat} {es : Array MapEntry} {c : Nat} (hb : w.heap[r]? = some (.map es c)) (hx : a.eval x = .map (some r))
    (hK : wpList Try.prog ops Q rest (a.put o.dst (.int .i64 (es.size : Nat))) w) : wpList Try.prog ops Q (o :: rest) a w := by
  refine wpList_plain hg fun K hK' => ?_
  unfold Oper.wp
  simp [execOp, hop, resolve, invoke, builtin, hx, Builtin.len_, run_underlying Try.underlying96, MapKept.run_getObj_map hb, Result.andThen, goInt]
  exact hK' _ _ hK

def msame (a b : AMap) : Bool := a.length == b.length && a.all (fun kv => mget b kv.1 == some kv.2)

theorem MapAt.len [bn : Inhabited Ban] {base : Nat} {w : World} {r : Nat} {m : AMap} (h : MapAt base w r m) : ∃ es clock, w.heap[r]? = some (.map es clock) ∧ es.size = m.length := by
  obtain ⟨es, c, h, he⟩ := h
  exact ⟨es, c, h, by simpa using he.len⟩
set_option maxRecDepth 100000 in
set_option maxHeartbeats 1000000 in
theorem meq_spec [bn : Inhabited Ban] {base : Nat} {w : World} {r1 r2 : Nat} {m1 m2 : AMap} (h1 : MapAt base w r1 m1) (h2 : MapAt base w r2 m2) (hb : base ≤ w.heap.size) :
    Calls Try.prog 58 #[.map (some r1), .map (some r2), .func (.func 59) #[] #[]] w fun e w' => e = .returned (.bool (msame m1 m2)) ∧ Keep No w w' := by
  obtain ⟨es1, k1, hb1, hs1⟩ := h1.len
  obtain ⟨es2, k2, hb2, hs2⟩ := h2.len
  by_cases hl : m1.length = m2.length
  · have hne : ((es1.size : Int) != (es2.size : Int)) = false := by rw [hs1, hs2, hl]; simp
    obtain ⟨o, hrun, hI⟩ := run_range h1
    have hk0 : Keep No w (w.alloc o) := (Keep.refl _ _).alloc _
    generalize hW : w.alloc o = W at hrun hI hk0
    have hkeys := h1.keys
    clear hs1 hs2 hW
    have HM := Lib.hid (And.intro hl (And.intro h1 h2))
    clear hl h1 h2
    go_enter Try.func58, Try.ntmps58
    go_wp2_with (first | (at_len; refine wpList_len_map rfl _ rfl hb1 rfl ?_) | (at_len; refine wpList_len_map rfl _ rfl hb2 rfl ?_))
    clear hrun hne
    go_loopw [7] (fun _ wr => ∃ left, IterAt base wr w.heap.size r1 m1 left ∧ Keys left ∧ (∀ kv ∈ m1, kv ∈ left ∨ mget m2 kv.1 = some kv.2) ∧ Keep No w wr) (fun _ wr => leftNum wr w.heap.size)
    case atStart => exact ⟨m1, hI, hkeys, fun kv h => .inl h, hk0⟩
    case round =>
      clear hI hk0 hkeys
      obtain ⟨left, hI, hkeys, hall, hkp⟩ := hrel
      have hnum := hI.num
      rcases run_next hI hb 0 with ⟨rfl, hrun⟩ | ⟨kv, hkv, v, w1, hv, hrun, hent, hI', hk'⟩
      · have HX := Lib.hid (And.intro hall hkp)
        clear hall hnum hI hkp
        go_wp2
        go_ret
        have e : msame m1 m2 = true := by
          simp only [msame, Bool.and_eq_true, beq_iff_eq, List.all_eq_true]
          exact ⟨HM.out.1, fun kv hkv => by rcases HX.out.1 kv hkv with h | h; cases h; exact h⟩
        exact ⟨by rw [e]; rfl, HX.out.2⟩
      · obtain ⟨vo, vc, rfl⟩ := hv.form
        have hlen := length_filter hkeys hkv
        have hnum' := hI'.num
        obtain ⟨v2, hv2, hlook⟩ := run_lookup HM.out.2.2 kv.1
        obtain ⟨v2o, v2c, rfl⟩ := hv2.form
        have hfi : Foot base wr (· = w.heap.size) := by
          rintro b rfl
          obtain ⟨es, clock, seen, hi, _⟩ := hI.ex
          exact ⟨hb, heap_lt hi, fun cs fr e => by rw [hi] at e; cases e⟩
        have hk2 : Keep No w w1 := hkp.trans hk' (fun y hy e => by have e : y = w.heap.size := e; omega)
        have hl2 := (hlook w1 (hk2.block r2 (heap_lt hb2) (fun h => h))).2
        have hv' := hv.keep hfi hk'
        have hv2' := hv2.no hk2
        have hin : kv ∈ m1 := by
          obtain ⟨es, clock, seen, _, _, he, hl⟩ := hI.ex
          rw [hl] at hkv
          obtain ⟨p, hp, rfl⟩ := List.mem_map.1 hkv
          exact (List.of_mem_zip (a := p.1) (b := p.2) (List.mem_filter.1 hp).1).2
        have HX := Lib.hid (And.intro hall (And.intro hlen (And.intro hnum (And.intro hnum' (And.intro hin hk2)))))
        clear hall hlen hnum hnum' hin hlook hfi hv2 hv hk' hkp hI hb1 hb2
        cases hg : mget m2 kv.1 with
        | none =>
          have e : msame m1 m2 = false := by
            rw [Bool.eq_false_iff]
            intro h
            simp only [msame, Bool.and_eq_true, beq_iff_eq, List.all_eq_true] at h
            have := h.2 kv HX.out.2.2.2.2.1
            rw [hg] at this
            cases this
          have E2 := Lib.hid e
          rw [hg] at hl2
          clear e hg hv' hv2'
          go_wp2
          go_ret
          exact ⟨by rw [E2.out]; rfl, HX.out.2.2.2.2.2⟩
        | some l2 =>
          rw [hg] at hl2 hv2'
          by_cases heq : kv.2 = l2
          · have hE := bequal_spec hv' hv2'
            have e : (kv.2 == (some l2).getD []) = true := by simp [heq]
            rw [e] at hE
            have HE := Lib.hid hE
            have HG := Lib.hid (And.intro hg heq)
            clear hE e hg heq hv' hv2'
            go_wp2_with (go_at_call 59; refine HE.out.mono ?_; rintro e w2 ⟨rfl, rfl⟩)
            go_roundw
            case rel =>
              refine ⟨_, hI', hkeys.filter _, fun kv' hkv' => ?_, HX.out.2.2.2.2.2⟩
              rcases HX.out.1 kv' hkv' with h | h
              · by_cases hkk : kv'.1 = kv.1
                · right
                  have : kv' = kv := pairwise_inj (f := fun a : Int × Bytes => a.1) hkeys kv' h kv hkv hkk
                  rw [this, HG.out.1, HG.out.2]
                · left; exact List.mem_filter.2 ⟨h, by simpa using hkk⟩
              · exact .inr h
            case measure =>
              have h1 := HX.out.2.1
              have h2 := HX.out.2.2.1
              have h3 := HX.out.2.2.2.1
              omega
          · have hE := bequal_spec hv' hv2'
            have e : (kv.2 == (some l2).getD []) = false := by simpa using heq
            rw [e] at hE
            have HE := Lib.hid hE
            have e2 : msame m1 m2 = false := by
              rw [Bool.eq_false_iff]
              intro h
              simp only [msame, Bool.and_eq_true, beq_iff_eq, List.all_eq_true] at h
              have := h.2 kv HX.out.2.2.2.2.1
              rw [hg] at this
              simp at this
              exact heq this.symm
            have E2 := Lib.hid e2
            clear hE e e2 hg heq hv' hv2'
            go_wp2_with (go_at_call 59; refine HE.out.mono ?_; rintro e w2 ⟨rfl, rfl⟩)
            go_ret
            exact ⟨by rw [E2.out]; rfl, HX.out.2.2.2.2.2⟩
  · have hne : ((es1.size : Int) != (es2.size : Int)) = true := by rw [hs1, hs2]; simp; omega
    have e : msame m1 m2 = false := by simp [msame, hl]
    rw [e]
    clear hs1 hs2 e hl h1 h2
    go_enter Try.func58, Try.ntmps58
    go_wp2_with (first | (at_len; refine wpList_len_map rfl _ rfl hb1 rfl ?_) | (at_len; refine wpList_len_map rfl _ rfl hb2 rfl ?_))
    go_ret
    exact ⟨rfl, Keep.refl _ _⟩
end Go.Proofs.Ytpjggnfiocplmaa
