/- Grow, Concat; maps. -/
import Derived.Test.YtfdmbomlkpkegaaGreatBase
/-! ## Lib -/
namespace Go.Proofs.YtfdmbomlkpkegaaGreat
open Go Go.RowKit

set_option maxRecDepth 100000 in
/-- slices.Grow of a nil slice. -/
theorem grow_spec {w : World} {B : Nat} (n : Nat) (hn : n ≤ 70368744177664) (hB : B ≤ w.heap.size) :
    Calls Tryz.prog 152 #[.slice none 0 0, .int .i64 n] w fun e w' => ∃ v', e = .returned v' ∧ OwnB w' B v' [] ∧ Keep No w w' := by
  obtain ⟨i0, hi, hz0, hz1, hz2⟩ := info_parts info_u8
  by_cases h0 : n = 0
  · subst h0
    go_enter Tryz.func152, Tryz.ntmps152
    go_wp2
    go_ret
    exact ⟨_, rfl, OwnB.nil _ _, Keep.refl _ _⟩
  · have hp : (0 : Int) < (n : Int) := by omega
    have hb : (n : Int) ≤ 70368744177664 := by omega
    go_enter Tryz.func152, Tryz.ntmps152
    go_wp2_with (at_builtin; refine wpList_append_zeros rfl _ _ rfl B n (by omega) hn rfl rfl hB ?_; intro g cap w' hc hm ho1 ho2 hk)
    go_ret
    exact ⟨_, rfl, ho1, hk⟩

set_option maxRecDepth 100000 in
/-- slices.Concat. -/
theorem concat_spec [bn : Inhabited Ban] {base : Nat} {w : World} {v : Value} {ls : List Bytes} (h : SlicesAt base w v ls) (hl : ls.flatten.length ≤ 35184372088832) :
    Calls Tryz.prog 101 #[v] w fun e w' => ∃ v', e = .returned v' ∧ OwnB w' w.heap.size v' ls.flatten ∧ Keep No w w' := by
  obtain ⟨us, hus, hbs, ao, cap, rfl, hlc, hcm, hcells⟩ := h
  unfold maxLen at hcm
  have hn : (ls.length : Int) ≤ 9223372036854775807 := by omega
  have hz : ls.length ≤ us.length := by omega
  have HU := Lib.hid hus
  clear hus
  go_enter Tryz.func101, Tryz.ntmps101
  go_wp2
  go_loop [3, 11] (fun s i => ∃ k : Nat, k ≤ ls.length ∧ i = .int .i64 k ∧ s = .int .i64 (catLen ls k)) (fun _ i => ls.length - (intOf i).toNat)
  case atStart => exact ⟨0, Nat.zero_le _, rfl, rfl⟩
  case round =>
    obtain ⟨k, hk, rfl, rfl⟩ := hrel
    by_cases hlt : k < ls.length
    · rcases hcells with rfl | ⟨g, o, rfl, hcells⟩
      · simp at hlt
      · have hku : k < us.length := by omega
        have hc := hcells k us[k] (List.getElem?_eq_getElem hku)
        have hlk : ls[k]? = some ls[k] := List.getElem?_eq_getElem hlt
        have hb := hbs k _ _ (List.getElem?_eq_getElem hku) hlk
        obtain ⟨ao1, cap1, hu, _⟩ := hb
        have hs := catLen_succ hlk
        have hle := catLen_le ls (k + 1)
        have hb1 : (catLen ls k : Int) + (ls[k].length : Int) ≤ 35184372088832 := by omega
        have hb2 : (0 : Int) ≤ (catLen ls k : Int) + (ls[k].length : Int) := by omega
        have HS := Lib.hid hs
        rw [hu] at hc
        generalize ls[k].length = m at *
        clear hs hle hlk hbs hcells hu
        have hki : (k : Int) < (ls.length : Int) := by omega
        go_wp2
        go_round
        case rel => exact ⟨k + 1, by omega, by go_num, by rw [HS.out]; go_num⟩
        case measure => simp [intOf]; omega
    · have hki : ¬ (k : Int) < (ls.length : Int) := by omega
      obtain rfl : k = ls.length := by omega
      have hle := catLen_all ls
      have hb1 : (catLen ls ls.length : Int) ≤ 35184372088832 := by omega
      clear hle hki hlt hk
      go_wp2_with (go_at_call 152; refine (grow_spec (B := w.heap.size) (catLen ls ls.length) (by omega) (Nat.le_refl _)).mono ?_; rintro e w1 ⟨v0, rfl, hown0, hk0⟩)
      go_loopw [6, 27] (fun v i wr => ∃ k : Nat, k ≤ ls.length ∧ i = .int .i64 k ∧ OwnB wr w.heap.size v (catB ls k) ∧ Keep No w wr) (fun _ i _ => ls.length - (intOf i).toNat)
      case atStart => exact ⟨0, Nat.zero_le _, rfl, by rw [catB_zero]; exact hown0, hk0⟩
      case round =>
        clear hown0 hk0
        obtain ⟨k, hk, rfl, hown, hkp⟩ := hrel
        by_cases hlt : k < ls.length
        · rcases hcells with rfl | ⟨g, o, rfl, hcells⟩
          · simp at hlt
          · have hku : k < us.length := by omega
            have hc := hkp.cell (hcells k us[k] (List.getElem?_eq_getElem hku)) (fun h => h)
            have hlk : ls[k]? = some ls[k] := List.getElem?_eq_getElem hlt
            have hb := (hbs k _ _ (List.getElem?_eq_getElem hku) hlk).no hkp
            have hs := catB_succ hlk
            have hle := catLen_le ls (k + 1)
            rw [catLen_succ hlk] at hle
            unfold catLen at hle
            have hki : (k : Int) < (ls.length : Int) := by omega
            have HS := Lib.hid hs
            generalize us[k] = u at *
            generalize ls[k] = l at *
            clear hs hbs hcells hlk
            have hBs := hkp.size
            go_wp2_with (at_builtin; refine wpList_append_bytes rfl _ _ rfl w.heap.size hown hb rfl rfl (by omega) hBs ?_; intro v' w' hown' hk')
            go_roundw
            case rel => exact ⟨k + 1, by omega, by go_num, by rw [HS.out]; exact hown', hkp.trans hk' (fun x hx hxx => by have := (hown.lt x hxx).1; omega)⟩
            case measure => simp [intOf]; omega
        · have hki : ¬ (k : Int) < (ls.length : Int) := by omega
          obtain rfl : k = ls.length := by omega
          clear hki hlt hk
          go_wp2
          go_ret
          exact ⟨_, rfl, by rw [← catB_all]; exact hown, hkp⟩
end Go.Proofs.YtfdmbomlkpkegaaGreat

/-! ## Map -/
namespace Go.Proofs.YtfdmbomlkpkegaaGreat
open Go Go.RowKit

abbrev AMap := List (Int × Bytes)
def mget (m : AMap) (k : Int) : Option Bytes := (m.find? (fun e => e.1 == k)).map (·.2)
def mset : AMap → Int → Bytes → AMap
  | [], k, l => [(k, l)]
  | e :: m, k, l => if e.1 == k then (k, l) :: m else e :: mset m k l
def mdel : AMap → Int → AMap
  | [], _ => []
  | e :: m, k => if e.1 == k then m else e :: mdel m k
def msum : AMap → Nat
  | [] => 0
  | e :: m => e.2.length + msum m
def Keys (m : AMap) : Prop := m.Pairwise (fun a b => a.1 ≠ b.1)

theorem pairwise_inj {α β : Type} {f : α → β} : ∀ {l : List α}, l.Pairwise (fun a b => f a ≠ f b) → ∀ a ∈ l, ∀ b ∈ l, f a = f b → a = b := by
  intro l h
  induction h with
  | nil => intro a ha; cases ha
  | cons h _ ih =>
    intro a ha b hb e
    rcases List.mem_cons.1 ha with rfl | ha' <;> rcases List.mem_cons.1 hb with rfl | hb'
    · rfl
    · exact absurd e (h b hb')
    · exact absurd e.symm (h a ha')
    · exact ih a ha' b hb' e

def EntryAt [bn : Inhabited Ban] (base : Nat) (w : World) (e : MapEntry) (kv : Int × Bytes) : Prop := e.key = .int .u64 kv.1 ∧ BytesAt base w e.val kv.2

/-- The entries of a block, and what they stand for. -/
structure Ents [bn : Inhabited Ban] (base : Nat) (w : World) (es : List MapEntry) (clock : Nat) (m : AMap) : Prop where
  len : es.length = m.length
  all : ∀ p ∈ es.zip m, EntryAt base w p.1 p.2
  born : es.Pairwise (fun a b => a.born < b.born)
  clock : ∀ e ∈ es, e.born < clock
  keys : Keys m

def MapAt [bn : Inhabited Ban] (base : Nat) (w : World) (r : Nat) (m : AMap) : Prop := ∃ es clock, w.heap[r]? = some (.map es clock) ∧ Ents base w es.toList clock m

theorem Ents.keep [bn : Inhabited Ban] {base : Nat} {w w' : World} {es : List MapEntry} {clock : Nat} {m : AMap} {F : Nat → Prop} (h : Ents base w es clock m) (hF : Foot base w F) (k : Keep F w w') : Ents base w' es clock m :=
  ⟨h.len, fun p hp => ⟨(h.all p hp).1, (h.all p hp).2.keep hF k⟩, h.born, h.clock, h.keys⟩
theorem MapAt.keep [bn : Inhabited Ban] {base : Nat} {w w' : World} {r : Nat} {m : AMap} {F : Nat → Prop} (h : MapAt base w r m) (hF : Foot base w F) (k : Keep F w w') (hr : ¬ F r) : MapAt base w' r m := by
  obtain ⟨es, clock, hb, he⟩ := h
  exact ⟨es, clock, k.heap hb hr, he.keep hF k⟩
theorem MapAt.no [bn : Inhabited Ban] {base : Nat} {w w' : World} {r : Nat} {m : AMap} (h : MapAt base w r m) (k : Keep No w w') : MapAt base w' r m := h.keep (Foot.no _ _) k (fun h => h)
theorem MapAt.keys [bn : Inhabited Ban] {base : Nat} {w : World} {r : Nat} {m : AMap} (h : MapAt base w r m) : Keys m := by obtain ⟨_, _, _, he⟩ := h; exact he.keys
theorem MapAt.lt [bn : Inhabited Ban] {base : Nat} {w : World} {r : Nat} {m : AMap} (h : MapAt base w r m) : r < w.heap.size := by obtain ⟨_, _, hb, _⟩ := h; exact heap_lt hb
theorem MapAt.foot [bn : Inhabited Ban] {base : Nat} {w : World} {r : Nat} {m : AMap} (h : MapAt base w r m) (hb : base ≤ r) : Foot base w (· = r) := by
  obtain ⟨es, clock, hr, _⟩ := h
  rintro b rfl
  exact ⟨hb, heap_lt hr, fun cs fr e => by rw [hr] at e; cases e⟩

theorem findNow_ents [bn : Inhabited Ban] {base : Nat} {w : World} {k : Int} : ∀ (es : List MapEntry) (m : AMap) (i : Nat), es.length = m.length → (∀ p ∈ es.zip m, EntryAt base w p.1 p.2) →
    (mget m k = none ∧ Instr.findNow (.int .u64) (.int .u64 k) es i = some none ∧ (∀ e ∈ m, e.1 ≠ k)) ∨
    ∃ j v l, mget m k = some l ∧ Instr.findNow (.int .u64) (.int .u64 k) es i = some (some (i + j, v)) ∧ BytesAt base w v l ∧ j < es.length ∧ m[j]? = some (k, l) ∧ (es[j]?).map (·.val) = some v ∧ (es[j]?).map (·.key) = some (.int .u64 k) ∧ (∀ i' e, i' < j → m[i']? = some e → e.1 ≠ k) := by
  intro es
  induction es with
  | nil =>
    intro m i hl _
    cases m with
    | nil => exact .inl ⟨rfl, rfl, fun e he => by cases he⟩
    | cons => simp at hl
  | cons e es ih =>
    intro m i hl hall
    cases m with
    | nil => simp at hl
    | cons kv m =>
      have h0 := hall (e, kv) (by simp)
      obtain ⟨hk, hv⟩ := h0
      simp only at hk hv
      by_cases hkk : kv.1 = k
      · refine .inr ⟨0, e.val, kv.2, by simp [mget, hkk], ?_, hv, by simp, by simp [← hkk], by simp, by simp [hk, hkk], fun i' _ h => by omega⟩
        simp [Instr.findNow, hk, Instr.sameNow, hkk]
      · have hne : ¬ k = kv.1 := fun h => hkk h.symm
        have hbe : (k == kv.1) = false := by simpa using hne
        rcases ih m (i + 1) (by simpa using hl) (fun p hp => hall p (by simp [hp])) with ⟨h1, h2, h3⟩ | ⟨j, v, l, h1, h2, h3, h4, h5, h6, h7, h8⟩
        · refine .inl ⟨?_, ?_, ?_⟩
          · simpa [mget, List.find?_cons, hkk] using h1
          · simpa [Instr.findNow, hk, Instr.sameNow, hbe] using h2
          · intro x hx
            rcases List.mem_cons.1 hx with rfl | hx
            · exact hkk
            · exact h3 x hx
        · refine .inr ⟨j + 1, v, l, ?_, ?_, h3, by simpa using h4, by simpa using h5, by simpa using h6, by simpa using h7, ?_⟩
          · simpa [mget, List.find?_cons, hkk] using h1
          · simp only [Instr.findNow, hk, Instr.sameNow, if_true, hbe, h2]; congr 3; omega
          · intro i' x hi hx
            cases i' with
            | zero => simp at hx; subst hx; exact hkk
            | succ i' => exact h8 i' x (by omega) (by simpa using hx)

theorem isKey64 (k : Int) : MapKept.IsKey (.int .u64) (.int .u64 k) := by simp [MapKept.IsKey]

/-- A look-up, in whatever world that has this block. -/
theorem run_lookup [bn : Inhabited Ban] {base : Nat} {w : World} {r : Nat} {m : AMap} (h : MapAt base w r m) (k : Int) : ∃ v, BytesAt base w v ((mget m k).getD []) ∧ ∀ w' : World, w'.heap[r]? = w.heap[r]? →
    (Instr.lookup 131 (.map (some r)) (.int .u64 k) false).run Tryz.prog w' = .ok v w' ∧
    (Instr.lookup 131 (.map (some r)) (.int .u64 k) true).run Tryz.prog w' = .ok (.tuple #[v, .bool (mget m k).isSome]) w' := by
  obtain ⟨es, clock, hb, he⟩ := h
  rcases findNow_ents (k := k) es.toList m 0 he.len he.all with ⟨h1, h2, _⟩ | ⟨j, v, l, h1, h2, h3, _⟩
  · refine ⟨.slice none 0 0, by rw [h1]; exact BytesAt.nil _ _, fun w' hw => ?_⟩
    rw [hb] at hw
    refine ⟨?_, ?_⟩ <;>
      simp [Instr.lookup, run_underlying Tryz.underlying131, MapKept.run_getObj_map hw, MapKept.run_checkKey Tryz.underlying27 (isKey64 k), MapKept.run_findKey Tryz.underlying27 h2, h1, Result.andThen]
  · refine ⟨v, by rw [h1]; exact h3, fun w' hw => ?_⟩
    rw [hb] at hw
    refine ⟨?_, ?_⟩ <;>
      simp [Instr.lookup, run_underlying Tryz.underlying131, MapKept.run_getObj_map hw, MapKept.run_checkKey Tryz.underlying27 (isKey64 k), MapKept.run_findKey Tryz.underlying27 h2, h1, Result.andThen]

theorem mset_append {m : AMap} {k : Int} {l : Bytes} (h : ∀ e ∈ m, e.1 ≠ k) : mset m k l = m ++ [(k, l)] := by
  induction m with
  | nil => rfl
  | cons e m ih => simp [mset, h e (by simp), ih (fun x hx => h x (by simp [hx]))]
theorem mset_modify {k : Int} {l l0 : Bytes} : ∀ {m : AMap} {j : Nat}, m[j]? = some (k, l0) → (∀ i' e, i' < j → m[i']? = some e → e.1 ≠ k) → mset m k l = m.set j (k, l) := by
  intro m
  induction m with
  | nil => intro j h; simp at h
  | cons e m ih =>
    intro j h hj
    cases j with
    | zero => simp at h; subst h; simp [mset]
    | succ j =>
      have h0 := hj 0 e (by omega) (by simp)
      simp [mset, h0]
      exact ih (by simpa using h) (fun i' x hi hx => hj (i' + 1) x (by omega) (by simpa using hx))
theorem mdel_none {m : AMap} {k : Int} (h : ∀ e ∈ m, e.1 ≠ k) : mdel m k = m := by
  induction m with
  | nil => rfl
  | cons e m ih => simp [mdel, h e (by simp), ih (fun x hx => h x (by simp [hx]))]
theorem mdel_erase {k : Int} {l0 : Bytes} : ∀ {m : AMap} {j : Nat}, m[j]? = some (k, l0) → (∀ i' e, i' < j → m[i']? = some e → e.1 ≠ k) → mdel m k = m.eraseIdx j := by
  intro m
  induction m with
  | nil => intro j h; simp at h
  | cons e m ih =>
    intro j h hj
    cases j with
    | zero => simp at h; subst h; simp [mdel]
    | succ j =>
      have h0 := hj 0 e (by omega) (by simp)
      simp [mdel, h0]
      exact ih (by simpa using h) (fun i' x hi hx => hj (i' + 1) x (by omega) (by simpa using hx))
theorem mem_mset {m : AMap} {k : Int} {l : Bytes} {e : Int × Bytes} (h : e ∈ mset m k l) : e = (k, l) ∨ e ∈ m := by
  induction m with
  | nil => simp [mset] at h; exact .inl h
  | cons x m ih =>
    simp only [mset] at h
    split at h
    · rcases List.mem_cons.1 h with h | h
      · exact .inl h
      · exact .inr (by simp [h])
    · rcases List.mem_cons.1 h with h | h
      · exact .inr (by simp [h])
      · rcases ih h with h | h
        · exact .inl h
        · exact .inr (by simp [h])
theorem Keys.set {m : AMap} (h : Keys m) (k : Int) (l : Bytes) : Keys (mset m k l) := by
  induction h with
  | nil => simp [mset, Keys]
  | @cons x m h1 h2 ih =>
    simp only [mset]
    split
    · rename_i hx
      simp only [beq_iff_eq] at hx
      exact List.Pairwise.cons (fun b hb => by simpa [hx] using h1 b hb) h2
    · rename_i hx
      simp only [beq_iff_eq] at hx
      refine List.Pairwise.cons (fun b hb => ?_) ih
      rcases mem_mset hb with rfl | hb
      · exact hx
      · exact h1 b hb
theorem mem_mdel {m : AMap} {k : Int} {e : Int × Bytes} (h : e ∈ mdel m k) : e ∈ m := by
  induction m with
  | nil => simp [mdel] at h
  | cons x m ih =>
    simp only [mdel] at h
    split at h
    · simp [h]
    · rcases List.mem_cons.1 h with h | h
      · simp [h]
      · simp [ih h]
theorem Keys.del {m : AMap} (h : Keys m) (k : Int) : Keys (mdel m k) := by
  induction h with
  | nil => simp [mdel, Keys]
  | @cons x m h1 h2 ih =>
    simp only [mdel]
    split
    · exact h2
    · exact List.Pairwise.cons (fun b hb => h1 b (mem_mdel hb)) ih

/-- A store. -/
theorem run_store [bn : Inhabited Ban] {base : Nat} {w : World} {r : Nat} {m : AMap} (h : MapAt base w r m) (hr : base ≤ r) (k : Int) {v : Value} {l : Bytes} (hv : BytesAt base w v l) :
    ∃ w', (Instr.mapUpdate 131 (.map (some r)) (.int .u64 k) v).run Tryz.prog w = .ok () w' ∧ MapAt base w' r (mset m k l) ∧ Keep (· = r) w w' := by
  have hfoot := h.foot hr
  obtain ⟨es, clock, hb, he⟩ := h
  have hlt := heap_lt hb
  have fin : ∀ (es' : Array MapEntry) (clock' : Nat) (m' : AMap), Ents base w es'.toList clock' m' → MapAt base { w with heap := w.heap.setIfInBounds r (.map es' clock') } r m' ∧ Keep (· = r) w { w with heap := w.heap.setIfInBounds r (.map es' clock') } := by
    intro es' clock' m' he'
    have hk : Keep (· = r) w { w with heap := w.heap.setIfInBounds r (.map es' clock') } := Keep.setObj (F := (· = r)) (Keep.refl _ w) (r := r) (.inl rfl) _
    exact ⟨⟨es', clock', by simp [hlt], he'.keep hfoot hk⟩, hk⟩
  rcases findNow_ents (k := k) es.toList m 0 he.len he.all with ⟨h1, h2, h3⟩ | ⟨j, v0, l0, h1, h2, _, h4, h5, h6, h7, h8⟩
  · refine ⟨_, ?_, fin (es.push { key := .int .u64 k, val := v, born := clock }) (clock + 1) _ ?_⟩
    · simp [Instr.mapUpdate, run_underlying Tryz.underlying131, MapKept.run_getObj_map hb, MapKept.run_checkKey Tryz.underlying27 (isKey64 k), MapKept.run_findKey Tryz.underlying27 h2, MapKept.run_setObj_map _ hb, Result.andThen]
    · rw [mset_append h3]
      refine ⟨by simpa using he.len, ?_, ?_, ?_, ?_⟩
      · intro p hp
        rw [Array.toList_push, List.zip_append he.len] at hp
        rcases List.mem_append.1 hp with hp | hp
        · exact he.all p hp
        · simp at hp; subst hp; exact ⟨rfl, hv⟩
      · rw [Array.toList_push]
        refine List.pairwise_append.2 ⟨he.born, List.pairwise_singleton _ _, fun a ha b hb => ?_⟩
        simp at hb; subst hb; exact he.clock a ha
      · intro e hee
        rw [Array.toList_push] at hee
        rcases List.mem_append.1 hee with hee | hee
        · have := he.clock e hee; omega
        · simp at hee; subst hee; simp
      · have := he.keys.set k l
        rw [mset_append h3] at this
        exact this
  · have hj : j < es.size := by simpa using h4
    simp only [Nat.zero_add] at h2
    have hkey : (es[j]?).map (·.key) = some (.int .u64 k) := by simpa using h7
    refine ⟨_, ?_, fin (es.modify j fun e => { e with key := .int .u64 k, val := v }) clock _ ?_⟩
    · simp [Instr.mapUpdate, run_underlying Tryz.underlying131, MapKept.run_getObj_map hb, MapKept.run_checkKey Tryz.underlying27 (isKey64 k), MapKept.run_findKey Tryz.underlying27 h2, hkey, MapKept.run_keyThatStays (isKey64 k), MapKept.run_setObj_map _ hb, Result.andThen]
    · rw [mset_modify h5 h8]
      have hborn : ∀ (i : Nat), ((es.modify j fun e => { e with key := .int .u64 k, val := v })[i]?).map (fun e : MapEntry => e.born) = (es[i]?).map (fun e : MapEntry => e.born) := by
        intro i
        rw [Array.getElem?_modify]
        split
        · cases es[i]? <;> rfl
        · rfl
      have hb' : (es.modify j fun e => { e with key := .int .u64 k, val := v }).toList.map (fun e : MapEntry => e.born) = es.toList.map (fun e : MapEntry => e.born) := by
        apply List.ext_getElem?
        intro i
        rw [List.getElem?_map, List.getElem?_map, Array.getElem?_toList, Array.getElem?_toList]
        exact hborn i
      refine ⟨by simpa using he.len, ?_, ?_, ?_, ?_⟩
      · intro p hp
        obtain ⟨i, hi⟩ := List.mem_iff_getElem?.1 hp
        rw [List.getElem?_zip_eq_some] at hi
        obtain ⟨h1', h2'⟩ := hi
        rw [Array.getElem?_toList, Array.getElem?_modify] at h1'
        rw [List.getElem?_set] at h2'
        by_cases hij : j = i
        · subst hij
          have hjm : j < m.length := (List.getElem?_eq_some_iff.1 h5).1
          simp [hjm] at h2'
          simp [hj] at h1'
          rw [← h1', ← h2']
          exact ⟨rfl, hv⟩
        · simp [hij] at h1' h2'
          refine he.all p (List.mem_iff_getElem?.2 ⟨i, ?_⟩)
          rw [List.getElem?_zip_eq_some]
          exact ⟨by simpa using h1', h2'⟩
      · have := he.born
        rw [← List.pairwise_map (f := fun e : MapEntry => e.born) (R := fun a b => a < b)] at this ⊢
        rw [hb']; exact this
      · intro e hee
        have : e.born ∈ es.toList.map (fun e : MapEntry => e.born) := by rw [← hb']; exact List.mem_map_of_mem hee
        obtain ⟨e', he', heq⟩ := List.mem_map.1 this
        rw [← heq]; exact he.clock e' he'
      · have := he.keys.set k l
        rw [mset_modify h5 h8] at this
        exact this

/-- delete. -/
theorem run_del [bn : Inhabited Ban] {base : Nat} {w : World} {r : Nat} {m : AMap} (h : MapAt base w r m) (hr : base ≤ r) (k : Int) :
    ∃ w', (∀ ty, (Builtin.delete_ #[131, 27] ty #[.map (some r), .int .u64 k]).run Tryz.prog w = .ok (.tuple #[]) w') ∧ MapAt base w' r (mdel m k) ∧ Keep (· = r) w w' := by
  have hfoot := h.foot hr
  obtain ⟨es, clock, hb, he⟩ := h
  have hlt := heap_lt hb
  have fin : ∀ (es' : Array MapEntry) (m' : AMap), Ents base w es'.toList clock m' → MapAt base { w with heap := w.heap.setIfInBounds r (.map es' clock) } r m' ∧ Keep (· = r) w { w with heap := w.heap.setIfInBounds r (.map es' clock) } := by
    intro es' m' he'
    have hk : Keep (· = r) w { w with heap := w.heap.setIfInBounds r (.map es' clock) } := Keep.setObj (F := (· = r)) (Keep.refl _ w) (r := r) (.inl rfl) _
    exact ⟨⟨es', clock, by simp [hlt], he'.keep hfoot hk⟩, hk⟩
  rcases findNow_ents (k := k) es.toList m 0 he.len he.all with ⟨h1, h2, h3⟩ | ⟨j, v0, l0, h1, h2, _, h4, h5, h6, h7, h8⟩
  · refine ⟨_, fun ty => ?_, fin es _ ?_⟩
    · simp [Builtin.delete_, run_underlying Tryz.underlying131, MapKept.run_getObj_map hb, MapKept.run_checkKey Tryz.underlying27 (isKey64 k), MapKept.run_findKey Tryz.underlying27 h2, MapKept.run_setObj_map _ hb, Result.andThen]
    · rw [mdel_none h3]; exact he
  · have hj : j < es.size := by simpa using h4
    simp only [Nat.zero_add] at h2
    refine ⟨_, fun ty => ?_, fin (es.eraseIdxIfInBounds j) _ ?_⟩
    · simp [Builtin.delete_, run_underlying Tryz.underlying131, MapKept.run_getObj_map hb, MapKept.run_checkKey Tryz.underlying27 (isKey64 k), MapKept.run_findKey Tryz.underlying27 h2, MapKept.run_setObj_map _ hb, Result.andThen]
    · have hjm : j < m.length := (List.getElem?_eq_some_iff.1 h5).1
      have hlist : (es.eraseIdxIfInBounds j).toList = es.toList.eraseIdx j := by
        simp [Array.eraseIdxIfInBounds, hj]
      have hzip : ∀ {α β : Type} (a : List α) (b : List β) (j : Nat), (a.eraseIdx j).zip (b.eraseIdx j) = (a.zip b).eraseIdx j := by
        intro α β a
        induction a with
        | nil => intro b j; simp
        | cons x a ih =>
          intro b j
          cases b with
          | nil => simp
          | cons y b =>
            cases j with
            | zero => rfl
            | succ j => simp [ih]
      rw [mdel_erase h5 h8, hlist]
      refine ⟨by rw [List.length_eraseIdx_of_lt h4, List.length_eraseIdx_of_lt hjm, he.len], ?_, he.born.sublist (List.eraseIdx_sublist _ _), fun e hee => he.clock e (List.mem_of_mem_eraseIdx hee), he.keys.sublist (List.eraseIdx_sublist _ _)⟩
      intro p hp
      rw [hzip] at hp
      exact he.all p (List.mem_of_mem_eraseIdx hp)

/-! ### Ranging over a map -/
structure IterAt [bn : Inhabited Ban] (base : Nat) (w : World) (it r : Nat) (m left : AMap) : Prop where
  ex : ∃ es clock seen, w.heap[it]? = some (.mapIter (some r) clock seen clock) ∧ w.heap[r]? = some (.map es clock) ∧ Ents base w es.toList clock m ∧
    left = ((es.toList.zip m).filter (fun p => !seen.contains p.1.born)).map (·.2)

theorem mem_zip_left {α β : Type} {p : α × β} {a : List α} {b : List β} (h : p ∈ a.zip b) : p.1 ∈ a := (List.of_mem_zip (a := p.1) (b := p.2) h).1

theorem run_range [bn : Inhabited Ban] {base : Nat} {w : World} {r : Nat} {m : AMap} (h : MapAt base w r m) : ∃ o, (Instr.range 131 (.map (some r))).run Tryz.prog w = .ok (.pointer (some ⟨w.heap.size, 0, none⟩)) (w.alloc o) ∧
    IterAt base (w.alloc o) w.heap.size r m m := by
  obtain ⟨es, clock, hb, he⟩ := h
  have hk : Keep No w (w.alloc (.mapIter (some r) clock #[] clock)) := (Keep.refl _ w).alloc _
  refine ⟨.mapIter (some r) clock #[] clock, ?_, ⟨es, clock, #[], heap_new w _, hk.heap hb (fun h => h), he.keep (Foot.no _ _) hk, ?_⟩⟩
  · simp [Instr.range, run_underlying Tryz.underlying131, MapKept.run_getObj_map hb, newObj, Sem.run, Result.andThen]
  · have e : (es.toList.zip m).filter (fun p => !(#[] : Array Nat).contains p.1.born) = es.toList.zip m := List.filter_eq_self.2 (fun p _ => by simp)
    rw [e]
    exact (List.map_snd_zip (by rw [he.len]; exact Nat.le_refl _)).symm

theorem run_next [bn : Inhabited Ban] {base : Nat} {w : World} {it r : Nat} {m left : AMap} (h : IterAt base w it r m left) (hit : base ≤ it) (ty : TypeId) :
    (left = [] ∧ (Instr.next (.pointer (some ⟨it, 0, none⟩)) false ty).run Tryz.prog w = .ok (.tuple #[.bool false]) w) ∨
    ∃ kv ∈ left, ∃ v w', BytesAt base w v kv.2 ∧ (Instr.next (.pointer (some ⟨it, 0, none⟩)) false ty).run Tryz.prog w = .ok (.tuple #[.bool true, .int .u64 kv.1, v]) w' ∧
      (Instr.entry (.pointer (some ⟨it, 0, none⟩))).run Tryz.prog w' = .ok (.tuple #[.int .u64 kv.1, v]) w' ∧
      IterAt base w' it r m (left.filter (fun e => e.1 != kv.1)) ∧ Keep (· = it) w w' := by
  obtain ⟨es, clock, seen, hi, hb, he, hl⟩ := h.ex
  have hfoot : Foot base w (· = it) := by
    rintro b rfl
    exact ⟨hit, heap_lt hi, fun cs fr e => by rw [hi] at e; cases e⟩
  have hrne : r ≠ it := by rintro rfl; rw [hi] at hb; cases hb
  have hleft : (leftOf es seen).toList = ((es.toList.zip m).filter (fun p => !seen.contains p.1.born)).map (·.1) := by
    have e : es.toList = (es.toList.zip m).map (·.1) := (List.map_fst_zip (by rw [he.len]; exact Nat.le_refl _)).symm
    have : (leftOf es seen).toList = es.toList.filter (fun e => !seen.contains e.born) := by simp [leftOf]
    rw [this]
    conv => lhs; rw [e]
    rw [List.filter_map]
    rfl
  rcases run_next_at (P := Tryz.prog) w ty it r clock clock seen es clock hi hb he.clock (Nat.le_refl _) with ⟨h0, hrun⟩ | ⟨e, hel, w1, hw1, hrun⟩
  · left
    refine ⟨?_, hrun⟩
    have : (leftOf es seen).toList = [] := List.eq_nil_of_length_eq_zero (by simpa using h0)
    rw [hleft] at this
    rw [hl, List.map_eq_nil_iff.1 this]
    rfl
  · right
    rw [hleft] at hel
    obtain ⟨p, hp, rfl⟩ := List.mem_map.1 hel
    obtain ⟨hpz, hps⟩ := List.mem_filter.1 hp
    obtain ⟨hpk, hpv⟩ := he.all p hpz
    have hk : Keep (· = it) w (ChangeMaps.setBlock w1 it (.mapIter (some r) clock (seen.push p.1.born) clock)) := by
      rcases hw1 with rfl | rfl
      · exact Keep.setObj (F := (· = it)) (Keep.refl _ w1) (r := it) (.inl rfl) _
      · exact Keep.setObj (F := (· = it)) (Keep.drew (Keep.refl _ w)) (r := it) (.inl rfl) _
    have hil : it < w1.heap.size := by rcases hw1 with rfl | rfl <;> exact heap_lt hi
    have hi' : (ChangeMaps.setBlock w1 it (.mapIter (some r) clock (seen.push p.1.born) clock)).heap[it]? = some (.mapIter (some r) clock (seen.push p.1.born) clock) := by
      simp [ChangeMaps.setBlock, hil]
    have hb' := hk.heap hb hrne
    have hnd : (es.toList.map (fun e : MapEntry => e.born)).Nodup := by
      rw [List.nodup_iff_pairwise_ne, List.pairwise_map]
      exact he.born.imp (fun h => Nat.ne_of_lt h)
    rw [hpk] at hrun
    refine ⟨p.2, by rw [hl]; exact List.mem_map_of_mem hp, p.1.val, _, hpv, hrun, ?_, ⟨es, clock, seen.push p.1.born, hi', hb', he.keep hfoot hk, ?_⟩, hk⟩
    · rw [run_entry_at _ it r clock seen es clock p.1 hi' hb' (mem_zip_left hpz) hnd, hpk]
    · rw [hl, List.filter_map]
      congr 1
      rw [List.filter_filter]
      apply List.filter_congr
      intro q hq
      have hborn : (es.toList.zip m).Pairwise (fun a b => a.1.born ≠ b.1.born) := by
        have := he.born.imp (S := fun a b : MapEntry => a.born ≠ b.born) (fun h => Nat.ne_of_lt h)
        have e : es.toList = (es.toList.zip m).map (·.1) := (List.map_fst_zip (by rw [he.len]; exact Nat.le_refl _)).symm
        rw [e, List.pairwise_map] at this
        exact this
      have hkeys : (es.toList.zip m).Pairwise (fun a b => a.2.1 ≠ b.2.1) := by
        have := he.keys
        unfold Keys at this
        have e : m = (es.toList.zip m).map (·.2) := (List.map_snd_zip (by rw [he.len]; exact Nat.le_refl _)).symm
        rw [e, List.pairwise_map] at this
        exact this
      have hiff : q.1.born = p.1.born ↔ q.2.1 = p.2.1 := by
        constructor
        · intro h; rw [pairwise_inj (f := fun a : MapEntry × (Int × Bytes) => a.1.born) hborn q hq p hpz h]
        · intro h; rw [pairwise_inj (f := fun a : MapEntry × (Int × Bytes) => a.2.1) hkeys q hq p hpz h]
      by_cases h1 : q.1.born = p.1.born
      · simp [h1, hiff.1 h1]
      · have h2 : ¬ q.2.1 = p.2.1 := fun h => h1 (hiff.2 h)
        simp [h1, h2]

/-- How many are left: for a loop's measure. -/
def leftNum (w : World) (it : Nat) : Nat := match w.heap[it]? with
  | some (.mapIter (some r) _ seen _) => (match w.heap[r]? with | some (.map es _) => (leftOf es seen).size | _ => 0)
  | _ => 0
theorem IterAt.num [bn : Inhabited Ban] {base : Nat} {w : World} {it r : Nat} {m left : AMap} (h : IterAt base w it r m left) : leftNum w it = left.length := by
  obtain ⟨es, clock, seen, hi, hb, he, hl⟩ := h.ex
  have e : es.toList = (es.toList.zip m).map (·.1) := (List.map_fst_zip (by rw [he.len]; exact Nat.le_refl _)).symm
  have h1 : (leftOf es seen).toList = es.toList.filter (fun e => !seen.contains e.born) := by simp [leftOf]
  have h2 : (leftOf es seen).size = left.length := by
    rw [← Array.length_toList, h1, hl, List.length_map]
    conv => lhs; rw [e]
    rw [List.filter_map, List.length_map]
    rfl
  simp only [leftNum, hi, hb, h2]
theorem msum_filter {m : AMap} (h : Keys m) {kv : Int × Bytes} (hm : kv ∈ m) : msum m = kv.2.length + msum (m.filter (fun e => e.1 != kv.1)) := by
  induction h with
  | nil => cases hm
  | @cons x m h1 h2 ih =>
    rcases List.mem_cons.1 hm with rfl | hm
    · have e : m.filter (fun e => e.1 != kv.1) = m := List.filter_eq_self.2 (fun y hy => by simpa using (h1 y hy).symm)
      simp [msum, e]
    · have := h1 kv hm
      simp [msum, this, ih hm]
      omega
theorem length_filter {m : AMap} (h : Keys m) {kv : Int × Bytes} (hm : kv ∈ m) : (m.filter (fun e => e.1 != kv.1)).length + 1 = m.length := by
  induction h with
  | nil => cases hm
  | @cons x m h1 h2 ih =>
    rcases List.mem_cons.1 hm with rfl | hm
    · have e : m.filter (fun e => e.1 != kv.1) = m := List.filter_eq_self.2 (fun y hy => by simpa using (h1 y hy).symm)
      simp [e]
    · have := h1 kv hm
      simp [this, ih hm]
theorem Keys.filter {m : AMap} (h : Keys m) (p : Int × Bytes → Bool) : Keys (m.filter p) := h.sublist List.filter_sublist
theorem IterAt.keep [bn : Inhabited Ban] {base : Nat} {w w' : World} {it r : Nat} {m left : AMap} {F : Nat → Prop} (h : IterAt base w it r m left) (hF : Foot base w F) (k : Keep F w w') (h1 : ¬ F it) (h2 : ¬ F r) : IterAt base w' it r m left := by
  obtain ⟨es, clock, seen, hi, hb, he, hl⟩ := h.ex
  exact ⟨es, clock, seen, k.heap hi h1, k.heap hb h2, he.keep hF k, hl⟩
end Go.Proofs.YtfdmbomlkpkegaaGreat
