/- Package tale: Read. -/
import Derived.Test.YtlbjkmpdakmgeaaDoorTaleI
import Derived.Test.YtlbjkmpdakmgeaaDoorTaleJ
import Derived.Deep.AppendLies
namespace Go.Proofs.YtlbjkmpdakmgeaaDoor
open Go Go.RowKit Go.Shelf

def skipF (t : List UInt8) : Bool := t.isEmpty || t.head? == some 35
def readL : List (List UInt8) → Option (List EvS)
  | [] => some []
  | t :: r => if skipF t then readL r else match parseF t with
    | none => none
    | some x => (readL r).map (x :: ·)
def readF (s : List UInt8) : Option (List EvS) := readL (splitC 10 s)
theorem readL_append : ∀ (a b : List (List UInt8)), readL (a ++ b) = (readL a).bind fun x => (readL b).map (x ++ ·)
  | [], b => by simp [readL]
  | t :: r, b => by
    simp only [List.cons_append, readL]
    split
    · exact readL_append r b
    · cases parseF t with
      | none => rfl
      | some x =>
        simp only
        rw [readL_append r b]
        cases readL r with
        | none => rfl
        | some y => cases readL b <;> simp
theorem readL_skip {a : List (List UInt8)} {t : List UInt8} {xs : List EvS} (h : readL a = some xs) (ht : skipF t = true) : readL (a ++ [t]) = some xs := by
  rw [readL_append, h]
  simp [readL, ht]
theorem readL_take {a : List (List UInt8)} {t : List UInt8} {xs : List EvS} {x : EvS} (h : readL a = some xs) (ht : skipF t = false) (hx : parseF t = some x) : readL (a ++ [t]) = some (xs ++ [x]) := by
  rw [readL_append, h]
  simp [readL, ht, hx]
theorem readL_stop {a b : List (List UInt8)} {t : List UInt8} (ht : skipF t = false) (hx : parseF t = none) : readL (a ++ t :: b) = none := by
  rw [readL_append]
  cases readL a with
  | none => rfl
  | some y => simp [readL, ht, hx]

/-! ### Events in a row -/
abbrev Item := EvS × Value × Value
def itemL (x : Item) : List Value := (evC x.1 x.2.1 x.2.2).toList
structure EvRow (base : Nat) (w : World) (B : Nat) (v : Value) (its : List Item) : Prop where
  row : w.ownsRow B 27 11 v its.length (its.flatMap itemL)
  bytes : ∀ x ∈ its, BytesAt (bn := noBan) base w x.2.1 x.1.body ∧ BytesAt (bn := noBan) base w x.2.2 x.1.p
theorem itemL_len (x : Item) : (itemL x).length = 11 := rfl
theorem EvRow.nil (base : Nat) (w : World) (B : Nat) : EvRow base w B (.slice none 0 0) [] := ⟨World.ownsRow_nil _ _ _ _, by simp⟩
theorem row_kind {w : World} {B : Nat} {t : TypeId} {k n : Nat} {v : Value} {xs : List Value} (h : w.ownsRow B t k v n xs) : ∀ b, v.ownBlock = some b → B ≤ b ∧ ∃ cu, w.heap[b]? = some (.cells cu t (0, 0)) := by
  intro b hb
  rcases h.2 with ⟨rfl, _⟩ | ⟨g, cap, cur, rfl, h1, h2, _⟩
  · cases hb
  · cases hb; exact ⟨h1, _, h2⟩
theorem row_keepW {w w' : World} {B : Nat} {t : TypeId} {k n : Nat} {v : Value} {xs : List Value} {F : Nat → Prop} (h : w.ownsRow B t k v n xs) (hk : Keep F w w') (hF : ∀ b, v.ownBlock = some b → ¬ F b) : w'.ownsRow B t k v n xs := by
  refine ⟨h.1, ?_⟩
  rcases h.2 with h | ⟨g, cap, cur, rfl, h1, h2, h3⟩
  · exact .inl h
  · exact .inr ⟨g, cap, cur, rfl, h1, hk.heap h2 (hF g rfl), h3⟩
theorem EvRow.keep {base B : Nat} {w w' : World} {v : Value} {its : List Item} {F : Nat → Prop} (h : EvRow base w B v its) (hk : Keep F w w') (hF : Foot base w F) (hv : ∀ b, v.ownBlock = some b → ¬ F b) : EvRow base w' B v its :=
  ⟨row_keepW h.row hk hv, fun x hx => ⟨BytesAt.keep (bn := noBan) (h.bytes x hx).1 hF hk, BytesAt.keep (bn := noBan) (h.bytes x hx).2 hF hk⟩⟩
theorem EvRow.no {base B : Nat} {w w' : World} {v : Value} {its : List Item} (h : EvRow base w B v its) (hk : Keep No w w') : EvRow base w' B v its := h.keep hk (Foot.no _ _) (fun _ _ e => e)
theorem BytesAt.turned [bn : Inhabited Ban] {base : Nat} {W W' : World} {row : Option Nat} {v : Value} {l : Bytes} (h : BytesAt base W v l) (hg : W.grownBy W' row) (hr : ∀ r, row = some r → ∃ o : Obj, W.heap[r]? = some o ∧ o.isCells = false) : BytesAt base W' v l := by
  obtain ⟨ao, cap, h1, h2, h3, h4, h5⟩ := h
  refine ⟨ao, cap, h1, h2, h3, h4, fun i x hx => ?_⟩
  obtain ⟨ad, e, hb, hc⟩ := h5 i x hx
  refine ⟨ad, e, ⟨Nat.lt_of_lt_of_le hb.1 hg.size, ?_, hb.2.2.1, Nat.le_trans hb.2.2.2 hg.size⟩, cell_kept hc hg hr⟩
  rcases hb.2.1 with h2 | ⟨cs, fr, h2⟩
  · exact .inl h2
  · exact .inr ⟨cs, fr, (grownBy_keeps_cells hg hr h2 rfl).trans h2⟩
theorem EvRow.turned {base B : Nat} {W W' : World} {row : Option Nat} {v : Value} {its : List Item} (h : EvRow base W B v its) (hg : W.grownBy W' row) (hr : ∀ r, row = some r → ∃ o : Obj, W.heap[r]? = some o ∧ o.isCells = false) : EvRow base W' B v its := by
  refine ⟨⟨h.row.1, ?_⟩, fun x hx => ⟨(h.bytes x hx).1.turned (bn := noBan) hg hr, (h.bytes x hx).2.turned (bn := noBan) hg hr⟩⟩
  rcases h.row.2 with h3 | ⟨g, cap, cur, e, h3, h4, h5⟩
  · exact .inl h3
  · exact .inr ⟨g, cap, cur, e, h3, (grownBy_keeps_cells hg hr h4 rfl).trans h4, h5⟩

theorem row_form {w : World} {base : Nat} {t : TypeId} {size n : Nat} {v : Value} {xs : List Value} (h : w.ownsRow base t size v n xs) : ∃ ao cap, v = .slice ao n cap ∧ n ≤ cap ∧ cap ≤ maxLen := by
  rcases h.2 with ⟨rfl, h0⟩ | ⟨g, cap, cur, rfl, _, _, h1, h2, _⟩
  · exact ⟨none, 0, by rw [h0], by omega, by decide⟩
  · exact ⟨_, _, rfl, h1, h2⟩
theorem own_grown {w w' : World} {v : Value} (h : w.grownBy w' v.ownBlock) : Keep (fun b => v.ownBlock = some b) w w' := (Keep.refl _ _).grown h (fun _ e => .inl e)
theorem info_event : (Tryd.prog.info? 27).map (fun i => (i.zero, i.size, i.bytes)) = some (some (.agg #[.int .u8 0, .int .i64 0, .int .i64 0, .slice none 0 0, .int .i64 0, .int .i64 0, .int .u8 0, .int .i64 0, .int .i64 0, .bool false, .slice none 0 0]), 11, 120) := by kernel_rfl
theorem allocs6 (w : World) (o1 o2 o3 o4 o5 o6 : Obj) : ∃ W, W = (((((w.alloc o1).alloc o2).alloc o3).alloc o4).alloc o5).alloc o6 ∧ Keep No w W ∧ W.heap.size = w.heap.size + 1 + 1 + 1 + 1 + 1 + 1 ∧
    W.heap[w.heap.size]? = some o1 ∧ W.heap[w.heap.size + 1]? = some o2 ∧ W.heap[w.heap.size + 1 + 1]? = some o3 ∧ W.heap[w.heap.size + 1 + 1 + 1]? = some o4 ∧ W.heap[w.heap.size + 1 + 1 + 1 + 1]? = some o5 ∧ W.heap[w.heap.size + 1 + 1 + 1 + 1 + 1]? = some o6 := by
  have k : ∀ (w : World) (o : Obj), Keep No w (w.alloc o) := fun w o => (Keep.refl _ _).alloc o
  have n : ∀ (w : World) (o : Obj), (w.alloc o).heap[w.heap.size]? = some o := fun w o => heap_new w o
  refine ⟨_, rfl, (((((k _ _).then (k _ _)).then (k _ _)).then (k _ _)).then (k _ _)).then (k _ _), by simp, ?_, ?_, ?_, ?_, ?_, ?_⟩
  · exact (((((k _ _).then (k _ _)).then (k _ _)).then (k _ _)).then (k _ _)).heap (n w o1) (fun e => e)
  · have := n (w.alloc o1) o2
    rw [World.size_alloc] at this
    exact ((((k _ _).then (k _ _)).then (k _ _)).then (k _ _)).heap this (fun e => e)
  · have := n ((w.alloc o1).alloc o2) o3
    rw [World.size_alloc, World.size_alloc] at this
    exact (((k _ _).then (k _ _)).then (k _ _)).heap this (fun e => e)
  · have := n (((w.alloc o1).alloc o2).alloc o3) o4
    rw [World.size_alloc, World.size_alloc, World.size_alloc] at this
    exact ((k _ _).then (k _ _)).heap this (fun e => e)
  · have := n ((((w.alloc o1).alloc o2).alloc o3).alloc o4) o5
    rw [World.size_alloc, World.size_alloc, World.size_alloc, World.size_alloc] at this
    exact (k _ _).heap this (fun e => e)
  · have := n (((((w.alloc o1).alloc o2).alloc o3).alloc o4).alloc o5) o6
    rw [World.size_alloc, World.size_alloc, World.size_alloc, World.size_alloc, World.size_alloc] at this
    exact this

theorem EvRow.mono {base B B' : Nat} {w : World} {v : Value} {its : List Item} (h : EvRow base w B v its) (hB : B' ≤ B) : EvRow base w B' v its := by
  refine ⟨⟨h.row.1, ?_⟩, h.bytes⟩
  rcases h.row.2 with h3 | ⟨g, cap, cur, e, h3, h4, h5⟩
  · exact .inl h3
  · exact .inr ⟨g, cap, cur, e, Nat.le_trans hB h3, h4, h5⟩

/-! ### Read -/
def ReadPost (base : Nat) (w : World) : Option (List EvS) → Ending → World → Prop
  | some l, e, w' => Keep No w w' ∧ ∃ v its, e = .returned (.tuple #[v, .int .i64 0]) ∧ EvRow base w' w.heap.size v its ∧ its.map (·.1) = l
  | none, e, w' => Keep No w w' ∧ e = .returned (.tuple #[.slice none 0 0, .int .i64 10])
set_option maxRecDepth 100000 in
theorem read_long {w : World} (S : ByteArray) (hs : 20000 < S.size) : Calls Tryd.prog 24 #[.string S] w fun e w' => Keep No w w' ∧ e = .returned (.tuple #[.slice none 0 0, .int .i64 6]) := by
  have hq : (20000 : Int) < (S.size : Int) := by omega
  clear hs
  go_enter Tryd.func24, Tryd.ntmps24
  go_wp2
  refine bodyPost_ret (v := .tuple #[.slice none 0 0, .int .i64 6]) (by simp [results, Tryd.results24, go_sem]) rfl ?_
  exact ⟨((Keep.refl No w).alloc _).alloc _, rfl⟩
structure ReadI (base : Nat) (w W0 : World) (b2 b3 b4 Bs : Nat) (pre : List Ln) (W : World) : Prop where
  out : ∃ v its, W.heap[b4]? = some (.cells #[v] 51 (0, 0)) ∧ EvRow base W W0.heap.size v its ∧ readL (pre.map (·.1)) = some (its.map (·.1)) ∧ its.length ≤ pre.length
  text : ∃ S, W.heap[Bs]? = some (.cells #[.string S] 9 (0, 0))
  res : W.heap[b2]? = some (.cells #[.slice none 0 0] 51 (0, 0))
  err : W.heap[b3]? = some (.cells #[.int .i64 0] 28 (0, 0))
  keep : Keep No w W
  size : W0.heap.size ≤ W.heap.size
theorem ReadI.own {base : Nat} {w W0 : World} {b2 b3 b4 Bs : Nat} (h0 : w.heap.size ≤ W0.heap.size) : OwnFrom W0.heap.size (ReadI base w W0 b2 b3 b4 Bs) := by
  intro s A B row h hg hr
  have hr2 := fun r e => (hr r e).2
  obtain ⟨v, its, h1, h2, h3, h4⟩ := h.out
  obtain ⟨S, hS⟩ := h.text
  exact ⟨⟨v, its, (grownBy_keeps_cells hg hr2 h1 rfl).trans h1, h2.turned hg hr2, h3, h4⟩, ⟨S, (grownBy_keeps_cells hg hr2 hS rfl).trans hS⟩, (grownBy_keeps_cells hg hr2 h.res rfl).trans h.res, (grownBy_keeps_cells hg hr2 h.err rfl).trans h.err,
    h.keep.grown hg (fun r e => .inr (Nat.le_trans h0 (hr r e).1)), Nat.le_trans h.size hg.size⟩
theorem ReadI.step {base : Nat} {w W0 : World} {b2 b3 b4 Bs : Nat} (hb : base ≤ w.heap.size) (hBs : w.heap.size ≤ Bs) (hl : Bs < W0.heap.size) (h2 : b2 ≠ Bs) (h3 : b3 ≠ Bs) (h4 : b4 ≠ Bs) :
    ∀ s A B, ReadI base w W0 b2 b3 b4 Bs s A → TextStep Bs A B → ReadI base w W0 b2 b3 b4 Bs s B := by
  rintro s A B h ⟨T, rfl⟩
  obtain ⟨v, its, g1, g2, g3, g4⟩ := h.out
  obtain ⟨S, hS⟩ := h.text
  have kE : Keep (· = Bs) A (A.setCell ⟨Bs, 0, none⟩ (.string T)) := Keep.setCell (F := (· = Bs)) (Keep.refl _ _) (.inl rfl) _
  have hF : Foot base A (· = Bs) := by
    rintro b rfl
    exact ⟨by omega, heap_lt hS, fun cs fr e => by rw [hS] at e; simp at e⟩
  refine ⟨⟨v, its, kE.heap g1 h4, g2.keep kE hF (fun b e1 e2 => by have := (row_kind g2.row b e1).1; omega), g3, g4⟩, ⟨T, heap_setCell_same (i := 0) (u := .string T) hS⟩, kE.heap h.res h2, kE.heap h.err h3, h.keep.trans kE (fun x hx e => by omega), Nat.le_trans h.size kE.size⟩
structure ReadX (w : World) (b2 b3 : Nat) (s : List UInt8) (pre : List Ln) (W : World) : Prop where
  no : ∀ r, readL (pre.map (·.1) ++ r) = none
  res : W.heap[b2]? = some (.cells #[.slice none 0 0] 51 (0, 0))
  err : W.heap[b3]? = some (.cells #[.int .i64 10] 28 (0, 0))
  keep : Keep No w W
theorem ReadX.own {w W0 : World} {b2 b3 : Nat} {s : List UInt8} (h0 : w.heap.size ≤ W0.heap.size) : OwnFrom W0.heap.size (ReadX w b2 b3 s) := by
  intro s A B row h hg hr
  have hr2 := fun r e => (hr r e).2
  exact ⟨h.no, (grownBy_keeps_cells hg hr2 h.res rfl).trans h.res, (grownBy_keeps_cells hg hr2 h.err rfl).trans h.err, h.keep.grown hg (fun r e => .inr (Nat.le_trans h0 (hr r e).1))⟩

attribute [local go_sem] Oper.semAt_some
set_option maxRecDepth 100000 in
set_option maxHeartbeats 4000000 in
theorem read_spec {base : Nat} {w : World} (hV : VarsAt w) (hbase : base ≤ w.heap.size) (s : List UInt8) (hs : s.length ≤ 20000) :
    Calls Tryd.prog 24 #[strV s] w (ReadPost base w (readF s)) := by
  obtain ⟨R, hR⟩ : ∃ R, R = readF s := ⟨_, rfl⟩
  rw [← hR]
  obtain ⟨S, hS⟩ : ∃ S, S = strB s := ⟨_, rfl⟩
  have hsz : S.size = s.length := by rw [hS]; simp [ByteArray.size]
  show Calls Tryd.prog 24 #[.string (strB s)] w _
  rw [← hS]
  have hq : ¬ (20000 : Int) < (S.size : Int) := by omega
  have hsp := fun w => splitSeq_spec s 10 w
  rw [show strV s = .string S by rw [hS]] at hsp
  have HH := Lib.hid (And.intro hR (And.intro hV (And.intro hbase (And.intro hs hS))))
  clear hR hV hbase hs hS hsz
  refine (callsIn_wide (n := 6)).1 ?_
  refine callsIn_of_wp_marks Tryd.func24 rfl trivial ?_ rfl
  simp only [Tryd.ntmps24, List.size_toArray, List.length_cons, List.length_nil, Nat.reduceAdd, Nat.reduceSub, Array.replicate_succ, Array.replicate_zero, List.push_toArray, List.append_toArray, List.nil_append, List.cons_append]
  refine wpIn_wide.2 ?_
  go_wp2_with (go_at_call 47; refine (hsp _).mono ?_; rintro e w2 ⟨rfl, rfl⟩)
  obtain ⟨W0, hW0, k0, hz0, g2, g3, g4, gs, gp, gk⟩ := allocs6 w (.cells #[.slice none 0 0] 51) (.cells #[.int .i64 0] 28) (.cells #[.slice none 0 0] 51) (.cells #[.string S] 9) (.cells #[strV [10]] 9) (.cells #[.int .i64 0] 3)
  rw [← hW0]
  clear hW0 hsp
  have h0 : w.heap.size ≤ W0.heap.size := by omega
  obtain ⟨b2, hb2⟩ : ∃ b, b = w.heap.size := ⟨_, rfl⟩
  obtain ⟨b3, hb3⟩ : ∃ b, b = w.heap.size + 1 := ⟨_, rfl⟩
  obtain ⟨b4, hb4⟩ : ∃ b, b = w.heap.size + 1 + 1 := ⟨_, rfl⟩
  obtain ⟨Bs, hBs⟩ : ∃ b, b = w.heap.size + 1 + 1 + 1 := ⟨_, rfl⟩
  obtain ⟨Bp, hBp⟩ : ∃ b, b = w.heap.size + 1 + 1 + 1 + 1 := ⟨_, rfl⟩
  obtain ⟨Bk, hBk⟩ : ∃ b, b = w.heap.size + 1 + 1 + 1 + 1 + 1 := ⟨_, rfl⟩
  rw [← hBk] at gk ⊢
  rw [← hBp] at gp ⊢
  rw [← hBs] at gs ⊢
  rw [← hb4] at g4 ⊢
  rw [← hb3] at g3 ⊢
  rw [← hb2] at g2 ⊢
  have hseq := splitSeq_writes (n := 5) (by decide) (w := W0) (s := s) (c := 10) (Bs := Bs) (Bp := Bp) (Bk := Bk) (F := (· = b4)) (by have := HH.out.2.2.2.1; omega) (by rw [gs, HH.out.2.2.2.2]) gp gk (by omega) (by omega) (fun e => by omega) (fun e => by omega) (fun e => by omega)
    (fun w' k => HH.out.2.1.no (k0.trans (k.keep) (fun x hx e => by rcases e with e | e <;> omega)))
  have HB := Lib.hid (And.intro hb2 (And.intro hb3 (And.intro hb4 (And.intro hBs (And.intro hz0 (And.intro k0 h0))))))
  have hI0 : ReadI base w W0 b2 b3 b4 Bs [] W0 := ⟨⟨_, [], g4, EvRow.nil _ _ _, rfl, Nat.le_refl _⟩, ⟨_, gs⟩, g2, g3, k0, Nat.le_refl _⟩
  clear hb2 hb3 hb4 hBs hBp hBk g2 g3 g4 gs gp gk hz0 k0 h0
  refine (wpIn_wide (n := 6)).1 ?_
  refine wpIn_rangeWrites rfl (by decide) (gf := 72) (lb := #[.pointer (some ⟨Bp, 0, none⟩), .pointer (some ⟨Bs, 0, none⟩), .pointer (some ⟨Bk, 0, none⟩)]) rfl trivial (enters_of Tryd.func72 (by kernel_rfl) rfl) hseq
    (fun h k => h.trans k) (fun A B row hs hg hr => KeepTo.grown hg hs hr) (fun _ => rfl)
    (fun A B hAB b o hb ho => by obtain ⟨T, rfl⟩ := hAB; exact (Keep.setCell (F := (· = Bs)) (Keep.refl _ _) (.inl rfl) _).heap ho (fun e => by have := HB.out.2.2.2.1; have := HB.out.2.2.2.2.1; omega))
    (ReadI base w W0 b2 b3 b4 Bs) (ReadX w b2 b3 s) (ReadI.own HB.out.2.2.2.2.2.2)
    (ReadI.step HH.out.2.2.1 (by have := HB.out.2.2.2.1; omega) (by have := HB.out.2.2.2.1; have := HB.out.2.2.2.2.1; omega) (by have := HB.out.2.2.2.1; have := HB.out.1; omega) (by have := HB.out.2.2.2.1; have := HB.out.2.1; omega) (by have := HB.out.2.2.2.1; have := HB.out.2.2.1; omega))
    (ReadX.own HB.out.2.2.2.2.2.2) hI0
    (fun x => { tmps := #[.string S, undef, .pointer (some ⟨b2, 0, none⟩), .pointer (some ⟨b3, 0, none⟩), .pointer (some ⟨b4, 0, none⟩), strV x.1, undef, undef, .string S, .int .i64 S.size, .bool false, .string S,
      .func (.func 72) #[] #[.pointer (some ⟨Bp, 0, none⟩), .pointer (some ⟨Bs, 0, none⟩), .pointer (some ⟨Bk, 0, none⟩)], strV x.1, undef, undef, undef, undef, undef, undef, undef, undef, undef, undef, undef, undef, undef, undef, undef, undef, undef, undef, undef, undef], defers := [] }) ?assign ?body ?done ?stop
  case assign =>
    intro l x W K hK
    gi_wp2
    exact hK
  case body =>
    rintro l pre X W hI hlen
    obtain ⟨v, its, h4, hrow, hrd, hil⟩ := hI.out
    obtain ⟨vo, vc, rfl, hv1, hv2⟩ := row_form hrow.row
    obtain ⟨x, hx⟩ := X
    obtain ⟨T, hT⟩ : ∃ T, T = strB x := ⟨_, rfl⟩
    have hl : T.toList = x := by rw [hT, ByteArray.toList_mk]
    show Code.wpIn _ _ _ _ _ _ _
    rw [show strV x = .string T by rw [hT]]
    have hdone : skipF x = true → endsIn (KeepTo W0.heap.size (· = b4)) (ReadI base w W0 b2 b3 b4 Bs) (ReadX w b2 b3 s) (pre ++ [⟨x, hx⟩]) W .normal { tmps := #[], defers := [] } W := fun hsk =>
      ⟨(Keep.refl No W).others, KeepTo.refl _ _ _, ⟨⟨_, its, h4, hrow, by rw [List.map_append, List.map_singleton]; exact readL_skip hrd hsk, by simp; omega⟩, hI.text, hI.res, hI.err, hI.keep, hI.size⟩⟩
    have HI := Lib.hid (And.intro hI (And.intro h4 (And.intro hrow (And.intro hrd (And.intro hil (And.intro hv1 (And.intro hv2 (And.intro hT hdone))))))))
    clear hI h4 hrow hrd hil hv1 hv2 hdone
    cases x with
    | nil =>
      have hq0 : T.toList = [] := hl
      clear hl hT
      gi_wp2
      exact HI.out.2.2.2.2.2.2.2.2 rfl
    | cons c r =>
      have hq0 : (T.toList == []) = false := by rw [hl]; rfl
      have hq1 : T.toList.isEmpty = false := by rw [hl]; rfl
      have hix := index_str 9 (by kernel_rfl) (c :: r) 0 c rfl
      rw [← hT] at hix
      replace hix : ∀ w : World, (Instr.index 9 (.string T) (.int .i64 0)).run Tryd.prog w = .ok (.int .u8 c.toNat) w := hix
      by_cases hc : c = 35
      · subst hc
        clear hl hT
        replace hix : ∀ w : World, (Instr.index 9 (.string T) (.int .i64 0)).run Tryd.prog w = .ok (.int .u8 35) w := hix
        gi_wp2
        exact HI.out.2.2.2.2.2.2.2.2 rfl
      · have hqc : ((c.toNat : Int) == 35) = false := by
          rw [beq_eq_false_iff_ne]
          intro e
          exact hc (UInt8.toNat_inj.1 (by simp; omega))
        have hsk : skipF (c :: r) = false := by simp [skipF, hc]
        have hps := parse_spec (base := base) (HH.out.2.1.no HI.out.1.keep) (Nat.le_trans HH.out.2.2.1 HI.out.1.keep.size) (c :: r) hx
        rw [show strV (c :: r) = .string T by rw [hT]] at hps
        have HS := Lib.hid hsk
        clear hl hT hsk hc
        cases hp : parseF (c :: r) with
        | none =>
          rw [hp] at hps
          have HP := Lib.hid hp
          have hb23 : ¬ (b2 = b3) := by have := HB.out; omega
          have hb32 : ¬ (b3 = b2) := by have := HB.out; omega
          have hn2 : b2 < W.heap.size := by have := HB.out; have := HI.out.1.size; omega
          have hn3 : b3 < W.heap.size := by have := HB.out; have := HI.out.1.size; omega
          clear hp
          gi_wp2_with (refine ⟨trivial, ?_⟩; gi_at_call 9; refine (CallsIn.inRound l (callsIn_wide.2 hps)).mono ?_; rintro e W2 ⟨k2, rfl⟩; unfold evV; have hz2 := fun o => cell_of (((Keep.refl No W2).alloc o).heap (k2.heap HI.out.1.res (fun e => e)) (fun e => e)) 0; have hz3 := fun o => cell_of (((Keep.refl No W2).alloc o).heap (k2.heap HI.out.1.err (fun e => e)) (fun e => e)) 0; simp at hz2 hz3; have fz2 := fun o => frozen_of (((Keep.refl No W2).alloc o).heap (k2.heap HI.out.1.res (fun e => e)) (fun e => e)); have fz3 := fun o => frozen_of (((Keep.refl No W2).alloc o).heap (k2.heap HI.out.1.err (fun e => e)) (fun e => e)))
          have kA : Keep No W2 (W2.alloc (.cells (evC {} (.slice none 0 0) (.slice none 0 0)) 27)) := (Keep.refl _ _).alloc _
          have h2A := kA.heap (k2.heap HI.out.1.res (fun e => e)) (fun e => e)
          have h3A := kA.heap (k2.heap HI.out.1.err (fun e => e)) (fun e => e)
          have fin : ∀ (W3 : World) (a : Act), Keep No W2 W3 → W3.heap[b2]? = some (.cells #[.slice none 0 0] 51 (0, 0)) → W3.heap[b3]? = some (.cells #[.int .i64 0] 28 (0, 0)) →
              endsIn (KeepTo W0.heap.size (· = b4)) (ReadI base w W0 b2 b3 b4 Bs) (ReadX w b2 b3 s) (pre ++ [⟨c :: r, hx⟩]) W .ret a ((W3.setCell ⟨b2, 0, none⟩ (.slice none 0 0)).setCell ⟨b3, 0, none⟩ (.int .i64 10)) := by
            intro W3 a kA h2A h3A
            have kB : Keep (· = b2) W3 (W3.setCell ⟨b2, 0, none⟩ (.slice none 0 0)) := Keep.setCell (F := (· = b2)) (Keep.refl _ _) (.inl rfl) _
            have kC : Keep (· = b3) (W3.setCell ⟨b2, 0, none⟩ (.slice none 0 0)) ((W3.setCell ⟨b2, 0, none⟩ (.slice none 0 0)).setCell ⟨b3, 0, none⟩ (.int .i64 10)) := Keep.setCell (F := (· = b3)) (Keep.refl _ _) (.inl rfl) _
            have h2B := heap_setCell_same (i := 0) (u := .slice none 0 0) h2A
            have h3B := heap_setCell_same (i := 0) (u := .int .i64 10) (kB.heap h3A (fun e => hb32 e))
            refine ⟨(k2.then kA).others.trans ((KeepsOthers.setCell _ _ _).trans (KeepsOthers.setCell _ _ _)), ⟨fun r' => ?_, kC.heap h2B hb23, h3B, ?_⟩⟩
            · rw [List.map_append, List.map_singleton, List.append_assoc]
              exact readL_stop HS.out HP.out
            · exact ((HI.out.1.keep.then (k2.then kA)).trans kB (fun x hx e => by have := HB.out; have := e; omega)).trans kC (fun x hx e => by have := HB.out; have := e; omega)
          exact fin _ _ kA h2A h3A
        | some y =>
          rw [hp] at hps
          have HP := Lib.hid hp
          have hn4 : b4 < W.heap.size := by have := HB.out; have := HI.out.1.size; omega
          clear hp
          obtain ⟨i0, hi, hz0, hz1, hz2⟩ := info_parts info_event
          have hil := HI.out.2.2.2.2.1
          have hsl := HH.out.2.2.2.1
          have hb1 : its.length + 1 ≤ maxLen := by unfold maxLen; omega
          have hb2 : (its.length + 1) * 120 ≤ 140737488355328 := by omega
          clear hil hsl
          gi_wp2_with (first
            | (gi_at_builtin; refine wpListIn_append_own _ rfl _ _ 51 rfl W0.heap.size 27 i0 _ 11 120 Tryd.underlying51 hi hz0 hz1 hz2 rfl (by decide) _ _ _ rfl hr4.row ⟨W2.heap.size + 1, 0, none⟩ 1 1 (itemL (y, .slice yo y.body.length yc, .slice zo y.p.length zc)) rfl rfl (World.news_of_block (cs := evC y (.slice yo y.body.length yc) (.slice zo y.p.length zc)) (t := 27) (fr := (0, 0)) zn) (by simp [itemL, evC, Value.oneCell']) hb1 hb2 (Nat.le_trans HI.out.1.size (k2.then (k23.then k34)).size) ?_; intro v7 W7 hrow7 hg7 _; obtain ⟨vo7, vc7, rfl, hv71, hv72⟩ := row_form hrow7; have k7 := own_grown hg7; have hvn : ∀ c, (Value.slice vo its.length vc).ownBlock = some c → W0.heap.size ≤ c := fun c hc => (row_kind hr4.row c hc).1; have q4 := k7.heap (k34.heap (k23.heap (k2.heap HI.out.2.1 (fun e => e)) (fun e => e)) (fun e => e)) (fun e => by have := hvn _ e; have := HB.out; omega); have p4 := cell_of q4 0; have g4 := frozen_of q4 0; simp at p4)
            | (refine ⟨trivial, ?_⟩; gi_at_call 9; refine (CallsIn.inRound l (callsIn_wide.2 hps)).mono ?_; rintro e W2 ⟨k2, yv, zv, rfl, hyb, hzb⟩; obtain ⟨yo, yc, rfl⟩ := BytesAt.form (bn := noBan) hyb; obtain ⟨zo, zc, rfl⟩ := BytesAt.form (bn := noBan) hzb; unfold evV; have hE := heap_new W2 (.cells (evC y (.slice yo y.body.length yc) (.slice zo y.p.length zc)) 27); have zn := heap_new (W2.alloc (.cells (evC y (.slice yo y.body.length yc) (.slice zo y.p.length zc)) 27)) (.cells (evC y (.slice yo y.body.length yc) (.slice zo y.p.length zc)) 27); rw [World.size_alloc] at zn; have k23 : Keep No W2 (W2.alloc (.cells (evC y (.slice yo y.body.length yc) (.slice zo y.p.length zc)) 27)) := (Keep.refl _ _).alloc _; have k34 := (Keep.refl No (W2.alloc (.cells (evC y (.slice yo y.body.length yc) (.slice zo y.p.length zc)) 27))).alloc (.cells (evC y (.slice yo y.body.length yc) (.slice zo y.p.length zc)) 27); have hr4 := HI.out.2.2.1.no (k2.then (k23.then k34)); have c4 := fun o => cell_of (((Keep.refl No W2).alloc o).heap (k2.heap HI.out.2.1 (fun e => e)) (fun e => e)) 0; simp at c4))
          have k24 := k23.then k34
          have k4 := k2.then k24
          have hwf := HB.out
          have hbs := HH.out.2.2.1
          have hI := HI.out.1
          have hsz := hI.size
          have kE : Keep (· = b4) W7 (W7.setCell ⟨b4, 0, none⟩ (.slice vo7 (its.length + 1) vc7)) := Keep.setCell (F := (· = b4)) (Keep.refl _ _) (.inl rfl) _
          have q8 := heap_setCell_same (i := 0) (u := .slice vo7 (its.length + 1) vc7) q4
          have hF7 := fun b (hb : (Value.slice vo its.length vc).ownBlock = some b) => row_kind hr4.row b hb
          have hyb4 := BytesAt.no (bn := noBan) hyb k24
          have hzb4 := BytesAt.no (bn := noBan) hzb k24
          replace hg7 : ((W2.alloc (.cells (evC y (.slice yo y.body.length yc) (.slice zo y.p.length zc)) 27)).alloc (.cells (evC y (.slice yo y.body.length yc) (.slice zo y.p.length zc)) 27)).grownBy W7 (Value.slice vo its.length vc).ownBlock := hg7
          replace k7 := own_grown hg7
          generalize hW4 : (W2.alloc (.cells (evC y (.slice yo y.body.length yc) (.slice zo y.p.length zc)) 27)).alloc (.cells (evC y (.slice yo y.body.length yc) (.slice zo y.p.length zc)) 27) = W4 at *
          have hFt7 : Foot base W4 (fun b => (Value.slice vo its.length vc).ownBlock = some b) := fun b hb => by
            obtain ⟨h1, cu, h2⟩ := hF7 b hb
            exact ⟨by omega, heap_lt h2, fun cs fr e => by rw [h2] at e; simp at e⟩
          have hFtE : Foot base W7 (· = b4) := by
            rintro b rfl
            exact ⟨by omega, heap_lt q4, fun cs fr e => by rw [q4] at e; simp at e⟩
          have hbb := fun (v' : Value) (b' : Bytes) (h : BytesAt (bn := noBan) base W4 v' b') => BytesAt.keep (bn := noBan) (BytesAt.keep (bn := noBan) h hFt7 k7) hFtE kE
          have hgo := fun (b : Nat) (o : Obj) (hb : b < W0.heap.size) (hne : b ≠ b4) (h : W.heap[b]? = some o) => kE.heap (k7.heap (k4.heap h (fun e => e)) (fun e => by have := hvn _ e; omega)) hne
          have h7s : W4.heap.size ≤ W7.heap.size := k7.size
          have h4s : W.heap.size ≤ W4.heap.size := k4.size
          obtain ⟨S', hS'⟩ := hI.text
          refine ⟨k4.others.trans ((KeepsOthers.of_grownBy hg7 (fun j o e1 e2 => ?_)).trans (KeepsOthers.setCell _ _ _)), ⟨?_, ?_, ?_, ?_, ?_⟩, ⟨⟨_, its ++ [(y, .slice yo y.body.length yc, .slice zo y.p.length zc)], q8, ⟨?_, ?_⟩, ?_, by simp; exact HI.out.2.2.2.2.1⟩, ⟨S', hgo Bs _ (by omega) (by omega) hS'⟩, hgo b2 _ (by omega) (by omega) hI.res, hgo b3 _ (by omega) (by omega) hI.err, ?_, ?_⟩⟩
          · obtain ⟨_, cu, hz⟩ := hF7 j e1
            rw [hz] at e2; cases e2; rfl
          · exact kE.os.trans (k7.os.trans k4.os)
          · exact kE.tape.trans (k7.tape.trans k4.tape)
          · exact kE.output.trans (k7.output.trans k4.output)
          · exact Nat.le_trans (Nat.le_trans h4s h7s) kE.size
          · intro b hb hne
            rw [kE.block b (by omega) hne, k7.block b (by omega) (fun e => by have := hvn _ e; omega), k4.block b (by omega) (fun e => e)]
          · have := row_keepW hrow7 kE (fun b e1 e2 => by have := (row_kind hrow7 b e1).1; omega)
            simpa using this
          · intro z hz
            rcases List.mem_append.1 hz with hz | hz
            · exact ⟨hbb _ _ (hr4.bytes z hz).1, hbb _ _ (hr4.bytes z hz).2⟩
            · simp at hz
              subst hz
              exact ⟨hbb _ _ hyb4, hbb _ _ hzb4⟩
          · rw [List.map_append, List.map_append, List.map_singleton, List.map_singleton]
            exact readL_take HI.out.2.2.2.1 HS.out HP.out
          · exact ((hI.keep.then k4).trans k7 (fun x hx e => by have := hvn _ e; omega)).trans kE (fun x hx e => by have := e; omega)
          · exact Nat.le_trans (Nat.le_trans (Nat.le_trans hsz h4s) h7s) kE.size
  case done =>
    rintro D xs W hD hS hI hK
    obtain ⟨v, its, h4, hrow, hrd, hil⟩ := hI.out
    obtain ⟨vo, vc, rfl, hv1, hv2⟩ := row_form hrow.row
    have c4 := cell_of h4 0
    have f2 := frozen_of hI.res
    have f3 := frozen_of hI.err
    have c2 := cell_of hI.res 0
    have c3 := cell_of hI.err 0
    simp at c4 c2 c3
    have hb23 : ¬ (b2 = b3) := by have := HB.out; omega
    have hb32 : ¬ (b3 = b2) := by have := HB.out; omega
    have HI := Lib.hid (And.intro hI (And.intro h4 (And.intro hrow (And.intro hrd (And.intro hS (And.intro hK hD))))))
    clear hI h4 hrow hrd hS hK hv1 hv2 hil hD
    go_wp2
    obtain ⟨hI, h4, hrow, hrd, hS, hK, hD⟩ := HI.out
    have hb := HB.out
    have hz := HH.out.2.2.1
    have kB : Keep (· = b2) W (W.setCell ⟨b2, 0, none⟩ (.slice vo its.length vc)) := Keep.setCell (F := (· = b2)) (Keep.refl _ _) (.inl rfl) _
    have h2B := heap_setCell_same (i := 0) (u := .slice vo its.length vc) hI.res
    have h3B := kB.heap hI.err (fun e => hb32 e)
    have r2 := hrow.keep kB (by rintro b rfl; exact ⟨by omega, heap_lt hI.res, fun cs fr e => by rw [hI.res] at e; simp at e⟩) (fun b e1 e2 => by have := (row_kind hrow.row b e1).1; omega)
    have kC : Keep (· = b3) (W.setCell ⟨b2, 0, none⟩ (.slice vo its.length vc)) ((W.setCell ⟨b2, 0, none⟩ (.slice vo its.length vc)).setCell ⟨b3, 0, none⟩ (.int .i64 0)) := Keep.setCell (F := (· = b3)) (Keep.refl _ _) (.inl rfl) _
    have h2C := kC.heap h2B hb23
    have h3C := heap_setCell_same (i := 0) (u := .int .i64 0) h3B
    have r3 := r2.keep kC (by rintro b rfl; exact ⟨by omega, heap_lt h3B, fun cs fr e => by rw [h3B] at e; simp at e⟩) (fun b e1 e2 => by have := (row_kind r2.row b e1).1; omega)
    have hKd := kC.heap (kB.heap hK (fun e => by omega)) (fun e => by omega)
    have kw := (hI.keep.trans kB (fun x hx e => by omega)).trans kC (fun x hx e => by omega)
    generalize (W.setCell ⟨b2, 0, none⟩ (.slice vo its.length vc)).setCell ⟨b3, 0, none⟩ (.int .i64 0) = W1 at *
    have hgp := grownBy_putObj' W1 D (.deferred none)
    have hnc : ∀ r, some D = some r → ∃ o : Obj, W1.heap[r]? = some o ∧ o.isCells = false := fun r e => by cases e; exact ⟨_, hKd, rfl⟩
    have q2 := cell_of ((grownBy_keeps_cells hgp hnc h2C rfl).trans h2C) 0
    have q3 := cell_of ((grownBy_keeps_cells hgp hnc h3C rfl).trans h3C) 0
    simp at q2 q3
    refine (show bodyPostM _ _ _ _ _ Exit.ret _ _ from ⟨by simp, .inl ⟨_, _, rfl, run_takeDeferred hKd, ?_⟩⟩)
    refine ⟨.tuple #[.slice vo its.length vc, .int .i64 0], by simp [results, Tryd.results24, go_sem, q2, q3], ?_⟩
    have hRe : R = some (its.map (·.1)) := by rw [HH.out.1, readF, ← hS, hrd]
    rw [hRe]
    exact ⟨kw.grown hgp (fun r e => by cases e; exact .inr (by omega)), _, its, rfl, (r3.turned hgp hnc).mono (by omega), rfl⟩
  case stop =>
    rintro D pre W hD hS hX hK
    have HI := Lib.hid (And.intro hX (And.intro hS (And.intro hK hD)))
    clear hX hS hK hD
    gi_wp2
    obtain ⟨hX, hS, hK, hD⟩ := HI.out
    obtain ⟨r, hr⟩ := hS
    have hgp := grownBy_putObj' W D (.deferred none)
    have hnc : ∀ r, some D = some r → ∃ o : Obj, W.heap[r]? = some o ∧ o.isCells = false := fun r e => by cases e; exact ⟨_, hK, rfl⟩
    have q2 := cell_of ((grownBy_keeps_cells hgp hnc hX.res rfl).trans hX.res) 0
    have q3 := cell_of ((grownBy_keeps_cells hgp hnc hX.err rfl).trans hX.err) 0
    simp at q2 q3
    refine (show bodyPostM _ _ _ _ _ Exit.ret _ _ from ⟨by simp, .inl ⟨_, _, rfl, run_takeDeferred hK, ?_⟩⟩)
    refine ⟨.tuple #[.slice none 0 0, .int .i64 10], by simp [results, Tryd.results24, go_sem, q2, q3], ?_⟩
    have hRe : R = none := by rw [HH.out.1, readF, hr, hX.no]
    rw [hRe]
    exact ⟨hX.keep.grown hgp (fun r e => by cases e; exact .inr (by have := HB.out; omega)), rfl⟩
end Go.Proofs.YtlbjkmpdakmgeaaDoor
