/- Scripts as text, without any program: lines and events. -/
import Derived.Test.YtlbjkmpdakmgeaaDoorTaleP
import Derived.Lib.SplitLaws
namespace Go.Proofs.YtlbjkmpdakmgeaaDoor
open Go

/-! ### Words between signs -/
def splitC (c : UInt8) : List UInt8 → List (List UInt8)
  | [] => [[]]
  | x :: r => if x = c then [] :: splitC c r else match splitC c r with
    | [] => [[x]]
    | a :: t => (x :: a) :: t
theorem splitC_ne (c : UInt8) (s : List UInt8) : splitC c s ≠ [] := by
  cases s with
  | nil => simp [splitC]
  | cons x r =>
    unfold splitC
    split
    · simp
    · split <;> simp
theorem splitC_free {c : UInt8} : ∀ {w : List UInt8}, c ∉ w → splitC c w = [w]
  | [], _ => rfl
  | x :: r, h => by
    simp only [List.mem_cons, not_or] at h
    unfold splitC
    rw [if_neg (fun e => h.1 e.symm), splitC_free h.2]
theorem splitC_cut {c : UInt8} : ∀ {w : List UInt8} (r : List UInt8), c ∉ w → splitC c (w ++ c :: r) = w :: splitC c r
  | [], r, _ => by simp [splitC]
  | x :: w, r, h => by
    simp only [List.mem_cons, not_or] at h
    rw [List.cons_append]
    conv => lhs; unfold splitC
    rw [if_neg (fun e => h.1 e.symm), splitC_cut r h.2]
theorem splitC_join {c : UInt8} : ∀ {ws : List (List UInt8)}, ws ≠ [] → (∀ w ∈ ws, c ∉ w) → splitC c (Lib.join ws [c]) = ws
  | [], h, _ => absurd rfl h
  | [w], _, h => by rw [Lib.join_one, splitC_free (h w (by simp))]
  | w :: v :: r, _, h => by
    have ih := splitC_join (ws := v :: r) (by simp) (fun x hx => h x (by simp [hx]))
    rw [Lib.join_cons] at ih ⊢
    have e : w ++ Lib.joinTail [c] (v :: r) = w ++ c :: (v ++ Lib.joinTail [c] r) := by simp [Lib.joinTail]
    rw [e, splitC_cut _ (h w (by simp)), ih]
theorem join_splitC (c : UInt8) : ∀ s : List UInt8, Lib.join (splitC c s) [c] = s
  | [] => by simp [splitC, Lib.join_one]
  | x :: r => by
    have ih := join_splitC c r
    have hne := splitC_ne c r
    unfold splitC
    cases hs : splitC c r with
    | nil => exact absurd hs hne
    | cons a t =>
      rw [hs] at ih
      split
      · rename_i e
        subst e
        rw [Lib.join_cons] at ih ⊢
        simp only [Lib.joinTail, List.map_cons, List.flatten_cons, List.nil_append, List.cons_append] at ih ⊢
        rw [ih]
      · rw [Lib.join_cons] at ih ⊢
        rw [List.cons_append, ih]
theorem splitC_mem {c : UInt8} : ∀ {s : List UInt8}, ∀ w ∈ splitC c s, c ∉ w
  | [], w, h => by simp [splitC] at h; subst h; simp
  | x :: r, w, h => by
    have ih := @splitC_mem c r
    unfold splitC at h
    split at h
    · rcases List.mem_cons.1 h with rfl | h
      · simp
      · exact ih w h
    · rename_i hx
      cases hs : splitC c r with
      | nil => exact absurd hs (splitC_ne c r)
      | cons a t =>
        rw [hs] at h ih
        rcases List.mem_cons.1 h with rfl | h
        · simp only [List.mem_cons, not_or]
          exact ⟨fun e => hx e.symm, ih a (by simp)⟩
        · exact ih w (by simp [h])
/-- One sign more at the end. -/
theorem splitC_snoc (c x : UInt8) : ∀ s : List UInt8, splitC c (s ++ [x]) = if x = c then splitC c s ++ [[]] else (splitC c s).dropLast ++ [(splitC c s).getLastD [] ++ [x]]
  | [] => by
    simp only [List.nil_append, splitC]
    split <;> rfl
  | y :: r => by
    have ih := splitC_snoc c x r
    have hne := splitC_ne c r
    rw [List.cons_append]
    unfold splitC
    rw [ih]
    cases hs : splitC c r with
    | nil => exact absurd hs hne
    | cons a t =>
      by_cases hx : x = c
      · simp only [if_pos hx]
        split <;> simp
      · simp only [if_neg hx]
        by_cases hy : y = c
        · simp only [if_pos hy]
          cases t <;> simp
        · simp only [if_neg hy]
          cases t <;> simp
theorem splitC_len (c : UInt8) : ∀ s : List UInt8, (splitC c s).length ≤ s.length + 1
  | [] => by simp [splitC]
  | x :: r => by
    have ih := splitC_len c r
    unfold splitC
    split
    · simp; omega
    · cases hs : splitC c r with
      | nil => simp
      | cons a t => rw [hs] at ih; simp at ih ⊢; omega

theorem index_free {c : UInt8} : ∀ {s : List UInt8}, Lib.index s [c] = -1 → c ∉ s
  | [], _ => by simp
  | x :: r, h => by
    rw [Lib.index] at h
    by_cases hx : x = c
    · subst hx
      simp [List.isPrefixOf] at h
    · have hp : ([c] : List UInt8).isPrefixOf (x :: r) = false := by simp [List.isPrefixOf, Ne.symm hx]
      rw [hp] at h
      simp only [Bool.false_eq_true, if_false] at h
      have : Lib.index r [c] = -1 := by
        by_cases hi : Lib.index r [c] = -1
        · exact hi
        · rw [if_neg (by simpa using hi)] at h
          have := Lib.index_ge r [c]
          omega
      simp only [List.mem_cons, not_or]
      exact ⟨fun e => hx e.symm, index_free this⟩
theorem index_cut {c : UInt8} : ∀ {s : List UInt8} {i : Nat}, Lib.index s [c] = i → s = s.take i ++ c :: s.drop (i + 1) ∧ c ∉ s.take i
  | [], i, h => by simp [Lib.index] at h
  | x :: r, i, h => by
    rw [Lib.index] at h
    by_cases hx : x = c
    · subst hx
      have : i = 0 := by simp [List.isPrefixOf] at h; omega
      subst this
      simp
    · have hp : ([c] : List UInt8).isPrefixOf (x :: r) = false := by simp [List.isPrefixOf, Ne.symm hx]
      rw [hp] at h
      simp only [Bool.false_eq_true, if_false] at h
      by_cases hi : Lib.index r [c] = -1
      · rw [if_pos (by simpa using hi)] at h
        omega
      · rw [if_neg (by simpa using hi)] at h
        obtain ⟨j, rfl⟩ : ∃ j, i = j + 1 := ⟨i - 1, by have := Lib.index_ge r [c]; omega⟩
        obtain ⟨h1, h2⟩ := index_cut (c := c) (s := r) (i := j) (by omega)
        constructor
        · simp only [List.take_succ_cons, List.drop_succ_cons, List.cons_append]
          rw [← h1]
        · simp only [List.take_succ_cons, List.mem_cons, not_or]
          exact ⟨fun e => hx e.symm, h2⟩
theorem splitK_eq (c : UInt8) : ∀ (n : Nat) (s : List UInt8), s.length ≤ n → Lib.splitK [c] 0 (Lib.count s [c]) s = splitC c s
  | n, s, hn => by
    by_cases h : Lib.index s [c] = -1
    · rw [Lib.count_miss h, splitC_free (index_free h)]
      rfl
    · obtain ⟨i, hi⟩ : ∃ i : Nat, Lib.index s [c] = i := ⟨(Lib.index s [c]).toNat, by have := Lib.index_ge s [c]; omega⟩
      obtain ⟨h1, h2⟩ := index_cut hi
      have hl : i < s.length := by
        rcases Nat.lt_or_ge i s.length with h' | h'
        · exact h'
        · have := congrArg List.length h1
          simp at this
          omega
      cases n with
      | zero => omega
      | succ n =>
        have ih := splitK_eq c n (s.drop (i + 1)) (by simp; omega)
        rw [Lib.count_hit (by simp) hi]
        have e : 1 + Lib.count (s.drop (i + [c].length)) [c] = Lib.count (s.drop (i + 1)) [c] + 1 := by simp; omega
        rw [e, Lib.splitK, if_neg (by rw [hi]; simp), hi]
        simp only [Int.toNat_natCast, Nat.add_zero, List.length_cons, List.length_nil, Nat.zero_add]
        rw [ih]
        conv => rhs; rw [h1]
        rw [splitC_cut _ h2]

/-! ### Events -/
structure EvS where
  kind : Nat := 0
  who : Int := 0
  cls : Int := 0
  body : List UInt8 := []
  ix : Int := 0
  pos : Int := 0
  val : UInt8 := 0
  keep : Int := 0
  torn : Int := 0
  on : Bool := false
  p : List UInt8 := []
  deriving DecidableEq

structure EvS.Ok (e : EvS) : Prop where
  who : Int64 e.who
  cls : Int64 e.cls
  ix : Int64 e.ix
  pos : Int64 e.pos
  keep : Int64 e.keep
  torn : Int64 e.torn
theorem EvS.Ok.new (k : Nat) : EvS.Ok { kind := k } := by constructor <;> (unfold Int64; simp)

def nOffer : List UInt8 := [111, 102, 102, 101, 114]
def nHalt : List UInt8 := [104, 97, 108, 116]
def nTick : List UInt8 := [116, 105, 99, 107]
def nDeliver : List UInt8 := [100, 101, 108, 105, 118, 101, 114]
def nDrop : List UInt8 := [100, 114, 111, 112]
def nDouble : List UInt8 := [100, 111, 117, 98, 108, 101]
def nReplay : List UInt8 := [114, 101, 112, 108, 97, 121]
def nTurn : List UInt8 := [116, 117, 114, 110]
def nForge : List UInt8 := [102, 111, 114, 103, 101]
def nFull : List UInt8 := [102, 117, 108, 108]
def nCrash : List UInt8 := [99, 114, 97, 115, 104]
def nBoot : List UInt8 := [98, 111, 111, 116]
structure LineS where
  kind : Nat
  name : List UInt8
  parts : List UInt8
  deriving DecidableEq
def linesF : List LineS := [⟨0, nOffer, [119, 115]⟩, ⟨11, nHalt, [119, 115, 107, 116]⟩, ⟨1, nTick, []⟩, ⟨2, nDeliver, [105]⟩, ⟨3, nDrop, [105]⟩, ⟨4, nDouble, [105]⟩, ⟨7, nReplay, [105]⟩, ⟨5, nTurn, [105, 97, 121]⟩, ⟨6, nForge, [119, 104]⟩, ⟨8, nFull, [119, 111]⟩, ⟨9, nCrash, [119, 107, 116]⟩, ⟨10, nBoot, [119]⟩]

def wOn : List UInt8 := [111, 110]
def wOff : List UInt8 := [111, 102, 102]
def onF (b : Bool) : List UInt8 := if b then wOn else wOff
def whoF (n : Int) : List UInt8 := if n = -1 then [99] else Lib.itoa n
def whomN (s : List UInt8) : Int := if s = [99] then -1 else (numF s).getD 0
def whomB (s : List UInt8) : Bool := s = [99] || ((numF s).isSome && decide ((numF s).getD 0 ≠ -1))
def numN (s : List UInt8) : Int := (numF s).getD 0
def numB (s : List UInt8) : Bool := (numF s).isSome
def unhexN (s : List UInt8) : List UInt8 := (unhexF s).getD []
def unhexB (s : List UInt8) : Bool := (unhexF s).isSome

theorem numN_ok (s : List UInt8) : Int64 (numN s) := by
  unfold numN
  cases h : numF s with
  | none => unfold Int64; simp
  | some n => exact (numF_iff.1 h).2
theorem numN_of {s : List UInt8} (h : numB s = true) : Lib.itoa (numN s) = s := by
  unfold numB at h
  unfold numN
  cases hn : numF s with
  | none => rw [hn] at h; cases h
  | some n => exact (numF_iff.1 hn).1
theorem numN_itoa {n : Int} (h : Int64 n) : numN (Lib.itoa n) = n := by unfold numN; rw [numF_itoa h]; rfl
theorem numB_itoa {n : Int} (h : Int64 n) : numB (Lib.itoa n) = true := by unfold numB; rw [numF_itoa h]; rfl
theorem itoa_ne99 (n : Int) : Lib.itoa n ≠ [99] := by
  intro h
  have := itoa_mem (n := n) (c := 99) (by rw [h]; simp)
  simp at this
theorem whomN_ok (s : List UInt8) : Int64 (whomN s) := by
  unfold whomN
  split
  · unfold Int64; omega
  · exact numN_ok s
theorem whomN_of {s : List UInt8} (h : whomB s = true) : whoF (whomN s) = s := by
  unfold whomB at h
  unfold whomN
  by_cases hs : s = [99]
  · rw [if_pos hs, hs]; rfl
  · rw [if_neg hs]
    simp only [hs, decide_false, Bool.false_or, Bool.and_eq_true, decide_eq_true_eq] at h
    unfold whoF
    rw [if_neg h.2]
    exact numN_of h.1
theorem whomN_who {n : Int} (h : Int64 n) : whomN (whoF n) = n := by
  unfold whomN whoF
  by_cases hn : n = -1
  · subst hn; rfl
  · rw [if_neg hn, if_neg (itoa_ne99 n)]
    exact numN_itoa h
theorem whomB_who {n : Int} (h : Int64 n) : whomB (whoF n) = true := by
  unfold whomB whoF
  by_cases hn : n = -1
  · subst hn; rfl
  · rw [if_neg hn]
    have h1 := numN_itoa h
    have h2 := numB_itoa h
    unfold numN at h1
    unfold numB at h2
    rw [h1, h2]
    simp [hn]
theorem unhexN_of {s : List UInt8} (h : unhexB s = true) : hexF (unhexN s) = s := by
  unfold unhexB at h
  unfold unhexN
  cases hn : unhexF s with
  | none => rw [hn] at h; cases h
  | some p => exact hexF_unhexF hn
theorem unhexN_hex (p : List UInt8) : unhexN (hexF p) = p := by unfold unhexN; rw [unhexF_hexF]; rfl
theorem unhexB_hex (p : List UInt8) : unhexB (hexF p) = true := by unfold unhexB; rw [unhexF_hexF]; rfl

/-- A part's words. -/
def wordsF (e : EvS) (c : UInt8) : List (List UInt8) :=
  if c = 119 then [whoF e.who] else if c = 115 then [Lib.itoa e.cls, hexF e.body] else if c = 104 then [hexF e.p] else if c = 111 then [onF e.on]
  else if c = 107 then [Lib.itoa e.keep] else if c = 116 then [Lib.itoa e.torn] else if c = 105 then [Lib.itoa e.ix] else if c = 97 then [Lib.itoa e.pos] else [Lib.itoa (e.val.toNat : Int)]
/-- A part of a, put into x. -/
def setF (a x : EvS) (c : UInt8) : EvS :=
  if c = 119 then { x with who := a.who } else if c = 115 then { x with cls := a.cls, body := a.body } else if c = 104 then { x with p := a.p } else if c = 111 then { x with on := a.on }
  else if c = 107 then { x with keep := a.keep } else if c = 116 then { x with torn := a.torn } else if c = 105 then { x with ix := a.ix } else if c = 97 then { x with pos := a.pos } else { x with val := a.val }
/-- A part's words, taken: what they say, were they so, what is left. -/
def takeE (x : EvS) (c : UInt8) (w v : List UInt8) : EvS :=
  if c = 119 then { x with who := whomN w } else if c = 115 then { x with cls := numN w, body := unhexN v } else if c = 104 then { x with p := unhexN w } else if c = 111 then { x with on := decide (w = wOn) }
  else if c = 107 then { x with keep := numN w } else if c = 116 then { x with torn := numN w } else if c = 105 then { x with ix := numN w } else if c = 97 then { x with pos := numN w } else { x with val := UInt8.ofNat ((numN w) % 256).toNat }
def takeB (c : UInt8) (w v : List UInt8) : Bool :=
  if c = 119 then whomB w else if c = 115 then numB w && unhexB v else if c = 104 then unhexB w else if c = 111 then decide (w = onF (decide (w = wOn)))
  else if c = 107 then numB w else if c = 116 then numB w else if c = 105 then numB w else if c = 97 then numB w else numB w && (decide (0 ≤ numN w) && decide (numN w ≤ 255))
def takeF (x : EvS) (c : UInt8) : List (List UInt8) → Option (EvS × List (List UInt8))
  | [] => none
  | [w] => if c = 115 then none else if takeB c w [] = true then some (takeE x c w [], []) else none
  | w :: v :: r => if takeB c w v = true then some (takeE x c w v, if c = 115 then r else v :: r) else none
def foldF (x : EvS) : List UInt8 → List (List UInt8) → Option (EvS × List (List UInt8))
  | [], ws => some (x, ws)
  | c :: cs, ws => match takeF x c ws with
    | some (y, r) => foldF y cs r
    | none => none
def parseL (ws : List (List UInt8)) : Option EvS := match ws with
  | [] => none
  | n :: r => match linesF.find? (fun k => k.name == n) with
    | none => none
    | some k => match foldF { kind := k.kind } k.parts r with
      | some (e, []) => some e
      | _ => none
def parseF (s : List UInt8) : Option EvS := parseL (splitC 32 s)
def textF (e : EvS) : List UInt8 := match linesF.find? (fun k => k.kind == e.kind) with
  | none => []
  | some k => Lib.join (k.name :: k.parts.flatMap (wordsF e)) [32]
def plainF (e : EvS) : EvS := match linesF.find? (fun k => k.kind == e.kind) with
  | none => { kind := e.kind }
  | some k => k.parts.foldl (setF e) { kind := e.kind }

def signsF : List UInt8 := [119, 115, 104, 111, 107, 116, 105, 97, 121]
theorem take_words {e : EvS} (h : e.Ok) (x : EvS) (c : UInt8) (r : List (List UInt8)) : takeF x c (wordsF e c ++ r) = some (setF e x c, r) := by
  by_cases h1 : c = 119
  · subst h1
    cases r <;> simp [wordsF, takeF, takeB, takeE, setF, whomB_who h.who, whomN_who h.who]
  by_cases h2 : c = 115
  · subst h2
    simp [wordsF, takeF, takeB, takeE, setF, numB_itoa h.cls, numN_itoa h.cls, unhexB_hex, unhexN_hex]
  by_cases h3 : c = 104
  · subst h3
    cases r <;> simp [wordsF, takeF, takeB, takeE, setF, unhexB_hex, unhexN_hex]
  by_cases h4 : c = 111
  · subst h4
    have ho : ∀ b : Bool, decide (onF b = wOn) = b := by decide
    cases r <;> simp [wordsF, takeF, takeB, takeE, setF, ho]
  by_cases h5 : c = 107
  · subst h5
    cases r <;> simp [wordsF, takeF, takeB, takeE, setF, numB_itoa h.keep, numN_itoa h.keep]
  by_cases h6 : c = 116
  · subst h6
    cases r <;> simp [wordsF, takeF, takeB, takeE, setF, numB_itoa h.torn, numN_itoa h.torn]
  by_cases h7 : c = 105
  · subst h7
    cases r <;> simp [wordsF, takeF, takeB, takeE, setF, numB_itoa h.ix, numN_itoa h.ix]
  by_cases h8 : c = 97
  · subst h8
    cases r <;> simp [wordsF, takeF, takeB, takeE, setF, numB_itoa h.pos, numN_itoa h.pos]
  have hv := e.val.toNat_lt
  have hi : Int64 (e.val.toNat : Int) := by unfold Int64; omega
  have hm : UInt8.ofNat (((e.val.toNat : Int) % 256).toNat) = e.val := by
    apply UInt8.toNat_inj.1
    simp
    omega
  have hd : (decide ((0 : Int) ≤ (e.val.toNat : Int)) && decide ((e.val.toNat : Int) ≤ 255)) = true := by simp; omega
  cases r <;> simp [wordsF, takeF, takeB, takeE, setF, h1, h2, h3, h4, h5, h6, h7, h8, numB_itoa hi, numN_itoa hi, hm] <;> omega
theorem fold_words {e : EvS} (h : e.Ok) (r : List (List UInt8)) : ∀ (cs : List UInt8) (x : EvS), foldF x cs (cs.flatMap (wordsF e) ++ r) = some (cs.foldl (setF e) x, r)
  | [], _ => rfl
  | c :: cs, x => by
    rw [List.flatMap_cons, List.append_assoc]
    unfold foldF
    rw [take_words h]
    exact fold_words h r cs _
theorem take_some {x x' : EvS} (hx : x.Ok) {c : UInt8} {ws r : List (List UInt8)} (h : takeF x c ws = some (x', r)) : ws = wordsF x' c ++ r ∧ x' = setF x' x c ∧ x'.Ok := by
  have key : ∀ (w v : List UInt8), takeB c w v = true → c ≠ 115 → [w] = wordsF (takeE x c w v) c ∧ takeE x c w v = setF (takeE x c w v) x c ∧ (takeE x c w v).Ok := by
    intro w v hb h2
    obtain ⟨k1, k2, k3, k4, k5, k6⟩ := hx
    by_cases h1 : c = 119
    · subst h1
      have hb' : whomB w = true := by simpa [takeB] using hb
      exact ⟨by simp [wordsF, takeE, whomN_of hb'], by simp [takeE, setF], ⟨by simpa [takeE] using whomN_ok w, k2, k3, k4, k5, k6⟩⟩
    by_cases h3 : c = 104
    · subst h3
      have hb' : unhexB w = true := by simpa [takeB] using hb
      exact ⟨by simp [wordsF, takeE, unhexN_of hb'], by simp [takeE, setF], ⟨k1, k2, k3, k4, k5, k6⟩⟩
    by_cases h4 : c = 111
    · subst h4
      have hb' : w = onF (decide (w = wOn)) := by simpa [takeB] using hb
      exact ⟨by simp only [wordsF, takeE]; simp; exact hb', by simp [takeE, setF], ⟨k1, k2, k3, k4, k5, k6⟩⟩
    by_cases h5 : c = 107
    · subst h5
      have hb' : numB w = true := by simpa [takeB] using hb
      exact ⟨by simp [wordsF, takeE, numN_of hb'], by simp [takeE, setF], ⟨k1, k2, k3, k4, by simpa [takeE] using numN_ok w, k6⟩⟩
    by_cases h6 : c = 116
    · subst h6
      have hb' : numB w = true := by simpa [takeB] using hb
      exact ⟨by simp [wordsF, takeE, numN_of hb'], by simp [takeE, setF], ⟨k1, k2, k3, k4, k5, by simpa [takeE] using numN_ok w⟩⟩
    by_cases h7 : c = 105
    · subst h7
      have hb' : numB w = true := by simpa [takeB] using hb
      exact ⟨by simp [wordsF, takeE, numN_of hb'], by simp [takeE, setF], ⟨k1, k2, by simpa [takeE] using numN_ok w, k4, k5, k6⟩⟩
    by_cases h8 : c = 97
    · subst h8
      have hb' : numB w = true := by simpa [takeB] using hb
      exact ⟨by simp [wordsF, takeE, numN_of hb'], by simp [takeE, setF], ⟨k1, k2, k3, by simpa [takeE] using numN_ok w, k5, k6⟩⟩
    have hb' : numB w = true ∧ 0 ≤ numN w ∧ numN w ≤ 255 := by simpa [takeB, h1, h2, h3, h4, h5, h6, h7, h8] using hb
    have hm : (((UInt8.ofNat ((numN w) % 256).toNat).toNat : Nat) : Int) = numN w := by simp; omega
    refine ⟨?_, by simp [takeE, setF, h1, h2, h3, h4, h5, h6, h7, h8], ?_⟩
    · simp only [wordsF, takeE, h1, h2, h3, h4, h5, h6, h7, h8, if_false]
      rw [hm, numN_of hb'.1]
    · simp only [takeE, h1, h2, h3, h4, h5, h6, h7, h8, if_false]
      exact ⟨k1, k2, k3, k4, k5, k6⟩
  cases ws with
  | nil => simp [takeF] at h
  | cons w t =>
    cases t with
    | nil =>
      simp only [takeF] at h
      by_cases h2 : c = 115
      · rw [if_pos h2] at h; cases h
      · rw [if_neg h2] at h
        split at h
        · rename_i hb
          simp only [Option.some.injEq, Prod.mk.injEq] at h
          obtain ⟨rfl, rfl⟩ := h
          have := key w [] hb h2
          exact ⟨by rw [← this.1]; simp, this.2⟩
        · cases h
    | cons v t =>
      simp only [takeF] at h
      split at h
      · rename_i hb
        simp only [Option.some.injEq, Prod.mk.injEq] at h
        obtain ⟨rfl, rfl⟩ := h
        by_cases h2 : c = 115
        · subst h2
          have hb' : numB w = true ∧ unhexB v = true := by simpa [takeB] using hb
          obtain ⟨k1, k2, k3, k4, k5, k6⟩ := hx
          refine ⟨by simp [wordsF, takeE, numN_of hb'.1, unhexN_of hb'.2], by simp [takeE, setF], ⟨k1, by simpa [takeE] using numN_ok w, k3, k4, k5, k6⟩⟩
        · have := key w v hb h2
          rw [if_neg h2]
          exact ⟨by rw [← this.1]; simp, this.2⟩
      · cases h
theorem set_other {c d : UInt8} (hc : c ∈ signsF) (hd : d ∈ signsF) (h : c ≠ d) (a x y : EvS) : wordsF (setF a x d) c = wordsF x c ∧ setF (setF a x d) y c = setF x y c := by
  simp only [signsF, List.mem_cons, List.mem_nil_iff, or_false] at hc hd
  rcases hc with rfl | rfl | rfl | rfl | rfl | rfl | rfl | rfl | rfl <;> rcases hd with rfl | rfl | rfl | rfl | rfl | rfl | rfl | rfl | rfl <;> first | exact absurd rfl h | exact ⟨rfl, rfl⟩
theorem foldl_other {c : UInt8} (hc : c ∈ signsF) (a y : EvS) : ∀ (cs : List UInt8) (x : EvS), (∀ d ∈ cs, d ∈ signsF) → c ∉ cs → wordsF (cs.foldl (setF a) x) c = wordsF x c ∧ setF (cs.foldl (setF a) x) y c = setF x y c
  | [], _, _, _ => ⟨rfl, rfl⟩
  | d :: cs, x, hs, hn => by
    simp only [List.mem_cons, not_or] at hn
    have h1 := foldl_other hc a y cs (setF a x d) (fun z hz => hs z (by simp [hz])) hn.2
    have h2 := set_other hc (hs d (by simp)) hn.1 a x y
    exact ⟨h1.1.trans h2.1, h1.2.trans h2.2⟩
theorem fold_some : ∀ (cs : List UInt8) {x x' : EvS} {ws r : List (List UInt8)}, x.Ok → (∀ d ∈ cs, d ∈ signsF) → cs.Nodup → foldF x cs ws = some (x', r) →
    ws = cs.flatMap (wordsF x') ++ r ∧ x' = cs.foldl (setF x') x ∧ x'.Ok
  | [], x, x', ws, r, hx, _, _, h => by
    simp only [foldF, Option.some.injEq, Prod.mk.injEq] at h
    obtain ⟨rfl, rfl⟩ := h
    exact ⟨rfl, rfl, hx⟩
  | c :: cs, x, x', ws, r, hx, hs, hn, h => by
    unfold foldF at h
    cases ht : takeF x c ws with
    | none => rw [ht] at h; cases h
    | some q =>
      obtain ⟨y, t⟩ := q
      rw [ht] at h
      simp only at h
      obtain ⟨h1, h2, h3⟩ := take_some hx ht
      obtain ⟨hc, hn⟩ := List.nodup_cons.1 hn
      obtain ⟨i1, i2, i3⟩ := fold_some cs h3 (fun z hz => hs z (by simp [hz])) hn h
      have ho := foldl_other (hs c (by simp)) x' x cs y (fun z hz => hs z (by simp [hz])) hc
      rw [← i2] at ho
      refine ⟨?_, ?_, i3⟩
      · rw [h1, i1, List.flatMap_cons, ho.1, List.append_assoc]
      · rw [List.foldl_cons, ho.2, ← h2]
        exact i2

/-! ### The twelve lines -/
theorem lines_signs : ∀ k ∈ linesF, (∀ d ∈ k.parts, d ∈ signsF) ∧ k.parts.Nodup := by decide
theorem lines_name : ∀ k ∈ linesF, linesF.find? (fun x => x.name == k.name) = some k := by decide
theorem lines_kind : ∀ k ∈ linesF, linesF.find? (fun x => x.kind == k.kind) = some k := by decide
theorem lines_of {n : Nat} (h : n < 12) : ∃ k ∈ linesF, k.kind = n := by
  have : ∀ n : Fin 12, ∃ k ∈ linesF, k.kind = n.val := by decide
  exact this ⟨n, h⟩
theorem lines_lt : ∀ k ∈ linesF, k.kind < 12 := by decide
theorem lines_none {n : Nat} (h : 12 ≤ n) : linesF.find? (fun k => k.kind == n) = none := by
  apply List.find?_eq_none.2
  intro k hk
  have := lines_lt k hk
  simp
  omega
theorem lines_names : ∀ k ∈ linesF, ∀ c ∈ k.name, 33 ≤ c.toNat := by decide
theorem lines_head : ∀ k ∈ linesF, k.name ≠ [] ∧ k.name.head? ≠ some 35 := by decide

theorem hexD_ge {n : Nat} (h : n < 16) : 33 ≤ (hexD n).toNat := by
  have : ∀ n : Fin 16, 33 ≤ (hexD n.val).toNat := by decide
  exact this ⟨n, h⟩
theorem hexF_mem {p : List UInt8} {c : UInt8} (h : c ∈ hexF p) : 33 ≤ c.toNat := by
  unfold hexF at h
  split at h
  · simp at h; subst h; decide
  · obtain ⟨b, _, hb⟩ := List.mem_flatMap.1 h
    have := b.toNat_lt
    simp only [hexB, List.mem_cons, List.mem_nil_iff, or_false] at hb
    rcases hb with rfl | rfl
    · exact hexD_ge (by omega)
    · exact hexD_ge (by omega)
theorem itoa_ge {n : Int} {c : UInt8} (h : c ∈ Lib.itoa n) : 33 ≤ c.toNat := by
  rcases itoa_mem h with h | h <;> omega
theorem whoF_ge {n : Int} {c : UInt8} (h : c ∈ whoF n) : 33 ≤ c.toNat := by
  unfold whoF at h
  split at h
  · simp at h; subst h; decide
  · exact itoa_ge h
/-- A word's signs are no blanks, nor ends of lines. -/
theorem words_ge {e : EvS} {d : UInt8} {w : List UInt8} (h : w ∈ wordsF e d) : ∀ c ∈ w, 33 ≤ c.toNat := by
  intro c hc
  unfold wordsF at h
  split at h
  · simp at h; subst h; exact whoF_ge hc
  split at h
  · simp at h
    rcases h with rfl | rfl
    · exact itoa_ge hc
    · exact hexF_mem hc
  split at h
  · simp at h; subst h; exact hexF_mem hc
  split at h
  · simp at h; subst h
    have : ∀ b : Bool, ∀ c ∈ onF b, 33 ≤ c.toNat := by decide
    exact this _ c hc
  repeat (split at h; · simp at h; subst h; exact itoa_ge hc)
  simp at h; subst h; exact itoa_ge hc
theorem line_ge {k : LineS} (hk : k ∈ linesF) {e : EvS} {w : List UInt8} (h : w ∈ k.name :: k.parts.flatMap (wordsF e)) : ∀ c ∈ w, 33 ≤ c.toNat := by
  rcases List.mem_cons.1 h with rfl | h
  · exact lines_names k hk
  · obtain ⟨d, _, hd⟩ := List.mem_flatMap.1 h
    exact words_ge hd
theorem textF_line {k : LineS} (hk : k ∈ linesF) {e : EvS} (h : k.kind = e.kind) : textF e = Lib.join (k.name :: k.parts.flatMap (wordsF e)) [32] := by
  unfold textF
  rw [← h, lines_kind k hk]
theorem split_text {k : LineS} (hk : k ∈ linesF) {e : EvS} (h : k.kind = e.kind) : splitC 32 (textF e) = k.name :: k.parts.flatMap (wordsF e) := by
  rw [textF_line hk h]
  refine splitC_join (by simp) (fun w hw hc => ?_)
  have := line_ge hk hw 32 hc
  simp at this
theorem set_kind (a x : EvS) (c : UInt8) : (setF a x c).kind = x.kind := by
  unfold setF
  repeat (split; · rfl)
  rfl
theorem foldl_kind (a : EvS) : ∀ (cs : List UInt8) (x : EvS), (cs.foldl (setF a) x).kind = x.kind
  | [], _ => rfl
  | c :: cs, x => by rw [List.foldl_cons, foldl_kind a cs, set_kind]
theorem parse_text {e : EvS} (h : e.Ok) (hk : e.kind < 12) : parseF (textF e) = some (plainF e) := by
  obtain ⟨k, hm, hk⟩ := lines_of hk
  unfold parseF
  rw [split_text hm hk]
  unfold parseL
  simp only
  rw [lines_name k hm]
  simp only
  have hf := fold_words h [] k.parts { kind := k.kind }
  rw [List.append_nil] at hf
  rw [hf]
  unfold plainF
  rw [← hk, lines_kind k hm]
theorem text_parse {s : List UInt8} {e : EvS} (h : parseF s = some e) : textF e = s ∧ plainF e = e ∧ e.kind < 12 ∧ e.Ok := by
  unfold parseF parseL at h
  cases hs : splitC 32 s with
  | nil => exact absurd hs (splitC_ne _ _)
  | cons n r =>
    rw [hs] at h
    simp only at h
    cases hf : linesF.find? (fun k => k.name == n) with
    | none => rw [hf] at h; cases h
    | some k =>
      rw [hf] at h
      simp only at h
      have hm := List.mem_of_find?_eq_some hf
      have hn : k.name = n := by simpa using List.find?_some hf
      cases ht : foldF { kind := k.kind } k.parts r with
      | none => rw [ht] at h; cases h
      | some q =>
        obtain ⟨y, t⟩ := q
        rw [ht] at h
        cases t with
        | cons _ _ => cases h
        | nil =>
          simp only [Option.some.injEq] at h
          subst h
          obtain ⟨h1, h2⟩ := lines_signs k hm
          obtain ⟨i1, i2, i3⟩ := fold_some k.parts (EvS.Ok.new k.kind) h1 h2 ht
          have hky : y.kind = k.kind := by rw [i2, foldl_kind]
          refine ⟨?_, ?_, by rw [hky]; exact lines_lt k hm, i3⟩
          · rw [textF_line hm hky.symm, hn]
            rw [List.append_nil] at i1
            rw [← i1, ← hs, join_splitC]
          · unfold plainF
            rw [hky, lines_kind k hm]
            simp only
            rw [← i2]
theorem plain_kind (e : EvS) : (plainF e).kind = e.kind := by
  unfold plainF
  split
  · rfl
  · rw [foldl_kind]
theorem text_plain {e : EvS} (h : e.Ok) : textF (plainF e) = textF e := by
  by_cases hk : e.kind < 12
  · exact (text_parse (parse_text h hk)).1
  · unfold textF
    rw [plain_kind, lines_none (by omega)]
theorem text_none {e : EvS} (h : 12 ≤ e.kind) : textF e = [] := by
  unfold textF
  rw [lines_none h]
theorem plain_none {e : EvS} (h : 12 ≤ e.kind) : plainF e = { kind := e.kind } := by
  unfold plainF
  rw [lines_none h]
theorem parse_nil : parseF [] = none := by decide
theorem text_ge {e : EvS} : ∀ c ∈ textF e, 32 ≤ c.toNat := by
  intro c hc
  unfold textF at hc
  split at hc
  · simp at hc
  · rename_i k hf
    have hm := List.mem_of_find?_eq_some hf
    have hg := @line_ge k hm e
    generalize k.name :: k.parts.flatMap (wordsF e) = ws at hc hg
    cases ws with
    | nil => simp [Lib.join_nil] at hc
    | cons w r =>
      rw [Lib.join_cons] at hc
      rcases List.mem_append.1 hc with hc | hc
      · have := hg (List.mem_cons_self ..) c hc; omega
      · simp only [Lib.joinTail, List.mem_flatten, List.mem_map] at hc
        obtain ⟨l, ⟨v, hv, rfl⟩, hc⟩ := hc
        rcases List.mem_append.1 hc with hc | hc
        · simp at hc; subst hc; decide
        · have := hg (List.mem_cons_of_mem _ hv) c hc; omega
theorem text_head {e : EvS} (h : e.kind < 12) : textF e ≠ [] ∧ (textF e).head? ≠ some 35 := by
  obtain ⟨k, hm, hk⟩ := lines_of h
  rw [textF_line hm hk, Lib.join_cons]
  obtain ⟨h1, h2⟩ := lines_head k hm
  cases hn : k.name with
  | nil => exact absurd hn h1
  | cons a b => rw [hn] at h2; simpa using h2
end Go.Proofs.YtlbjkmpdakmgeaaDoor
