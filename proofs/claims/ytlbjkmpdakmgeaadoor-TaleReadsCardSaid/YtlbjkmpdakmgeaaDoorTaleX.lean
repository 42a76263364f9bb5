/- The document's Parse, without any program. -/
import Derived.Test.YtlbjkmpdakmgeaaDoorTaleE
namespace Go.Proofs.YtlbjkmpdakmgeaaDoor
open Go

def nameD (k : Nat) : List UInt8 := [nOffer, nTick, nDeliver, nDrop, nDouble, nTurn, nForge, nReplay, nFull, nCrash, nBoot, nHalt].getD k []
def kindUpto (n : List UInt8) : Nat → Int
  | 0 => -1
  | j + 1 => if nameD j = n then (j : Int) else kindUpto n j
theorem kindUpto_no {n : List UInt8} : ∀ {j : Nat}, (∀ k, k < j → nameD k ≠ n) → kindUpto n j = -1
  | 0, _ => rfl
  | j + 1, h => by
    unfold kindUpto
    rw [if_neg (h j (by omega))]
    exact kindUpto_no (fun k hk => h k (by omega))
theorem nameD_inj : ∀ i j : Fin 12, nameD i.val = nameD j.val → i = j := by decide
theorem kindUpto_at {n : List UInt8} {k : Nat} (h : nameD k = n) : ∀ {j : Nat}, k < j → j ≤ 12 → kindUpto n j = k
  | 0, hk, _ => by omega
  | j + 1, hk, hj => by
    unfold kindUpto
    by_cases e : nameD j = n
    · rw [if_pos e]
      have := nameD_inj ⟨j, by omega⟩ ⟨k, by omega⟩ (by simp only; rw [e, h])
      simp at this
      rw [this]
    · rw [if_neg e]
      refine kindUpto_at h ?_ (by omega)
      rcases Nat.lt_or_ge k j with hlt | hge
      · exact hlt
      · have : j = k := by omega
        rw [this] at e
        exact (e h).elim
theorem kindUpto_all (n : List UInt8) : (∃ k, k < 12 ∧ nameD k = n ∧ kindUpto n 12 = k) ∨ (kindUpto n 12 = -1 ∧ ∀ k, k < 12 → nameD k ≠ n) := by
  by_cases h : ∃ k, k < 12 ∧ nameD k = n
  · obtain ⟨k, hk, he⟩ := h
    exact .inl ⟨k, hk, he, kindUpto_at he hk (Nat.le_refl _)⟩
  · have h' : ∀ k, k < 12 → nameD k ≠ n := fun k hk he => h ⟨k, hk, he⟩
    exact .inr ⟨kindUpto_no h', h'⟩
theorem name_kind : ∀ k ∈ linesF, nameD k.kind = k.name := by decide

def candF (k : Nat) (l1 l2 l3 l4 l5 : List UInt8) : EvS :=
  match k with
  | 0 => { kind := 0, who := whomN l1, cls := numN l2, body := unhexN l3 }
  | 11 => { kind := 11, who := whomN l1, cls := numN l2, body := unhexN l3, keep := numN l4, torn := numN l5 }
  | 2 => { kind := 2, ix := numN l1 }
  | 3 => { kind := 3, ix := numN l1 }
  | 4 => { kind := 4, ix := numN l1 }
  | 7 => { kind := 7, ix := numN l1 }
  | 5 => { kind := 5, ix := numN l1, pos := numN l2, val := UInt8.ofNat ((numN l3) % 256).toNat }
  | 6 => { kind := 6, who := whomN l1, p := unhexN l2 }
  | 8 => { kind := 8, who := whomN l1, on := decide (l2 = wOn) }
  | 9 => { kind := 9, who := whomN l1, keep := numN l2, torn := numN l3 }
  | 10 => { kind := 10, who := whomN l1 }
  | k => { kind := k }
def okF (k : Nat) (l1 l2 l3 l4 l5 : List UInt8) : Bool :=
  match k with
  | 0 => whomB l1 && numB l2 && unhexB l3
  | 11 => whomB l1 && numB l2 && unhexB l3 && numB l4 && numB l5
  | 2 => numB l1
  | 3 => numB l1
  | 4 => numB l1
  | 7 => numB l1
  | 5 => numB l1 && numB l2 && numB l3 && decide (0 ≤ numN l3) && decide (numN l3 < 256)
  | 6 => whomB l1 && unhexB l2
  | 8 => whomB l1
  | 9 => whomB l1 && numB l2 && numB l3
  | 10 => whomB l1
  | _ => true
theorem u8_i64 (x : UInt8) : Int64 (x.toNat : Int) := by have := x.toNat_lt; constructor <;> omega
theorem cand_ok (k : Nat) (l1 l2 l3 l4 l5 : List UInt8) : (candF k l1 l2 l3 l4 l5).Ok := by
  have z : Int64 0 := by unfold Int64; omega
  unfold candF
  split <;> constructor <;> first | exact whomN_ok _ | exact numN_ok _ | exact z
theorem cand_kind (k : Nat) (l1 l2 l3 l4 l5 : List UInt8) : (candF k l1 l2 l3 l4 l5).kind = k := by
  unfold candF
  split <;> rfl
theorem cand_plain {k : Nat} (hk : k < 12) (l1 l2 l3 l4 l5 : List UInt8) : plainF (candF k l1 l2 l3 l4 l5) = candF k l1 l2 l3 l4 l5 := by
  match k, hk with
  | 0, _ | 1, _ | 2, _ | 3, _ | 4, _ | 5, _ | 6, _ | 7, _ | 8, _ | 9, _ | 10, _ | 11, _ => rfl
/-- An event's own words lead back to it. -/
theorem cand_words {x : EvS} (hok : x.Ok) (hp : plainF x = x) {k : LineS} (hm : k ∈ linesF) (he : k.kind = x.kind) {l1 l2 l3 l4 l5 : List UInt8}
    (hw : ∀ (i : Nat) (u : List UInt8), (k.parts.flatMap (wordsF x))[i]? = some u → [l1, l2, l3, l4, l5][i]? = some u) : candF x.kind l1 l2 l3 l4 l5 = x ∧ okF x.kind l1 l2 l3 l4 l5 = true := by
  have h0 : ∀ u, (k.parts.flatMap (wordsF x))[0]? = some u → l1 = u := fun u h => by simpa using hw 0 u h
  have h1 : ∀ u, (k.parts.flatMap (wordsF x))[1]? = some u → l2 = u := fun u h => by simpa using hw 1 u h
  have h2 : ∀ u, (k.parts.flatMap (wordsF x))[2]? = some u → l3 = u := fun u h => by simpa using hw 2 u h
  have h3 : ∀ u, (k.parts.flatMap (wordsF x))[3]? = some u → l4 = u := fun u h => by simpa using hw 3 u h
  have h4 : ∀ u, (k.parts.flatMap (wordsF x))[4]? = some u → l5 = u := fun u h => by simpa using hw 4 u h
  clear hw
  obtain ⟨kd, who, cls, body, ix, pos, val, keep, torn, on, p⟩ := x
  obtain ⟨o1, o2, o3, o4, o5, o6⟩ := hok
  simp only at he o1 o2 o3 o4 o5 o6
  have hv : (val.toNat : Int) < 256 := by have := val.toNat_lt; omega
  have hv2 : UInt8.ofNat ((val.toNat : Int) % 256).toNat = val := by
    have : ((val.toNat : Int) % 256).toNat = val.toNat := by omega
    rw [this]; simp
  have hon : ∀ b : Bool, decide (onF b = wOn) = b := by decide
  simp only [linesF, List.mem_cons, List.not_mem_nil, or_false] at hm
  rcases hm with rfl | rfl | rfl | rfl | rfl | rfl | rfl | rfl | rfl | rfl | rfl | rfl
  all_goals
    subst he
    (try (have e0 := h0 _ rfl; subst e0))
    (try (have e1 := h1 _ rfl; subst e1))
    (try (have e2 := h2 _ rfl; subst e2))
    (try (have e3 := h3 _ rfl; subst e3))
    (try (have e4 := h4 _ rfl; subst e4))
    clear h0 h1 h2 h3 h4
    simp [plainF, linesF, setF] at hp
    simp [candF, okF, whomN_who, whomB_who, numN_itoa, numB_itoa, unhexN_hex, unhexB_hex, u8_i64, *]
    try omega
theorem split_name {s : List UInt8} {x : EvS} (h : parseF s = some x) : ∃ k ∈ linesF, k.kind = x.kind ∧ splitC 32 s = k.name :: k.parts.flatMap (wordsF x) := by
  obtain ⟨ht, _, hk, _⟩ := text_parse h
  obtain ⟨k, hm, he⟩ := lines_of hk
  refine ⟨k, hm, he, ?_⟩
  rw [← split_text hm he, ht]
theorem rparse_none {s n : List UInt8} {r : List (List UInt8)} (hs : splitC 32 s = n :: r) (h : ∀ k, k < 12 → nameD k ≠ n) : parseF s = none := by
  cases hp : parseF s with
  | none => rfl
  | some x =>
    obtain ⟨k, hm, he, hsp⟩ := split_name hp
    rw [hs] at hsp
    simp only [List.cons.injEq] at hsp
    exact (h k.kind (lines_lt k hm) (by rw [name_kind k hm, hsp.1])).elim
theorem rparse_law {s n : List UInt8} {r : List (List UInt8)} (hs : splitC 32 s = n :: r) {k : Nat} (hk : k < 12) (hn : nameD k = n) {l1 l2 l3 l4 l5 : List UInt8}
    (hw : ∀ (i : Nat) u, r[i]? = some u → i < 5 → [l1, l2, l3, l4, l5][i]? = some u) :
    parseF s = if okF k l1 l2 l3 l4 l5 = true ∧ textF (candF k l1 l2 l3 l4 l5) = s then some (candF k l1 l2 l3 l4 l5) else none := by
  by_cases hc : okF k l1 l2 l3 l4 l5 = true ∧ textF (candF k l1 l2 l3 l4 l5) = s
  · rw [if_pos hc, ← hc.2, parse_text (cand_ok _ _ _ _ _ _) (by rw [cand_kind]; exact hk), cand_plain hk]
  · rw [if_neg hc]
    cases hp : parseF s with
    | none => rfl
    | some x =>
      obtain ⟨ht, hpl, hkx, hok⟩ := text_parse hp
      obtain ⟨L, hm, he, hsp⟩ := split_name hp
      rw [hs] at hsp
      simp only [List.cons.injEq] at hsp
      have hkk : k = x.kind := by
        have := nameD_inj ⟨k, hk⟩ ⟨L.kind, lines_lt L hm⟩ (by simp only; rw [hn, hsp.1, name_kind L hm])
        simp at this
        rw [this, he]
      have hfl : (L.parts.flatMap (wordsF x)).length ≤ 5 := by
        clear hsp he hkk
        simp only [linesF, List.mem_cons, List.not_mem_nil, or_false] at hm
        rcases hm with rfl | rfl | rfl | rfl | rfl | rfl | rfl | rfl | rfl | rfl | rfl | rfl <;> simp [wordsF]
      have := cand_words hok hpl hm he (l1 := l1) (l2 := l2) (l3 := l3) (l4 := l4) (l5 := l5) (fun i u hu => hw i u (by rw [hsp.2]; exact hu) (by
        have := (List.getElem?_eq_some_iff.1 hu).1
        omega))
      rw [← hkk] at this
      exact (hc ⟨this.2, by rw [this.1, ht]⟩).elim
theorem pairsF_len : ∀ (s p : List UInt8), pairsF s = some p → p.length ≤ s.length
  | [], p, h => by simp [pairsF] at h; simp [← h]
  | [a], p, h => by simp [pairsF] at h
  | a :: b :: r, p, h => by
    unfold pairsF at h
    cases ha : digF a with
    | none => rw [ha] at h; simp at h
    | some x =>
      cases hb : digF b with
      | none => rw [ha, hb] at h; simp at h
      | some y =>
        rw [ha, hb] at h
        simp only [Option.map_eq_some_iff] at h
        obtain ⟨q, hq, rfl⟩ := h
        have := pairsF_len r q hq
        simp
        omega
theorem unhexN_len (s : List UInt8) : (unhexN s).length ≤ s.length := by
  unfold unhexN unhexF
  split
  · simp
  · split
    · simp
    · cases h : pairsF s with
      | none => simp
      | some p => simpa using pairsF_len s p h
theorem cand_len (k : Nat) (l1 l2 l3 l4 l5 : List UInt8) : (candF k l1 l2 l3 l4 l5).body.length ≤ l3.length ∧ (candF k l1 l2 l3 l4 l5).p.length ≤ l2.length := by
  unfold candF
  split <;> refine ⟨?_, ?_⟩ <;> first | exact unhexN_len _ | simp
end Go.Proofs.YtlbjkmpdakmgeaaDoor
