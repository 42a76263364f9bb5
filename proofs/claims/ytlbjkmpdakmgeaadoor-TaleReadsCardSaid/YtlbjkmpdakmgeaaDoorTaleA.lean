/- The law's example: awake. -/
import Derived.Test.YtlbjkmpdakmgeaaDoorTaleS
namespace Go.Proofs.YtlbjkmpdakmgeaaDoor
open Go Go.RowKit Go.Dr

def exE : EvS := { kind := 0, cls := 2, body := [104, 105] }
def exS : List UInt8 := [111, 102, 102, 101, 114, 32, 48, 32, 50, 32, 54, 56, 54, 57]
theorem itoa_0 : Lib.itoa 0 = [48] := by simp [Lib.itoa, Lib.decDigits]
theorem itoa_2 : Lib.itoa 2 = [50] := by simp [Lib.itoa, Lib.decDigits]
theorem exE_ok : EvOk exE := ⟨by constructor <;> (unfold Int64; simp [exE]), by decide, by decide, by decide⟩
theorem ex_text : textF exE = exS := by
  rw [textF_line (k := ⟨0, nOffer, [119, 115]⟩) (by decide) rfl]
  rw [show (nOffer :: List.flatMap (wordsF exE) [119, 115]) = nOffer :: [whoF 0, Lib.itoa 2, hexF [104, 105]] from rfl, Lib.join_cons, itoa_2]
  rw [show whoF 0 = [48] from by unfold whoF; rw [if_neg (by decide), itoa_0]]
  rfl
theorem ex_parse : parseF exS = some exE := by
  rw [← ex_text, parse_text exE_ok.ok (by decide)]
  rfl
set_option maxRecDepth 100000 in
set_option maxHeartbeats 400000 in
theorem awake_spec {w : World} (hV : VarsAt w) : Calls Tryd.prog 8 #[] w fun e w' => e = .returned (.bool true) ∧ Keep No w w' := by
  have hp := parse_spec (base := 0) hV (Nat.zero_le _) exS (by decide)
  rw [ex_parse] at hp
  go_enter Tryd.func8, Tryd.ntmps8
  go_wp2_with fail
  refine hp.mono ?_
  rintro r w1 ⟨k1, bv, pv, rfl, hbv, hpv⟩
  obtain ⟨bo, bc, rfl⟩ := BytesAt.form (bn := noBan) hbv
  obtain ⟨po, pc, rfl⟩ := BytesAt.form (bn := noBan) hpv
  have k2 : Keep No w1 (w1.alloc (.cells #[.int .u8 0, .int .i64 0, .int .i64 2, .slice bo 2 bc, .int .i64 0, .int .i64 0, .int .u8 0, .int .i64 0, .int .i64 0, .bool false, .slice po 0 pc] 27)) := (Keep.refl _ _).alloc _
  have hcv : ∀ w', Keep No w1 w' → (convert 23 9 (.slice bo 2 bc)).run Tryd.prog w' = .ok (strV [104, 105]) w' := fun w' k => convert_bytes (BytesAt.no (bn := noBan) hbv k)
  have htx : Calls Tryd.prog 13 #[.agg #[.int .u8 0, .int .i64 0, .int .i64 2, .slice bo 2 bc, .int .i64 0, .int .i64 0, .int .u8 0, .int .i64 0, .int .i64 0, .bool false, .slice po 0 pc]] (w1.alloc (.cells #[.int .u8 0, .int .i64 0, .int .i64 2, .slice bo 2 bc, .int .i64 0, .int .i64 0, .int .u8 0, .int .i64 0, .int .i64 0, .bool false, .slice po 0 pc] 27)) fun r w' => r = .returned (strV exS) ∧ Keep No (w1.alloc (.cells #[.int .u8 0, .int .i64 0, .int .i64 2, .slice bo 2 bc, .int .i64 0, .int .i64 0, .int .u8 0, .int .i64 0, .int .i64 0, .bool false, .slice po 0 pc] 27)) w' := by
    have := text_spec (bn := noBan) (hV.no (k1.then k2)) (BytesAt.no (bn := noBan) hbv k2) (BytesAt.no (bn := noBan) hpv k2) exE_ok
    rw [ex_text] at this
    exact this
  have hcv2 := hcv _ k2
  rw [show evV exE (.slice bo exE.body.length bc) (.slice po exE.p.length pc) = .agg #[.int .u8 0, .int .i64 0, .int .i64 2, .slice bo 2 bc, .int .i64 0, .int .i64 0, .int .u8 0, .int .i64 0, .int .i64 0, .bool false, .slice po 0 pc] from rfl]
  clear hp hbv hpv hcv
  go_wp2_with fail
  refine htx.mono ?_
  rintro r w2 ⟨rfl, k3⟩
  go_wp2_with fail
  go_ret
  exact ⟨rfl, (k1.then k2).then k3⟩
end Go.Proofs.YtlbjkmpdakmgeaaDoor
