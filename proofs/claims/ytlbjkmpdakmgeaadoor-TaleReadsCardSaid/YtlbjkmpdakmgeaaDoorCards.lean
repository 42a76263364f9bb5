/-
  DERIVED. GIVEN WITH THE SEED: THE CARDS: each row of YtlbjkmpdakmgeaaDoorRows.lean that lists a variable, with what it lists TIED to the program's text (the seventh form; the later family's looks); each row that meets fmt, with fmt's text TOLD by the authors' own Lean function (tested against real Go, not proved from fmt's source: count such statements apart). THE CARD IS WHAT COUNTS. Prove the row's statement (the work); the ties are given (YtlbjkmpdakmgeaaDoorTie.lean); close each card by the builder's one call (the guide's Derived/Test/ToyasCard.lean, 'card_holds'). Laid BY PROGRAM, IN A SANDBOX (cutbox-door.mjs). By AI agents, Wed Nov 11 2026. No macro, syntax, notation, axiom, sorry.
-/
import Derived.Test.YtlbjkmpdakmgeaaDoorRows
import GoSem.ClaimSeven
namespace Go.Proofs.YtlbjkmpdakmgeaaDoor
namespace Rows

/-- THE TIED CARD OF 'sumpterlaw24.TaleParses'. -/
def taleParsesCard : Claim7 := { stood := { row := taleParsesRow, standIns := [], harness := (true, "bb1437054737ad53da510878737c0be2b73815dbc9b3e709540f91136e082339"), looks := true }, kinds := [], alts := [], laidByText := true, laidKinds := [.data, .data, .data, .data, .sentinel, .sentinel, .pinned], laidTests := true, laidLooks := .later }
def TaleParsesCardSaid : Prop := Claim7.holds Tryd.pinned (.plain (OpenSpec.ofChange taleParsesSpec)) taleParsesCard

/-- THE TIED CARD OF 'sumpterlaw24.TaleTexts'. -/
def taleTextsCard : Claim7 := { stood := { row := taleTextsRow, standIns := [], harness := (true, "bb1437054737ad53da510878737c0be2b73815dbc9b3e709540f91136e082339"), looks := true }, kinds := [], alts := [], laidByText := true, laidKinds := [.data, .data, .data, .data, .sentinel, .sentinel, .pinned], laidTests := true, laidLooks := .later }
def TaleTextsCardSaid : Prop := Claim7.holds Tryd.pinned (.plain (OpenSpec.ofChange taleTextsSpec)) taleTextsCard

/-- THE TIED CARD OF 'sumpterlaw24.TaleWords'. -/
def taleWordsCard : Claim7 := { stood := { row := taleWordsRow, standIns := [], harness := (true, "bb1437054737ad53da510878737c0be2b73815dbc9b3e709540f91136e082339"), looks := true }, kinds := [], alts := [], laidByText := true, laidKinds := [.data, .data, .data, .data, .sentinel, .sentinel, .pinned], laidTests := true, laidLooks := .later }
def TaleWordsCardSaid : Prop := Claim7.holds Tryd.pinned (.plain (OpenSpec.ofChange taleWordsSpec)) taleWordsCard

/-- THE TIED CARD OF 'sumpterlaw24.TaleLines'. -/
def taleLinesCard : Claim7 := { stood := { row := taleLinesRow, standIns := [], harness := (true, "bb1437054737ad53da510878737c0be2b73815dbc9b3e709540f91136e082339"), looks := true }, kinds := [], alts := [], laidByText := true, laidKinds := [.data, .data, .data, .data, .sentinel, .sentinel, .pinned], laidTests := true, laidLooks := .later }
def TaleLinesCardSaid : Prop := Claim7.holds Tryd.pinned (.plain (OpenSpec.ofChange taleLinesSpec)) taleLinesCard

/-- THE TIED CARD OF 'sumpterlaw24.TaleReads'. -/
def taleReadsCard : Claim7 := { stood := { row := taleReadsRow, standIns := [], harness := (true, "bb1437054737ad53da510878737c0be2b73815dbc9b3e709540f91136e082339"), looks := true }, kinds := [], alts := [], laidByText := true, laidKinds := [.data, .data, .data, .data, .sentinel, .sentinel, .pinned], laidTests := true, laidLooks := .later }
def TaleReadsCardSaid : Prop := Claim7.holds Tryd.pinned (.plain (OpenSpec.ofChange taleReadsSpec)) taleReadsCard

/-- THE SECOND FORM's CARD OF 'sumpterlaw24.TaleParses'. -/
def taleParsesUptoCard : Claim7 := { stood := { row := taleParsesUptoRow, standIns := [], harness := (true, "bb1437054737ad53da510878737c0be2b73815dbc9b3e709540f91136e082339"), looks := true }, kinds := [], alts := [], laidByText := true, laidKinds := [.data, .data, .data, .data, .sentinel, .sentinel, .pinned], laidTests := true, laidLooks := .later }
def TaleParsesUptoCardSaid : Prop := Claim7.holds Tryd.pinned (.plain (OpenSpec.upto taleParsesSpec)) taleParsesUptoCard

/-- THE SECOND FORM's CARD OF 'sumpterlaw24.TaleTexts'. -/
def taleTextsUptoCard : Claim7 := { stood := { row := taleTextsUptoRow, standIns := [], harness := (true, "bb1437054737ad53da510878737c0be2b73815dbc9b3e709540f91136e082339"), looks := true }, kinds := [], alts := [], laidByText := true, laidKinds := [.data, .data, .data, .data, .sentinel, .sentinel, .pinned], laidTests := true, laidLooks := .later }
def TaleTextsUptoCardSaid : Prop := Claim7.holds Tryd.pinned (.plain (OpenSpec.upto taleTextsSpec)) taleTextsUptoCard

/-- THE SECOND FORM's CARD OF 'sumpterlaw24.TaleWords'. -/
def taleWordsUptoCard : Claim7 := { stood := { row := taleWordsUptoRow, standIns := [], harness := (true, "bb1437054737ad53da510878737c0be2b73815dbc9b3e709540f91136e082339"), looks := true }, kinds := [], alts := [], laidByText := true, laidKinds := [.data, .data, .data, .data, .sentinel, .sentinel, .pinned], laidTests := true, laidLooks := .later }
def TaleWordsUptoCardSaid : Prop := Claim7.holds Tryd.pinned (.plain (OpenSpec.upto taleWordsSpec)) taleWordsUptoCard

/-- THE SECOND FORM's CARD OF 'sumpterlaw24.TaleLines'. -/
def taleLinesUptoCard : Claim7 := { stood := { row := taleLinesUptoRow, standIns := [], harness := (true, "bb1437054737ad53da510878737c0be2b73815dbc9b3e709540f91136e082339"), looks := true }, kinds := [], alts := [], laidByText := true, laidKinds := [.data, .data, .data, .data, .sentinel, .sentinel, .pinned], laidTests := true, laidLooks := .later }
def TaleLinesUptoCardSaid : Prop := Claim7.holds Tryd.pinned (.plain (OpenSpec.upto taleLinesSpec)) taleLinesUptoCard

/-- THE SECOND FORM's CARD OF 'sumpterlaw24.TaleReads'. -/
def taleReadsUptoCard : Claim7 := { stood := { row := taleReadsUptoRow, standIns := [], harness := (true, "bb1437054737ad53da510878737c0be2b73815dbc9b3e709540f91136e082339"), looks := true }, kinds := [], alts := [], laidByText := true, laidKinds := [.data, .data, .data, .data, .sentinel, .sentinel, .pinned], laidTests := true, laidLooks := .later }
def TaleReadsUptoCardSaid : Prop := Claim7.holds Tryd.pinned (.plain (OpenSpec.upto taleReadsSpec)) taleReadsUptoCard
end Rows
end Go.Proofs.YtlbjkmpdakmgeaaDoor
