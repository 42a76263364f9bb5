/-
  No cell of these rows narrows 'for every input' (looked for: loops, veiled, ifaces, maps, wideKeys, modest, calm, conditions, laid).
  DERIVED. THE GIVEN ROWS OF THIS SEAT. 5 by the template 'for every input the law returns true; each argument reads behind the call as it read before'; 0 by the template 'total and deterministic' (their statements: YtgogfnafbeahoaaGreatTotals.lean).
  GIVEN WITH THE SEED: the statements are not yours to turn. If you find one false, say at which input.
  Laid BY PROGRAM, IN A SANDBOX (cutbox-rows.mjs): the forced cells as the released guide's own fill.sh prints them over the translation 84fcab5ebc6903e9… (all of the seat's roots in one cut). By AI agents, Wed Nov 11 2026. No macro, syntax, notation, axiom, sorry.
-/
import Derived.Test.YtgogfnafbeahoaaGreatChecked
import GoSem.Claim
import GoSem.ClaimJoined
import GoSem.ClaimMapViews
import Derived.JoinedTies
import Derived.KernelRfl
namespace Go.Proofs.YtgogfnafbeahoaaGreat
/- THE CELL 'sum', in the pinned program and in every row, IS THE sha256 OF THE DUMP (.gsa) THAT YtgogfnafbeahoaaGreatProg.lean LOADS. Nothing in Lean hashes anything: it is a label: what it is worth is what the hold of that sum in a sandbox is worth. -/
noncomputable def Tryz.pinned : Pinned := { name := "ytgogfnafbeahoaagreat", sum := "84fcab5ebc6903e9cc47cf4fb3c9a4e123df9daece73bd65e0cfe882b790a3a5", checked := Tryz.checked }
namespace Rows
def none {H : Type} : Left H := { results := [], args := [] }

/-- 'sumpterlaw16.LedgerParts': WHATEVER THE INPUT: true; the input reads as it did. -/
def ledgerPartsSpec : ChangeSpec := { name := "ledgerParts", fn := fun _ => fun
  | [d1, d2, d3] => { results := [.lit (.bool true)], args := [d1, d2, d3] }
  | _ => none }
def ledgerPartsRow : OpenClaim := { program := "ytgogfnafbeahoaagreat", sum := "84fcab5ebc6903e9cc47cf4fb3c9a4e123df9daece73bd65e0cfe882b790a3a5", func := "sumpter/sumpterlaw16.LedgerParts", spec := "ledgerParts", inPlace := ["maps.clone"], unfollowed := true, recurses := true, plainKeys := false, apart := false }
def LedgerPartsSaid : Prop := ledgerPartsRow.holds Tryz.pinned (OpenSpec.ofChange ledgerPartsSpec)

/-- ITS FALSE NEIGHBOUR: 'it returns false'. Refute it at one input. -/
def ledgerPartsWrong : ChangeSpec := { name := "ledgerParts", fn := fun _ => fun
  | [d1, d2, d3] => { results := [.lit (.bool false)], args := [d1, d2, d3] }
  | _ => none }
def LedgerPartsWrongFalsely : Prop := ledgerPartsRow.holds Tryz.pinned (OpenSpec.ofChange ledgerPartsWrong)

/-- 'sumpterlaw16.LedgerWindows': WHATEVER THE INPUT: true; the input reads as it did. -/
def ledgerWindowsSpec : ChangeSpec := { name := "ledgerWindows", fn := fun _ => fun
  | [d1, d2, d3] => { results := [.lit (.bool true)], args := [d1, d2, d3] }
  | _ => none }
def ledgerWindowsRow : OpenClaim := { program := "ytgogfnafbeahoaagreat", sum := "84fcab5ebc6903e9cc47cf4fb3c9a4e123df9daece73bd65e0cfe882b790a3a5", func := "sumpter/sumpterlaw16.LedgerWindows", spec := "ledgerWindows", inPlace := ["maps.clone", "math/bits.Add64"], unfollowed := true, recurses := true, plainKeys := false, apart := false }
def LedgerWindowsSaid : Prop := ledgerWindowsRow.holds Tryz.pinned (OpenSpec.ofChange ledgerWindowsSpec)

/-- ITS FALSE NEIGHBOUR: 'it returns false'. Refute it at one input. -/
def ledgerWindowsWrong : ChangeSpec := { name := "ledgerWindows", fn := fun _ => fun
  | [d1, d2, d3] => { results := [.lit (.bool false)], args := [d1, d2, d3] }
  | _ => none }
def LedgerWindowsWrongFalsely : Prop := ledgerWindowsRow.holds Tryz.pinned (OpenSpec.ofChange ledgerWindowsWrong)

/-- 'sumpterlaw16.LedgerOnce': WHATEVER THE INPUT: true; the input reads as it did. -/
def ledgerOnceSpec : ChangeSpec := { name := "ledgerOnce", fn := fun _ => fun
  | [d1, d2, d3] => { results := [.lit (.bool true)], args := [d1, d2, d3] }
  | _ => none }
def ledgerOnceRow : OpenClaim := { program := "ytgogfnafbeahoaagreat", sum := "84fcab5ebc6903e9cc47cf4fb3c9a4e123df9daece73bd65e0cfe882b790a3a5", func := "sumpter/sumpterlaw16.LedgerOnce", spec := "ledgerOnce", inPlace := ["maps.clone"], unfollowed := true, recurses := true, plainKeys := false, apart := false }
def LedgerOnceSaid : Prop := ledgerOnceRow.holds Tryz.pinned (OpenSpec.ofChange ledgerOnceSpec)

/-- ITS FALSE NEIGHBOUR: 'it returns false'. Refute it at one input. -/
def ledgerOnceWrong : ChangeSpec := { name := "ledgerOnce", fn := fun _ => fun
  | [d1, d2, d3] => { results := [.lit (.bool false)], args := [d1, d2, d3] }
  | _ => none }
def LedgerOnceWrongFalsely : Prop := ledgerOnceRow.holds Tryz.pinned (OpenSpec.ofChange ledgerOnceWrong)

/-- 'sumpterlaw16.LedgerNil': WHATEVER THE INPUT: true; the input reads as it did. -/
def ledgerNilSpec : ChangeSpec := { name := "ledgerNil", fn := fun _ => fun
  | [d1, d2, d3, d4] => { results := [.lit (.bool true)], args := [d1, d2, d3, d4] }
  | _ => none }
def ledgerNilRow : OpenClaim := { program := "ytgogfnafbeahoaagreat", sum := "84fcab5ebc6903e9cc47cf4fb3c9a4e123df9daece73bd65e0cfe882b790a3a5", func := "sumpter/sumpterlaw16.LedgerNil", spec := "ledgerNil", inPlace := ["maps.clone"], unfollowed := true, recurses := true, plainKeys := false, apart := false }
def LedgerNilSaid : Prop := ledgerNilRow.holds Tryz.pinned (OpenSpec.ofChange ledgerNilSpec)

/-- ITS FALSE NEIGHBOUR: 'it returns false'. Refute it at one input. -/
def ledgerNilWrong : ChangeSpec := { name := "ledgerNil", fn := fun _ => fun
  | [d1, d2, d3, d4] => { results := [.lit (.bool false)], args := [d1, d2, d3, d4] }
  | _ => none }
def LedgerNilWrongFalsely : Prop := ledgerNilRow.holds Tryz.pinned (OpenSpec.ofChange ledgerNilWrong)

/-- 'sumpterlaw16.LedgerPlays': WHATEVER THE INPUT: true; the input reads as it did. -/
def ledgerPlaysSpec : ChangeSpec := { name := "ledgerPlays", fn := fun _ => fun
  | [d1, d2, d3, d4] => { results := [.lit (.bool true)], args := [d1, d2, d3, d4] }
  | _ => none }
def ledgerPlaysRow : OpenClaim := { program := "ytgogfnafbeahoaagreat", sum := "84fcab5ebc6903e9cc47cf4fb3c9a4e123df9daece73bd65e0cfe882b790a3a5", func := "sumpter/sumpterlaw16.LedgerPlays", spec := "ledgerPlays", inPlace := ["maps.clone"], unfollowed := true, recurses := true, plainKeys := false, apart := false }
def LedgerPlaysSaid : Prop := ledgerPlaysRow.holds Tryz.pinned (OpenSpec.ofChange ledgerPlaysSpec)

/-- ITS FALSE NEIGHBOUR: 'it returns false'. Refute it at one input. -/
def ledgerPlaysWrong : ChangeSpec := { name := "ledgerPlays", fn := fun _ => fun
  | [d1, d2, d3, d4] => { results := [.lit (.bool false)], args := [d1, d2, d3, d4] }
  | _ => none }
def LedgerPlaysWrongFalsely : Prop := ledgerPlaysRow.holds Tryz.pinned (OpenSpec.ofChange ledgerPlaysWrong)

/- THE SECOND FORM. 'bulk': how many values and letters a reading holds, each counted each time it is reached (what is shared counts as often as it is met; a slice's spare places count too). A statement '..UptoSaid' is the law's where the arguments, and the package variables that the reading takes, are together of bulk at most 1048576: NARROWER than '..Said'. Prove '..Said' where nothing that the law and all that it calls make is longer than what came in: it says more and counts as full. Else prove '..UptoSaid'. A law counts once. -/
mutual
def uptoBulk {H : Type} : DataW H → Nat
  | .lit (.string bytes) => bytes.length + 1
  | .lit _ => 1
  | .nil => 1
  | .ptr d => uptoBulk d + 1
  | .slice elems spare => uptoBulkAll elems + uptoBulkAll spare + 1
  | .agg parts => uptoBulkAll parts + 1
  | .iface _ d => uptoBulk d + 1
  | .map entries => uptoBulkEntries entries + 1
  | .held _ => 1
def uptoBulkAll {H : Type} : List (DataW H) → Nat
  | [] => 0
  | d :: r => uptoBulk d + uptoBulkAll r
def uptoBulkEntries {H : Type} : List (Lit × DataW H) → Nat
  | [] => 0
  | x :: r => uptoBulkEntry x + uptoBulkEntries r
def uptoBulkEntry {H : Type} : Lit × DataW H → Nat
  | (.string bytes, d) => bytes.length + uptoBulk d + 1
  | (_, d) => uptoBulk d + 1
 end
def uptoSmall : (H : Type) → List (DataW H) → Bool := fun _ ds => decide (uptoBulkAll ds ≤ 1048576)
def OpenSpec.upto (s : _root_.Go.ChangeSpec) : _root_.Go.OpenSpec := { _root_.Go.OpenSpec.ofChange s with cond := some uptoSmall }

/-- 'sumpterlaw16.LedgerParts', WHERE WHAT IT READS IS OF BULK AT MOST 1048576: true; the input reads as it did. -/
def ledgerPartsUptoRow : OpenClaim := { program := "ytgogfnafbeahoaagreat", sum := "84fcab5ebc6903e9cc47cf4fb3c9a4e123df9daece73bd65e0cfe882b790a3a5", func := "sumpter/sumpterlaw16.LedgerParts", spec := "ledgerParts", inPlace := ["maps.clone"], unfollowed := true, recurses := true, plainKeys := false, apart := false, narrowed := true }
def LedgerPartsUptoSaid : Prop := ledgerPartsUptoRow.holds Tryz.pinned (OpenSpec.upto ledgerPartsSpec)

/-- 'sumpterlaw16.LedgerWindows', WHERE WHAT IT READS IS OF BULK AT MOST 1048576: true; the input reads as it did. -/
def ledgerWindowsUptoRow : OpenClaim := { program := "ytgogfnafbeahoaagreat", sum := "84fcab5ebc6903e9cc47cf4fb3c9a4e123df9daece73bd65e0cfe882b790a3a5", func := "sumpter/sumpterlaw16.LedgerWindows", spec := "ledgerWindows", inPlace := ["maps.clone", "math/bits.Add64"], unfollowed := true, recurses := true, plainKeys := false, apart := false, narrowed := true }
def LedgerWindowsUptoSaid : Prop := ledgerWindowsUptoRow.holds Tryz.pinned (OpenSpec.upto ledgerWindowsSpec)

/-- 'sumpterlaw16.LedgerOnce', WHERE WHAT IT READS IS OF BULK AT MOST 1048576: true; the input reads as it did. -/
def ledgerOnceUptoRow : OpenClaim := { program := "ytgogfnafbeahoaagreat", sum := "84fcab5ebc6903e9cc47cf4fb3c9a4e123df9daece73bd65e0cfe882b790a3a5", func := "sumpter/sumpterlaw16.LedgerOnce", spec := "ledgerOnce", inPlace := ["maps.clone"], unfollowed := true, recurses := true, plainKeys := false, apart := false, narrowed := true }
def LedgerOnceUptoSaid : Prop := ledgerOnceUptoRow.holds Tryz.pinned (OpenSpec.upto ledgerOnceSpec)

/-- 'sumpterlaw16.LedgerNil', WHERE WHAT IT READS IS OF BULK AT MOST 1048576: true; the input reads as it did. -/
def ledgerNilUptoRow : OpenClaim := { program := "ytgogfnafbeahoaagreat", sum := "84fcab5ebc6903e9cc47cf4fb3c9a4e123df9daece73bd65e0cfe882b790a3a5", func := "sumpter/sumpterlaw16.LedgerNil", spec := "ledgerNil", inPlace := ["maps.clone"], unfollowed := true, recurses := true, plainKeys := false, apart := false, narrowed := true }
def LedgerNilUptoSaid : Prop := ledgerNilUptoRow.holds Tryz.pinned (OpenSpec.upto ledgerNilSpec)

/-- 'sumpterlaw16.LedgerPlays', WHERE WHAT IT READS IS OF BULK AT MOST 1048576: true; the input reads as it did. -/
def ledgerPlaysUptoRow : OpenClaim := { program := "ytgogfnafbeahoaagreat", sum := "84fcab5ebc6903e9cc47cf4fb3c9a4e123df9daece73bd65e0cfe882b790a3a5", func := "sumpter/sumpterlaw16.LedgerPlays", spec := "ledgerPlays", inPlace := ["maps.clone"], unfollowed := true, recurses := true, plainKeys := false, apart := false, narrowed := true }
def LedgerPlaysUptoSaid : Prop := ledgerPlaysUptoRow.holds Tryz.pinned (OpenSpec.upto ledgerPlaysSpec)

end Rows
end Go.Proofs.YtgogfnafbeahoaaGreat
