/-
  No cell of these rows narrows 'for every input' (looked for: loops, veiled, ifaces, maps, wideKeys, modest, calm, conditions, laid).
  DERIVED. THE GIVEN ROWS OF THIS SEAT. 11 by the template 'for every input the law returns true; each argument reads behind the call as it read before'; 0 by the template 'total and deterministic' (their statements: YtpjggnfiocplmaaTotals.lean).
  GIVEN WITH THE SEED: the statements are not yours to turn. If you find one false, say at which input.
  Laid BY PROGRAM, IN A SANDBOX (cutbox-rows.mjs): the forced cells as the released guide's own fill.sh prints them over the translation b7f7d1ea6da2c34d… (all of the seat's roots in one cut). By AI agents, Wed Nov 11 2026. No macro, syntax, notation, axiom, sorry.
-/
import Derived.Test.YtpjggnfiocplmaaChecked
import GoSem.Claim
import GoSem.ClaimJoined
import GoSem.ClaimMapViews
import Derived.JoinedTies
import Derived.KernelRfl
namespace Go.Proofs.Ytpjggnfiocplmaa
/- THE CELL 'sum', in the pinned program and in every row, IS THE sha256 OF THE DUMP (.gsa) THAT YtpjggnfiocplmaaProg.lean LOADS. Nothing in Lean hashes anything: it is a label: what it is worth is what the hold of that sum in a sandbox is worth. -/
noncomputable def Try.pinned : Pinned := { name := "ytpjggnfiocplmaa", sum := "b7f7d1ea6da2c34d5e2ab1480f88f20c7675dc02f3ccabe6c35e4f021e117fa5", checked := Try.checked }
namespace Rows
def none {H : Type} : Left H := { results := [], args := [] }

/-- 'sumpterlaw06.DiskPrefix': WHATEVER THE INPUT: true; the input reads as it did. -/
def diskPrefixSpec : ChangeSpec := { name := "diskPrefix", fn := fun _ => fun
  | [d1, d2, d3] => { results := [.lit (.bool true)], args := [d1, d2, d3] }
  | _ => none }
def diskPrefixRow : OpenClaim := { program := "ytpjggnfiocplmaa", sum := "b7f7d1ea6da2c34d5e2ab1480f88f20c7675dc02f3ccabe6c35e4f021e117fa5", func := "sumpter/sumpterlaw06.DiskPrefix", spec := "diskPrefix", inPlace := ["maps.clone"], unfollowed := true, recurses := true, apart := false }
def DiskPrefixSaid : Prop := diskPrefixRow.holds Try.pinned (OpenSpec.ofChange diskPrefixSpec)

/-- ITS FALSE NEIGHBOUR: 'it returns false'. Refute it at one input. -/
def diskPrefixWrong : ChangeSpec := { name := "diskPrefix", fn := fun _ => fun
  | [d1, d2, d3] => { results := [.lit (.bool false)], args := [d1, d2, d3] }
  | _ => none }
def DiskPrefixWrongFalsely : Prop := diskPrefixRow.holds Try.pinned (OpenSpec.ofChange diskPrefixWrong)

/-- 'sumpterlaw06.DiskSafe': WHATEVER THE INPUT: true; the input reads as it did. -/
def diskSafeSpec : ChangeSpec := { name := "diskSafe", fn := fun _ => fun
  | [d1, d2, d3, d4, d5] => { results := [.lit (.bool true)], args := [d1, d2, d3, d4, d5] }
  | _ => none }
def diskSafeRow : OpenClaim := { program := "ytpjggnfiocplmaa", sum := "b7f7d1ea6da2c34d5e2ab1480f88f20c7675dc02f3ccabe6c35e4f021e117fa5", func := "sumpter/sumpterlaw06.DiskSafe", spec := "diskSafe", inPlace := ["maps.clone"], unfollowed := true, recurses := true, apart := false }
def DiskSafeSaid : Prop := diskSafeRow.holds Try.pinned (OpenSpec.ofChange diskSafeSpec)

/-- ITS FALSE NEIGHBOUR: 'it returns false'. Refute it at one input. -/
def diskSafeWrong : ChangeSpec := { name := "diskSafe", fn := fun _ => fun
  | [d1, d2, d3, d4, d5] => { results := [.lit (.bool false)], args := [d1, d2, d3, d4, d5] }
  | _ => none }
def DiskSafeWrongFalsely : Prop := diskSafeRow.holds Try.pinned (OpenSpec.ofChange diskSafeWrong)

/-- 'sumpterlaw06.DiskPlays': WHATEVER THE INPUT: true; the input reads as it did. -/
def diskPlaysSpec : ChangeSpec := { name := "diskPlays", fn := fun _ => fun
  | [d1, d2] => { results := [.lit (.bool true)], args := [d1, d2] }
  | _ => none }
def diskPlaysRow : OpenClaim := { program := "ytpjggnfiocplmaa", sum := "b7f7d1ea6da2c34d5e2ab1480f88f20c7675dc02f3ccabe6c35e4f021e117fa5", func := "sumpter/sumpterlaw06.DiskPlays", spec := "diskPlays", inPlace := ["maps.clone"], unfollowed := true, recurses := true, apart := false }
def DiskPlaysSaid : Prop := diskPlaysRow.holds Try.pinned (OpenSpec.ofChange diskPlaysSpec)

/-- ITS FALSE NEIGHBOUR: 'it returns false'. Refute it at one input. -/
def diskPlaysWrong : ChangeSpec := { name := "diskPlays", fn := fun _ => fun
  | [d1, d2] => { results := [.lit (.bool false)], args := [d1, d2] }
  | _ => none }
def DiskPlaysWrongFalsely : Prop := diskPlaysRow.holds Try.pinned (OpenSpec.ofChange diskPlaysWrong)

/-- 'sumpterlaw06.DiskFull': WHATEVER THE INPUT: true; the input reads as it did. -/
def diskFullSpec : ChangeSpec := { name := "diskFull", fn := fun _ => fun
  | [d1, d2, d3] => { results := [.lit (.bool true)], args := [d1, d2, d3] }
  | _ => none }
def diskFullRow : OpenClaim := { program := "ytpjggnfiocplmaa", sum := "b7f7d1ea6da2c34d5e2ab1480f88f20c7675dc02f3ccabe6c35e4f021e117fa5", func := "sumpter/sumpterlaw06.DiskFull", spec := "diskFull", inPlace := ["maps.clone"], unfollowed := true, recurses := true, apart := false }
def DiskFullSaid : Prop := diskFullRow.holds Try.pinned (OpenSpec.ofChange diskFullSpec)

/-- ITS FALSE NEIGHBOUR: 'it returns false'. Refute it at one input. -/
def diskFullWrong : ChangeSpec := { name := "diskFull", fn := fun _ => fun
  | [d1, d2, d3] => { results := [.lit (.bool false)], args := [d1, d2, d3] }
  | _ => none }
def DiskFullWrongFalsely : Prop := diskFullRow.holds Try.pinned (OpenSpec.ofChange diskFullWrong)

/-- 'sumpterlaw06.DiskApart': WHATEVER THE INPUT: true; the input reads as it did. -/
def diskApartSpec : ChangeSpec := { name := "diskApart", fn := fun _ => fun
  | [d1, d2, d3, d4] => { results := [.lit (.bool true)], args := [d1, d2, d3, d4] }
  | _ => none }
def diskApartRow : OpenClaim := { program := "ytpjggnfiocplmaa", sum := "b7f7d1ea6da2c34d5e2ab1480f88f20c7675dc02f3ccabe6c35e4f021e117fa5", func := "sumpter/sumpterlaw06.DiskApart", spec := "diskApart", inPlace := ["maps.clone"], unfollowed := true, recurses := true, apart := false }
def DiskApartSaid : Prop := diskApartRow.holds Try.pinned (OpenSpec.ofChange diskApartSpec)

/-- ITS FALSE NEIGHBOUR: 'it returns false'. Refute it at one input. -/
def diskApartWrong : ChangeSpec := { name := "diskApart", fn := fun _ => fun
  | [d1, d2, d3, d4] => { results := [.lit (.bool false)], args := [d1, d2, d3, d4] }
  | _ => none }
def DiskApartWrongFalsely : Prop := diskApartRow.holds Try.pinned (OpenSpec.ofChange diskApartWrong)

/-- 'sumpterlaw07.SeglogTorn': WHATEVER THE INPUT: true; the input reads as it did. -/
def seglogTornSpec : ChangeSpec := { name := "seglogTorn", fn := fun _ => fun
  | [d1, d2, d3, d4] => { results := [.lit (.bool true)], args := [d1, d2, d3, d4] }
  | _ => none }
def seglogTornRow : OpenClaim := { program := "ytpjggnfiocplmaa", sum := "b7f7d1ea6da2c34d5e2ab1480f88f20c7675dc02f3ccabe6c35e4f021e117fa5", func := "sumpter/sumpterlaw07.SeglogTorn", spec := "seglogTorn", inPlace := ["maps.clone"], unfollowed := true, recurses := true, apart := false }
def SeglogTornSaid : Prop := seglogTornRow.holds Try.pinned (OpenSpec.ofChange seglogTornSpec)

/-- ITS FALSE NEIGHBOUR: 'it returns false'. Refute it at one input. -/
def seglogTornWrong : ChangeSpec := { name := "seglogTorn", fn := fun _ => fun
  | [d1, d2, d3, d4] => { results := [.lit (.bool false)], args := [d1, d2, d3, d4] }
  | _ => none }
def SeglogTornWrongFalsely : Prop := seglogTornRow.holds Try.pinned (OpenSpec.ofChange seglogTornWrong)

/-- 'sumpterlaw07.SeglogFits': WHATEVER THE INPUT: true; the input reads as it did. -/
def seglogFitsSpec : ChangeSpec := { name := "seglogFits", fn := fun _ => fun
  | [d1, d2, d3, d4] => { results := [.lit (.bool true)], args := [d1, d2, d3, d4] }
  | _ => none }
def seglogFitsRow : OpenClaim := { program := "ytpjggnfiocplmaa", sum := "b7f7d1ea6da2c34d5e2ab1480f88f20c7675dc02f3ccabe6c35e4f021e117fa5", func := "sumpter/sumpterlaw07.SeglogFits", spec := "seglogFits", inPlace := ["maps.clone"], unfollowed := true, recurses := true, apart := false }
def SeglogFitsSaid : Prop := seglogFitsRow.holds Try.pinned (OpenSpec.ofChange seglogFitsSpec)

/-- ITS FALSE NEIGHBOUR: 'it returns false'. Refute it at one input. -/
def seglogFitsWrong : ChangeSpec := { name := "seglogFits", fn := fun _ => fun
  | [d1, d2, d3, d4] => { results := [.lit (.bool false)], args := [d1, d2, d3, d4] }
  | _ => none }
def SeglogFitsWrongFalsely : Prop := seglogFitsRow.holds Try.pinned (OpenSpec.ofChange seglogFitsWrong)

/-- 'sumpterlaw07.SeglogHolds': WHATEVER THE INPUT: true; the input reads as it did. -/
def seglogHoldsSpec : ChangeSpec := { name := "seglogHolds", fn := fun _ => fun
  | [d1, d2] => { results := [.lit (.bool true)], args := [d1, d2] }
  | _ => none }
def seglogHoldsRow : OpenClaim := { program := "ytpjggnfiocplmaa", sum := "b7f7d1ea6da2c34d5e2ab1480f88f20c7675dc02f3ccabe6c35e4f021e117fa5", func := "sumpter/sumpterlaw07.SeglogHolds", spec := "seglogHolds", inPlace := ["maps.clone"], unfollowed := true, recurses := true, apart := false }
def SeglogHoldsSaid : Prop := seglogHoldsRow.holds Try.pinned (OpenSpec.ofChange seglogHoldsSpec)

/-- ITS FALSE NEIGHBOUR: 'it returns false'. Refute it at one input. -/
def seglogHoldsWrong : ChangeSpec := { name := "seglogHolds", fn := fun _ => fun
  | [d1, d2] => { results := [.lit (.bool false)], args := [d1, d2] }
  | _ => none }
def SeglogHoldsWrongFalsely : Prop := seglogHoldsRow.holds Try.pinned (OpenSpec.ofChange seglogHoldsWrong)

/-- 'sumpterlaw07.SeglogPlays': WHATEVER THE INPUT: true; the input reads as it did. -/
def seglogPlaysSpec : ChangeSpec := { name := "seglogPlays", fn := fun _ => fun
  | [d1, d2, d3] => { results := [.lit (.bool true)], args := [d1, d2, d3] }
  | _ => none }
def seglogPlaysRow : OpenClaim := { program := "ytpjggnfiocplmaa", sum := "b7f7d1ea6da2c34d5e2ab1480f88f20c7675dc02f3ccabe6c35e4f021e117fa5", func := "sumpter/sumpterlaw07.SeglogPlays", spec := "seglogPlays", inPlace := ["maps.clone"], unfollowed := true, recurses := true, apart := false }
def SeglogPlaysSaid : Prop := seglogPlaysRow.holds Try.pinned (OpenSpec.ofChange seglogPlaysSpec)

/-- ITS FALSE NEIGHBOUR: 'it returns false'. Refute it at one input. -/
def seglogPlaysWrong : ChangeSpec := { name := "seglogPlays", fn := fun _ => fun
  | [d1, d2, d3] => { results := [.lit (.bool false)], args := [d1, d2, d3] }
  | _ => none }
def SeglogPlaysWrongFalsely : Prop := seglogPlaysRow.holds Try.pinned (OpenSpec.ofChange seglogPlaysWrong)

/-- 'sumpterlaw07.SeglogTrims': WHATEVER THE INPUT: true; the input reads as it did. -/
def seglogTrimsSpec : ChangeSpec := { name := "seglogTrims", fn := fun _ => fun
  | [d1, d2, d3] => { results := [.lit (.bool true)], args := [d1, d2, d3] }
  | _ => none }
def seglogTrimsRow : OpenClaim := { program := "ytpjggnfiocplmaa", sum := "b7f7d1ea6da2c34d5e2ab1480f88f20c7675dc02f3ccabe6c35e4f021e117fa5", func := "sumpter/sumpterlaw07.SeglogTrims", spec := "seglogTrims", inPlace := ["maps.clone"], unfollowed := true, recurses := true, apart := false }
def SeglogTrimsSaid : Prop := seglogTrimsRow.holds Try.pinned (OpenSpec.ofChange seglogTrimsSpec)

/-- ITS FALSE NEIGHBOUR: 'it returns false'. Refute it at one input. -/
def seglogTrimsWrong : ChangeSpec := { name := "seglogTrims", fn := fun _ => fun
  | [d1, d2, d3] => { results := [.lit (.bool false)], args := [d1, d2, d3] }
  | _ => none }
def SeglogTrimsWrongFalsely : Prop := seglogTrimsRow.holds Try.pinned (OpenSpec.ofChange seglogTrimsWrong)

/-- 'sumpterlaw07.SeglogNil': WHATEVER THE INPUT: true; the input reads as it did. -/
def seglogNilSpec : ChangeSpec := { name := "seglogNil", fn := fun _ => fun
  | [d1, d2, d3] => { results := [.lit (.bool true)], args := [d1, d2, d3] }
  | _ => none }
def seglogNilRow : OpenClaim := { program := "ytpjggnfiocplmaa", sum := "b7f7d1ea6da2c34d5e2ab1480f88f20c7675dc02f3ccabe6c35e4f021e117fa5", func := "sumpter/sumpterlaw07.SeglogNil", spec := "seglogNil", inPlace := ["maps.clone"], unfollowed := true, recurses := true, apart := false }
def SeglogNilSaid : Prop := seglogNilRow.holds Try.pinned (OpenSpec.ofChange seglogNilSpec)

/-- ITS FALSE NEIGHBOUR: 'it returns false'. Refute it at one input. -/
def seglogNilWrong : ChangeSpec := { name := "seglogNil", fn := fun _ => fun
  | [d1, d2, d3] => { results := [.lit (.bool false)], args := [d1, d2, d3] }
  | _ => none }
def SeglogNilWrongFalsely : Prop := seglogNilRow.holds Try.pinned (OpenSpec.ofChange seglogNilWrong)

/- THE SECOND FORM. 'bulk': how many values and letters a reading holds, each counted each time it is reached (what is shared counts as often as it is met; a slice's spare places count too). A statement '..UptoSaid' is the law's where the arguments, and the package variables that the reading takes, are together of bulk at most 1048576: NARROWER than '..Said'. Prove '..Said' where nothing that the law and all that it calls make is longer than what came in: it says more and counts as full. Else prove '..UptoSaid'. A law counts once. -/
mutual
def uptoBulk {H : Type} : DataW H → Nat
  | .lit (.string bytes) => bytes.length + 1
  | .lit _ => 1
  | .nil => 1
  | .ptr d => uptoBulk d + 1
  | .slice elems spare => uptoBulkAll elems + uptoBulkAll spare + 1
  | .agg parts => uptoBulkAll parts + 1
  | .iface _ d => uptoBulk d + 1
  | .map entries => uptoBulkEntries entries + 1
  | .held _ => 1
def uptoBulkAll {H : Type} : List (DataW H) → Nat
  | [] => 0
  | d :: r => uptoBulk d + uptoBulkAll r
def uptoBulkEntries {H : Type} : List (Lit × DataW H) → Nat
  | [] => 0
  | x :: r => uptoBulkEntry x + uptoBulkEntries r
def uptoBulkEntry {H : Type} : Lit × DataW H → Nat
  | (.string bytes, d) => bytes.length + uptoBulk d + 1
  | (_, d) => uptoBulk d + 1
 end
def uptoSmall : (H : Type) → List (DataW H) → Bool := fun _ ds => decide (uptoBulkAll ds ≤ 1048576)
def OpenSpec.upto (s : _root_.Go.ChangeSpec) : _root_.Go.OpenSpec := { _root_.Go.OpenSpec.ofChange s with cond := some uptoSmall }

/-- 'sumpterlaw06.DiskPrefix', WHERE WHAT IT READS IS OF BULK AT MOST 1048576: true; the input reads as it did. -/
def diskPrefixUptoRow : OpenClaim := { program := "ytpjggnfiocplmaa", sum := "b7f7d1ea6da2c34d5e2ab1480f88f20c7675dc02f3ccabe6c35e4f021e117fa5", func := "sumpter/sumpterlaw06.DiskPrefix", spec := "diskPrefix", inPlace := ["maps.clone"], unfollowed := true, recurses := true, apart := false, narrowed := true }
def DiskPrefixUptoSaid : Prop := diskPrefixUptoRow.holds Try.pinned (OpenSpec.upto diskPrefixSpec)

/-- 'sumpterlaw06.DiskSafe', WHERE WHAT IT READS IS OF BULK AT MOST 1048576: true; the input reads as it did. -/
def diskSafeUptoRow : OpenClaim := { program := "ytpjggnfiocplmaa", sum := "b7f7d1ea6da2c34d5e2ab1480f88f20c7675dc02f3ccabe6c35e4f021e117fa5", func := "sumpter/sumpterlaw06.DiskSafe", spec := "diskSafe", inPlace := ["maps.clone"], unfollowed := true, recurses := true, apart := false, narrowed := true }
def DiskSafeUptoSaid : Prop := diskSafeUptoRow.holds Try.pinned (OpenSpec.upto diskSafeSpec)

/-- 'sumpterlaw06.DiskPlays', WHERE WHAT IT READS IS OF BULK AT MOST 1048576: true; the input reads as it did. -/
def diskPlaysUptoRow : OpenClaim := { program := "ytpjggnfiocplmaa", sum := "b7f7d1ea6da2c34d5e2ab1480f88f20c7675dc02f3ccabe6c35e4f021e117fa5", func := "sumpter/sumpterlaw06.DiskPlays", spec := "diskPlays", inPlace := ["maps.clone"], unfollowed := true, recurses := true, apart := false, narrowed := true }
def DiskPlaysUptoSaid : Prop := diskPlaysUptoRow.holds Try.pinned (OpenSpec.upto diskPlaysSpec)

/-- 'sumpterlaw06.DiskFull', WHERE WHAT IT READS IS OF BULK AT MOST 1048576: true; the input reads as it did. -/
def diskFullUptoRow : OpenClaim := { program := "ytpjggnfiocplmaa", sum := "b7f7d1ea6da2c34d5e2ab1480f88f20c7675dc02f3ccabe6c35e4f021e117fa5", func := "sumpter/sumpterlaw06.DiskFull", spec := "diskFull", inPlace := ["maps.clone"], unfollowed := true, recurses := true, apart := false, narrowed := true }
def DiskFullUptoSaid : Prop := diskFullUptoRow.holds Try.pinned (OpenSpec.upto diskFullSpec)

/-- 'sumpterlaw06.DiskApart', WHERE WHAT IT READS IS OF BULK AT MOST 1048576: true; the input reads as it did. -/
def diskApartUptoRow : OpenClaim := { program := "ytpjggnfiocplmaa", sum := "b7f7d1ea6da2c34d5e2ab1480f88f20c7675dc02f3ccabe6c35e4f021e117fa5", func := "sumpter/sumpterlaw06.DiskApart", spec := "diskApart", inPlace := ["maps.clone"], unfollowed := true, recurses := true, apart := false, narrowed := true }
def DiskApartUptoSaid : Prop := diskApartUptoRow.holds Try.pinned (OpenSpec.upto diskApartSpec)

/-- 'sumpterlaw07.SeglogTorn', WHERE WHAT IT READS IS OF BULK AT MOST 1048576: true; the input reads as it did. -/
def seglogTornUptoRow : OpenClaim := { program := "ytpjggnfiocplmaa", sum := "b7f7d1ea6da2c34d5e2ab1480f88f20c7675dc02f3ccabe6c35e4f021e117fa5", func := "sumpter/sumpterlaw07.SeglogTorn", spec := "seglogTorn", inPlace := ["maps.clone"], unfollowed := true, recurses := true, apart := false, narrowed := true }
def SeglogTornUptoSaid : Prop := seglogTornUptoRow.holds Try.pinned (OpenSpec.upto seglogTornSpec)

/-- 'sumpterlaw07.SeglogFits', WHERE WHAT IT READS IS OF BULK AT MOST 1048576: true; the input reads as it did. -/
def seglogFitsUptoRow : OpenClaim := { program := "ytpjggnfiocplmaa", sum := "b7f7d1ea6da2c34d5e2ab1480f88f20c7675dc02f3ccabe6c35e4f021e117fa5", func := "sumpter/sumpterlaw07.SeglogFits", spec := "seglogFits", inPlace := ["maps.clone"], unfollowed := true, recurses := true, apart := false, narrowed := true }
def SeglogFitsUptoSaid : Prop := seglogFitsUptoRow.holds Try.pinned (OpenSpec.upto seglogFitsSpec)

/-- 'sumpterlaw07.SeglogHolds', WHERE WHAT IT READS IS OF BULK AT MOST 1048576: true; the input reads as it did. -/
def seglogHoldsUptoRow : OpenClaim := { program := "ytpjggnfiocplmaa", sum := "b7f7d1ea6da2c34d5e2ab1480f88f20c7675dc02f3ccabe6c35e4f021e117fa5", func := "sumpter/sumpterlaw07.SeglogHolds", spec := "seglogHolds", inPlace := ["maps.clone"], unfollowed := true, recurses := true, apart := false, narrowed := true }
def SeglogHoldsUptoSaid : Prop := seglogHoldsUptoRow.holds Try.pinned (OpenSpec.upto seglogHoldsSpec)

/-- 'sumpterlaw07.SeglogPlays', WHERE WHAT IT READS IS OF BULK AT MOST 1048576: true; the input reads as it did. -/
def seglogPlaysUptoRow : OpenClaim := { program := "ytpjggnfiocplmaa", sum := "b7f7d1ea6da2c34d5e2ab1480f88f20c7675dc02f3ccabe6c35e4f021e117fa5", func := "sumpter/sumpterlaw07.SeglogPlays", spec := "seglogPlays", inPlace := ["maps.clone"], unfollowed := true, recurses := true, apart := false, narrowed := true }
def SeglogPlaysUptoSaid : Prop := seglogPlaysUptoRow.holds Try.pinned (OpenSpec.upto seglogPlaysSpec)

/-- 'sumpterlaw07.SeglogTrims', WHERE WHAT IT READS IS OF BULK AT MOST 1048576: true; the input reads as it did. -/
def seglogTrimsUptoRow : OpenClaim := { program := "ytpjggnfiocplmaa", sum := "b7f7d1ea6da2c34d5e2ab1480f88f20c7675dc02f3ccabe6c35e4f021e117fa5", func := "sumpter/sumpterlaw07.SeglogTrims", spec := "seglogTrims", inPlace := ["maps.clone"], unfollowed := true, recurses := true, apart := false, narrowed := true }
def SeglogTrimsUptoSaid : Prop := seglogTrimsUptoRow.holds Try.pinned (OpenSpec.upto seglogTrimsSpec)

/-- 'sumpterlaw07.SeglogNil', WHERE WHAT IT READS IS OF BULK AT MOST 1048576: true; the input reads as it did. -/
def seglogNilUptoRow : OpenClaim := { program := "ytpjggnfiocplmaa", sum := "b7f7d1ea6da2c34d5e2ab1480f88f20c7675dc02f3ccabe6c35e4f021e117fa5", func := "sumpter/sumpterlaw07.SeglogNil", spec := "seglogNil", inPlace := ["maps.clone"], unfollowed := true, recurses := true, apart := false, narrowed := true }
def SeglogNilUptoSaid : Prop := seglogNilUptoRow.holds Try.pinned (OpenSpec.upto seglogNilSpec)

end Rows
end Go.Proofs.Ytpjggnfiocplmaa
