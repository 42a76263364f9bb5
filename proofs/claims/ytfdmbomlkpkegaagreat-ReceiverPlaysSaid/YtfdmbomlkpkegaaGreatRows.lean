/-
  No cell of these rows narrows 'for every input' (looked for: loops, veiled, ifaces, maps, wideKeys, modest, calm, conditions, laid).
  DERIVED. THE GIVEN ROWS OF THIS SEAT. 8 by the template 'for every input the law returns true; each argument reads behind the call as it read before'; 0 by the template 'total and deterministic' (their statements: YtfdmbomlkpkegaaGreatTotals.lean).
  GIVEN WITH THE SEED: the statements are not yours to turn. If you find one false, say at which input.
  Laid BY PROGRAM, IN A SANDBOX (cutbox-rows.mjs): the forced cells as the released guide's own fill.sh prints them over the translation 9cbddfaa63609bdc… (all of the seat's roots in one cut). By AI agents, Wed Nov 11 2026. No macro, syntax, notation, axiom, sorry.
-/
import Derived.Test.YtfdmbomlkpkegaaGreatChecked
import GoSem.Claim
import GoSem.ClaimJoined
import GoSem.ClaimMapViews
import Derived.JoinedTies
import Derived.KernelRfl
namespace Go.Proofs.YtfdmbomlkpkegaaGreat
/- THE CELL 'sum', in the pinned program and in every row, IS THE sha256 OF THE DUMP (.gsa) THAT YtfdmbomlkpkegaaGreatProg.lean LOADS. Nothing in Lean hashes anything: it is a label: what it is worth is what the hold of that sum in a sandbox is worth. -/
noncomputable def Tryz.pinned : Pinned := { name := "ytfdmbomlkpkegaagreat", sum := "9cbddfaa63609bdc64193a0a4d52b5a40f694d873d64f141b81bc7de566c4926", checked := Tryz.checked }
namespace Rows
def none {H : Type} : Left H := { results := [], args := [] }

/-- 'sumpterlaw16.LedgerOnce': WHATEVER THE INPUT: true; the input reads as it did. -/
def ledgerOnceSpec : ChangeSpec := { name := "ledgerOnce", fn := fun _ => fun
  | [d1, d2, d3] => { results := [.lit (.bool true)], args := [d1, d2, d3] }
  | _ => none }
def ledgerOnceRow : OpenClaim := { program := "ytfdmbomlkpkegaagreat", sum := "9cbddfaa63609bdc64193a0a4d52b5a40f694d873d64f141b81bc7de566c4926", func := "sumpter/sumpterlaw16.LedgerOnce", spec := "ledgerOnce", inPlace := ["maps.clone"], unfollowed := true, recurses := true, plainKeys := false, apart := false }
def LedgerOnceSaid : Prop := ledgerOnceRow.holds Tryz.pinned (OpenSpec.ofChange ledgerOnceSpec)

/-- ITS FALSE NEIGHBOUR: 'it returns false'. Refute it at one input. -/
def ledgerOnceWrong : ChangeSpec := { name := "ledgerOnce", fn := fun _ => fun
  | [d1, d2, d3] => { results := [.lit (.bool false)], args := [d1, d2, d3] }
  | _ => none }
def LedgerOnceWrongFalsely : Prop := ledgerOnceRow.holds Tryz.pinned (OpenSpec.ofChange ledgerOnceWrong)

/-- 'sumpterlaw16.LedgerPlays': WHATEVER THE INPUT: true; the input reads as it did. -/
def ledgerPlaysSpec : ChangeSpec := { name := "ledgerPlays", fn := fun _ => fun
  | [d1, d2, d3, d4] => { results := [.lit (.bool true)], args := [d1, d2, d3, d4] }
  | _ => none }
def ledgerPlaysRow : OpenClaim := { program := "ytfdmbomlkpkegaagreat", sum := "9cbddfaa63609bdc64193a0a4d52b5a40f694d873d64f141b81bc7de566c4926", func := "sumpter/sumpterlaw16.LedgerPlays", spec := "ledgerPlays", inPlace := ["maps.clone"], unfollowed := true, recurses := true, plainKeys := false, apart := false }
def LedgerPlaysSaid : Prop := ledgerPlaysRow.holds Tryz.pinned (OpenSpec.ofChange ledgerPlaysSpec)

/-- ITS FALSE NEIGHBOUR: 'it returns false'. Refute it at one input. -/
def ledgerPlaysWrong : ChangeSpec := { name := "ledgerPlays", fn := fun _ => fun
  | [d1, d2, d3, d4] => { results := [.lit (.bool false)], args := [d1, d2, d3, d4] }
  | _ => none }
def LedgerPlaysWrongFalsely : Prop := ledgerPlaysRow.holds Tryz.pinned (OpenSpec.ofChange ledgerPlaysWrong)

/-- 'sumpterlaw17.ReceiverNil': WHATEVER THE INPUT: true; the input reads as it did. -/
def receiverNilSpec : ChangeSpec := { name := "receiverNil", fn := fun _ => fun
  | [d1, d2] => { results := [.lit (.bool true)], args := [d1, d2] }
  | _ => none }
def receiverNilRow : OpenClaim := { program := "ytfdmbomlkpkegaagreat", sum := "9cbddfaa63609bdc64193a0a4d52b5a40f694d873d64f141b81bc7de566c4926", func := "sumpter/sumpterlaw17.ReceiverNil", spec := "receiverNil", inPlace := ["maps.clone"], unfollowed := true, recurses := true, plainKeys := false, apart := false }
def ReceiverNilSaid : Prop := receiverNilRow.holds Tryz.pinned (OpenSpec.ofChange receiverNilSpec)

/-- ITS FALSE NEIGHBOUR: 'it returns false'. Refute it at one input. -/
def receiverNilWrong : ChangeSpec := { name := "receiverNil", fn := fun _ => fun
  | [d1, d2] => { results := [.lit (.bool false)], args := [d1, d2] }
  | _ => none }
def ReceiverNilWrongFalsely : Prop := receiverNilRow.holds Tryz.pinned (OpenSpec.ofChange receiverNilWrong)

/-- 'sumpterlaw17.ReceiverTells': WHATEVER THE INPUT: true; the input reads as it did. -/
def receiverTellsSpec : ChangeSpec := { name := "receiverTells", fn := fun _ => fun
  | [d1, d2, d3] => { results := [.lit (.bool true)], args := [d1, d2, d3] }
  | _ => none }
def receiverTellsRow : OpenClaim := { program := "ytfdmbomlkpkegaagreat", sum := "9cbddfaa63609bdc64193a0a4d52b5a40f694d873d64f141b81bc7de566c4926", func := "sumpter/sumpterlaw17.ReceiverTells", spec := "receiverTells", inPlace := ["maps.clone"], unfollowed := true, recurses := true, plainKeys := false, apart := false }
def ReceiverTellsSaid : Prop := receiverTellsRow.holds Tryz.pinned (OpenSpec.ofChange receiverTellsSpec)

/-- ITS FALSE NEIGHBOUR: 'it returns false'. Refute it at one input. -/
def receiverTellsWrong : ChangeSpec := { name := "receiverTells", fn := fun _ => fun
  | [d1, d2, d3] => { results := [.lit (.bool false)], args := [d1, d2, d3] }
  | _ => none }
def ReceiverTellsWrongFalsely : Prop := receiverTellsRow.holds Tryz.pinned (OpenSpec.ofChange receiverTellsWrong)

/-- 'sumpterlaw17.ReceiverApart': WHATEVER THE INPUT: true; the input reads as it did. -/
def receiverApartSpec : ChangeSpec := { name := "receiverApart", fn := fun _ => fun
  | [d1, d2, d3, d4] => { results := [.lit (.bool true)], args := [d1, d2, d3, d4] }
  | _ => none }
def receiverApartRow : OpenClaim := { program := "ytfdmbomlkpkegaagreat", sum := "9cbddfaa63609bdc64193a0a4d52b5a40f694d873d64f141b81bc7de566c4926", func := "sumpter/sumpterlaw17.ReceiverApart", spec := "receiverApart", inPlace := ["maps.clone"], unfollowed := true, recurses := true, plainKeys := false, apart := false }
def ReceiverApartSaid : Prop := receiverApartRow.holds Tryz.pinned (OpenSpec.ofChange receiverApartSpec)

/-- ITS FALSE NEIGHBOUR: 'it returns false'. Refute it at one input. -/
def receiverApartWrong : ChangeSpec := { name := "receiverApart", fn := fun _ => fun
  | [d1, d2, d3, d4] => { results := [.lit (.bool false)], args := [d1, d2, d3, d4] }
  | _ => none }
def ReceiverApartWrongFalsely : Prop := receiverApartRow.holds Tryz.pinned (OpenSpec.ofChange receiverApartWrong)

/-- 'sumpterlaw17.ReceiverFloors': WHATEVER THE INPUT: true; the input reads as it did. -/
def receiverFloorsSpec : ChangeSpec := { name := "receiverFloors", fn := fun _ => fun
  | [d1, d2, d3] => { results := [.lit (.bool true)], args := [d1, d2, d3] }
  | _ => none }
def receiverFloorsRow : OpenClaim := { program := "ytfdmbomlkpkegaagreat", sum := "9cbddfaa63609bdc64193a0a4d52b5a40f694d873d64f141b81bc7de566c4926", func := "sumpter/sumpterlaw17.ReceiverFloors", spec := "receiverFloors", inPlace := ["maps.clone"], unfollowed := true, recurses := true, plainKeys := false, apart := false }
def ReceiverFloorsSaid : Prop := receiverFloorsRow.holds Tryz.pinned (OpenSpec.ofChange receiverFloorsSpec)

/-- ITS FALSE NEIGHBOUR: 'it returns false'. Refute it at one input. -/
def receiverFloorsWrong : ChangeSpec := { name := "receiverFloors", fn := fun _ => fun
  | [d1, d2, d3] => { results := [.lit (.bool false)], args := [d1, d2, d3] }
  | _ => none }
def ReceiverFloorsWrongFalsely : Prop := receiverFloorsRow.holds Tryz.pinned (OpenSpec.ofChange receiverFloorsWrong)

/-- 'sumpterlaw17.ReceiverAgain': WHATEVER THE INPUT: true; the input reads as it did. -/
def receiverAgainSpec : ChangeSpec := { name := "receiverAgain", fn := fun _ => fun
  | [d1, d2, d3] => { results := [.lit (.bool true)], args := [d1, d2, d3] }
  | _ => none }
def receiverAgainRow : OpenClaim := { program := "ytfdmbomlkpkegaagreat", sum := "9cbddfaa63609bdc64193a0a4d52b5a40f694d873d64f141b81bc7de566c4926", func := "sumpter/sumpterlaw17.ReceiverAgain", spec := "receiverAgain", inPlace := ["maps.clone"], unfollowed := true, recurses := true, plainKeys := false, apart := false }
def ReceiverAgainSaid : Prop := receiverAgainRow.holds Tryz.pinned (OpenSpec.ofChange receiverAgainSpec)

/-- ITS FALSE NEIGHBOUR: 'it returns false'. Refute it at one input. -/
def receiverAgainWrong : ChangeSpec := { name := "receiverAgain", fn := fun _ => fun
  | [d1, d2, d3] => { results := [.lit (.bool false)], args := [d1, d2, d3] }
  | _ => none }
def ReceiverAgainWrongFalsely : Prop := receiverAgainRow.holds Tryz.pinned (OpenSpec.ofChange receiverAgainWrong)

/-- 'sumpterlaw17.ReceiverPlays': WHATEVER THE INPUT: true; the input reads as it did. -/
def receiverPlaysSpec : ChangeSpec := { name := "receiverPlays", fn := fun _ => fun
  | [d1, d2, d3] => { results := [.lit (.bool true)], args := [d1, d2, d3] }
  | _ => none }
def receiverPlaysRow : OpenClaim := { program := "ytfdmbomlkpkegaagreat", sum := "9cbddfaa63609bdc64193a0a4d52b5a40f694d873d64f141b81bc7de566c4926", func := "sumpter/sumpterlaw17.ReceiverPlays", spec := "receiverPlays", inPlace := ["maps.clone"], unfollowed := true, recurses := true, plainKeys := false, apart := false }
def ReceiverPlaysSaid : Prop := receiverPlaysRow.holds Tryz.pinned (OpenSpec.ofChange receiverPlaysSpec)

/-- ITS FALSE NEIGHBOUR: 'it returns false'. Refute it at one input. -/
def receiverPlaysWrong : ChangeSpec := { name := "receiverPlays", fn := fun _ => fun
  | [d1, d2, d3] => { results := [.lit (.bool false)], args := [d1, d2, d3] }
  | _ => none }
def ReceiverPlaysWrongFalsely : Prop := receiverPlaysRow.holds Tryz.pinned (OpenSpec.ofChange receiverPlaysWrong)

/- THE SECOND FORM. 'bulk': how many values and letters a reading holds, each counted each time it is reached (what is shared counts as often as it is met; a slice's spare places count too). A statement '..UptoSaid' is the law's where the arguments, and the package variables that the reading takes, are together of bulk at most 1048576: NARROWER than '..Said'. Prove '..Said' where nothing that the law and all that it calls make is longer than what came in: it says more and counts as full. Else prove '..UptoSaid'. A law counts once. -/
mutual
def uptoBulk {H : Type} : DataW H → Nat
  | .lit (.string bytes) => bytes.length + 1
  | .lit _ => 1
  | .nil => 1
  | .ptr d => uptoBulk d + 1
  | .slice elems spare => uptoBulkAll elems + uptoBulkAll spare + 1
  | .agg parts => uptoBulkAll parts + 1
  | .iface _ d => uptoBulk d + 1
  | .map entries => uptoBulkEntries entries + 1
  | .held _ => 1
def uptoBulkAll {H : Type} : List (DataW H) → Nat
  | [] => 0
  | d :: r => uptoBulk d + uptoBulkAll r
def uptoBulkEntries {H : Type} : List (Lit × DataW H) → Nat
  | [] => 0
  | x :: r => uptoBulkEntry x + uptoBulkEntries r
def uptoBulkEntry {H : Type} : Lit × DataW H → Nat
  | (.string bytes, d) => bytes.length + uptoBulk d + 1
  | (_, d) => uptoBulk d + 1
 end
def uptoSmall : (H : Type) → List (DataW H) → Bool := fun _ ds => decide (uptoBulkAll ds ≤ 1048576)
def OpenSpec.upto (s : _root_.Go.ChangeSpec) : _root_.Go.OpenSpec := { _root_.Go.OpenSpec.ofChange s with cond := some uptoSmall }

/-- 'sumpterlaw16.LedgerOnce', WHERE WHAT IT READS IS OF BULK AT MOST 1048576: true; the input reads as it did. -/
def ledgerOnceUptoRow : OpenClaim := { program := "ytfdmbomlkpkegaagreat", sum := "9cbddfaa63609bdc64193a0a4d52b5a40f694d873d64f141b81bc7de566c4926", func := "sumpter/sumpterlaw16.LedgerOnce", spec := "ledgerOnce", inPlace := ["maps.clone"], unfollowed := true, recurses := true, plainKeys := false, apart := false, narrowed := true }
def LedgerOnceUptoSaid : Prop := ledgerOnceUptoRow.holds Tryz.pinned (OpenSpec.upto ledgerOnceSpec)

/-- 'sumpterlaw16.LedgerPlays', WHERE WHAT IT READS IS OF BULK AT MOST 1048576: true; the input reads as it did. -/
def ledgerPlaysUptoRow : OpenClaim := { program := "ytfdmbomlkpkegaagreat", sum := "9cbddfaa63609bdc64193a0a4d52b5a40f694d873d64f141b81bc7de566c4926", func := "sumpter/sumpterlaw16.LedgerPlays", spec := "ledgerPlays", inPlace := ["maps.clone"], unfollowed := true, recurses := true, plainKeys := false, apart := false, narrowed := true }
def LedgerPlaysUptoSaid : Prop := ledgerPlaysUptoRow.holds Tryz.pinned (OpenSpec.upto ledgerPlaysSpec)

/-- 'sumpterlaw17.ReceiverNil', WHERE WHAT IT READS IS OF BULK AT MOST 1048576: true; the input reads as it did. -/
def receiverNilUptoRow : OpenClaim := { program := "ytfdmbomlkpkegaagreat", sum := "9cbddfaa63609bdc64193a0a4d52b5a40f694d873d64f141b81bc7de566c4926", func := "sumpter/sumpterlaw17.ReceiverNil", spec := "receiverNil", inPlace := ["maps.clone"], unfollowed := true, recurses := true, plainKeys := false, apart := false, narrowed := true }
def ReceiverNilUptoSaid : Prop := receiverNilUptoRow.holds Tryz.pinned (OpenSpec.upto receiverNilSpec)

/-- 'sumpterlaw17.ReceiverTells', WHERE WHAT IT READS IS OF BULK AT MOST 1048576: true; the input reads as it did. -/
def receiverTellsUptoRow : OpenClaim := { program := "ytfdmbomlkpkegaagreat", sum := "9cbddfaa63609bdc64193a0a4d52b5a40f694d873d64f141b81bc7de566c4926", func := "sumpter/sumpterlaw17.ReceiverTells", spec := "receiverTells", inPlace := ["maps.clone"], unfollowed := true, recurses := true, plainKeys := false, apart := false, narrowed := true }
def ReceiverTellsUptoSaid : Prop := receiverTellsUptoRow.holds Tryz.pinned (OpenSpec.upto receiverTellsSpec)

/-- 'sumpterlaw17.ReceiverApart', WHERE WHAT IT READS IS OF BULK AT MOST 1048576: true; the input reads as it did. -/
def receiverApartUptoRow : OpenClaim := { program := "ytfdmbomlkpkegaagreat", sum := "9cbddfaa63609bdc64193a0a4d52b5a40f694d873d64f141b81bc7de566c4926", func := "sumpter/sumpterlaw17.ReceiverApart", spec := "receiverApart", inPlace := ["maps.clone"], unfollowed := true, recurses := true, plainKeys := false, apart := false, narrowed := true }
def ReceiverApartUptoSaid : Prop := receiverApartUptoRow.holds Tryz.pinned (OpenSpec.upto receiverApartSpec)

/-- 'sumpterlaw17.ReceiverFloors', WHERE WHAT IT READS IS OF BULK AT MOST 1048576: true; the input reads as it did. -/
def receiverFloorsUptoRow : OpenClaim := { program := "ytfdmbomlkpkegaagreat", sum := "9cbddfaa63609bdc64193a0a4d52b5a40f694d873d64f141b81bc7de566c4926", func := "sumpter/sumpterlaw17.ReceiverFloors", spec := "receiverFloors", inPlace := ["maps.clone"], unfollowed := true, recurses := true, plainKeys := false, apart := false, narrowed := true }
def ReceiverFloorsUptoSaid : Prop := receiverFloorsUptoRow.holds Tryz.pinned (OpenSpec.upto receiverFloorsSpec)

/-- 'sumpterlaw17.ReceiverAgain', WHERE WHAT IT READS IS OF BULK AT MOST 1048576: true; the input reads as it did. -/
def receiverAgainUptoRow : OpenClaim := { program := "ytfdmbomlkpkegaagreat", sum := "9cbddfaa63609bdc64193a0a4d52b5a40f694d873d64f141b81bc7de566c4926", func := "sumpter/sumpterlaw17.ReceiverAgain", spec := "receiverAgain", inPlace := ["maps.clone"], unfollowed := true, recurses := true, plainKeys := false, apart := false, narrowed := true }
def ReceiverAgainUptoSaid : Prop := receiverAgainUptoRow.holds Tryz.pinned (OpenSpec.upto receiverAgainSpec)

/-- 'sumpterlaw17.ReceiverPlays', WHERE WHAT IT READS IS OF BULK AT MOST 1048576: true; the input reads as it did. -/
def receiverPlaysUptoRow : OpenClaim := { program := "ytfdmbomlkpkegaagreat", sum := "9cbddfaa63609bdc64193a0a4d52b5a40f694d873d64f141b81bc7de566c4926", func := "sumpter/sumpterlaw17.ReceiverPlays", spec := "receiverPlays", inPlace := ["maps.clone"], unfollowed := true, recurses := true, plainKeys := false, apart := false, narrowed := true }
def ReceiverPlaysUptoSaid : Prop := receiverPlaysUptoRow.holds Tryz.pinned (OpenSpec.upto receiverPlaysSpec)

end Rows
end Go.Proofs.YtfdmbomlkpkegaaGreat
