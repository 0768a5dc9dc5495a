/-
  No cell of these rows narrows 'for every input' (looked for: loops, veiled, ifaces, maps, wideKeys, modest, calm, conditions, laid).
  DERIVED. THE GIVEN ROWS OF THIS SEAT. 12 by the template 'for every input the law returns true; each argument reads behind the call as it read before'; 0 by the template 'total and deterministic' (their statements: YtaofijjjheiknaaGreatTotals.lean).
  GIVEN WITH THE SEED: the statements are not yours to turn. If you find one false, say at which input.
  Laid BY PROGRAM, IN A SANDBOX (cutbox-rows.mjs): the forced cells as the released guide's own fill.sh prints them over the translation 256e3ccebbfd4ca3… (all of the seat's roots in one cut). By AI agents, Wed Nov 11 2026. No macro, syntax, notation, axiom, sorry.
-/
import Derived.Test.YtaofijjjheiknaaGreatChecked
import GoSem.Claim
import GoSem.ClaimJoined
import GoSem.ClaimMapViews
import Derived.JoinedTies
import Derived.KernelRfl
namespace Go.Proofs.YtaofijjjheiknaaGreat
/- THE CELL 'sum', in the pinned program and in every row, IS THE sha256 OF THE DUMP (.gsa) THAT YtaofijjjheiknaaGreatProg.lean LOADS. Nothing in Lean hashes anything: it is a label: what it is worth is what the hold of that sum in a sandbox is worth. -/
noncomputable def Tryz.pinned : Pinned := { name := "ytaofijjjheiknaagreat", sum := "256e3ccebbfd4ca35f46d56b19e105af46368e7cfb06f9905fcec15752f9f42d", checked := Tryz.checked }
namespace Rows
def none {H : Type} : Left H := { results := [], args := [] }

/-- 'abutmentlaw22.MeetTurns': WHATEVER THE INPUT: true; the input reads as it did. -/
def meetTurnsSpec : ChangeSpec := { name := "meetTurns", fn := fun _ => fun
  | [d] => { results := [.lit (.bool true)], args := [d] }
  | _ => none }
def meetTurnsRow : OpenClaim := { program := "ytaofijjjheiknaagreat", sum := "256e3ccebbfd4ca35f46d56b19e105af46368e7cfb06f9905fcec15752f9f42d", func := "abutment/abutmentlaw22.MeetTurns", spec := "meetTurns", inPlace := ["slices.overlaps[abutment/space.Extent]"], unfollowed := true, recurses := true, apart := false }
def MeetTurnsSaid : Prop := meetTurnsRow.holds Tryz.pinned (OpenSpec.ofChange meetTurnsSpec)

/-- ITS FALSE NEIGHBOUR: 'it returns false'. Refute it at one input. -/
def meetTurnsWrong : ChangeSpec := { name := "meetTurns", fn := fun _ => fun
  | [d] => { results := [.lit (.bool false)], args := [d] }
  | _ => none }
def MeetTurnsWrongFalsely : Prop := meetTurnsRow.holds Tryz.pinned (OpenSpec.ofChange meetTurnsWrong)

/-- 'abutmentlaw22.MeetRoom': WHATEVER THE INPUT: true; the input reads as it did. -/
def meetRoomSpec : ChangeSpec := { name := "meetRoom", fn := fun _ => fun
  | [d1, d2] => { results := [.lit (.bool true)], args := [d1, d2] }
  | _ => none }
def meetRoomRow : OpenClaim := { program := "ytaofijjjheiknaagreat", sum := "256e3ccebbfd4ca35f46d56b19e105af46368e7cfb06f9905fcec15752f9f42d", func := "abutment/abutmentlaw22.MeetRoom", spec := "meetRoom", inPlace := ["slices.overlaps[abutment/space.Extent]"], unfollowed := true, recurses := true, apart := false }
def MeetRoomSaid : Prop := meetRoomRow.holds Tryz.pinned (OpenSpec.ofChange meetRoomSpec)

/-- ITS FALSE NEIGHBOUR: 'it returns false'. Refute it at one input. -/
def meetRoomWrong : ChangeSpec := { name := "meetRoom", fn := fun _ => fun
  | [d1, d2] => { results := [.lit (.bool false)], args := [d1, d2] }
  | _ => none }
def MeetRoomWrongFalsely : Prop := meetRoomRow.holds Tryz.pinned (OpenSpec.ofChange meetRoomWrong)

/-- 'abutmentlaw22.MeetAbove': WHATEVER THE INPUT: true; the input reads as it did. -/
def meetAboveSpec : ChangeSpec := { name := "meetAbove", fn := fun _ => fun
  | [d1, d2] => { results := [.lit (.bool true)], args := [d1, d2] }
  | _ => none }
def meetAboveRow : OpenClaim := { program := "ytaofijjjheiknaagreat", sum := "256e3ccebbfd4ca35f46d56b19e105af46368e7cfb06f9905fcec15752f9f42d", func := "abutment/abutmentlaw22.MeetAbove", spec := "meetAbove", inPlace := ["slices.overlaps[abutment/space.Extent]"], unfollowed := true, recurses := true, apart := false }
def MeetAboveSaid : Prop := meetAboveRow.holds Tryz.pinned (OpenSpec.ofChange meetAboveSpec)

/-- ITS FALSE NEIGHBOUR: 'it returns false'. Refute it at one input. -/
def meetAboveWrong : ChangeSpec := { name := "meetAbove", fn := fun _ => fun
  | [d1, d2] => { results := [.lit (.bool false)], args := [d1, d2] }
  | _ => none }
def MeetAboveWrongFalsely : Prop := meetAboveRow.holds Tryz.pinned (OpenSpec.ofChange meetAboveWrong)

/-- 'abutmentlaw20.BiconDoubles': WHATEVER THE INPUT: true; the input reads as it did. -/
def biconDoublesSpec : ChangeSpec := { name := "biconDoubles", fn := fun _ => fun
  | [d1, d2] => { results := [.lit (.bool true)], args := [d1, d2] }
  | _ => none }
def biconDoublesRow : OpenClaim := { program := "ytaofijjjheiknaagreat", sum := "256e3ccebbfd4ca35f46d56b19e105af46368e7cfb06f9905fcec15752f9f42d", func := "abutment/abutmentlaw20.BiconDoubles", spec := "biconDoubles", inPlace := ["slices.overlaps[abutment/space.Extent]"], unfollowed := true, recurses := true, apart := false }
def BiconDoublesSaid : Prop := biconDoublesRow.holds Tryz.pinned (OpenSpec.ofChange biconDoublesSpec)

/-- ITS FALSE NEIGHBOUR: 'it returns false'. Refute it at one input. -/
def biconDoublesWrong : ChangeSpec := { name := "biconDoubles", fn := fun _ => fun
  | [d1, d2] => { results := [.lit (.bool false)], args := [d1, d2] }
  | _ => none }
def BiconDoublesWrongFalsely : Prop := biconDoublesRow.holds Tryz.pinned (OpenSpec.ofChange biconDoublesWrong)

/-- 'abutmentlaw20.BiconPath': WHATEVER THE INPUT: true; the input reads as it did. -/
def biconPathSpec : ChangeSpec := { name := "biconPath", fn := fun _ => fun
  | [d1, d2] => { results := [.lit (.bool true)], args := [d1, d2] }
  | _ => none }
def biconPathRow : OpenClaim := { program := "ytaofijjjheiknaagreat", sum := "256e3ccebbfd4ca35f46d56b19e105af46368e7cfb06f9905fcec15752f9f42d", func := "abutment/abutmentlaw20.BiconPath", spec := "biconPath", inPlace := ["slices.overlaps[abutment/space.Extent]"], unfollowed := true, recurses := true, apart := false }
def BiconPathSaid : Prop := biconPathRow.holds Tryz.pinned (OpenSpec.ofChange biconPathSpec)

/-- ITS FALSE NEIGHBOUR: 'it returns false'. Refute it at one input. -/
def biconPathWrong : ChangeSpec := { name := "biconPath", fn := fun _ => fun
  | [d1, d2] => { results := [.lit (.bool false)], args := [d1, d2] }
  | _ => none }
def BiconPathWrongFalsely : Prop := biconPathRow.holds Tryz.pinned (OpenSpec.ofChange biconPathWrong)

/-- 'abutmentlaw20.BiconApart': WHATEVER THE INPUT: true; the input reads as it did. -/
def biconApartSpec : ChangeSpec := { name := "biconApart", fn := fun _ => fun
  | [d1, d2] => { results := [.lit (.bool true)], args := [d1, d2] }
  | _ => none }
def biconApartRow : OpenClaim := { program := "ytaofijjjheiknaagreat", sum := "256e3ccebbfd4ca35f46d56b19e105af46368e7cfb06f9905fcec15752f9f42d", func := "abutment/abutmentlaw20.BiconApart", spec := "biconApart", inPlace := ["slices.overlaps[abutment/space.Extent]"], unfollowed := true, recurses := true, apart := false }
def BiconApartSaid : Prop := biconApartRow.holds Tryz.pinned (OpenSpec.ofChange biconApartSpec)

/-- ITS FALSE NEIGHBOUR: 'it returns false'. Refute it at one input. -/
def biconApartWrong : ChangeSpec := { name := "biconApart", fn := fun _ => fun
  | [d1, d2] => { results := [.lit (.bool false)], args := [d1, d2] }
  | _ => none }
def BiconApartWrongFalsely : Prop := biconApartRow.holds Tryz.pinned (OpenSpec.ofChange biconApartWrong)

/-- 'abutmentlaw22.MeetTells': WHATEVER THE INPUT: true; the input reads as it did. -/
def meetTellsSpec : ChangeSpec := { name := "meetTells", fn := fun _ => fun
  | [d1, d2, d3] => { results := [.lit (.bool true)], args := [d1, d2, d3] }
  | _ => none }
def meetTellsRow : OpenClaim := { program := "ytaofijjjheiknaagreat", sum := "256e3ccebbfd4ca35f46d56b19e105af46368e7cfb06f9905fcec15752f9f42d", func := "abutment/abutmentlaw22.MeetTells", spec := "meetTells", inPlace := ["slices.overlaps[abutment/space.Extent]"], unfollowed := true, recurses := true, apart := false }
def MeetTellsSaid : Prop := meetTellsRow.holds Tryz.pinned (OpenSpec.ofChange meetTellsSpec)

/-- ITS FALSE NEIGHBOUR: 'it returns false'. Refute it at one input. -/
def meetTellsWrong : ChangeSpec := { name := "meetTells", fn := fun _ => fun
  | [d1, d2, d3] => { results := [.lit (.bool false)], args := [d1, d2, d3] }
  | _ => none }
def MeetTellsWrongFalsely : Prop := meetTellsRow.holds Tryz.pinned (OpenSpec.ofChange meetTellsWrong)

/-- 'abutmentlaw22.MeetFaults': WHATEVER THE INPUT: true; the input reads as it did. -/
def meetFaultsSpec : ChangeSpec := { name := "meetFaults", fn := fun _ => fun
  | [d1, d2] => { results := [.lit (.bool true)], args := [d1, d2] }
  | _ => none }
def meetFaultsRow : OpenClaim := { program := "ytaofijjjheiknaagreat", sum := "256e3ccebbfd4ca35f46d56b19e105af46368e7cfb06f9905fcec15752f9f42d", func := "abutment/abutmentlaw22.MeetFaults", spec := "meetFaults", inPlace := ["slices.overlaps[abutment/space.Extent]"], unfollowed := true, recurses := true, apart := false }
def MeetFaultsSaid : Prop := meetFaultsRow.holds Tryz.pinned (OpenSpec.ofChange meetFaultsSpec)

/-- ITS FALSE NEIGHBOUR: 'it returns false'. Refute it at one input. -/
def meetFaultsWrong : ChangeSpec := { name := "meetFaults", fn := fun _ => fun
  | [d1, d2] => { results := [.lit (.bool false)], args := [d1, d2] }
  | _ => none }
def MeetFaultsWrongFalsely : Prop := meetFaultsRow.holds Tryz.pinned (OpenSpec.ofChange meetFaultsWrong)

/-- 'abutmentlaw20.BiconTells': WHATEVER THE INPUT: true; the input reads as it did. -/
def biconTellsSpec : ChangeSpec := { name := "biconTells", fn := fun _ => fun
  | [d1, d2] => { results := [.lit (.bool true)], args := [d1, d2] }
  | _ => none }
def biconTellsRow : OpenClaim := { program := "ytaofijjjheiknaagreat", sum := "256e3ccebbfd4ca35f46d56b19e105af46368e7cfb06f9905fcec15752f9f42d", func := "abutment/abutmentlaw20.BiconTells", spec := "biconTells", inPlace := ["slices.overlaps[abutment/space.Extent]"], unfollowed := true, recurses := true, apart := false }
def BiconTellsSaid : Prop := biconTellsRow.holds Tryz.pinned (OpenSpec.ofChange biconTellsSpec)

/-- ITS FALSE NEIGHBOUR: 'it returns false'. Refute it at one input. -/
def biconTellsWrong : ChangeSpec := { name := "biconTells", fn := fun _ => fun
  | [d1, d2] => { results := [.lit (.bool false)], args := [d1, d2] }
  | _ => none }
def BiconTellsWrongFalsely : Prop := biconTellsRow.holds Tryz.pinned (OpenSpec.ofChange biconTellsWrong)

/-- 'abutmentlaw20.BiconRoom': WHATEVER THE INPUT: true; the input reads as it did. -/
def biconRoomSpec : ChangeSpec := { name := "biconRoom", fn := fun _ => fun
  | [d1, d2] => { results := [.lit (.bool true)], args := [d1, d2] }
  | _ => none }
def biconRoomRow : OpenClaim := { program := "ytaofijjjheiknaagreat", sum := "256e3ccebbfd4ca35f46d56b19e105af46368e7cfb06f9905fcec15752f9f42d", func := "abutment/abutmentlaw20.BiconRoom", spec := "biconRoom", inPlace := ["slices.overlaps[abutment/space.Extent]"], unfollowed := true, recurses := true, apart := false }
def BiconRoomSaid : Prop := biconRoomRow.holds Tryz.pinned (OpenSpec.ofChange biconRoomSpec)

/-- ITS FALSE NEIGHBOUR: 'it returns false'. Refute it at one input. -/
def biconRoomWrong : ChangeSpec := { name := "biconRoom", fn := fun _ => fun
  | [d1, d2] => { results := [.lit (.bool false)], args := [d1, d2] }
  | _ => none }
def BiconRoomWrongFalsely : Prop := biconRoomRow.holds Tryz.pinned (OpenSpec.ofChange biconRoomWrong)

/-- 'abutmentlaw20.BiconBridges': WHATEVER THE INPUT: true; the input reads as it did. -/
def biconBridgesSpec : ChangeSpec := { name := "biconBridges", fn := fun _ => fun
  | [d] => { results := [.lit (.bool true)], args := [d] }
  | _ => none }
def biconBridgesRow : OpenClaim := { program := "ytaofijjjheiknaagreat", sum := "256e3ccebbfd4ca35f46d56b19e105af46368e7cfb06f9905fcec15752f9f42d", func := "abutment/abutmentlaw20.BiconBridges", spec := "biconBridges", inPlace := ["slices.overlaps[abutment/space.Extent]"], unfollowed := true, recurses := true, apart := false }
def BiconBridgesSaid : Prop := biconBridgesRow.holds Tryz.pinned (OpenSpec.ofChange biconBridgesSpec)

/-- ITS FALSE NEIGHBOUR: 'it returns false'. Refute it at one input. -/
def biconBridgesWrong : ChangeSpec := { name := "biconBridges", fn := fun _ => fun
  | [d] => { results := [.lit (.bool false)], args := [d] }
  | _ => none }
def BiconBridgesWrongFalsely : Prop := biconBridgesRow.holds Tryz.pinned (OpenSpec.ofChange biconBridgesWrong)

/-- 'abutmentlaw20.BiconFaults': WHATEVER THE INPUT: true; the input reads as it did. -/
def biconFaultsSpec : ChangeSpec := { name := "biconFaults", fn := fun _ => fun
  | [d1, d2] => { results := [.lit (.bool true)], args := [d1, d2] }
  | _ => none }
def biconFaultsRow : OpenClaim := { program := "ytaofijjjheiknaagreat", sum := "256e3ccebbfd4ca35f46d56b19e105af46368e7cfb06f9905fcec15752f9f42d", func := "abutment/abutmentlaw20.BiconFaults", spec := "biconFaults", inPlace := ["slices.overlaps[abutment/space.Extent]"], unfollowed := true, recurses := true, apart := false }
def BiconFaultsSaid : Prop := biconFaultsRow.holds Tryz.pinned (OpenSpec.ofChange biconFaultsSpec)

/-- ITS FALSE NEIGHBOUR: 'it returns false'. Refute it at one input. -/
def biconFaultsWrong : ChangeSpec := { name := "biconFaults", fn := fun _ => fun
  | [d1, d2] => { results := [.lit (.bool false)], args := [d1, d2] }
  | _ => none }
def BiconFaultsWrongFalsely : Prop := biconFaultsRow.holds Tryz.pinned (OpenSpec.ofChange biconFaultsWrong)

/- THE SECOND FORM. 'bulk': how many values and letters a reading holds, each counted each time it is reached (what is shared counts as often as it is met; a slice's spare places count too). A statement '..UptoSaid' is the law's where the arguments, and the package variables that the reading takes, are together of bulk at most 1048576: NARROWER than '..Said'. Prove '..Said' where nothing that the law and all that it calls make is longer than what came in: it says more and counts as full. Else prove '..UptoSaid'. A law counts once. -/
mutual
def uptoBulk {H : Type} : DataW H → Nat
  | .lit (.string bytes) => bytes.length + 1
  | .lit _ => 1
  | .nil => 1
  | .ptr d => uptoBulk d + 1
  | .slice elems spare => uptoBulkAll elems + uptoBulkAll spare + 1
  | .agg parts => uptoBulkAll parts + 1
  | .iface _ d => uptoBulk d + 1
  | .map entries => uptoBulkEntries entries + 1
  | .held _ => 1
def uptoBulkAll {H : Type} : List (DataW H) → Nat
  | [] => 0
  | d :: r => uptoBulk d + uptoBulkAll r
def uptoBulkEntries {H : Type} : List (Lit × DataW H) → Nat
  | [] => 0
  | x :: r => uptoBulkEntry x + uptoBulkEntries r
def uptoBulkEntry {H : Type} : Lit × DataW H → Nat
  | (.string bytes, d) => bytes.length + uptoBulk d + 1
  | (_, d) => uptoBulk d + 1
 end
def uptoSmall : (H : Type) → List (DataW H) → Bool := fun _ ds => decide (uptoBulkAll ds ≤ 1048576)
def OpenSpec.upto (s : _root_.Go.ChangeSpec) : _root_.Go.OpenSpec := { _root_.Go.OpenSpec.ofChange s with cond := some uptoSmall }

/-- 'abutmentlaw22.MeetTurns', WHERE WHAT IT READS IS OF BULK AT MOST 1048576: true; the input reads as it did. -/
def meetTurnsUptoRow : OpenClaim := { program := "ytaofijjjheiknaagreat", sum := "256e3ccebbfd4ca35f46d56b19e105af46368e7cfb06f9905fcec15752f9f42d", func := "abutment/abutmentlaw22.MeetTurns", spec := "meetTurns", inPlace := ["slices.overlaps[abutment/space.Extent]"], unfollowed := true, recurses := true, apart := false, narrowed := true }
def MeetTurnsUptoSaid : Prop := meetTurnsUptoRow.holds Tryz.pinned (OpenSpec.upto meetTurnsSpec)

/-- 'abutmentlaw22.MeetRoom', WHERE WHAT IT READS IS OF BULK AT MOST 1048576: true; the input reads as it did. -/
def meetRoomUptoRow : OpenClaim := { program := "ytaofijjjheiknaagreat", sum := "256e3ccebbfd4ca35f46d56b19e105af46368e7cfb06f9905fcec15752f9f42d", func := "abutment/abutmentlaw22.MeetRoom", spec := "meetRoom", inPlace := ["slices.overlaps[abutment/space.Extent]"], unfollowed := true, recurses := true, apart := false, narrowed := true }
def MeetRoomUptoSaid : Prop := meetRoomUptoRow.holds Tryz.pinned (OpenSpec.upto meetRoomSpec)

/-- 'abutmentlaw22.MeetAbove', WHERE WHAT IT READS IS OF BULK AT MOST 1048576: true; the input reads as it did. -/
def meetAboveUptoRow : OpenClaim := { program := "ytaofijjjheiknaagreat", sum := "256e3ccebbfd4ca35f46d56b19e105af46368e7cfb06f9905fcec15752f9f42d", func := "abutment/abutmentlaw22.MeetAbove", spec := "meetAbove", inPlace := ["slices.overlaps[abutment/space.Extent]"], unfollowed := true, recurses := true, apart := false, narrowed := true }
def MeetAboveUptoSaid : Prop := meetAboveUptoRow.holds Tryz.pinned (OpenSpec.upto meetAboveSpec)

/-- 'abutmentlaw20.BiconDoubles', WHERE WHAT IT READS IS OF BULK AT MOST 1048576: true; the input reads as it did. -/
def biconDoublesUptoRow : OpenClaim := { program := "ytaofijjjheiknaagreat", sum := "256e3ccebbfd4ca35f46d56b19e105af46368e7cfb06f9905fcec15752f9f42d", func := "abutment/abutmentlaw20.BiconDoubles", spec := "biconDoubles", inPlace := ["slices.overlaps[abutment/space.Extent]"], unfollowed := true, recurses := true, apart := false, narrowed := true }
def BiconDoublesUptoSaid : Prop := biconDoublesUptoRow.holds Tryz.pinned (OpenSpec.upto biconDoublesSpec)

/-- 'abutmentlaw20.BiconPath', WHERE WHAT IT READS IS OF BULK AT MOST 1048576: true; the input reads as it did. -/
def biconPathUptoRow : OpenClaim := { program := "ytaofijjjheiknaagreat", sum := "256e3ccebbfd4ca35f46d56b19e105af46368e7cfb06f9905fcec15752f9f42d", func := "abutment/abutmentlaw20.BiconPath", spec := "biconPath", inPlace := ["slices.overlaps[abutment/space.Extent]"], unfollowed := true, recurses := true, apart := false, narrowed := true }
def BiconPathUptoSaid : Prop := biconPathUptoRow.holds Tryz.pinned (OpenSpec.upto biconPathSpec)

/-- 'abutmentlaw20.BiconApart', WHERE WHAT IT READS IS OF BULK AT MOST 1048576: true; the input reads as it did. -/
def biconApartUptoRow : OpenClaim := { program := "ytaofijjjheiknaagreat", sum := "256e3ccebbfd4ca35f46d56b19e105af46368e7cfb06f9905fcec15752f9f42d", func := "abutment/abutmentlaw20.BiconApart", spec := "biconApart", inPlace := ["slices.overlaps[abutment/space.Extent]"], unfollowed := true, recurses := true, apart := false, narrowed := true }
def BiconApartUptoSaid : Prop := biconApartUptoRow.holds Tryz.pinned (OpenSpec.upto biconApartSpec)

/-- 'abutmentlaw22.MeetTells', WHERE WHAT IT READS IS OF BULK AT MOST 1048576: true; the input reads as it did. -/
def meetTellsUptoRow : OpenClaim := { program := "ytaofijjjheiknaagreat", sum := "256e3ccebbfd4ca35f46d56b19e105af46368e7cfb06f9905fcec15752f9f42d", func := "abutment/abutmentlaw22.MeetTells", spec := "meetTells", inPlace := ["slices.overlaps[abutment/space.Extent]"], unfollowed := true, recurses := true, apart := false, narrowed := true }
def MeetTellsUptoSaid : Prop := meetTellsUptoRow.holds Tryz.pinned (OpenSpec.upto meetTellsSpec)

/-- 'abutmentlaw22.MeetFaults', WHERE WHAT IT READS IS OF BULK AT MOST 1048576: true; the input reads as it did. -/
def meetFaultsUptoRow : OpenClaim := { program := "ytaofijjjheiknaagreat", sum := "256e3ccebbfd4ca35f46d56b19e105af46368e7cfb06f9905fcec15752f9f42d", func := "abutment/abutmentlaw22.MeetFaults", spec := "meetFaults", inPlace := ["slices.overlaps[abutment/space.Extent]"], unfollowed := true, recurses := true, apart := false, narrowed := true }
def MeetFaultsUptoSaid : Prop := meetFaultsUptoRow.holds Tryz.pinned (OpenSpec.upto meetFaultsSpec)

/-- 'abutmentlaw20.BiconTells', WHERE WHAT IT READS IS OF BULK AT MOST 1048576: true; the input reads as it did. -/
def biconTellsUptoRow : OpenClaim := { program := "ytaofijjjheiknaagreat", sum := "256e3ccebbfd4ca35f46d56b19e105af46368e7cfb06f9905fcec15752f9f42d", func := "abutment/abutmentlaw20.BiconTells", spec := "biconTells", inPlace := ["slices.overlaps[abutment/space.Extent]"], unfollowed := true, recurses := true, apart := false, narrowed := true }
def BiconTellsUptoSaid : Prop := biconTellsUptoRow.holds Tryz.pinned (OpenSpec.upto biconTellsSpec)

/-- 'abutmentlaw20.BiconRoom', WHERE WHAT IT READS IS OF BULK AT MOST 1048576: true; the input reads as it did. -/
def biconRoomUptoRow : OpenClaim := { program := "ytaofijjjheiknaagreat", sum := "256e3ccebbfd4ca35f46d56b19e105af46368e7cfb06f9905fcec15752f9f42d", func := "abutment/abutmentlaw20.BiconRoom", spec := "biconRoom", inPlace := ["slices.overlaps[abutment/space.Extent]"], unfollowed := true, recurses := true, apart := false, narrowed := true }
def BiconRoomUptoSaid : Prop := biconRoomUptoRow.holds Tryz.pinned (OpenSpec.upto biconRoomSpec)

/-- 'abutmentlaw20.BiconBridges', WHERE WHAT IT READS IS OF BULK AT MOST 1048576: true; the input reads as it did. -/
def biconBridgesUptoRow : OpenClaim := { program := "ytaofijjjheiknaagreat", sum := "256e3ccebbfd4ca35f46d56b19e105af46368e7cfb06f9905fcec15752f9f42d", func := "abutment/abutmentlaw20.BiconBridges", spec := "biconBridges", inPlace := ["slices.overlaps[abutment/space.Extent]"], unfollowed := true, recurses := true, apart := false, narrowed := true }
def BiconBridgesUptoSaid : Prop := biconBridgesUptoRow.holds Tryz.pinned (OpenSpec.upto biconBridgesSpec)

/-- 'abutmentlaw20.BiconFaults', WHERE WHAT IT READS IS OF BULK AT MOST 1048576: true; the input reads as it did. -/
def biconFaultsUptoRow : OpenClaim := { program := "ytaofijjjheiknaagreat", sum := "256e3ccebbfd4ca35f46d56b19e105af46368e7cfb06f9905fcec15752f9f42d", func := "abutment/abutmentlaw20.BiconFaults", spec := "biconFaults", inPlace := ["slices.overlaps[abutment/space.Extent]"], unfollowed := true, recurses := true, apart := false, narrowed := true }
def BiconFaultsUptoSaid : Prop := biconFaultsUptoRow.holds Tryz.pinned (OpenSpec.upto biconFaultsSpec)

end Rows
end Go.Proofs.YtaofijjjheiknaaGreat
