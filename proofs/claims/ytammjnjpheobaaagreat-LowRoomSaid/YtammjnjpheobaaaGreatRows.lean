/-
  No cell of these rows narrows 'for every input' (looked for: loops, veiled, ifaces, maps, wideKeys, modest, calm, conditions, laid).
  DERIVED. THE GIVEN ROWS OF THIS SEAT. 10 by the template 'for every input the law returns true; each argument reads behind the call as it read before'; 0 by the template 'total and deterministic' (their statements: YtammjnjpheobaaaGreatTotals.lean).
  GIVEN WITH THE SEED: the statements are not yours to turn. If you find one false, say at which input.
  Laid BY PROGRAM, IN A SANDBOX (cutbox-rows.mjs): the forced cells as the released guide's own fill.sh prints them over the translation 37ac0589321565ab… (all of the seat's roots in one cut). By AI agents, Wed Nov 11 2026. No macro, syntax, notation, axiom, sorry.
-/
import Derived.Test.YtammjnjpheobaaaGreatChecked
import GoSem.Claim
import GoSem.ClaimJoined
import GoSem.ClaimMapViews
import Derived.JoinedTies
import Derived.KernelRfl
namespace Go.Proofs.YtammjnjpheobaaaGreat
/- THE CELL 'sum', in the pinned program and in every row, IS THE sha256 OF THE DUMP (.gsa) THAT YtammjnjpheobaaaGreatProg.lean LOADS. Nothing in Lean hashes anything: it is a label: what it is worth is what the hold of that sum in a sandbox is worth. -/
noncomputable def Tryz.pinned : Pinned := { name := "ytammjnjpheobaaagreat", sum := "37ac0589321565ab615beed292bcbaf8c87c7f4f1b237c5b2d21e7cd8d516d4a", checked := Tryz.checked }
namespace Rows
def none {H : Type} : Left H := { results := [], args := [] }

/-- 'abutmentlaw16.TourRoom': WHATEVER THE INPUT: true; the input reads as it did. -/
def tourRoomSpec : ChangeSpec := { name := "tourRoom", fn := fun _ => fun
  | [d1, d2] => { results := [.lit (.bool true)], args := [d1, d2] }
  | _ => none }
def tourRoomRow : OpenClaim := { program := "ytammjnjpheobaaagreat", sum := "37ac0589321565ab615beed292bcbaf8c87c7f4f1b237c5b2d21e7cd8d516d4a", func := "abutment/abutmentlaw16.TourRoom", spec := "tourRoom", inPlace := ["slices.overlaps[abutment/space.Extent]"], unfollowed := true, recurses := true, apart := false }
def TourRoomSaid : Prop := tourRoomRow.holds Tryz.pinned (OpenSpec.ofChange tourRoomSpec)

/-- ITS FALSE NEIGHBOUR: 'it returns false'. Refute it at one input. -/
def tourRoomWrong : ChangeSpec := { name := "tourRoom", fn := fun _ => fun
  | [d1, d2] => { results := [.lit (.bool false)], args := [d1, d2] }
  | _ => none }
def TourRoomWrongFalsely : Prop := tourRoomRow.holds Tryz.pinned (OpenSpec.ofChange tourRoomWrong)

/-- 'abutmentlaw16.TourWalks': WHATEVER THE INPUT: true; the input reads as it did. -/
def tourWalksSpec : ChangeSpec := { name := "tourWalks", fn := fun _ => fun
  | [d] => { results := [.lit (.bool true)], args := [d] }
  | _ => none }
def tourWalksRow : OpenClaim := { program := "ytammjnjpheobaaagreat", sum := "37ac0589321565ab615beed292bcbaf8c87c7f4f1b237c5b2d21e7cd8d516d4a", func := "abutment/abutmentlaw16.TourWalks", spec := "tourWalks", inPlace := ["slices.overlaps[abutment/space.Extent]"], unfollowed := true, recurses := true, apart := false }
def TourWalksSaid : Prop := tourWalksRow.holds Tryz.pinned (OpenSpec.ofChange tourWalksSpec)

/-- ITS FALSE NEIGHBOUR: 'it returns false'. Refute it at one input. -/
def tourWalksWrong : ChangeSpec := { name := "tourWalks", fn := fun _ => fun
  | [d] => { results := [.lit (.bool false)], args := [d] }
  | _ => none }
def TourWalksWrongFalsely : Prop := tourWalksRow.holds Tryz.pinned (OpenSpec.ofChange tourWalksWrong)

/-- 'abutmentlaw16.TourApart': WHATEVER THE INPUT: true; the input reads as it did. -/
def tourApartSpec : ChangeSpec := { name := "tourApart", fn := fun _ => fun
  | [d1, d2] => { results := [.lit (.bool true)], args := [d1, d2] }
  | _ => none }
def tourApartRow : OpenClaim := { program := "ytammjnjpheobaaagreat", sum := "37ac0589321565ab615beed292bcbaf8c87c7f4f1b237c5b2d21e7cd8d516d4a", func := "abutment/abutmentlaw16.TourApart", spec := "tourApart", inPlace := ["slices.overlaps[abutment/space.Extent]"], unfollowed := true, recurses := true, apart := false }
def TourApartSaid : Prop := tourApartRow.holds Tryz.pinned (OpenSpec.ofChange tourApartSpec)

/-- ITS FALSE NEIGHBOUR: 'it returns false'. Refute it at one input. -/
def tourApartWrong : ChangeSpec := { name := "tourApart", fn := fun _ => fun
  | [d1, d2] => { results := [.lit (.bool false)], args := [d1, d2] }
  | _ => none }
def TourApartWrongFalsely : Prop := tourApartRow.holds Tryz.pinned (OpenSpec.ofChange tourApartWrong)

/-- 'abutmentlaw16.TourFaults': WHATEVER THE INPUT: true; the input reads as it did. -/
def tourFaultsSpec : ChangeSpec := { name := "tourFaults", fn := fun _ => fun
  | [d1, d2] => { results := [.lit (.bool true)], args := [d1, d2] }
  | _ => none }
def tourFaultsRow : OpenClaim := { program := "ytammjnjpheobaaagreat", sum := "37ac0589321565ab615beed292bcbaf8c87c7f4f1b237c5b2d21e7cd8d516d4a", func := "abutment/abutmentlaw16.TourFaults", spec := "tourFaults", inPlace := ["slices.overlaps[abutment/space.Extent]"], unfollowed := true, recurses := true, apart := false }
def TourFaultsSaid : Prop := tourFaultsRow.holds Tryz.pinned (OpenSpec.ofChange tourFaultsSpec)

/-- ITS FALSE NEIGHBOUR: 'it returns false'. Refute it at one input. -/
def tourFaultsWrong : ChangeSpec := { name := "tourFaults", fn := fun _ => fun
  | [d1, d2] => { results := [.lit (.bool false)], args := [d1, d2] }
  | _ => none }
def TourFaultsWrongFalsely : Prop := tourFaultsRow.holds Tryz.pinned (OpenSpec.ofChange tourFaultsWrong)

/-- 'abutmentlaw19.LowRoom': WHATEVER THE INPUT: true; the input reads as it did. -/
def lowRoomSpec : ChangeSpec := { name := "lowRoom", fn := fun _ => fun
  | [d1, d2] => { results := [.lit (.bool true)], args := [d1, d2] }
  | _ => none }
def lowRoomRow : OpenClaim := { program := "ytammjnjpheobaaagreat", sum := "37ac0589321565ab615beed292bcbaf8c87c7f4f1b237c5b2d21e7cd8d516d4a", func := "abutment/abutmentlaw19.LowRoom", spec := "lowRoom", inPlace := ["slices.overlaps[abutment/space.Extent]"], unfollowed := true, recurses := true, apart := false }
def LowRoomSaid : Prop := lowRoomRow.holds Tryz.pinned (OpenSpec.ofChange lowRoomSpec)

/-- ITS FALSE NEIGHBOUR: 'it returns false'. Refute it at one input. -/
def lowRoomWrong : ChangeSpec := { name := "lowRoom", fn := fun _ => fun
  | [d1, d2] => { results := [.lit (.bool false)], args := [d1, d2] }
  | _ => none }
def LowRoomWrongFalsely : Prop := lowRoomRow.holds Tryz.pinned (OpenSpec.ofChange lowRoomWrong)

/-- 'abutmentlaw16.TourTells': WHATEVER THE INPUT: true; the input reads as it did. -/
def tourTellsSpec : ChangeSpec := { name := "tourTells", fn := fun _ => fun
  | [d1, d2] => { results := [.lit (.bool true)], args := [d1, d2] }
  | _ => none }
def tourTellsRow : OpenClaim := { program := "ytammjnjpheobaaagreat", sum := "37ac0589321565ab615beed292bcbaf8c87c7f4f1b237c5b2d21e7cd8d516d4a", func := "abutment/abutmentlaw16.TourTells", spec := "tourTells", inPlace := ["slices.overlaps[abutment/space.Extent]"], unfollowed := true, recurses := true, apart := false }
def TourTellsSaid : Prop := tourTellsRow.holds Tryz.pinned (OpenSpec.ofChange tourTellsSpec)

/-- ITS FALSE NEIGHBOUR: 'it returns false'. Refute it at one input. -/
def tourTellsWrong : ChangeSpec := { name := "tourTells", fn := fun _ => fun
  | [d1, d2] => { results := [.lit (.bool false)], args := [d1, d2] }
  | _ => none }
def TourTellsWrongFalsely : Prop := tourTellsRow.holds Tryz.pinned (OpenSpec.ofChange tourTellsWrong)

/-- 'abutmentlaw19.LowBounds': WHATEVER THE INPUT: true; the input reads as it did. -/
def lowBoundsSpec : ChangeSpec := { name := "lowBounds", fn := fun _ => fun
  | [d] => { results := [.lit (.bool true)], args := [d] }
  | _ => none }
def lowBoundsRow : OpenClaim := { program := "ytammjnjpheobaaagreat", sum := "37ac0589321565ab615beed292bcbaf8c87c7f4f1b237c5b2d21e7cd8d516d4a", func := "abutment/abutmentlaw19.LowBounds", spec := "lowBounds", inPlace := ["slices.overlaps[abutment/space.Extent]"], unfollowed := true, recurses := true, apart := false }
def LowBoundsSaid : Prop := lowBoundsRow.holds Tryz.pinned (OpenSpec.ofChange lowBoundsSpec)

/-- ITS FALSE NEIGHBOUR: 'it returns false'. Refute it at one input. -/
def lowBoundsWrong : ChangeSpec := { name := "lowBounds", fn := fun _ => fun
  | [d] => { results := [.lit (.bool false)], args := [d] }
  | _ => none }
def LowBoundsWrongFalsely : Prop := lowBoundsRow.holds Tryz.pinned (OpenSpec.ofChange lowBoundsWrong)

/-- 'abutmentlaw19.LowMore': WHATEVER THE INPUT: true; the input reads as it did. -/
def lowMoreSpec : ChangeSpec := { name := "lowMore", fn := fun _ => fun
  | [d1, d2, d3] => { results := [.lit (.bool true)], args := [d1, d2, d3] }
  | _ => none }
def lowMoreRow : OpenClaim := { program := "ytammjnjpheobaaagreat", sum := "37ac0589321565ab615beed292bcbaf8c87c7f4f1b237c5b2d21e7cd8d516d4a", func := "abutment/abutmentlaw19.LowMore", spec := "lowMore", inPlace := ["slices.overlaps[abutment/space.Extent]"], unfollowed := true, recurses := true, apart := false }
def LowMoreSaid : Prop := lowMoreRow.holds Tryz.pinned (OpenSpec.ofChange lowMoreSpec)

/-- ITS FALSE NEIGHBOUR: 'it returns false'. Refute it at one input. -/
def lowMoreWrong : ChangeSpec := { name := "lowMore", fn := fun _ => fun
  | [d1, d2, d3] => { results := [.lit (.bool false)], args := [d1, d2, d3] }
  | _ => none }
def LowMoreWrongFalsely : Prop := lowMoreRow.holds Tryz.pinned (OpenSpec.ofChange lowMoreWrong)

/-- 'abutmentlaw19.LowFaults': WHATEVER THE INPUT: true; the input reads as it did. -/
def lowFaultsSpec : ChangeSpec := { name := "lowFaults", fn := fun _ => fun
  | [d1, d2] => { results := [.lit (.bool true)], args := [d1, d2] }
  | _ => none }
def lowFaultsRow : OpenClaim := { program := "ytammjnjpheobaaagreat", sum := "37ac0589321565ab615beed292bcbaf8c87c7f4f1b237c5b2d21e7cd8d516d4a", func := "abutment/abutmentlaw19.LowFaults", spec := "lowFaults", inPlace := ["slices.overlaps[abutment/space.Extent]"], unfollowed := true, recurses := true, apart := false }
def LowFaultsSaid : Prop := lowFaultsRow.holds Tryz.pinned (OpenSpec.ofChange lowFaultsSpec)

/-- ITS FALSE NEIGHBOUR: 'it returns false'. Refute it at one input. -/
def lowFaultsWrong : ChangeSpec := { name := "lowFaults", fn := fun _ => fun
  | [d1, d2] => { results := [.lit (.bool false)], args := [d1, d2] }
  | _ => none }
def LowFaultsWrongFalsely : Prop := lowFaultsRow.holds Tryz.pinned (OpenSpec.ofChange lowFaultsWrong)

/-- 'abutmentlaw19.LowTells': WHATEVER THE INPUT: true; the input reads as it did. -/
def lowTellsSpec : ChangeSpec := { name := "lowTells", fn := fun _ => fun
  | [d1, d2] => { results := [.lit (.bool true)], args := [d1, d2] }
  | _ => none }
def lowTellsRow : OpenClaim := { program := "ytammjnjpheobaaagreat", sum := "37ac0589321565ab615beed292bcbaf8c87c7f4f1b237c5b2d21e7cd8d516d4a", func := "abutment/abutmentlaw19.LowTells", spec := "lowTells", inPlace := ["slices.overlaps[abutment/space.Extent]"], unfollowed := true, recurses := true, apart := false }
def LowTellsSaid : Prop := lowTellsRow.holds Tryz.pinned (OpenSpec.ofChange lowTellsSpec)

/-- ITS FALSE NEIGHBOUR: 'it returns false'. Refute it at one input. -/
def lowTellsWrong : ChangeSpec := { name := "lowTells", fn := fun _ => fun
  | [d1, d2] => { results := [.lit (.bool false)], args := [d1, d2] }
  | _ => none }
def LowTellsWrongFalsely : Prop := lowTellsRow.holds Tryz.pinned (OpenSpec.ofChange lowTellsWrong)

/- THE SECOND FORM. 'bulk': how many values and letters a reading holds, each counted each time it is reached (what is shared counts as often as it is met; a slice's spare places count too). A statement '..UptoSaid' is the law's where the arguments, and the package variables that the reading takes, are together of bulk at most 1048576: NARROWER than '..Said'. Prove '..Said' where nothing that the law and all that it calls make is longer than what came in: it says more and counts as full. Else prove '..UptoSaid'. A law counts once. -/
mutual
def uptoBulk {H : Type} : DataW H → Nat
  | .lit (.string bytes) => bytes.length + 1
  | .lit _ => 1
  | .nil => 1
  | .ptr d => uptoBulk d + 1
  | .slice elems spare => uptoBulkAll elems + uptoBulkAll spare + 1
  | .agg parts => uptoBulkAll parts + 1
  | .iface _ d => uptoBulk d + 1
  | .map entries => uptoBulkEntries entries + 1
  | .held _ => 1
def uptoBulkAll {H : Type} : List (DataW H) → Nat
  | [] => 0
  | d :: r => uptoBulk d + uptoBulkAll r
def uptoBulkEntries {H : Type} : List (Lit × DataW H) → Nat
  | [] => 0
  | x :: r => uptoBulkEntry x + uptoBulkEntries r
def uptoBulkEntry {H : Type} : Lit × DataW H → Nat
  | (.string bytes, d) => bytes.length + uptoBulk d + 1
  | (_, d) => uptoBulk d + 1
 end
def uptoSmall : (H : Type) → List (DataW H) → Bool := fun _ ds => decide (uptoBulkAll ds ≤ 1048576)
def OpenSpec.upto (s : _root_.Go.ChangeSpec) : _root_.Go.OpenSpec := { _root_.Go.OpenSpec.ofChange s with cond := some uptoSmall }

/-- 'abutmentlaw16.TourRoom', WHERE WHAT IT READS IS OF BULK AT MOST 1048576: true; the input reads as it did. -/
def tourRoomUptoRow : OpenClaim := { program := "ytammjnjpheobaaagreat", sum := "37ac0589321565ab615beed292bcbaf8c87c7f4f1b237c5b2d21e7cd8d516d4a", func := "abutment/abutmentlaw16.TourRoom", spec := "tourRoom", inPlace := ["slices.overlaps[abutment/space.Extent]"], unfollowed := true, recurses := true, apart := false, narrowed := true }
def TourRoomUptoSaid : Prop := tourRoomUptoRow.holds Tryz.pinned (OpenSpec.upto tourRoomSpec)

/-- 'abutmentlaw16.TourWalks', WHERE WHAT IT READS IS OF BULK AT MOST 1048576: true; the input reads as it did. -/
def tourWalksUptoRow : OpenClaim := { program := "ytammjnjpheobaaagreat", sum := "37ac0589321565ab615beed292bcbaf8c87c7f4f1b237c5b2d21e7cd8d516d4a", func := "abutment/abutmentlaw16.TourWalks", spec := "tourWalks", inPlace := ["slices.overlaps[abutment/space.Extent]"], unfollowed := true, recurses := true, apart := false, narrowed := true }
def TourWalksUptoSaid : Prop := tourWalksUptoRow.holds Tryz.pinned (OpenSpec.upto tourWalksSpec)

/-- 'abutmentlaw16.TourApart', WHERE WHAT IT READS IS OF BULK AT MOST 1048576: true; the input reads as it did. -/
def tourApartUptoRow : OpenClaim := { program := "ytammjnjpheobaaagreat", sum := "37ac0589321565ab615beed292bcbaf8c87c7f4f1b237c5b2d21e7cd8d516d4a", func := "abutment/abutmentlaw16.TourApart", spec := "tourApart", inPlace := ["slices.overlaps[abutment/space.Extent]"], unfollowed := true, recurses := true, apart := false, narrowed := true }
def TourApartUptoSaid : Prop := tourApartUptoRow.holds Tryz.pinned (OpenSpec.upto tourApartSpec)

/-- 'abutmentlaw16.TourFaults', WHERE WHAT IT READS IS OF BULK AT MOST 1048576: true; the input reads as it did. -/
def tourFaultsUptoRow : OpenClaim := { program := "ytammjnjpheobaaagreat", sum := "37ac0589321565ab615beed292bcbaf8c87c7f4f1b237c5b2d21e7cd8d516d4a", func := "abutment/abutmentlaw16.TourFaults", spec := "tourFaults", inPlace := ["slices.overlaps[abutment/space.Extent]"], unfollowed := true, recurses := true, apart := false, narrowed := true }
def TourFaultsUptoSaid : Prop := tourFaultsUptoRow.holds Tryz.pinned (OpenSpec.upto tourFaultsSpec)

/-- 'abutmentlaw19.LowRoom', WHERE WHAT IT READS IS OF BULK AT MOST 1048576: true; the input reads as it did. -/
def lowRoomUptoRow : OpenClaim := { program := "ytammjnjpheobaaagreat", sum := "37ac0589321565ab615beed292bcbaf8c87c7f4f1b237c5b2d21e7cd8d516d4a", func := "abutment/abutmentlaw19.LowRoom", spec := "lowRoom", inPlace := ["slices.overlaps[abutment/space.Extent]"], unfollowed := true, recurses := true, apart := false, narrowed := true }
def LowRoomUptoSaid : Prop := lowRoomUptoRow.holds Tryz.pinned (OpenSpec.upto lowRoomSpec)

/-- 'abutmentlaw16.TourTells', WHERE WHAT IT READS IS OF BULK AT MOST 1048576: true; the input reads as it did. -/
def tourTellsUptoRow : OpenClaim := { program := "ytammjnjpheobaaagreat", sum := "37ac0589321565ab615beed292bcbaf8c87c7f4f1b237c5b2d21e7cd8d516d4a", func := "abutment/abutmentlaw16.TourTells", spec := "tourTells", inPlace := ["slices.overlaps[abutment/space.Extent]"], unfollowed := true, recurses := true, apart := false, narrowed := true }
def TourTellsUptoSaid : Prop := tourTellsUptoRow.holds Tryz.pinned (OpenSpec.upto tourTellsSpec)

/-- 'abutmentlaw19.LowBounds', WHERE WHAT IT READS IS OF BULK AT MOST 1048576: true; the input reads as it did. -/
def lowBoundsUptoRow : OpenClaim := { program := "ytammjnjpheobaaagreat", sum := "37ac0589321565ab615beed292bcbaf8c87c7f4f1b237c5b2d21e7cd8d516d4a", func := "abutment/abutmentlaw19.LowBounds", spec := "lowBounds", inPlace := ["slices.overlaps[abutment/space.Extent]"], unfollowed := true, recurses := true, apart := false, narrowed := true }
def LowBoundsUptoSaid : Prop := lowBoundsUptoRow.holds Tryz.pinned (OpenSpec.upto lowBoundsSpec)

/-- 'abutmentlaw19.LowMore', WHERE WHAT IT READS IS OF BULK AT MOST 1048576: true; the input reads as it did. -/
def lowMoreUptoRow : OpenClaim := { program := "ytammjnjpheobaaagreat", sum := "37ac0589321565ab615beed292bcbaf8c87c7f4f1b237c5b2d21e7cd8d516d4a", func := "abutment/abutmentlaw19.LowMore", spec := "lowMore", inPlace := ["slices.overlaps[abutment/space.Extent]"], unfollowed := true, recurses := true, apart := false, narrowed := true }
def LowMoreUptoSaid : Prop := lowMoreUptoRow.holds Tryz.pinned (OpenSpec.upto lowMoreSpec)

/-- 'abutmentlaw19.LowFaults', WHERE WHAT IT READS IS OF BULK AT MOST 1048576: true; the input reads as it did. -/
def lowFaultsUptoRow : OpenClaim := { program := "ytammjnjpheobaaagreat", sum := "37ac0589321565ab615beed292bcbaf8c87c7f4f1b237c5b2d21e7cd8d516d4a", func := "abutment/abutmentlaw19.LowFaults", spec := "lowFaults", inPlace := ["slices.overlaps[abutment/space.Extent]"], unfollowed := true, recurses := true, apart := false, narrowed := true }
def LowFaultsUptoSaid : Prop := lowFaultsUptoRow.holds Tryz.pinned (OpenSpec.upto lowFaultsSpec)

/-- 'abutmentlaw19.LowTells', WHERE WHAT IT READS IS OF BULK AT MOST 1048576: true; the input reads as it did. -/
def lowTellsUptoRow : OpenClaim := { program := "ytammjnjpheobaaagreat", sum := "37ac0589321565ab615beed292bcbaf8c87c7f4f1b237c5b2d21e7cd8d516d4a", func := "abutment/abutmentlaw19.LowTells", spec := "lowTells", inPlace := ["slices.overlaps[abutment/space.Extent]"], unfollowed := true, recurses := true, apart := false, narrowed := true }
def LowTellsUptoSaid : Prop := lowTellsUptoRow.holds Tryz.pinned (OpenSpec.upto lowTellsSpec)

end Rows
end Go.Proofs.YtammjnjpheobaaaGreat
