/-
  No cell of these rows narrows 'for every input' (looked for: loops, veiled, ifaces, maps, wideKeys, modest, calm, conditions, laid).
  DERIVED. THE GIVEN ROWS OF THIS SEAT. 11 by the template 'for every input the law returns true; each argument reads behind the call as it read before'; 0 by the template 'total and deterministic' (their statements: YtpckicjfigmjkaaGreatTotals.lean).
  GIVEN WITH THE SEED: the statements are not yours to turn. If you find one false, say at which input.
  Laid BY PROGRAM, IN A SANDBOX (cutbox-rows.mjs): the forced cells as the released guide's own fill.sh prints them over the translation 27fba60bcea8c7e7… (all of the seat's roots in one cut). By AI agents, Wed Nov 11 2026. No macro, syntax, notation, axiom, sorry.
-/
import Derived.Test.YtpckicjfigmjkaaGreatChecked
import GoSem.Claim
import GoSem.ClaimJoined
import GoSem.ClaimMapViews
import Derived.JoinedTies
import Derived.KernelRfl
namespace Go.Proofs.YtpckicjfigmjkaaGreat
/- THE CELL 'sum', in the pinned program and in every row, IS THE sha256 OF THE DUMP (.gsa) THAT YtpckicjfigmjkaaGreatProg.lean LOADS. Nothing in Lean hashes anything: it is a label: what it is worth is what the hold of that sum in a sandbox is worth. -/
noncomputable def Tryz.pinned : Pinned := { name := "ytpckicjfigmjkaagreat", sum := "27fba60bcea8c7e784d0815c3362746ee2cad82f33b3264024064f8a868df28c", checked := Tryz.checked }
namespace Rows
def none {H : Type} : Left H := { results := [], args := [] }

/-- 'abutmentlaw15.CompRoom': WHATEVER THE INPUT: true; the input reads as it did. -/
def compRoomSpec : ChangeSpec := { name := "compRoom", fn := fun _ => fun
  | [d1, d2, d3] => { results := [.lit (.bool true)], args := [d1, d2, d3] }
  | _ => none }
def compRoomRow : OpenClaim := { program := "ytpckicjfigmjkaagreat", sum := "27fba60bcea8c7e784d0815c3362746ee2cad82f33b3264024064f8a868df28c", func := "abutment/abutmentlaw15.CompRoom", spec := "compRoom", inPlace := ["slices.overlaps[abutment/space.Extent]"], unfollowed := true, recurses := true, apart := false }
def CompRoomSaid : Prop := compRoomRow.holds Tryz.pinned (OpenSpec.ofChange compRoomSpec)

/-- ITS FALSE NEIGHBOUR: 'it returns false'. Refute it at one input. -/
def compRoomWrong : ChangeSpec := { name := "compRoom", fn := fun _ => fun
  | [d1, d2, d3] => { results := [.lit (.bool false)], args := [d1, d2, d3] }
  | _ => none }
def CompRoomWrongFalsely : Prop := compRoomRow.holds Tryz.pinned (OpenSpec.ofChange compRoomWrong)

/-- 'abutmentlaw16.TourRoom': WHATEVER THE INPUT: true; the input reads as it did. -/
def tourRoomSpec : ChangeSpec := { name := "tourRoom", fn := fun _ => fun
  | [d1, d2] => { results := [.lit (.bool true)], args := [d1, d2] }
  | _ => none }
def tourRoomRow : OpenClaim := { program := "ytpckicjfigmjkaagreat", sum := "27fba60bcea8c7e784d0815c3362746ee2cad82f33b3264024064f8a868df28c", func := "abutment/abutmentlaw16.TourRoom", spec := "tourRoom", inPlace := ["slices.overlaps[abutment/space.Extent]"], unfollowed := true, recurses := true, apart := false }
def TourRoomSaid : Prop := tourRoomRow.holds Tryz.pinned (OpenSpec.ofChange tourRoomSpec)

/-- ITS FALSE NEIGHBOUR: 'it returns false'. Refute it at one input. -/
def tourRoomWrong : ChangeSpec := { name := "tourRoom", fn := fun _ => fun
  | [d1, d2] => { results := [.lit (.bool false)], args := [d1, d2] }
  | _ => none }
def TourRoomWrongFalsely : Prop := tourRoomRow.holds Tryz.pinned (OpenSpec.ofChange tourRoomWrong)

/-- 'abutmentlaw15.CompForest': WHATEVER THE INPUT: true; the input reads as it did. -/
def compForestSpec : ChangeSpec := { name := "compForest", fn := fun _ => fun
  | [d] => { results := [.lit (.bool true)], args := [d] }
  | _ => none }
def compForestRow : OpenClaim := { program := "ytpckicjfigmjkaagreat", sum := "27fba60bcea8c7e784d0815c3362746ee2cad82f33b3264024064f8a868df28c", func := "abutment/abutmentlaw15.CompForest", spec := "compForest", inPlace := ["slices.overlaps[abutment/space.Extent]"], unfollowed := true, recurses := true, apart := false }
def CompForestSaid : Prop := compForestRow.holds Tryz.pinned (OpenSpec.ofChange compForestSpec)

/-- ITS FALSE NEIGHBOUR: 'it returns false'. Refute it at one input. -/
def compForestWrong : ChangeSpec := { name := "compForest", fn := fun _ => fun
  | [d] => { results := [.lit (.bool false)], args := [d] }
  | _ => none }
def CompForestWrongFalsely : Prop := compForestRow.holds Tryz.pinned (OpenSpec.ofChange compForestWrong)

/-- 'abutmentlaw15.CompOrder': WHATEVER THE INPUT: true; the input reads as it did. -/
def compOrderSpec : ChangeSpec := { name := "compOrder", fn := fun _ => fun
  | [d1, d2] => { results := [.lit (.bool true)], args := [d1, d2] }
  | _ => none }
def compOrderRow : OpenClaim := { program := "ytpckicjfigmjkaagreat", sum := "27fba60bcea8c7e784d0815c3362746ee2cad82f33b3264024064f8a868df28c", func := "abutment/abutmentlaw15.CompOrder", spec := "compOrder", inPlace := ["slices.overlaps[abutment/space.Extent]"], unfollowed := true, recurses := true, apart := false }
def CompOrderSaid : Prop := compOrderRow.holds Tryz.pinned (OpenSpec.ofChange compOrderSpec)

/-- ITS FALSE NEIGHBOUR: 'it returns false'. Refute it at one input. -/
def compOrderWrong : ChangeSpec := { name := "compOrder", fn := fun _ => fun
  | [d1, d2] => { results := [.lit (.bool false)], args := [d1, d2] }
  | _ => none }
def CompOrderWrongFalsely : Prop := compOrderRow.holds Tryz.pinned (OpenSpec.ofChange compOrderWrong)

/-- 'abutmentlaw15.CompMore': WHATEVER THE INPUT: true; the input reads as it did. -/
def compMoreSpec : ChangeSpec := { name := "compMore", fn := fun _ => fun
  | [d1, d2, d3] => { results := [.lit (.bool true)], args := [d1, d2, d3] }
  | _ => none }
def compMoreRow : OpenClaim := { program := "ytpckicjfigmjkaagreat", sum := "27fba60bcea8c7e784d0815c3362746ee2cad82f33b3264024064f8a868df28c", func := "abutment/abutmentlaw15.CompMore", spec := "compMore", inPlace := ["slices.overlaps[abutment/space.Extent]"], unfollowed := true, recurses := true, apart := false }
def CompMoreSaid : Prop := compMoreRow.holds Tryz.pinned (OpenSpec.ofChange compMoreSpec)

/-- ITS FALSE NEIGHBOUR: 'it returns false'. Refute it at one input. -/
def compMoreWrong : ChangeSpec := { name := "compMore", fn := fun _ => fun
  | [d1, d2, d3] => { results := [.lit (.bool false)], args := [d1, d2, d3] }
  | _ => none }
def CompMoreWrongFalsely : Prop := compMoreRow.holds Tryz.pinned (OpenSpec.ofChange compMoreWrong)

/-- 'abutmentlaw16.TourWalks': WHATEVER THE INPUT: true; the input reads as it did. -/
def tourWalksSpec : ChangeSpec := { name := "tourWalks", fn := fun _ => fun
  | [d] => { results := [.lit (.bool true)], args := [d] }
  | _ => none }
def tourWalksRow : OpenClaim := { program := "ytpckicjfigmjkaagreat", sum := "27fba60bcea8c7e784d0815c3362746ee2cad82f33b3264024064f8a868df28c", func := "abutment/abutmentlaw16.TourWalks", spec := "tourWalks", inPlace := ["slices.overlaps[abutment/space.Extent]"], unfollowed := true, recurses := true, apart := false }
def TourWalksSaid : Prop := tourWalksRow.holds Tryz.pinned (OpenSpec.ofChange tourWalksSpec)

/-- ITS FALSE NEIGHBOUR: 'it returns false'. Refute it at one input. -/
def tourWalksWrong : ChangeSpec := { name := "tourWalks", fn := fun _ => fun
  | [d] => { results := [.lit (.bool false)], args := [d] }
  | _ => none }
def TourWalksWrongFalsely : Prop := tourWalksRow.holds Tryz.pinned (OpenSpec.ofChange tourWalksWrong)

/-- 'abutmentlaw16.TourApart': WHATEVER THE INPUT: true; the input reads as it did. -/
def tourApartSpec : ChangeSpec := { name := "tourApart", fn := fun _ => fun
  | [d1, d2] => { results := [.lit (.bool true)], args := [d1, d2] }
  | _ => none }
def tourApartRow : OpenClaim := { program := "ytpckicjfigmjkaagreat", sum := "27fba60bcea8c7e784d0815c3362746ee2cad82f33b3264024064f8a868df28c", func := "abutment/abutmentlaw16.TourApart", spec := "tourApart", inPlace := ["slices.overlaps[abutment/space.Extent]"], unfollowed := true, recurses := true, apart := false }
def TourApartSaid : Prop := tourApartRow.holds Tryz.pinned (OpenSpec.ofChange tourApartSpec)

/-- ITS FALSE NEIGHBOUR: 'it returns false'. Refute it at one input. -/
def tourApartWrong : ChangeSpec := { name := "tourApart", fn := fun _ => fun
  | [d1, d2] => { results := [.lit (.bool false)], args := [d1, d2] }
  | _ => none }
def TourApartWrongFalsely : Prop := tourApartRow.holds Tryz.pinned (OpenSpec.ofChange tourApartWrong)

/-- 'abutmentlaw15.CompTells': WHATEVER THE INPUT: true; the input reads as it did. -/
def compTellsSpec : ChangeSpec := { name := "compTells", fn := fun _ => fun
  | [d1, d2, d3] => { results := [.lit (.bool true)], args := [d1, d2, d3] }
  | _ => none }
def compTellsRow : OpenClaim := { program := "ytpckicjfigmjkaagreat", sum := "27fba60bcea8c7e784d0815c3362746ee2cad82f33b3264024064f8a868df28c", func := "abutment/abutmentlaw15.CompTells", spec := "compTells", inPlace := ["slices.overlaps[abutment/space.Extent]"], unfollowed := true, recurses := true, apart := false }
def CompTellsSaid : Prop := compTellsRow.holds Tryz.pinned (OpenSpec.ofChange compTellsSpec)

/-- ITS FALSE NEIGHBOUR: 'it returns false'. Refute it at one input. -/
def compTellsWrong : ChangeSpec := { name := "compTells", fn := fun _ => fun
  | [d1, d2, d3] => { results := [.lit (.bool false)], args := [d1, d2, d3] }
  | _ => none }
def CompTellsWrongFalsely : Prop := compTellsRow.holds Tryz.pinned (OpenSpec.ofChange compTellsWrong)

/-- 'abutmentlaw16.TourFaults': WHATEVER THE INPUT: true; the input reads as it did. -/
def tourFaultsSpec : ChangeSpec := { name := "tourFaults", fn := fun _ => fun
  | [d1, d2] => { results := [.lit (.bool true)], args := [d1, d2] }
  | _ => none }
def tourFaultsRow : OpenClaim := { program := "ytpckicjfigmjkaagreat", sum := "27fba60bcea8c7e784d0815c3362746ee2cad82f33b3264024064f8a868df28c", func := "abutment/abutmentlaw16.TourFaults", spec := "tourFaults", inPlace := ["slices.overlaps[abutment/space.Extent]"], unfollowed := true, recurses := true, apart := false }
def TourFaultsSaid : Prop := tourFaultsRow.holds Tryz.pinned (OpenSpec.ofChange tourFaultsSpec)

/-- ITS FALSE NEIGHBOUR: 'it returns false'. Refute it at one input. -/
def tourFaultsWrong : ChangeSpec := { name := "tourFaults", fn := fun _ => fun
  | [d1, d2] => { results := [.lit (.bool false)], args := [d1, d2] }
  | _ => none }
def TourFaultsWrongFalsely : Prop := tourFaultsRow.holds Tryz.pinned (OpenSpec.ofChange tourFaultsWrong)

/-- 'abutmentlaw15.CompFaults': WHATEVER THE INPUT: true; the input reads as it did. -/
def compFaultsSpec : ChangeSpec := { name := "compFaults", fn := fun _ => fun
  | [d1, d2] => { results := [.lit (.bool true)], args := [d1, d2] }
  | _ => none }
def compFaultsRow : OpenClaim := { program := "ytpckicjfigmjkaagreat", sum := "27fba60bcea8c7e784d0815c3362746ee2cad82f33b3264024064f8a868df28c", func := "abutment/abutmentlaw15.CompFaults", spec := "compFaults", inPlace := ["slices.overlaps[abutment/space.Extent]"], unfollowed := true, recurses := true, apart := false }
def CompFaultsSaid : Prop := compFaultsRow.holds Tryz.pinned (OpenSpec.ofChange compFaultsSpec)

/-- ITS FALSE NEIGHBOUR: 'it returns false'. Refute it at one input. -/
def compFaultsWrong : ChangeSpec := { name := "compFaults", fn := fun _ => fun
  | [d1, d2] => { results := [.lit (.bool false)], args := [d1, d2] }
  | _ => none }
def CompFaultsWrongFalsely : Prop := compFaultsRow.holds Tryz.pinned (OpenSpec.ofChange compFaultsWrong)

/-- 'abutmentlaw16.TourTells': WHATEVER THE INPUT: true; the input reads as it did. -/
def tourTellsSpec : ChangeSpec := { name := "tourTells", fn := fun _ => fun
  | [d1, d2] => { results := [.lit (.bool true)], args := [d1, d2] }
  | _ => none }
def tourTellsRow : OpenClaim := { program := "ytpckicjfigmjkaagreat", sum := "27fba60bcea8c7e784d0815c3362746ee2cad82f33b3264024064f8a868df28c", func := "abutment/abutmentlaw16.TourTells", spec := "tourTells", inPlace := ["slices.overlaps[abutment/space.Extent]"], unfollowed := true, recurses := true, apart := false }
def TourTellsSaid : Prop := tourTellsRow.holds Tryz.pinned (OpenSpec.ofChange tourTellsSpec)

/-- ITS FALSE NEIGHBOUR: 'it returns false'. Refute it at one input. -/
def tourTellsWrong : ChangeSpec := { name := "tourTells", fn := fun _ => fun
  | [d1, d2] => { results := [.lit (.bool false)], args := [d1, d2] }
  | _ => none }
def TourTellsWrongFalsely : Prop := tourTellsRow.holds Tryz.pinned (OpenSpec.ofChange tourTellsWrong)

/- THE SECOND FORM. 'bulk': how many values and letters a reading holds, each counted each time it is reached (what is shared counts as often as it is met; a slice's spare places count too). A statement '..UptoSaid' is the law's where the arguments, and the package variables that the reading takes, are together of bulk at most 1048576: NARROWER than '..Said'. Prove '..Said' where nothing that the law and all that it calls make is longer than what came in: it says more and counts as full. Else prove '..UptoSaid'. A law counts once. -/
mutual
def uptoBulk {H : Type} : DataW H → Nat
  | .lit (.string bytes) => bytes.length + 1
  | .lit _ => 1
  | .nil => 1
  | .ptr d => uptoBulk d + 1
  | .slice elems spare => uptoBulkAll elems + uptoBulkAll spare + 1
  | .agg parts => uptoBulkAll parts + 1
  | .iface _ d => uptoBulk d + 1
  | .map entries => uptoBulkEntries entries + 1
  | .held _ => 1
def uptoBulkAll {H : Type} : List (DataW H) → Nat
  | [] => 0
  | d :: r => uptoBulk d + uptoBulkAll r
def uptoBulkEntries {H : Type} : List (Lit × DataW H) → Nat
  | [] => 0
  | x :: r => uptoBulkEntry x + uptoBulkEntries r
def uptoBulkEntry {H : Type} : Lit × DataW H → Nat
  | (.string bytes, d) => bytes.length + uptoBulk d + 1
  | (_, d) => uptoBulk d + 1
 end
def uptoSmall : (H : Type) → List (DataW H) → Bool := fun _ ds => decide (uptoBulkAll ds ≤ 1048576)
def OpenSpec.upto (s : _root_.Go.ChangeSpec) : _root_.Go.OpenSpec := { _root_.Go.OpenSpec.ofChange s with cond := some uptoSmall }

/-- 'abutmentlaw15.CompRoom', WHERE WHAT IT READS IS OF BULK AT MOST 1048576: true; the input reads as it did. -/
def compRoomUptoRow : OpenClaim := { program := "ytpckicjfigmjkaagreat", sum := "27fba60bcea8c7e784d0815c3362746ee2cad82f33b3264024064f8a868df28c", func := "abutment/abutmentlaw15.CompRoom", spec := "compRoom", inPlace := ["slices.overlaps[abutment/space.Extent]"], unfollowed := true, recurses := true, apart := false, narrowed := true }
def CompRoomUptoSaid : Prop := compRoomUptoRow.holds Tryz.pinned (OpenSpec.upto compRoomSpec)

/-- 'abutmentlaw16.TourRoom', WHERE WHAT IT READS IS OF BULK AT MOST 1048576: true; the input reads as it did. -/
def tourRoomUptoRow : OpenClaim := { program := "ytpckicjfigmjkaagreat", sum := "27fba60bcea8c7e784d0815c3362746ee2cad82f33b3264024064f8a868df28c", func := "abutment/abutmentlaw16.TourRoom", spec := "tourRoom", inPlace := ["slices.overlaps[abutment/space.Extent]"], unfollowed := true, recurses := true, apart := false, narrowed := true }
def TourRoomUptoSaid : Prop := tourRoomUptoRow.holds Tryz.pinned (OpenSpec.upto tourRoomSpec)

/-- 'abutmentlaw15.CompForest', WHERE WHAT IT READS IS OF BULK AT MOST 1048576: true; the input reads as it did. -/
def compForestUptoRow : OpenClaim := { program := "ytpckicjfigmjkaagreat", sum := "27fba60bcea8c7e784d0815c3362746ee2cad82f33b3264024064f8a868df28c", func := "abutment/abutmentlaw15.CompForest", spec := "compForest", inPlace := ["slices.overlaps[abutment/space.Extent]"], unfollowed := true, recurses := true, apart := false, narrowed := true }
def CompForestUptoSaid : Prop := compForestUptoRow.holds Tryz.pinned (OpenSpec.upto compForestSpec)

/-- 'abutmentlaw15.CompOrder', WHERE WHAT IT READS IS OF BULK AT MOST 1048576: true; the input reads as it did. -/
def compOrderUptoRow : OpenClaim := { program := "ytpckicjfigmjkaagreat", sum := "27fba60bcea8c7e784d0815c3362746ee2cad82f33b3264024064f8a868df28c", func := "abutment/abutmentlaw15.CompOrder", spec := "compOrder", inPlace := ["slices.overlaps[abutment/space.Extent]"], unfollowed := true, recurses := true, apart := false, narrowed := true }
def CompOrderUptoSaid : Prop := compOrderUptoRow.holds Tryz.pinned (OpenSpec.upto compOrderSpec)

/-- 'abutmentlaw15.CompMore', WHERE WHAT IT READS IS OF BULK AT MOST 1048576: true; the input reads as it did. -/
def compMoreUptoRow : OpenClaim := { program := "ytpckicjfigmjkaagreat", sum := "27fba60bcea8c7e784d0815c3362746ee2cad82f33b3264024064f8a868df28c", func := "abutment/abutmentlaw15.CompMore", spec := "compMore", inPlace := ["slices.overlaps[abutment/space.Extent]"], unfollowed := true, recurses := true, apart := false, narrowed := true }
def CompMoreUptoSaid : Prop := compMoreUptoRow.holds Tryz.pinned (OpenSpec.upto compMoreSpec)

/-- 'abutmentlaw16.TourWalks', WHERE WHAT IT READS IS OF BULK AT MOST 1048576: true; the input reads as it did. -/
def tourWalksUptoRow : OpenClaim := { program := "ytpckicjfigmjkaagreat", sum := "27fba60bcea8c7e784d0815c3362746ee2cad82f33b3264024064f8a868df28c", func := "abutment/abutmentlaw16.TourWalks", spec := "tourWalks", inPlace := ["slices.overlaps[abutment/space.Extent]"], unfollowed := true, recurses := true, apart := false, narrowed := true }
def TourWalksUptoSaid : Prop := tourWalksUptoRow.holds Tryz.pinned (OpenSpec.upto tourWalksSpec)

/-- 'abutmentlaw16.TourApart', WHERE WHAT IT READS IS OF BULK AT MOST 1048576: true; the input reads as it did. -/
def tourApartUptoRow : OpenClaim := { program := "ytpckicjfigmjkaagreat", sum := "27fba60bcea8c7e784d0815c3362746ee2cad82f33b3264024064f8a868df28c", func := "abutment/abutmentlaw16.TourApart", spec := "tourApart", inPlace := ["slices.overlaps[abutment/space.Extent]"], unfollowed := true, recurses := true, apart := false, narrowed := true }
def TourApartUptoSaid : Prop := tourApartUptoRow.holds Tryz.pinned (OpenSpec.upto tourApartSpec)

/-- 'abutmentlaw15.CompTells', WHERE WHAT IT READS IS OF BULK AT MOST 1048576: true; the input reads as it did. -/
def compTellsUptoRow : OpenClaim := { program := "ytpckicjfigmjkaagreat", sum := "27fba60bcea8c7e784d0815c3362746ee2cad82f33b3264024064f8a868df28c", func := "abutment/abutmentlaw15.CompTells", spec := "compTells", inPlace := ["slices.overlaps[abutment/space.Extent]"], unfollowed := true, recurses := true, apart := false, narrowed := true }
def CompTellsUptoSaid : Prop := compTellsUptoRow.holds Tryz.pinned (OpenSpec.upto compTellsSpec)

/-- 'abutmentlaw16.TourFaults', WHERE WHAT IT READS IS OF BULK AT MOST 1048576: true; the input reads as it did. -/
def tourFaultsUptoRow : OpenClaim := { program := "ytpckicjfigmjkaagreat", sum := "27fba60bcea8c7e784d0815c3362746ee2cad82f33b3264024064f8a868df28c", func := "abutment/abutmentlaw16.TourFaults", spec := "tourFaults", inPlace := ["slices.overlaps[abutment/space.Extent]"], unfollowed := true, recurses := true, apart := false, narrowed := true }
def TourFaultsUptoSaid : Prop := tourFaultsUptoRow.holds Tryz.pinned (OpenSpec.upto tourFaultsSpec)

/-- 'abutmentlaw15.CompFaults', WHERE WHAT IT READS IS OF BULK AT MOST 1048576: true; the input reads as it did. -/
def compFaultsUptoRow : OpenClaim := { program := "ytpckicjfigmjkaagreat", sum := "27fba60bcea8c7e784d0815c3362746ee2cad82f33b3264024064f8a868df28c", func := "abutment/abutmentlaw15.CompFaults", spec := "compFaults", inPlace := ["slices.overlaps[abutment/space.Extent]"], unfollowed := true, recurses := true, apart := false, narrowed := true }
def CompFaultsUptoSaid : Prop := compFaultsUptoRow.holds Tryz.pinned (OpenSpec.upto compFaultsSpec)

/-- 'abutmentlaw16.TourTells', WHERE WHAT IT READS IS OF BULK AT MOST 1048576: true; the input reads as it did. -/
def tourTellsUptoRow : OpenClaim := { program := "ytpckicjfigmjkaagreat", sum := "27fba60bcea8c7e784d0815c3362746ee2cad82f33b3264024064f8a868df28c", func := "abutment/abutmentlaw16.TourTells", spec := "tourTells", inPlace := ["slices.overlaps[abutment/space.Extent]"], unfollowed := true, recurses := true, apart := false, narrowed := true }
def TourTellsUptoSaid : Prop := tourTellsUptoRow.holds Tryz.pinned (OpenSpec.upto tourTellsSpec)

end Rows
end Go.Proofs.YtpckicjfigmjkaaGreat
