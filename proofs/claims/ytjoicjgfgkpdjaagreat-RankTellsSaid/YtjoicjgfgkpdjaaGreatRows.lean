/-
  No cell of these rows narrows 'for every input' (looked for: loops, veiled, ifaces, maps, wideKeys, modest, calm, conditions, laid).
  DERIVED. THE GIVEN ROWS OF THIS SEAT. 11 by the template 'for every input the law returns true; each argument reads behind the call as it read before'; 0 by the template 'total and deterministic' (their statements: YtjoicjgfgkpdjaaGreatTotals.lean).
  GIVEN WITH THE SEED: the statements are not yours to turn. If you find one false, say at which input.
  Laid BY PROGRAM, IN A SANDBOX (cutbox-rows.mjs): the forced cells as the released guide's own fill.sh prints them over the translation d1411c5f7889e79f… (all of the seat's roots in one cut). By AI agents, Wed Nov 11 2026. No macro, syntax, notation, axiom, sorry.
-/
import Derived.Test.YtjoicjgfgkpdjaaGreatChecked
import GoSem.Claim
import GoSem.ClaimJoined
import GoSem.ClaimMapViews
import Derived.JoinedTies
import Derived.KernelRfl
namespace Go.Proofs.YtjoicjgfgkpdjaaGreat
/- THE CELL 'sum', in the pinned program and in every row, IS THE sha256 OF THE DUMP (.gsa) THAT YtjoicjgfgkpdjaaGreatProg.lean LOADS. Nothing in Lean hashes anything: it is a label: what it is worth is what the hold of that sum in a sandbox is worth. -/
noncomputable def Tryz.pinned : Pinned := { name := "ytjoicjgfgkpdjaagreat", sum := "d1411c5f7889e79f5c44e6b089532fe3d73260ef9db6a243227b08dcc6dad54b", checked := Tryz.checked }
namespace Rows
def none {H : Type} : Left H := { results := [], args := [] }

/-- 'abutmentlaw18.ReachRoom': WHATEVER THE INPUT: true; the input reads as it did. -/
def reachRoomSpec : ChangeSpec := { name := "reachRoom", fn := fun _ => fun
  | [d1, d2] => { results := [.lit (.bool true)], args := [d1, d2] }
  | _ => none }
def reachRoomRow : OpenClaim := { program := "ytjoicjgfgkpdjaagreat", sum := "d1411c5f7889e79f5c44e6b089532fe3d73260ef9db6a243227b08dcc6dad54b", func := "abutment/abutmentlaw18.ReachRoom", spec := "reachRoom", inPlace := ["slices.overlaps[abutment/space.Extent]"], unfollowed := true, recurses := true, apart := false }
def ReachRoomSaid : Prop := reachRoomRow.holds Tryz.pinned (OpenSpec.ofChange reachRoomSpec)

/-- ITS FALSE NEIGHBOUR: 'it returns false'. Refute it at one input. -/
def reachRoomWrong : ChangeSpec := { name := "reachRoom", fn := fun _ => fun
  | [d1, d2] => { results := [.lit (.bool false)], args := [d1, d2] }
  | _ => none }
def ReachRoomWrongFalsely : Prop := reachRoomRow.holds Tryz.pinned (OpenSpec.ofChange reachRoomWrong)

/-- 'abutmentlaw18.ReachAll': WHATEVER THE INPUT: true; the input reads as it did. -/
def reachAllSpec : ChangeSpec := { name := "reachAll", fn := fun _ => fun
  | [d] => { results := [.lit (.bool true)], args := [d] }
  | _ => none }
def reachAllRow : OpenClaim := { program := "ytjoicjgfgkpdjaagreat", sum := "d1411c5f7889e79f5c44e6b089532fe3d73260ef9db6a243227b08dcc6dad54b", func := "abutment/abutmentlaw18.ReachAll", spec := "reachAll", inPlace := ["slices.overlaps[abutment/space.Extent]"], unfollowed := true, recurses := true, apart := false }
def ReachAllSaid : Prop := reachAllRow.holds Tryz.pinned (OpenSpec.ofChange reachAllSpec)

/-- ITS FALSE NEIGHBOUR: 'it returns false'. Refute it at one input. -/
def reachAllWrong : ChangeSpec := { name := "reachAll", fn := fun _ => fun
  | [d] => { results := [.lit (.bool false)], args := [d] }
  | _ => none }
def ReachAllWrongFalsely : Prop := reachAllRow.holds Tryz.pinned (OpenSpec.ofChange reachAllWrong)

/-- 'abutmentlaw14.RankRoom': WHATEVER THE INPUT: true; the input reads as it did. -/
def rankRoomSpec : ChangeSpec := { name := "rankRoom", fn := fun _ => fun
  | [d1, d2] => { results := [.lit (.bool true)], args := [d1, d2] }
  | _ => none }
def rankRoomRow : OpenClaim := { program := "ytjoicjgfgkpdjaagreat", sum := "d1411c5f7889e79f5c44e6b089532fe3d73260ef9db6a243227b08dcc6dad54b", func := "abutment/abutmentlaw14.RankRoom", spec := "rankRoom", inPlace := ["slices.overlaps[abutment/space.Extent]"], unfollowed := true, recurses := true, apart := false }
def RankRoomSaid : Prop := rankRoomRow.holds Tryz.pinned (OpenSpec.ofChange rankRoomSpec)

/-- ITS FALSE NEIGHBOUR: 'it returns false'. Refute it at one input. -/
def rankRoomWrong : ChangeSpec := { name := "rankRoom", fn := fun _ => fun
  | [d1, d2] => { results := [.lit (.bool false)], args := [d1, d2] }
  | _ => none }
def RankRoomWrongFalsely : Prop := rankRoomRow.holds Tryz.pinned (OpenSpec.ofChange rankRoomWrong)

/-- 'abutmentlaw18.ReachFaults': WHATEVER THE INPUT: true; the input reads as it did. -/
def reachFaultsSpec : ChangeSpec := { name := "reachFaults", fn := fun _ => fun
  | [d1, d2] => { results := [.lit (.bool true)], args := [d1, d2] }
  | _ => none }
def reachFaultsRow : OpenClaim := { program := "ytjoicjgfgkpdjaagreat", sum := "d1411c5f7889e79f5c44e6b089532fe3d73260ef9db6a243227b08dcc6dad54b", func := "abutment/abutmentlaw18.ReachFaults", spec := "reachFaults", inPlace := ["slices.overlaps[abutment/space.Extent]"], unfollowed := true, recurses := true, apart := false }
def ReachFaultsSaid : Prop := reachFaultsRow.holds Tryz.pinned (OpenSpec.ofChange reachFaultsSpec)

/-- ITS FALSE NEIGHBOUR: 'it returns false'. Refute it at one input. -/
def reachFaultsWrong : ChangeSpec := { name := "reachFaults", fn := fun _ => fun
  | [d1, d2] => { results := [.lit (.bool false)], args := [d1, d2] }
  | _ => none }
def ReachFaultsWrongFalsely : Prop := reachFaultsRow.holds Tryz.pinned (OpenSpec.ofChange reachFaultsWrong)

/-- 'abutmentlaw18.ReachTells': WHATEVER THE INPUT: true; the input reads as it did. -/
def reachTellsSpec : ChangeSpec := { name := "reachTells", fn := fun _ => fun
  | [d1, d2, d3] => { results := [.lit (.bool true)], args := [d1, d2, d3] }
  | _ => none }
def reachTellsRow : OpenClaim := { program := "ytjoicjgfgkpdjaagreat", sum := "d1411c5f7889e79f5c44e6b089532fe3d73260ef9db6a243227b08dcc6dad54b", func := "abutment/abutmentlaw18.ReachTells", spec := "reachTells", inPlace := ["slices.overlaps[abutment/space.Extent]"], unfollowed := true, recurses := true, apart := false }
def ReachTellsSaid : Prop := reachTellsRow.holds Tryz.pinned (OpenSpec.ofChange reachTellsSpec)

/-- ITS FALSE NEIGHBOUR: 'it returns false'. Refute it at one input. -/
def reachTellsWrong : ChangeSpec := { name := "reachTells", fn := fun _ => fun
  | [d1, d2, d3] => { results := [.lit (.bool false)], args := [d1, d2, d3] }
  | _ => none }
def ReachTellsWrongFalsely : Prop := reachTellsRow.holds Tryz.pinned (OpenSpec.ofChange reachTellsWrong)

/-- 'abutmentlaw18.ReachParts': WHATEVER THE INPUT: true; the input reads as it did. -/
def reachPartsSpec : ChangeSpec := { name := "reachParts", fn := fun _ => fun
  | [d1, d2] => { results := [.lit (.bool true)], args := [d1, d2] }
  | _ => none }
def reachPartsRow : OpenClaim := { program := "ytjoicjgfgkpdjaagreat", sum := "d1411c5f7889e79f5c44e6b089532fe3d73260ef9db6a243227b08dcc6dad54b", func := "abutment/abutmentlaw18.ReachParts", spec := "reachParts", inPlace := ["slices.overlaps[abutment/space.Extent]"], unfollowed := true, recurses := true, apart := false }
def ReachPartsSaid : Prop := reachPartsRow.holds Tryz.pinned (OpenSpec.ofChange reachPartsSpec)

/-- ITS FALSE NEIGHBOUR: 'it returns false'. Refute it at one input. -/
def reachPartsWrong : ChangeSpec := { name := "reachParts", fn := fun _ => fun
  | [d1, d2] => { results := [.lit (.bool false)], args := [d1, d2] }
  | _ => none }
def ReachPartsWrongFalsely : Prop := reachPartsRow.holds Tryz.pinned (OpenSpec.ofChange reachPartsWrong)

/-- 'abutmentlaw14.RankOrder': WHATEVER THE INPUT: true; the input reads as it did. -/
def rankOrderSpec : ChangeSpec := { name := "rankOrder", fn := fun _ => fun
  | [d1, d2] => { results := [.lit (.bool true)], args := [d1, d2] }
  | _ => none }
def rankOrderRow : OpenClaim := { program := "ytjoicjgfgkpdjaagreat", sum := "d1411c5f7889e79f5c44e6b089532fe3d73260ef9db6a243227b08dcc6dad54b", func := "abutment/abutmentlaw14.RankOrder", spec := "rankOrder", inPlace := ["slices.overlaps[abutment/space.Extent]"], unfollowed := true, recurses := true, apart := false }
def RankOrderSaid : Prop := rankOrderRow.holds Tryz.pinned (OpenSpec.ofChange rankOrderSpec)

/-- ITS FALSE NEIGHBOUR: 'it returns false'. Refute it at one input. -/
def rankOrderWrong : ChangeSpec := { name := "rankOrder", fn := fun _ => fun
  | [d1, d2] => { results := [.lit (.bool false)], args := [d1, d2] }
  | _ => none }
def RankOrderWrongFalsely : Prop := rankOrderRow.holds Tryz.pinned (OpenSpec.ofChange rankOrderWrong)

/-- 'abutmentlaw14.RankCircles': WHATEVER THE INPUT: true; the input reads as it did. -/
def rankCirclesSpec : ChangeSpec := { name := "rankCircles", fn := fun _ => fun
  | [d1, d2, d3] => { results := [.lit (.bool true)], args := [d1, d2, d3] }
  | _ => none }
def rankCirclesRow : OpenClaim := { program := "ytjoicjgfgkpdjaagreat", sum := "d1411c5f7889e79f5c44e6b089532fe3d73260ef9db6a243227b08dcc6dad54b", func := "abutment/abutmentlaw14.RankCircles", spec := "rankCircles", inPlace := ["slices.overlaps[abutment/space.Extent]"], unfollowed := true, recurses := true, apart := false }
def RankCirclesSaid : Prop := rankCirclesRow.holds Tryz.pinned (OpenSpec.ofChange rankCirclesSpec)

/-- ITS FALSE NEIGHBOUR: 'it returns false'. Refute it at one input. -/
def rankCirclesWrong : ChangeSpec := { name := "rankCircles", fn := fun _ => fun
  | [d1, d2, d3] => { results := [.lit (.bool false)], args := [d1, d2, d3] }
  | _ => none }
def RankCirclesWrongFalsely : Prop := rankCirclesRow.holds Tryz.pinned (OpenSpec.ofChange rankCirclesWrong)

/-- 'abutmentlaw14.RankTells': WHATEVER THE INPUT: true; the input reads as it did. -/
def rankTellsSpec : ChangeSpec := { name := "rankTells", fn := fun _ => fun
  | [d1, d2] => { results := [.lit (.bool true)], args := [d1, d2] }
  | _ => none }
def rankTellsRow : OpenClaim := { program := "ytjoicjgfgkpdjaagreat", sum := "d1411c5f7889e79f5c44e6b089532fe3d73260ef9db6a243227b08dcc6dad54b", func := "abutment/abutmentlaw14.RankTells", spec := "rankTells", inPlace := ["slices.overlaps[abutment/space.Extent]"], unfollowed := true, recurses := true, apart := false }
def RankTellsSaid : Prop := rankTellsRow.holds Tryz.pinned (OpenSpec.ofChange rankTellsSpec)

/-- ITS FALSE NEIGHBOUR: 'it returns false'. Refute it at one input. -/
def rankTellsWrong : ChangeSpec := { name := "rankTells", fn := fun _ => fun
  | [d1, d2] => { results := [.lit (.bool false)], args := [d1, d2] }
  | _ => none }
def RankTellsWrongFalsely : Prop := rankTellsRow.holds Tryz.pinned (OpenSpec.ofChange rankTellsWrong)

/-- 'abutmentlaw14.RankWalks': WHATEVER THE INPUT: true; the input reads as it did. -/
def rankWalksSpec : ChangeSpec := { name := "rankWalks", fn := fun _ => fun
  | [d1, d2, d3] => { results := [.lit (.bool true)], args := [d1, d2, d3] }
  | _ => none }
def rankWalksRow : OpenClaim := { program := "ytjoicjgfgkpdjaagreat", sum := "d1411c5f7889e79f5c44e6b089532fe3d73260ef9db6a243227b08dcc6dad54b", func := "abutment/abutmentlaw14.RankWalks", spec := "rankWalks", inPlace := ["slices.overlaps[abutment/space.Extent]"], unfollowed := true, recurses := true, apart := false }
def RankWalksSaid : Prop := rankWalksRow.holds Tryz.pinned (OpenSpec.ofChange rankWalksSpec)

/-- ITS FALSE NEIGHBOUR: 'it returns false'. Refute it at one input. -/
def rankWalksWrong : ChangeSpec := { name := "rankWalks", fn := fun _ => fun
  | [d1, d2, d3] => { results := [.lit (.bool false)], args := [d1, d2, d3] }
  | _ => none }
def RankWalksWrongFalsely : Prop := rankWalksRow.holds Tryz.pinned (OpenSpec.ofChange rankWalksWrong)

/-- 'abutmentlaw14.RankFaults': WHATEVER THE INPUT: true; the input reads as it did. -/
def rankFaultsSpec : ChangeSpec := { name := "rankFaults", fn := fun _ => fun
  | [d1, d2, d3] => { results := [.lit (.bool true)], args := [d1, d2, d3] }
  | _ => none }
def rankFaultsRow : OpenClaim := { program := "ytjoicjgfgkpdjaagreat", sum := "d1411c5f7889e79f5c44e6b089532fe3d73260ef9db6a243227b08dcc6dad54b", func := "abutment/abutmentlaw14.RankFaults", spec := "rankFaults", inPlace := ["slices.overlaps[abutment/space.Extent]"], unfollowed := true, recurses := true, apart := false }
def RankFaultsSaid : Prop := rankFaultsRow.holds Tryz.pinned (OpenSpec.ofChange rankFaultsSpec)

/-- ITS FALSE NEIGHBOUR: 'it returns false'. Refute it at one input. -/
def rankFaultsWrong : ChangeSpec := { name := "rankFaults", fn := fun _ => fun
  | [d1, d2, d3] => { results := [.lit (.bool false)], args := [d1, d2, d3] }
  | _ => none }
def RankFaultsWrongFalsely : Prop := rankFaultsRow.holds Tryz.pinned (OpenSpec.ofChange rankFaultsWrong)

/- THE SECOND FORM. 'bulk': how many values and letters a reading holds, each counted each time it is reached (what is shared counts as often as it is met; a slice's spare places count too). A statement '..UptoSaid' is the law's where the arguments, and the package variables that the reading takes, are together of bulk at most 1048576: NARROWER than '..Said'. Prove '..Said' where nothing that the law and all that it calls make is longer than what came in: it says more and counts as full. Else prove '..UptoSaid'. A law counts once. -/
mutual
def uptoBulk {H : Type} : DataW H → Nat
  | .lit (.string bytes) => bytes.length + 1
  | .lit _ => 1
  | .nil => 1
  | .ptr d => uptoBulk d + 1
  | .slice elems spare => uptoBulkAll elems + uptoBulkAll spare + 1
  | .agg parts => uptoBulkAll parts + 1
  | .iface _ d => uptoBulk d + 1
  | .map entries => uptoBulkEntries entries + 1
  | .held _ => 1
def uptoBulkAll {H : Type} : List (DataW H) → Nat
  | [] => 0
  | d :: r => uptoBulk d + uptoBulkAll r
def uptoBulkEntries {H : Type} : List (Lit × DataW H) → Nat
  | [] => 0
  | x :: r => uptoBulkEntry x + uptoBulkEntries r
def uptoBulkEntry {H : Type} : Lit × DataW H → Nat
  | (.string bytes, d) => bytes.length + uptoBulk d + 1
  | (_, d) => uptoBulk d + 1
 end
def uptoSmall : (H : Type) → List (DataW H) → Bool := fun _ ds => decide (uptoBulkAll ds ≤ 1048576)
def OpenSpec.upto (s : _root_.Go.ChangeSpec) : _root_.Go.OpenSpec := { _root_.Go.OpenSpec.ofChange s with cond := some uptoSmall }

/-- 'abutmentlaw18.ReachRoom', WHERE WHAT IT READS IS OF BULK AT MOST 1048576: true; the input reads as it did. -/
def reachRoomUptoRow : OpenClaim := { program := "ytjoicjgfgkpdjaagreat", sum := "d1411c5f7889e79f5c44e6b089532fe3d73260ef9db6a243227b08dcc6dad54b", func := "abutment/abutmentlaw18.ReachRoom", spec := "reachRoom", inPlace := ["slices.overlaps[abutment/space.Extent]"], unfollowed := true, recurses := true, apart := false, narrowed := true }
def ReachRoomUptoSaid : Prop := reachRoomUptoRow.holds Tryz.pinned (OpenSpec.upto reachRoomSpec)

/-- 'abutmentlaw18.ReachAll', WHERE WHAT IT READS IS OF BULK AT MOST 1048576: true; the input reads as it did. -/
def reachAllUptoRow : OpenClaim := { program := "ytjoicjgfgkpdjaagreat", sum := "d1411c5f7889e79f5c44e6b089532fe3d73260ef9db6a243227b08dcc6dad54b", func := "abutment/abutmentlaw18.ReachAll", spec := "reachAll", inPlace := ["slices.overlaps[abutment/space.Extent]"], unfollowed := true, recurses := true, apart := false, narrowed := true }
def ReachAllUptoSaid : Prop := reachAllUptoRow.holds Tryz.pinned (OpenSpec.upto reachAllSpec)

/-- 'abutmentlaw14.RankRoom', WHERE WHAT IT READS IS OF BULK AT MOST 1048576: true; the input reads as it did. -/
def rankRoomUptoRow : OpenClaim := { program := "ytjoicjgfgkpdjaagreat", sum := "d1411c5f7889e79f5c44e6b089532fe3d73260ef9db6a243227b08dcc6dad54b", func := "abutment/abutmentlaw14.RankRoom", spec := "rankRoom", inPlace := ["slices.overlaps[abutment/space.Extent]"], unfollowed := true, recurses := true, apart := false, narrowed := true }
def RankRoomUptoSaid : Prop := rankRoomUptoRow.holds Tryz.pinned (OpenSpec.upto rankRoomSpec)

/-- 'abutmentlaw18.ReachFaults', WHERE WHAT IT READS IS OF BULK AT MOST 1048576: true; the input reads as it did. -/
def reachFaultsUptoRow : OpenClaim := { program := "ytjoicjgfgkpdjaagreat", sum := "d1411c5f7889e79f5c44e6b089532fe3d73260ef9db6a243227b08dcc6dad54b", func := "abutment/abutmentlaw18.ReachFaults", spec := "reachFaults", inPlace := ["slices.overlaps[abutment/space.Extent]"], unfollowed := true, recurses := true, apart := false, narrowed := true }
def ReachFaultsUptoSaid : Prop := reachFaultsUptoRow.holds Tryz.pinned (OpenSpec.upto reachFaultsSpec)

/-- 'abutmentlaw18.ReachTells', WHERE WHAT IT READS IS OF BULK AT MOST 1048576: true; the input reads as it did. -/
def reachTellsUptoRow : OpenClaim := { program := "ytjoicjgfgkpdjaagreat", sum := "d1411c5f7889e79f5c44e6b089532fe3d73260ef9db6a243227b08dcc6dad54b", func := "abutment/abutmentlaw18.ReachTells", spec := "reachTells", inPlace := ["slices.overlaps[abutment/space.Extent]"], unfollowed := true, recurses := true, apart := false, narrowed := true }
def ReachTellsUptoSaid : Prop := reachTellsUptoRow.holds Tryz.pinned (OpenSpec.upto reachTellsSpec)

/-- 'abutmentlaw18.ReachParts', WHERE WHAT IT READS IS OF BULK AT MOST 1048576: true; the input reads as it did. -/
def reachPartsUptoRow : OpenClaim := { program := "ytjoicjgfgkpdjaagreat", sum := "d1411c5f7889e79f5c44e6b089532fe3d73260ef9db6a243227b08dcc6dad54b", func := "abutment/abutmentlaw18.ReachParts", spec := "reachParts", inPlace := ["slices.overlaps[abutment/space.Extent]"], unfollowed := true, recurses := true, apart := false, narrowed := true }
def ReachPartsUptoSaid : Prop := reachPartsUptoRow.holds Tryz.pinned (OpenSpec.upto reachPartsSpec)

/-- 'abutmentlaw14.RankOrder', WHERE WHAT IT READS IS OF BULK AT MOST 1048576: true; the input reads as it did. -/
def rankOrderUptoRow : OpenClaim := { program := "ytjoicjgfgkpdjaagreat", sum := "d1411c5f7889e79f5c44e6b089532fe3d73260ef9db6a243227b08dcc6dad54b", func := "abutment/abutmentlaw14.RankOrder", spec := "rankOrder", inPlace := ["slices.overlaps[abutment/space.Extent]"], unfollowed := true, recurses := true, apart := false, narrowed := true }
def RankOrderUptoSaid : Prop := rankOrderUptoRow.holds Tryz.pinned (OpenSpec.upto rankOrderSpec)

/-- 'abutmentlaw14.RankCircles', WHERE WHAT IT READS IS OF BULK AT MOST 1048576: true; the input reads as it did. -/
def rankCirclesUptoRow : OpenClaim := { program := "ytjoicjgfgkpdjaagreat", sum := "d1411c5f7889e79f5c44e6b089532fe3d73260ef9db6a243227b08dcc6dad54b", func := "abutment/abutmentlaw14.RankCircles", spec := "rankCircles", inPlace := ["slices.overlaps[abutment/space.Extent]"], unfollowed := true, recurses := true, apart := false, narrowed := true }
def RankCirclesUptoSaid : Prop := rankCirclesUptoRow.holds Tryz.pinned (OpenSpec.upto rankCirclesSpec)

/-- 'abutmentlaw14.RankTells', WHERE WHAT IT READS IS OF BULK AT MOST 1048576: true; the input reads as it did. -/
def rankTellsUptoRow : OpenClaim := { program := "ytjoicjgfgkpdjaagreat", sum := "d1411c5f7889e79f5c44e6b089532fe3d73260ef9db6a243227b08dcc6dad54b", func := "abutment/abutmentlaw14.RankTells", spec := "rankTells", inPlace := ["slices.overlaps[abutment/space.Extent]"], unfollowed := true, recurses := true, apart := false, narrowed := true }
def RankTellsUptoSaid : Prop := rankTellsUptoRow.holds Tryz.pinned (OpenSpec.upto rankTellsSpec)

/-- 'abutmentlaw14.RankWalks', WHERE WHAT IT READS IS OF BULK AT MOST 1048576: true; the input reads as it did. -/
def rankWalksUptoRow : OpenClaim := { program := "ytjoicjgfgkpdjaagreat", sum := "d1411c5f7889e79f5c44e6b089532fe3d73260ef9db6a243227b08dcc6dad54b", func := "abutment/abutmentlaw14.RankWalks", spec := "rankWalks", inPlace := ["slices.overlaps[abutment/space.Extent]"], unfollowed := true, recurses := true, apart := false, narrowed := true }
def RankWalksUptoSaid : Prop := rankWalksUptoRow.holds Tryz.pinned (OpenSpec.upto rankWalksSpec)

/-- 'abutmentlaw14.RankFaults', WHERE WHAT IT READS IS OF BULK AT MOST 1048576: true; the input reads as it did. -/
def rankFaultsUptoRow : OpenClaim := { program := "ytjoicjgfgkpdjaagreat", sum := "d1411c5f7889e79f5c44e6b089532fe3d73260ef9db6a243227b08dcc6dad54b", func := "abutment/abutmentlaw14.RankFaults", spec := "rankFaults", inPlace := ["slices.overlaps[abutment/space.Extent]"], unfollowed := true, recurses := true, apart := false, narrowed := true }
def RankFaultsUptoSaid : Prop := rankFaultsUptoRow.holds Tryz.pinned (OpenSpec.upto rankFaultsSpec)

end Rows
end Go.Proofs.YtjoicjgfgkpdjaaGreat
