/-
  No cell of these rows narrows 'for every input' (looked for: loops, veiled, ifaces, maps, wideKeys, modest, calm, conditions, laid).
  DERIVED. THE GIVEN ROWS OF THIS SEAT. 10 by the template 'for every input the law returns true; each argument reads behind the call as it read before'; 0 by the template 'total and deterministic' (their statements: YtlnehgklibbjiaaGreatTotals.lean).
  GIVEN WITH THE SEED: the statements are not yours to turn. If you find one false, say at which input.
  Laid BY PROGRAM, IN A SANDBOX (cutbox-rows.mjs): the forced cells as the released guide's own fill.sh prints them over the translation 26872652aa869fe6… (all of the seat's roots in one cut). By AI agents, Wed Nov 11 2026. No macro, syntax, notation, axiom, sorry.
-/
import Derived.Test.YtlnehgklibbjiaaGreatChecked
import GoSem.Claim
import GoSem.ClaimJoined
import GoSem.ClaimMapViews
import Derived.JoinedTies
import Derived.KernelRfl
namespace Go.Proofs.YtlnehgklibbjiaaGreat
/- THE CELL 'sum', in the pinned program and in every row, IS THE sha256 OF THE DUMP (.gsa) THAT YtlnehgklibbjiaaGreatProg.lean LOADS. Nothing in Lean hashes anything: it is a label: what it is worth is what the hold of that sum in a sandbox is worth. -/
noncomputable def Tryz.pinned : Pinned := { name := "ytlnehgklibbjiaagreat", sum := "26872652aa869fe6bd14073c9e2885f288b2046bea2ce9adc29fd290f5f00518", checked := Tryz.checked }
namespace Rows
def none {H : Type} : Left H := { results := [], args := [] }

/-- 'abutmentlaw17.TreeRoom': WHATEVER THE INPUT: true; the input reads as it did. -/
def treeRoomSpec : ChangeSpec := { name := "treeRoom", fn := fun _ => fun
  | [d1, d2] => { results := [.lit (.bool true)], args := [d1, d2] }
  | _ => none }
def treeRoomRow : OpenClaim := { program := "ytlnehgklibbjiaagreat", sum := "26872652aa869fe6bd14073c9e2885f288b2046bea2ce9adc29fd290f5f00518", func := "abutment/abutmentlaw17.TreeRoom", spec := "treeRoom", inPlace := ["slices.overlaps[abutment/space.Extent]"], unfollowed := true, recurses := true, apart := false }
def TreeRoomSaid : Prop := treeRoomRow.holds Tryz.pinned (OpenSpec.ofChange treeRoomSpec)

/-- ITS FALSE NEIGHBOUR: 'it returns false'. Refute it at one input. -/
def treeRoomWrong : ChangeSpec := { name := "treeRoom", fn := fun _ => fun
  | [d1, d2] => { results := [.lit (.bool false)], args := [d1, d2] }
  | _ => none }
def TreeRoomWrongFalsely : Prop := treeRoomRow.holds Tryz.pinned (OpenSpec.ofChange treeRoomWrong)

/-- 'abutmentlaw17.TreeNested': WHATEVER THE INPUT: true; the input reads as it did. -/
def treeNestedSpec : ChangeSpec := { name := "treeNested", fn := fun _ => fun
  | [d] => { results := [.lit (.bool true)], args := [d] }
  | _ => none }
def treeNestedRow : OpenClaim := { program := "ytlnehgklibbjiaagreat", sum := "26872652aa869fe6bd14073c9e2885f288b2046bea2ce9adc29fd290f5f00518", func := "abutment/abutmentlaw17.TreeNested", spec := "treeNested", inPlace := ["slices.overlaps[abutment/space.Extent]"], unfollowed := true, recurses := true, apart := false }
def TreeNestedSaid : Prop := treeNestedRow.holds Tryz.pinned (OpenSpec.ofChange treeNestedSpec)

/-- ITS FALSE NEIGHBOUR: 'it returns false'. Refute it at one input. -/
def treeNestedWrong : ChangeSpec := { name := "treeNested", fn := fun _ => fun
  | [d] => { results := [.lit (.bool false)], args := [d] }
  | _ => none }
def TreeNestedWrongFalsely : Prop := treeNestedRow.holds Tryz.pinned (OpenSpec.ofChange treeNestedWrong)

/-- 'abutmentlaw17.TreeSizes': WHATEVER THE INPUT: true; the input reads as it did. -/
def treeSizesSpec : ChangeSpec := { name := "treeSizes", fn := fun _ => fun
  | [d] => { results := [.lit (.bool true)], args := [d] }
  | _ => none }
def treeSizesRow : OpenClaim := { program := "ytlnehgklibbjiaagreat", sum := "26872652aa869fe6bd14073c9e2885f288b2046bea2ce9adc29fd290f5f00518", func := "abutment/abutmentlaw17.TreeSizes", spec := "treeSizes", inPlace := ["slices.overlaps[abutment/space.Extent]"], unfollowed := true, recurses := true, apart := false }
def TreeSizesSaid : Prop := treeSizesRow.holds Tryz.pinned (OpenSpec.ofChange treeSizesSpec)

/-- ITS FALSE NEIGHBOUR: 'it returns false'. Refute it at one input. -/
def treeSizesWrong : ChangeSpec := { name := "treeSizes", fn := fun _ => fun
  | [d] => { results := [.lit (.bool false)], args := [d] }
  | _ => none }
def TreeSizesWrongFalsely : Prop := treeSizesRow.holds Tryz.pinned (OpenSpec.ofChange treeSizesWrong)

/-- 'abutmentlaw17.TreeFaults': WHATEVER THE INPUT: true; the input reads as it did. -/
def treeFaultsSpec : ChangeSpec := { name := "treeFaults", fn := fun _ => fun
  | [d1, d2] => { results := [.lit (.bool true)], args := [d1, d2] }
  | _ => none }
def treeFaultsRow : OpenClaim := { program := "ytlnehgklibbjiaagreat", sum := "26872652aa869fe6bd14073c9e2885f288b2046bea2ce9adc29fd290f5f00518", func := "abutment/abutmentlaw17.TreeFaults", spec := "treeFaults", inPlace := ["slices.overlaps[abutment/space.Extent]"], unfollowed := true, recurses := true, apart := false }
def TreeFaultsSaid : Prop := treeFaultsRow.holds Tryz.pinned (OpenSpec.ofChange treeFaultsSpec)

/-- ITS FALSE NEIGHBOUR: 'it returns false'. Refute it at one input. -/
def treeFaultsWrong : ChangeSpec := { name := "treeFaults", fn := fun _ => fun
  | [d1, d2] => { results := [.lit (.bool false)], args := [d1, d2] }
  | _ => none }
def TreeFaultsWrongFalsely : Prop := treeFaultsRow.holds Tryz.pinned (OpenSpec.ofChange treeFaultsWrong)

/-- 'abutmentlaw21.CutForest': WHATEVER THE INPUT: true; the input reads as it did. -/
def cutForestSpec : ChangeSpec := { name := "cutForest", fn := fun _ => fun
  | [d] => { results := [.lit (.bool true)], args := [d] }
  | _ => none }
def cutForestRow : OpenClaim := { program := "ytlnehgklibbjiaagreat", sum := "26872652aa869fe6bd14073c9e2885f288b2046bea2ce9adc29fd290f5f00518", func := "abutment/abutmentlaw21.CutForest", spec := "cutForest", inPlace := ["slices.overlaps[abutment/space.Extent]"], unfollowed := true, recurses := true, apart := false }
def CutForestSaid : Prop := cutForestRow.holds Tryz.pinned (OpenSpec.ofChange cutForestSpec)

/-- ITS FALSE NEIGHBOUR: 'it returns false'. Refute it at one input. -/
def cutForestWrong : ChangeSpec := { name := "cutForest", fn := fun _ => fun
  | [d] => { results := [.lit (.bool false)], args := [d] }
  | _ => none }
def CutForestWrongFalsely : Prop := cutForestRow.holds Tryz.pinned (OpenSpec.ofChange cutForestWrong)

/-- 'abutmentlaw21.CutRoom': WHATEVER THE INPUT: true; the input reads as it did. -/
def cutRoomSpec : ChangeSpec := { name := "cutRoom", fn := fun _ => fun
  | [d1, d2] => { results := [.lit (.bool true)], args := [d1, d2] }
  | _ => none }
def cutRoomRow : OpenClaim := { program := "ytlnehgklibbjiaagreat", sum := "26872652aa869fe6bd14073c9e2885f288b2046bea2ce9adc29fd290f5f00518", func := "abutment/abutmentlaw21.CutRoom", spec := "cutRoom", inPlace := ["slices.overlaps[abutment/space.Extent]"], unfollowed := true, recurses := true, apart := false }
def CutRoomSaid : Prop := cutRoomRow.holds Tryz.pinned (OpenSpec.ofChange cutRoomSpec)

/-- ITS FALSE NEIGHBOUR: 'it returns false'. Refute it at one input. -/
def cutRoomWrong : ChangeSpec := { name := "cutRoom", fn := fun _ => fun
  | [d1, d2] => { results := [.lit (.bool false)], args := [d1, d2] }
  | _ => none }
def CutRoomWrongFalsely : Prop := cutRoomRow.holds Tryz.pinned (OpenSpec.ofChange cutRoomWrong)

/-- 'abutmentlaw21.CutPath': WHATEVER THE INPUT: true; the input reads as it did. -/
def cutPathSpec : ChangeSpec := { name := "cutPath", fn := fun _ => fun
  | [d1, d2] => { results := [.lit (.bool true)], args := [d1, d2] }
  | _ => none }
def cutPathRow : OpenClaim := { program := "ytlnehgklibbjiaagreat", sum := "26872652aa869fe6bd14073c9e2885f288b2046bea2ce9adc29fd290f5f00518", func := "abutment/abutmentlaw21.CutPath", spec := "cutPath", inPlace := ["slices.overlaps[abutment/space.Extent]"], unfollowed := true, recurses := true, apart := false }
def CutPathSaid : Prop := cutPathRow.holds Tryz.pinned (OpenSpec.ofChange cutPathSpec)

/-- ITS FALSE NEIGHBOUR: 'it returns false'. Refute it at one input. -/
def cutPathWrong : ChangeSpec := { name := "cutPath", fn := fun _ => fun
  | [d1, d2] => { results := [.lit (.bool false)], args := [d1, d2] }
  | _ => none }
def CutPathWrongFalsely : Prop := cutPathRow.holds Tryz.pinned (OpenSpec.ofChange cutPathWrong)

/-- 'abutmentlaw17.TreeTells': WHATEVER THE INPUT: true; the input reads as it did. -/
def treeTellsSpec : ChangeSpec := { name := "treeTells", fn := fun _ => fun
  | [d1, d2] => { results := [.lit (.bool true)], args := [d1, d2] }
  | _ => none }
def treeTellsRow : OpenClaim := { program := "ytlnehgklibbjiaagreat", sum := "26872652aa869fe6bd14073c9e2885f288b2046bea2ce9adc29fd290f5f00518", func := "abutment/abutmentlaw17.TreeTells", spec := "treeTells", inPlace := ["slices.overlaps[abutment/space.Extent]"], unfollowed := true, recurses := true, apart := false }
def TreeTellsSaid : Prop := treeTellsRow.holds Tryz.pinned (OpenSpec.ofChange treeTellsSpec)

/-- ITS FALSE NEIGHBOUR: 'it returns false'. Refute it at one input. -/
def treeTellsWrong : ChangeSpec := { name := "treeTells", fn := fun _ => fun
  | [d1, d2] => { results := [.lit (.bool false)], args := [d1, d2] }
  | _ => none }
def TreeTellsWrongFalsely : Prop := treeTellsRow.holds Tryz.pinned (OpenSpec.ofChange treeTellsWrong)

/-- 'abutmentlaw21.CutTells': WHATEVER THE INPUT: true; the input reads as it did. -/
def cutTellsSpec : ChangeSpec := { name := "cutTells", fn := fun _ => fun
  | [d1, d2] => { results := [.lit (.bool true)], args := [d1, d2] }
  | _ => none }
def cutTellsRow : OpenClaim := { program := "ytlnehgklibbjiaagreat", sum := "26872652aa869fe6bd14073c9e2885f288b2046bea2ce9adc29fd290f5f00518", func := "abutment/abutmentlaw21.CutTells", spec := "cutTells", inPlace := ["slices.overlaps[abutment/space.Extent]"], unfollowed := true, recurses := true, apart := false }
def CutTellsSaid : Prop := cutTellsRow.holds Tryz.pinned (OpenSpec.ofChange cutTellsSpec)

/-- ITS FALSE NEIGHBOUR: 'it returns false'. Refute it at one input. -/
def cutTellsWrong : ChangeSpec := { name := "cutTells", fn := fun _ => fun
  | [d1, d2] => { results := [.lit (.bool false)], args := [d1, d2] }
  | _ => none }
def CutTellsWrongFalsely : Prop := cutTellsRow.holds Tryz.pinned (OpenSpec.ofChange cutTellsWrong)

/-- 'abutmentlaw21.CutFaults': WHATEVER THE INPUT: true; the input reads as it did. -/
def cutFaultsSpec : ChangeSpec := { name := "cutFaults", fn := fun _ => fun
  | [d1, d2] => { results := [.lit (.bool true)], args := [d1, d2] }
  | _ => none }
def cutFaultsRow : OpenClaim := { program := "ytlnehgklibbjiaagreat", sum := "26872652aa869fe6bd14073c9e2885f288b2046bea2ce9adc29fd290f5f00518", func := "abutment/abutmentlaw21.CutFaults", spec := "cutFaults", inPlace := ["slices.overlaps[abutment/space.Extent]"], unfollowed := true, recurses := true, apart := false }
def CutFaultsSaid : Prop := cutFaultsRow.holds Tryz.pinned (OpenSpec.ofChange cutFaultsSpec)

/-- ITS FALSE NEIGHBOUR: 'it returns false'. Refute it at one input. -/
def cutFaultsWrong : ChangeSpec := { name := "cutFaults", fn := fun _ => fun
  | [d1, d2] => { results := [.lit (.bool false)], args := [d1, d2] }
  | _ => none }
def CutFaultsWrongFalsely : Prop := cutFaultsRow.holds Tryz.pinned (OpenSpec.ofChange cutFaultsWrong)

/- THE SECOND FORM. 'bulk': how many values and letters a reading holds, each counted each time it is reached (what is shared counts as often as it is met; a slice's spare places count too). A statement '..UptoSaid' is the law's where the arguments, and the package variables that the reading takes, are together of bulk at most 1048576: NARROWER than '..Said'. Prove '..Said' where nothing that the law and all that it calls make is longer than what came in: it says more and counts as full. Else prove '..UptoSaid'. A law counts once. -/
mutual
def uptoBulk {H : Type} : DataW H → Nat
  | .lit (.string bytes) => bytes.length + 1
  | .lit _ => 1
  | .nil => 1
  | .ptr d => uptoBulk d + 1
  | .slice elems spare => uptoBulkAll elems + uptoBulkAll spare + 1
  | .agg parts => uptoBulkAll parts + 1
  | .iface _ d => uptoBulk d + 1
  | .map entries => uptoBulkEntries entries + 1
  | .held _ => 1
def uptoBulkAll {H : Type} : List (DataW H) → Nat
  | [] => 0
  | d :: r => uptoBulk d + uptoBulkAll r
def uptoBulkEntries {H : Type} : List (Lit × DataW H) → Nat
  | [] => 0
  | x :: r => uptoBulkEntry x + uptoBulkEntries r
def uptoBulkEntry {H : Type} : Lit × DataW H → Nat
  | (.string bytes, d) => bytes.length + uptoBulk d + 1
  | (_, d) => uptoBulk d + 1
 end
def uptoSmall : (H : Type) → List (DataW H) → Bool := fun _ ds => decide (uptoBulkAll ds ≤ 1048576)
def OpenSpec.upto (s : _root_.Go.ChangeSpec) : _root_.Go.OpenSpec := { _root_.Go.OpenSpec.ofChange s with cond := some uptoSmall }

/-- 'abutmentlaw17.TreeRoom', WHERE WHAT IT READS IS OF BULK AT MOST 1048576: true; the input reads as it did. -/
def treeRoomUptoRow : OpenClaim := { program := "ytlnehgklibbjiaagreat", sum := "26872652aa869fe6bd14073c9e2885f288b2046bea2ce9adc29fd290f5f00518", func := "abutment/abutmentlaw17.TreeRoom", spec := "treeRoom", inPlace := ["slices.overlaps[abutment/space.Extent]"], unfollowed := true, recurses := true, apart := false, narrowed := true }
def TreeRoomUptoSaid : Prop := treeRoomUptoRow.holds Tryz.pinned (OpenSpec.upto treeRoomSpec)

/-- 'abutmentlaw17.TreeNested', WHERE WHAT IT READS IS OF BULK AT MOST 1048576: true; the input reads as it did. -/
def treeNestedUptoRow : OpenClaim := { program := "ytlnehgklibbjiaagreat", sum := "26872652aa869fe6bd14073c9e2885f288b2046bea2ce9adc29fd290f5f00518", func := "abutment/abutmentlaw17.TreeNested", spec := "treeNested", inPlace := ["slices.overlaps[abutment/space.Extent]"], unfollowed := true, recurses := true, apart := false, narrowed := true }
def TreeNestedUptoSaid : Prop := treeNestedUptoRow.holds Tryz.pinned (OpenSpec.upto treeNestedSpec)

/-- 'abutmentlaw17.TreeSizes', WHERE WHAT IT READS IS OF BULK AT MOST 1048576: true; the input reads as it did. -/
def treeSizesUptoRow : OpenClaim := { program := "ytlnehgklibbjiaagreat", sum := "26872652aa869fe6bd14073c9e2885f288b2046bea2ce9adc29fd290f5f00518", func := "abutment/abutmentlaw17.TreeSizes", spec := "treeSizes", inPlace := ["slices.overlaps[abutment/space.Extent]"], unfollowed := true, recurses := true, apart := false, narrowed := true }
def TreeSizesUptoSaid : Prop := treeSizesUptoRow.holds Tryz.pinned (OpenSpec.upto treeSizesSpec)

/-- 'abutmentlaw17.TreeFaults', WHERE WHAT IT READS IS OF BULK AT MOST 1048576: true; the input reads as it did. -/
def treeFaultsUptoRow : OpenClaim := { program := "ytlnehgklibbjiaagreat", sum := "26872652aa869fe6bd14073c9e2885f288b2046bea2ce9adc29fd290f5f00518", func := "abutment/abutmentlaw17.TreeFaults", spec := "treeFaults", inPlace := ["slices.overlaps[abutment/space.Extent]"], unfollowed := true, recurses := true, apart := false, narrowed := true }
def TreeFaultsUptoSaid : Prop := treeFaultsUptoRow.holds Tryz.pinned (OpenSpec.upto treeFaultsSpec)

/-- 'abutmentlaw21.CutForest', WHERE WHAT IT READS IS OF BULK AT MOST 1048576: true; the input reads as it did. -/
def cutForestUptoRow : OpenClaim := { program := "ytlnehgklibbjiaagreat", sum := "26872652aa869fe6bd14073c9e2885f288b2046bea2ce9adc29fd290f5f00518", func := "abutment/abutmentlaw21.CutForest", spec := "cutForest", inPlace := ["slices.overlaps[abutment/space.Extent]"], unfollowed := true, recurses := true, apart := false, narrowed := true }
def CutForestUptoSaid : Prop := cutForestUptoRow.holds Tryz.pinned (OpenSpec.upto cutForestSpec)

/-- 'abutmentlaw21.CutRoom', WHERE WHAT IT READS IS OF BULK AT MOST 1048576: true; the input reads as it did. -/
def cutRoomUptoRow : OpenClaim := { program := "ytlnehgklibbjiaagreat", sum := "26872652aa869fe6bd14073c9e2885f288b2046bea2ce9adc29fd290f5f00518", func := "abutment/abutmentlaw21.CutRoom", spec := "cutRoom", inPlace := ["slices.overlaps[abutment/space.Extent]"], unfollowed := true, recurses := true, apart := false, narrowed := true }
def CutRoomUptoSaid : Prop := cutRoomUptoRow.holds Tryz.pinned (OpenSpec.upto cutRoomSpec)

/-- 'abutmentlaw21.CutPath', WHERE WHAT IT READS IS OF BULK AT MOST 1048576: true; the input reads as it did. -/
def cutPathUptoRow : OpenClaim := { program := "ytlnehgklibbjiaagreat", sum := "26872652aa869fe6bd14073c9e2885f288b2046bea2ce9adc29fd290f5f00518", func := "abutment/abutmentlaw21.CutPath", spec := "cutPath", inPlace := ["slices.overlaps[abutment/space.Extent]"], unfollowed := true, recurses := true, apart := false, narrowed := true }
def CutPathUptoSaid : Prop := cutPathUptoRow.holds Tryz.pinned (OpenSpec.upto cutPathSpec)

/-- 'abutmentlaw17.TreeTells', WHERE WHAT IT READS IS OF BULK AT MOST 1048576: true; the input reads as it did. -/
def treeTellsUptoRow : OpenClaim := { program := "ytlnehgklibbjiaagreat", sum := "26872652aa869fe6bd14073c9e2885f288b2046bea2ce9adc29fd290f5f00518", func := "abutment/abutmentlaw17.TreeTells", spec := "treeTells", inPlace := ["slices.overlaps[abutment/space.Extent]"], unfollowed := true, recurses := true, apart := false, narrowed := true }
def TreeTellsUptoSaid : Prop := treeTellsUptoRow.holds Tryz.pinned (OpenSpec.upto treeTellsSpec)

/-- 'abutmentlaw21.CutTells', WHERE WHAT IT READS IS OF BULK AT MOST 1048576: true; the input reads as it did. -/
def cutTellsUptoRow : OpenClaim := { program := "ytlnehgklibbjiaagreat", sum := "26872652aa869fe6bd14073c9e2885f288b2046bea2ce9adc29fd290f5f00518", func := "abutment/abutmentlaw21.CutTells", spec := "cutTells", inPlace := ["slices.overlaps[abutment/space.Extent]"], unfollowed := true, recurses := true, apart := false, narrowed := true }
def CutTellsUptoSaid : Prop := cutTellsUptoRow.holds Tryz.pinned (OpenSpec.upto cutTellsSpec)

/-- 'abutmentlaw21.CutFaults', WHERE WHAT IT READS IS OF BULK AT MOST 1048576: true; the input reads as it did. -/
def cutFaultsUptoRow : OpenClaim := { program := "ytlnehgklibbjiaagreat", sum := "26872652aa869fe6bd14073c9e2885f288b2046bea2ce9adc29fd290f5f00518", func := "abutment/abutmentlaw21.CutFaults", spec := "cutFaults", inPlace := ["slices.overlaps[abutment/space.Extent]"], unfollowed := true, recurses := true, apart := false, narrowed := true }
def CutFaultsUptoSaid : Prop := cutFaultsUptoRow.holds Tryz.pinned (OpenSpec.upto cutFaultsSpec)

end Rows
end Go.Proofs.YtlnehgklibbjiaaGreat
