/-
  No cell of these rows narrows 'for every input' (looked for: loops, veiled, ifaces, maps, wideKeys, modest, calm, conditions, laid).
  DERIVED. THE GIVEN ROWS OF THIS SEAT. 6 by the template 'for every input the law returns true; each argument reads behind the call as it read before'; 0 by the template 'total and deterministic' (their statements: YtdkihpjnidhnmaaGreatTotals.lean).
  GIVEN WITH THE SEED: the statements are not yours to turn. If you find one false, say at which input.
  Laid BY PROGRAM, IN A SANDBOX (cutbox-rows.mjs): the forced cells as the released guide's own fill.sh prints them over the translation 7d276112782ca3b6… (all of the seat's roots in one cut). By AI agents, Wed Nov 11 2026. No macro, syntax, notation, axiom, sorry.
-/
import Derived.Test.YtdkihpjnidhnmaaGreatChecked
import GoSem.Claim
import GoSem.ClaimJoined
import GoSem.ClaimMapViews
import Derived.JoinedTies
import Derived.KernelRfl
namespace Go.Proofs.YtdkihpjnidhnmaaGreat
/- THE CELL 'sum', in the pinned program and in every row, IS THE sha256 OF THE DUMP (.gsa) THAT YtdkihpjnidhnmaaGreatProg.lean LOADS. Nothing in Lean hashes anything: it is a label: what it is worth is what the hold of that sum in a sandbox is worth. -/
noncomputable def Tryz.pinned : Pinned := { name := "ytdkihpjnidhnmaagreat", sum := "7d276112782ca3b6d6b41a8b25aabe85c2d59f0a31fa2d6011d83545924af417", checked := Tryz.checked }
namespace Rows
def none {H : Type} : Left H := { results := [], args := [] }

/-- 'abutmentlaw12.SortActs': WHATEVER THE INPUT: true; the input reads as it did. -/
def sortActsSpec : ChangeSpec := { name := "sortActs", fn := fun _ => fun
  | [d1, d2, d3] => { results := [.lit (.bool true)], args := [d1, d2, d3] }
  | _ => none }
def sortActsRow : OpenClaim := { program := "ytdkihpjnidhnmaagreat", sum := "7d276112782ca3b6d6b41a8b25aabe85c2d59f0a31fa2d6011d83545924af417", func := "abutment/abutmentlaw12.SortActs", spec := "sortActs", inPlace := ["slices.overlaps[abutment/space.Extent]"], unfollowed := true, recurses := true, apart := false }
def SortActsSaid : Prop := sortActsRow.holds Tryz.pinned (OpenSpec.ofChange sortActsSpec)

/-- ITS FALSE NEIGHBOUR: 'it returns false'. Refute it at one input. -/
def sortActsWrong : ChangeSpec := { name := "sortActs", fn := fun _ => fun
  | [d1, d2, d3] => { results := [.lit (.bool false)], args := [d1, d2, d3] }
  | _ => none }
def SortActsWrongFalsely : Prop := sortActsRow.holds Tryz.pinned (OpenSpec.ofChange sortActsWrong)

/-- 'abutmentlaw12.SortAgain': WHATEVER THE INPUT: true; the input reads as it did. -/
def sortAgainSpec : ChangeSpec := { name := "sortAgain", fn := fun _ => fun
  | [d1, d2, d3] => { results := [.lit (.bool true)], args := [d1, d2, d3] }
  | _ => none }
def sortAgainRow : OpenClaim := { program := "ytdkihpjnidhnmaagreat", sum := "7d276112782ca3b6d6b41a8b25aabe85c2d59f0a31fa2d6011d83545924af417", func := "abutment/abutmentlaw12.SortAgain", spec := "sortAgain", inPlace := ["slices.overlaps[abutment/space.Extent]"], unfollowed := true, recurses := true, apart := false }
def SortAgainSaid : Prop := sortAgainRow.holds Tryz.pinned (OpenSpec.ofChange sortAgainSpec)

/-- ITS FALSE NEIGHBOUR: 'it returns false'. Refute it at one input. -/
def sortAgainWrong : ChangeSpec := { name := "sortAgain", fn := fun _ => fun
  | [d1, d2, d3] => { results := [.lit (.bool false)], args := [d1, d2, d3] }
  | _ => none }
def SortAgainWrongFalsely : Prop := sortAgainRow.holds Tryz.pinned (OpenSpec.ofChange sortAgainWrong)

/-- 'abutmentlaw12.SortFull': WHATEVER THE INPUT: true; the input reads as it did. -/
def sortFullSpec : ChangeSpec := { name := "sortFull", fn := fun _ => fun
  | [d1, d2, d3] => { results := [.lit (.bool true)], args := [d1, d2, d3] }
  | _ => none }
def sortFullRow : OpenClaim := { program := "ytdkihpjnidhnmaagreat", sum := "7d276112782ca3b6d6b41a8b25aabe85c2d59f0a31fa2d6011d83545924af417", func := "abutment/abutmentlaw12.SortFull", spec := "sortFull", inPlace := ["slices.overlaps[abutment/space.Extent]"], unfollowed := true, recurses := true, apart := false }
def SortFullSaid : Prop := sortFullRow.holds Tryz.pinned (OpenSpec.ofChange sortFullSpec)

/-- ITS FALSE NEIGHBOUR: 'it returns false'. Refute it at one input. -/
def sortFullWrong : ChangeSpec := { name := "sortFull", fn := fun _ => fun
  | [d1, d2, d3] => { results := [.lit (.bool false)], args := [d1, d2, d3] }
  | _ => none }
def SortFullWrongFalsely : Prop := sortFullRow.holds Tryz.pinned (OpenSpec.ofChange sortFullWrong)

/-- 'abutmentlaw12.SortSorts': WHATEVER THE INPUT: true; the input reads as it did. -/
def sortSortsSpec : ChangeSpec := { name := "sortSorts", fn := fun _ => fun
  | [d1, d2, d3] => { results := [.lit (.bool true)], args := [d1, d2, d3] }
  | _ => none }
def sortSortsRow : OpenClaim := { program := "ytdkihpjnidhnmaagreat", sum := "7d276112782ca3b6d6b41a8b25aabe85c2d59f0a31fa2d6011d83545924af417", func := "abutment/abutmentlaw12.SortSorts", spec := "sortSorts", inPlace := ["slices.overlaps[abutment/space.Extent]"], unfollowed := true, recurses := true, apart := false }
def SortSortsSaid : Prop := sortSortsRow.holds Tryz.pinned (OpenSpec.ofChange sortSortsSpec)

/-- ITS FALSE NEIGHBOUR: 'it returns false'. Refute it at one input. -/
def sortSortsWrong : ChangeSpec := { name := "sortSorts", fn := fun _ => fun
  | [d1, d2, d3] => { results := [.lit (.bool false)], args := [d1, d2, d3] }
  | _ => none }
def SortSortsWrongFalsely : Prop := sortSortsRow.holds Tryz.pinned (OpenSpec.ofChange sortSortsWrong)

/-- 'abutmentlaw12.SortOnce': WHATEVER THE INPUT: true; the input reads as it did. -/
def sortOnceSpec : ChangeSpec := { name := "sortOnce", fn := fun _ => fun
  | [d1, d2, d3] => { results := [.lit (.bool true)], args := [d1, d2, d3] }
  | _ => none }
def sortOnceRow : OpenClaim := { program := "ytdkihpjnidhnmaagreat", sum := "7d276112782ca3b6d6b41a8b25aabe85c2d59f0a31fa2d6011d83545924af417", func := "abutment/abutmentlaw12.SortOnce", spec := "sortOnce", inPlace := ["slices.overlaps[abutment/space.Extent]"], unfollowed := true, recurses := true, apart := false }
def SortOnceSaid : Prop := sortOnceRow.holds Tryz.pinned (OpenSpec.ofChange sortOnceSpec)

/-- ITS FALSE NEIGHBOUR: 'it returns false'. Refute it at one input. -/
def sortOnceWrong : ChangeSpec := { name := "sortOnce", fn := fun _ => fun
  | [d1, d2, d3] => { results := [.lit (.bool false)], args := [d1, d2, d3] }
  | _ => none }
def SortOnceWrongFalsely : Prop := sortOnceRow.holds Tryz.pinned (OpenSpec.ofChange sortOnceWrong)

/-- 'abutmentlaw12.SortFaults': WHATEVER THE INPUT: true; the input reads as it did. -/
def sortFaultsSpec : ChangeSpec := { name := "sortFaults", fn := fun _ => fun
  | [d1, d2, d3] => { results := [.lit (.bool true)], args := [d1, d2, d3] }
  | _ => none }
def sortFaultsRow : OpenClaim := { program := "ytdkihpjnidhnmaagreat", sum := "7d276112782ca3b6d6b41a8b25aabe85c2d59f0a31fa2d6011d83545924af417", func := "abutment/abutmentlaw12.SortFaults", spec := "sortFaults", inPlace := ["slices.overlaps[abutment/space.Extent]"], unfollowed := true, recurses := true, apart := false }
def SortFaultsSaid : Prop := sortFaultsRow.holds Tryz.pinned (OpenSpec.ofChange sortFaultsSpec)

/-- ITS FALSE NEIGHBOUR: 'it returns false'. Refute it at one input. -/
def sortFaultsWrong : ChangeSpec := { name := "sortFaults", fn := fun _ => fun
  | [d1, d2, d3] => { results := [.lit (.bool false)], args := [d1, d2, d3] }
  | _ => none }
def SortFaultsWrongFalsely : Prop := sortFaultsRow.holds Tryz.pinned (OpenSpec.ofChange sortFaultsWrong)

/- THE SECOND FORM. 'bulk': how many values and letters a reading holds, each counted each time it is reached (what is shared counts as often as it is met; a slice's spare places count too). A statement '..UptoSaid' is the law's where the arguments, and the package variables that the reading takes, are together of bulk at most 1048576: NARROWER than '..Said'. Prove '..Said' where nothing that the law and all that it calls make is longer than what came in: it says more and counts as full. Else prove '..UptoSaid'. A law counts once. -/
mutual
def uptoBulk {H : Type} : DataW H → Nat
  | .lit (.string bytes) => bytes.length + 1
  | .lit _ => 1
  | .nil => 1
  | .ptr d => uptoBulk d + 1
  | .slice elems spare => uptoBulkAll elems + uptoBulkAll spare + 1
  | .agg parts => uptoBulkAll parts + 1
  | .iface _ d => uptoBulk d + 1
  | .map entries => uptoBulkEntries entries + 1
  | .held _ => 1
def uptoBulkAll {H : Type} : List (DataW H) → Nat
  | [] => 0
  | d :: r => uptoBulk d + uptoBulkAll r
def uptoBulkEntries {H : Type} : List (Lit × DataW H) → Nat
  | [] => 0
  | x :: r => uptoBulkEntry x + uptoBulkEntries r
def uptoBulkEntry {H : Type} : Lit × DataW H → Nat
  | (.string bytes, d) => bytes.length + uptoBulk d + 1
  | (_, d) => uptoBulk d + 1
 end
def uptoSmall : (H : Type) → List (DataW H) → Bool := fun _ ds => decide (uptoBulkAll ds ≤ 1048576)
def OpenSpec.upto (s : _root_.Go.ChangeSpec) : _root_.Go.OpenSpec := { _root_.Go.OpenSpec.ofChange s with cond := some uptoSmall }

/-- 'abutmentlaw12.SortActs', WHERE WHAT IT READS IS OF BULK AT MOST 1048576: true; the input reads as it did. -/
def sortActsUptoRow : OpenClaim := { program := "ytdkihpjnidhnmaagreat", sum := "7d276112782ca3b6d6b41a8b25aabe85c2d59f0a31fa2d6011d83545924af417", func := "abutment/abutmentlaw12.SortActs", spec := "sortActs", inPlace := ["slices.overlaps[abutment/space.Extent]"], unfollowed := true, recurses := true, apart := false, narrowed := true }
def SortActsUptoSaid : Prop := sortActsUptoRow.holds Tryz.pinned (OpenSpec.upto sortActsSpec)

/-- 'abutmentlaw12.SortAgain', WHERE WHAT IT READS IS OF BULK AT MOST 1048576: true; the input reads as it did. -/
def sortAgainUptoRow : OpenClaim := { program := "ytdkihpjnidhnmaagreat", sum := "7d276112782ca3b6d6b41a8b25aabe85c2d59f0a31fa2d6011d83545924af417", func := "abutment/abutmentlaw12.SortAgain", spec := "sortAgain", inPlace := ["slices.overlaps[abutment/space.Extent]"], unfollowed := true, recurses := true, apart := false, narrowed := true }
def SortAgainUptoSaid : Prop := sortAgainUptoRow.holds Tryz.pinned (OpenSpec.upto sortAgainSpec)

/-- 'abutmentlaw12.SortFull', WHERE WHAT IT READS IS OF BULK AT MOST 1048576: true; the input reads as it did. -/
def sortFullUptoRow : OpenClaim := { program := "ytdkihpjnidhnmaagreat", sum := "7d276112782ca3b6d6b41a8b25aabe85c2d59f0a31fa2d6011d83545924af417", func := "abutment/abutmentlaw12.SortFull", spec := "sortFull", inPlace := ["slices.overlaps[abutment/space.Extent]"], unfollowed := true, recurses := true, apart := false, narrowed := true }
def SortFullUptoSaid : Prop := sortFullUptoRow.holds Tryz.pinned (OpenSpec.upto sortFullSpec)

/-- 'abutmentlaw12.SortSorts', WHERE WHAT IT READS IS OF BULK AT MOST 1048576: true; the input reads as it did. -/
def sortSortsUptoRow : OpenClaim := { program := "ytdkihpjnidhnmaagreat", sum := "7d276112782ca3b6d6b41a8b25aabe85c2d59f0a31fa2d6011d83545924af417", func := "abutment/abutmentlaw12.SortSorts", spec := "sortSorts", inPlace := ["slices.overlaps[abutment/space.Extent]"], unfollowed := true, recurses := true, apart := false, narrowed := true }
def SortSortsUptoSaid : Prop := sortSortsUptoRow.holds Tryz.pinned (OpenSpec.upto sortSortsSpec)

/-- 'abutmentlaw12.SortOnce', WHERE WHAT IT READS IS OF BULK AT MOST 1048576: true; the input reads as it did. -/
def sortOnceUptoRow : OpenClaim := { program := "ytdkihpjnidhnmaagreat", sum := "7d276112782ca3b6d6b41a8b25aabe85c2d59f0a31fa2d6011d83545924af417", func := "abutment/abutmentlaw12.SortOnce", spec := "sortOnce", inPlace := ["slices.overlaps[abutment/space.Extent]"], unfollowed := true, recurses := true, apart := false, narrowed := true }
def SortOnceUptoSaid : Prop := sortOnceUptoRow.holds Tryz.pinned (OpenSpec.upto sortOnceSpec)

/-- 'abutmentlaw12.SortFaults', WHERE WHAT IT READS IS OF BULK AT MOST 1048576: true; the input reads as it did. -/
def sortFaultsUptoRow : OpenClaim := { program := "ytdkihpjnidhnmaagreat", sum := "7d276112782ca3b6d6b41a8b25aabe85c2d59f0a31fa2d6011d83545924af417", func := "abutment/abutmentlaw12.SortFaults", spec := "sortFaults", inPlace := ["slices.overlaps[abutment/space.Extent]"], unfollowed := true, recurses := true, apart := false, narrowed := true }
def SortFaultsUptoSaid : Prop := sortFaultsUptoRow.holds Tryz.pinned (OpenSpec.upto sortFaultsSpec)

end Rows
end Go.Proofs.YtdkihpjnidhnmaaGreat
