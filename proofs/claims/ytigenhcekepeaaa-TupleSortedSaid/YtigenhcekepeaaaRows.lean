/-
  No cell of these rows narrows 'for every input' (looked for: loops, veiled, ifaces, maps, wideKeys, modest, calm, conditions, laid).
  DERIVED. THE GIVEN ROWS OF THIS SEAT. 5 by the template 'for every input the law returns true; each argument reads behind the call as it read before'; 0 by the template 'total and deterministic' (their statements: YtigenhcekepeaaaTotals.lean).
  GIVEN WITH THE SEED: the statements are not yours to turn. If you find one false, say at which input.
  Laid BY PROGRAM, IN A SANDBOX (cutbox-rows.mjs): the forced cells as the released guide's own fill.sh prints them over the translation 701affd4db5579b4… (all of the seat's roots in one cut). By AI agents, Wed Nov 11 2026. No macro, syntax, notation, axiom, sorry.
-/
import Derived.Test.YtigenhcekepeaaaChecked
import GoSem.Claim
import GoSem.ClaimJoined
import GoSem.ClaimMapViews
import Derived.JoinedTies
import Derived.KernelRfl
namespace Go.Proofs.Ytigenhcekepeaaa
/- THE CELL 'sum', in the pinned program and in every row, IS THE sha256 OF THE DUMP (.gsa) THAT YtigenhcekepeaaaProg.lean LOADS. Nothing in Lean hashes anything: it is a label: what it is worth is what the hold of that sum in a sandbox is worth. -/
noncomputable def Try.pinned : Pinned := { name := "ytigenhcekepeaaa", sum := "701affd4db5579b4e457aff9294be669628161a0696e8a26c3fe98a0181ccdd3", checked := Try.checked }
namespace Rows
def none {H : Type} : Left H := { results := [], args := [] }

/-- 'abutmentlaw11.TupleFirst': WHATEVER THE INPUT: true; the input reads as it did. -/
def tupleFirstSpec : ChangeSpec := { name := "tupleFirst", fn := fun _ => fun
  | [d1, d2, d3] => { results := [.lit (.bool true)], args := [d1, d2, d3] }
  | _ => none }
def tupleFirstRow : OpenClaim := { program := "ytigenhcekepeaaa", sum := "701affd4db5579b4e457aff9294be669628161a0696e8a26c3fe98a0181ccdd3", func := "abutment/abutmentlaw11.TupleFirst", spec := "tupleFirst", apart := false }
def TupleFirstSaid : Prop := tupleFirstRow.holds Try.pinned (OpenSpec.ofChange tupleFirstSpec)

/-- ITS FALSE NEIGHBOUR: 'it returns false'. Refute it at one input. -/
def tupleFirstWrong : ChangeSpec := { name := "tupleFirst", fn := fun _ => fun
  | [d1, d2, d3] => { results := [.lit (.bool false)], args := [d1, d2, d3] }
  | _ => none }
def TupleFirstWrongFalsely : Prop := tupleFirstRow.holds Try.pinned (OpenSpec.ofChange tupleFirstWrong)

/-- 'abutmentlaw11.TupleOrders': WHATEVER THE INPUT: true; the input reads as it did. -/
def tupleOrdersSpec : ChangeSpec := { name := "tupleOrders", fn := fun _ => fun
  | [d1, d2, d3] => { results := [.lit (.bool true)], args := [d1, d2, d3] }
  | _ => none }
def tupleOrdersRow : OpenClaim := { program := "ytigenhcekepeaaa", sum := "701affd4db5579b4e457aff9294be669628161a0696e8a26c3fe98a0181ccdd3", func := "abutment/abutmentlaw11.TupleOrders", spec := "tupleOrders", apart := false }
def TupleOrdersSaid : Prop := tupleOrdersRow.holds Try.pinned (OpenSpec.ofChange tupleOrdersSpec)

/-- ITS FALSE NEIGHBOUR: 'it returns false'. Refute it at one input. -/
def tupleOrdersWrong : ChangeSpec := { name := "tupleOrders", fn := fun _ => fun
  | [d1, d2, d3] => { results := [.lit (.bool false)], args := [d1, d2, d3] }
  | _ => none }
def TupleOrdersWrongFalsely : Prop := tupleOrdersRow.holds Try.pinned (OpenSpec.ofChange tupleOrdersWrong)

/-- 'abutmentlaw11.TupleSorted': WHATEVER THE INPUT: true; the input reads as it did. -/
def tupleSortedSpec : ChangeSpec := { name := "tupleSorted", fn := fun _ => fun
  | [d1, d2] => { results := [.lit (.bool true)], args := [d1, d2] }
  | _ => none }
def tupleSortedRow : OpenClaim := { program := "ytigenhcekepeaaa", sum := "701affd4db5579b4e457aff9294be669628161a0696e8a26c3fe98a0181ccdd3", func := "abutment/abutmentlaw11.TupleSorted", spec := "tupleSorted", unfollowed := true, recurses := true, apart := false }
def TupleSortedSaid : Prop := tupleSortedRow.holds Try.pinned (OpenSpec.ofChange tupleSortedSpec)

/-- ITS FALSE NEIGHBOUR: 'it returns false'. Refute it at one input. -/
def tupleSortedWrong : ChangeSpec := { name := "tupleSorted", fn := fun _ => fun
  | [d1, d2] => { results := [.lit (.bool false)], args := [d1, d2] }
  | _ => none }
def TupleSortedWrongFalsely : Prop := tupleSortedRow.holds Try.pinned (OpenSpec.ofChange tupleSortedWrong)

/-- 'abutmentlaw11.TupleTotal': WHATEVER THE INPUT: true; the input reads as it did. -/
def tupleTotalSpec : ChangeSpec := { name := "tupleTotal", fn := fun _ => fun
  | [d1, d2] => { results := [.lit (.bool true)], args := [d1, d2] }
  | _ => none }
def tupleTotalRow : OpenClaim := { program := "ytigenhcekepeaaa", sum := "701affd4db5579b4e457aff9294be669628161a0696e8a26c3fe98a0181ccdd3", func := "abutment/abutmentlaw11.TupleTotal", spec := "tupleTotal", apart := false }
def TupleTotalSaid : Prop := tupleTotalRow.holds Try.pinned (OpenSpec.ofChange tupleTotalSpec)

/-- ITS FALSE NEIGHBOUR: 'it returns false'. Refute it at one input. -/
def tupleTotalWrong : ChangeSpec := { name := "tupleTotal", fn := fun _ => fun
  | [d1, d2] => { results := [.lit (.bool false)], args := [d1, d2] }
  | _ => none }
def TupleTotalWrongFalsely : Prop := tupleTotalRow.holds Try.pinned (OpenSpec.ofChange tupleTotalWrong)

/-- 'abutmentlaw11.TupleTurns': WHATEVER THE INPUT: true; the input reads as it did. -/
def tupleTurnsSpec : ChangeSpec := { name := "tupleTurns", fn := fun _ => fun
  | [d1, d2, d3] => { results := [.lit (.bool true)], args := [d1, d2, d3] }
  | _ => none }
def tupleTurnsRow : OpenClaim := { program := "ytigenhcekepeaaa", sum := "701affd4db5579b4e457aff9294be669628161a0696e8a26c3fe98a0181ccdd3", func := "abutment/abutmentlaw11.TupleTurns", spec := "tupleTurns", apart := false }
def TupleTurnsSaid : Prop := tupleTurnsRow.holds Try.pinned (OpenSpec.ofChange tupleTurnsSpec)

/-- ITS FALSE NEIGHBOUR: 'it returns false'. Refute it at one input. -/
def tupleTurnsWrong : ChangeSpec := { name := "tupleTurns", fn := fun _ => fun
  | [d1, d2, d3] => { results := [.lit (.bool false)], args := [d1, d2, d3] }
  | _ => none }
def TupleTurnsWrongFalsely : Prop := tupleTurnsRow.holds Try.pinned (OpenSpec.ofChange tupleTurnsWrong)

/- THE SECOND FORM. 'bulk': how many values and letters a reading holds, each counted each time it is reached (what is shared counts as often as it is met; a slice's spare places count too). A statement '..UptoSaid' is the law's where the arguments, and the package variables that the reading takes, are together of bulk at most 1048576: NARROWER than '..Said'. Prove '..Said' where nothing that the law and all that it calls make is longer than what came in: it says more and counts as full. Else prove '..UptoSaid'. A law counts once. -/
mutual
def uptoBulk {H : Type} : DataW H → Nat
  | .lit (.string bytes) => bytes.length + 1
  | .lit _ => 1
  | .nil => 1
  | .ptr d => uptoBulk d + 1
  | .slice elems spare => uptoBulkAll elems + uptoBulkAll spare + 1
  | .agg parts => uptoBulkAll parts + 1
  | .iface _ d => uptoBulk d + 1
  | .map entries => uptoBulkEntries entries + 1
  | .held _ => 1
def uptoBulkAll {H : Type} : List (DataW H) → Nat
  | [] => 0
  | d :: r => uptoBulk d + uptoBulkAll r
def uptoBulkEntries {H : Type} : List (Lit × DataW H) → Nat
  | [] => 0
  | x :: r => uptoBulkEntry x + uptoBulkEntries r
def uptoBulkEntry {H : Type} : Lit × DataW H → Nat
  | (.string bytes, d) => bytes.length + uptoBulk d + 1
  | (_, d) => uptoBulk d + 1
 end
def uptoSmall : (H : Type) → List (DataW H) → Bool := fun _ ds => decide (uptoBulkAll ds ≤ 1048576)
def OpenSpec.upto (s : _root_.Go.ChangeSpec) : _root_.Go.OpenSpec := { _root_.Go.OpenSpec.ofChange s with cond := some uptoSmall }

/-- 'abutmentlaw11.TupleFirst', WHERE WHAT IT READS IS OF BULK AT MOST 1048576: true; the input reads as it did. -/
def tupleFirstUptoRow : OpenClaim := { program := "ytigenhcekepeaaa", sum := "701affd4db5579b4e457aff9294be669628161a0696e8a26c3fe98a0181ccdd3", func := "abutment/abutmentlaw11.TupleFirst", spec := "tupleFirst", apart := false, narrowed := true }
def TupleFirstUptoSaid : Prop := tupleFirstUptoRow.holds Try.pinned (OpenSpec.upto tupleFirstSpec)

/-- 'abutmentlaw11.TupleOrders', WHERE WHAT IT READS IS OF BULK AT MOST 1048576: true; the input reads as it did. -/
def tupleOrdersUptoRow : OpenClaim := { program := "ytigenhcekepeaaa", sum := "701affd4db5579b4e457aff9294be669628161a0696e8a26c3fe98a0181ccdd3", func := "abutment/abutmentlaw11.TupleOrders", spec := "tupleOrders", apart := false, narrowed := true }
def TupleOrdersUptoSaid : Prop := tupleOrdersUptoRow.holds Try.pinned (OpenSpec.upto tupleOrdersSpec)

/-- 'abutmentlaw11.TupleSorted', WHERE WHAT IT READS IS OF BULK AT MOST 1048576: true; the input reads as it did. -/
def tupleSortedUptoRow : OpenClaim := { program := "ytigenhcekepeaaa", sum := "701affd4db5579b4e457aff9294be669628161a0696e8a26c3fe98a0181ccdd3", func := "abutment/abutmentlaw11.TupleSorted", spec := "tupleSorted", unfollowed := true, recurses := true, apart := false, narrowed := true }
def TupleSortedUptoSaid : Prop := tupleSortedUptoRow.holds Try.pinned (OpenSpec.upto tupleSortedSpec)

/-- 'abutmentlaw11.TupleTotal', WHERE WHAT IT READS IS OF BULK AT MOST 1048576: true; the input reads as it did. -/
def tupleTotalUptoRow : OpenClaim := { program := "ytigenhcekepeaaa", sum := "701affd4db5579b4e457aff9294be669628161a0696e8a26c3fe98a0181ccdd3", func := "abutment/abutmentlaw11.TupleTotal", spec := "tupleTotal", apart := false, narrowed := true }
def TupleTotalUptoSaid : Prop := tupleTotalUptoRow.holds Try.pinned (OpenSpec.upto tupleTotalSpec)

/-- 'abutmentlaw11.TupleTurns', WHERE WHAT IT READS IS OF BULK AT MOST 1048576: true; the input reads as it did. -/
def tupleTurnsUptoRow : OpenClaim := { program := "ytigenhcekepeaaa", sum := "701affd4db5579b4e457aff9294be669628161a0696e8a26c3fe98a0181ccdd3", func := "abutment/abutmentlaw11.TupleTurns", spec := "tupleTurns", apart := false, narrowed := true }
def TupleTurnsUptoSaid : Prop := tupleTurnsUptoRow.holds Try.pinned (OpenSpec.upto tupleTurnsSpec)

end Rows
end Go.Proofs.Ytigenhcekepeaaa
