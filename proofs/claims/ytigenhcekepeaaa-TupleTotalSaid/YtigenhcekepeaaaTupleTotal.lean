/-
  TupleTotal answers true for every input, and leaves its input as it was. No condition.
-/
import Derived.Test.YtigenhcekepeaaaRow
import Derived.Test.YtigenhcekepeaaaTupLaws2
namespace Go.Proofs.Ytigenhcekepeaaa
open Go.ChangeShapes Go.WideShapes Go.ChangeAt Go.RowKit Go.SL

set_option maxRecDepth 100000 in
theorem TupleTotal_lifted (os : Os) (started : os.Started) (H : Type) (enc : TypeId × Value → H) :
    ReturnsInHanded {} Try.checked os 6 .any (Rows.tupleTotalSpec.pre6 enc Try.prog Try.f6 Rows.tupleTotalRow.domain false) (Rows.tupleTotalSpec.post enc Try.prog Try.f6 false true false false) := by
  refine returnsInHanded_of_change (C := Try.checked) own started (by kernel_rfl) Try.func6
    (ChangeSpec.witness6 (enc := enc) (C := Try.checked) false ⟨#[], #[.agg #[.int .i64 0, .int .i64 0, .int .i64 0, .int .i64 0, .int .i64 0, .int .i64 0, .int .i64 0, .int .i64 0, .int .i64 0, .int .i64 0, .int .i64 0, .int .i64 0, .int .i64 0, .int .i64 0, .int .i64 0], .agg #[.int .i64 0, .int .i64 0, .int .i64 0, .int .i64 0, .int .i64 0]], []⟩ 8 (by kernel_rfl) (by kernel_rfl) (by kernel_rfl) (by kernel_rfl)) ?_
  intro W base args ds gs before hval0 hW hcnd _
  have hval : ∀ (j : Nat) t v, Try.f6.params[j]? = some t → args[j]? = some v → Value.okWide Try.prog W .any base t v := hval0
  have hW' := hW
  obtain ⟨p, q, hA0, hV, rfl, hfz, hnd⟩ := hW
  have hA : DataW.TrodAll enc Try.prog W 0 (fun _ => true) true Try.f6.params.toList args.toList ds p := hA0
  rw [Try.params6] at hA hval
  obtain ⟨rfl, rfl⟩ := trodVars_none hV
  obtain ⟨v0, v1, d0, d1, p0, p1, rfl, rfl, rfl, h0, h1⟩ := trodAll_two hA
  obtain ⟨l, hl, rfl⟩ := openN (n := 15) Try.underlying39 (by kernel_rfl) (by kernel_rfl) Try.underlying2 (hval 0 _ v0 rfl rfl)
  obtain ⟨o0, o1, o2, o3, o4, rfl⟩ := open5 Try.underlying25 (by kernel_rfl) (by kernel_rfl) Try.underlying3 (hval 1 _ v1 rfl rfl)
  obtain ⟨a0, l0, rfl, hl0⟩ := uncons hl
  obtain ⟨a1, l1, rfl, hl1⟩ := uncons hl0
  obtain ⟨a2, l2, rfl, hl2⟩ := uncons hl1
  obtain ⟨a3, l3, rfl, hl3⟩ := uncons hl2
  obtain ⟨a4, l4, rfl, hl4⟩ := uncons hl3
  obtain ⟨b0, l5, rfl, hl5⟩ := uncons hl4
  obtain ⟨b1, l6, rfl, hl6⟩ := uncons hl5
  obtain ⟨b2, l7, rfl, hl7⟩ := uncons hl6
  obtain ⟨b3, l8, rfl, hl8⟩ := uncons hl7
  obtain ⟨b4, l9, rfl, hl9⟩ := uncons hl8
  obtain ⟨c0, l10, rfl, hl10⟩ := uncons hl9
  obtain ⟨c1, l11, rfl, hl11⟩ := uncons hl10
  obtain ⟨c2, l12, rfl, hl12⟩ := uncons hl11
  obtain ⟨c3, l13, rfl, hl13⟩ := uncons hl12
  obtain ⟨c4, l14, rfl, hl14⟩ := uncons hl13
  obtain rfl := List.eq_nil_of_length_eq_zero hl14
  clear hA0 hval0
  refine (law_calls (TupleTotal_ct a0 a1 a2 a3 a4 b0 b1 b2 b3 b4 c0 c1 c2 c3 c4 o0 o1 o2 o3 o4) W).mono fun e W' ⟨he, hw⟩ => ?_
  subst he
  exact ⟨_, rfl, lawPost hW' rfl rfl (by kernel_rfl) laidOut (by decide +kernel) rfl hw⟩

theorem TupleTotal_holds : Rows.TupleTotalSaid :=
  OpenClaim.holds_of_wide 6 Try.f6 rfl rfl rfl rfl rfl rfl rfl ⟨rfl, rfl, rfl, rfl, rfl⟩ rfl rfl rfl rfl rfl (by kernel_rfl) Try.func6 (by kernel_rfl)
    (of_decide_eq_true (by kernel_rfl)) (by unfold Func.isWrapper; first | (rw [if_pos (by decide +kernel)]; kernel_rfl) | (rw [if_neg (by decide +kernel)]; exact ⟨rfl, rfl⟩))
    (fun os started H enc _ => TupleTotal_lifted os started H enc)
end Go.Proofs.Ytigenhcekepeaaa
