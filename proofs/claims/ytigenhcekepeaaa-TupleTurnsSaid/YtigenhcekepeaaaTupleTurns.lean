/-
  TupleTurns answers true for every input, and leaves its input as it was. No condition.
-/
import Derived.Test.YtigenhcekepeaaaRow
import Derived.Test.YtigenhcekepeaaaTupLaws2
namespace Go.Proofs.Ytigenhcekepeaaa
open Go.ChangeShapes Go.WideShapes Go.ChangeAt Go.RowKit Go.SL

set_option maxRecDepth 100000 in
theorem TupleTurns_lifted (os : Os) (started : os.Started) (H : Type) (enc : TypeId × Value → H) :
    ReturnsInHanded {} Try.checked os 7 .any (Rows.tupleTurnsSpec.pre6 enc Try.prog Try.f7 Rows.tupleTurnsRow.domain false) (Rows.tupleTurnsSpec.post enc Try.prog Try.f7 false true false false) := by
  refine returnsInHanded_of_change (C := Try.checked) own started (by kernel_rfl) Try.func7
    (ChangeSpec.witness6 (enc := enc) (C := Try.checked) false ⟨#[], #[.agg #[.int .i64 0, .int .i64 0, .int .i64 0, .int .i64 0, .int .i64 0], .agg #[.int .i64 0, .int .i64 0, .int .i64 0, .int .i64 0, .int .i64 0], .agg #[.int .i64 0, .int .i64 0, .int .i64 0, .int .i64 0, .int .i64 0]], []⟩ 8 (by kernel_rfl) (by kernel_rfl) (by kernel_rfl) (by kernel_rfl)) ?_
  intro W base args ds gs before hval0 hW hcnd _
  have hval : ∀ (j : Nat) t v, Try.f7.params[j]? = some t → args[j]? = some v → Value.okWide Try.prog W .any base t v := hval0
  have hW' := hW
  obtain ⟨p, q, hA0, hV, rfl, hfz, hnd⟩ := hW
  have hA : DataW.TrodAll enc Try.prog W 0 (fun _ => true) true Try.f7.params.toList args.toList ds p := hA0
  rw [Try.params7] at hA hval
  obtain ⟨rfl, rfl⟩ := trodVars_none hV
  obtain ⟨v0, v1, v2, d0, d1, d2, p0, p1, p2, rfl, rfl, rfl, h0, h1, h2⟩ := trodAll_three hA
  obtain ⟨a0, a1, a2, a3, a4, rfl⟩ := open5 Try.underlying23 (by kernel_rfl) (by kernel_rfl) Try.underlying2 (hval 0 _ v0 rfl rfl)
  obtain ⟨c0, c1, c2, c3, c4, rfl⟩ := open5 Try.underlying23 (by kernel_rfl) (by kernel_rfl) Try.underlying2 (hval 1 _ v1 rfl rfl)
  obtain ⟨o0, o1, o2, o3, o4, rfl⟩ := open5 Try.underlying25 (by kernel_rfl) (by kernel_rfl) Try.underlying3 (hval 2 _ v2 rfl rfl)
  clear hA0 hval0
  refine (law_calls (TupleTurns_ct a0 a1 a2 a3 a4 c0 c1 c2 c3 c4 o0 o1 o2 o3 o4) W).mono fun e W' ⟨he, hw⟩ => ?_
  subst he
  exact ⟨_, rfl, lawPost hW' rfl rfl (by kernel_rfl) laidOut (by decide +kernel) rfl hw⟩

theorem TupleTurns_holds : Rows.TupleTurnsSaid :=
  OpenClaim.holds_of_wide 7 Try.f7 rfl rfl rfl rfl rfl rfl rfl ⟨rfl, rfl, rfl, rfl, rfl⟩ rfl rfl rfl rfl rfl (by kernel_rfl) Try.func7 (by kernel_rfl)
    (of_decide_eq_true (by kernel_rfl)) (by unfold Func.isWrapper; first | (rw [if_pos (by decide +kernel)]; kernel_rfl) | (rw [if_neg (by decide +kernel)]; exact ⟨rfl, rfl⟩))
    (fun os started H enc _ => TupleTurns_lifted os started H enc)
end Go.Proofs.Ytigenhcekepeaaa
