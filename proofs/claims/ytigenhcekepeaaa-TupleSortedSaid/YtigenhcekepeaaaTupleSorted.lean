/-
  TupleSorted answers true for every input, and leaves its input as it was. No condition.
-/
import Derived.Test.YtigenhcekepeaaaRowTup
import Derived.Test.YtigenhcekepeaaaTupSort3
namespace Go.Proofs.Ytigenhcekepeaaa
open Go.ChangeShapes Go.WideShapes Go.ChangeAt Go.RowKit Go.SL

set_option maxRecDepth 100000 in
theorem TupleSorted_lifted (os : Os) (started : os.Started) (H : Type) (enc : TypeId × Value → H) :
    ReturnsInHanded {} Try.checked os 5 .any (Rows.tupleSortedSpec.pre6 enc Try.prog Try.f5 Rows.tupleSortedRow.domain false) (Rows.tupleSortedSpec.post enc Try.prog Try.f5 false true false false) := by
  refine returnsInHanded_of_change (C := Try.checked) own started (by kernel_rfl) Try.func5
    (ChangeSpec.witness6 (enc := enc) (C := Try.checked) false ⟨#[], #[.slice none 0 0, .agg #[.int .i64 0, .int .i64 0, .int .i64 0, .int .i64 0, .int .i64 0]], []⟩ 8 (by kernel_rfl) (by kernel_rfl) (by kernel_rfl) (by kernel_rfl)) ?_
  intro W base args ds gs before hval0 hW hcnd _
  have hval : ∀ (j : Nat) t v, Try.f5.params[j]? = some t → args[j]? = some v → Value.okWide Try.prog W .any base t v := hval0
  have hW' := hW
  obtain ⟨p, q, hA0, hV, rfl, hfz, hnd⟩ := hW
  have hA : DataW.TrodAll enc Try.prog W 0 (fun _ => true) true Try.f5.params.toList args.toList ds p := hA0
  rw [Try.params5] at hA hval
  obtain ⟨rfl, rfl⟩ := trodVars_none hV
  obtain ⟨v0, v1, d0, d1, p0, p1, rfl, rfl, rfl, h0, h1⟩ := trodAll_two hA
  obtain ⟨p, n, cap, ts, c, rfl, hv, hm, hc, hnd'⟩ := open_tuples Try.underlying35 Try.underlying23 Try.underlying2 (by kernel_rfl) (by kernel_rfl) h0 (hval 0 _ v0 rfl rfl)
  obtain ⟨o0, o1, o2, o3, o4, rfl⟩ := open5 Try.underlying25 (by kernel_rfl) (by kernel_rfl) Try.underlying3 (hval 1 _ v1 rfl rfl)
  clear hA0 hval0
  refine (law_calls1 hc hnd' (TupleSorted_ct o0 o1 o2 o3 o4 p n cap ts c hv hm)).mono fun e W' ⟨he, hw⟩ => ?_
  subst he
  exact ⟨_, rfl, lawPost hW' rfl rfl (by kernel_rfl) laidOut (by decide +kernel) rfl hw⟩

theorem TupleSorted_holds : Rows.TupleSortedSaid :=
  OpenClaim.holds_of_wide 5 Try.f5 rfl rfl rfl rfl rfl rfl rfl ⟨rfl, rfl, rfl, rfl, rfl⟩ rfl rfl rfl rfl rfl (by kernel_rfl) Try.func5 (by kernel_rfl)
    (of_decide_eq_true (by kernel_rfl)) (by unfold Func.isWrapper; first | (rw [if_pos (by decide +kernel)]; kernel_rfl) | (rw [if_neg (by decide +kernel)]; exact ⟨rfl, rfl⟩))
    (fun os started H enc _ => TupleSorted_lifted os started H enc)
end Go.Proofs.Ytigenhcekepeaaa
