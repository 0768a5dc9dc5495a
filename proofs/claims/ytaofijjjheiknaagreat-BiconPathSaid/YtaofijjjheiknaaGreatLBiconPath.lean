/-
  Parts of the proof, put together: BiconPath. No condition.
-/
import Derived.Test.YtaofijjjheiknaaGreatLBiconPathA
set_option linter.unusedVariables false
set_option linter.unusedSimpArgs false
set_option linter.unnecessarySimpa false
set_option maxHeartbeats 4000000
open Go.Proofs.Tryz renaming prog→AC,checked→ER
open Go.Proofs.Tryz
namespace Go.Proofs.YtaofijjjheiknaaGreat
open Go.ChangeShapes Go.WideShapes Go.ChangeAt Go.RowKit Go.SL Go.Tup
set_option maxRecDepth 100000 in
theorem BiconPath_lifted (os:Os) (aa:os.Started) (H:Type) (enc:TypeId×Value→H):ReturnsInHanded {} ER os 7 .any (Rows.biconPathSpec.pre6 enc AC f7 Rows.biconPathRow.domain false) (Rows.biconPathSpec.post enc AC f7 false true false false):=by
 refine returnsInHanded_of_change (C:=ER) own aa (by kernel_rfl) func7
  (ChangeSpec.witness6 (enc:=enc) (C:=ER) false ⟨#[],#[.int .u8 0,.bool false],[]⟩ 8 (by kernel_rfl) (by kernel_rfl) (by kernel_rfl) (by kernel_rfl)) ?_
 intro W ad args ds gs ag ab hW aj _;have ac:∀(j:Nat) t v,f7.params[j]? =some t→args[j]? =some v→Value.okWide AC W .any ad t v:=ab;have ah:=hW;obtain⟨p,q,ae,hV,rfl,ak,al⟩:=hW;have hA:DataW.TrodAll enc AC W 0 (fun _=>true) true f7.params.toList args.toList ds p:=ae;rw[params7] at hA ac;obtain⟨rfl,rfl⟩:=trodVars_none hV;obtain⟨v0,v1,d0,d1,p0,p1,rfl,rfl,rfl,h0,h1⟩:=trodAll_two hA;obtain⟨e0,ai,rfl⟩:=dI underlying5 (ac 0 _ v0 rfl rfl);obtain⟨e1,rfl⟩:=F1 underlying4 (ac 1 _ v1 rfl rfl);clear ae ab;refine(FO (GC e0 ai e1) W).mono fun e W' ⟨he,hw⟩=>?_;subst he;exact⟨_,rfl,Yi ah rfl rfl (by kernel_rfl) Yh (by decide+kernel) rfl hw⟩
theorem GD:prog.inPlace 7=Rows.biconPathRow.inPlace:=by kernel_rfl
theorem GE:prog.unfollowed 7=Rows.biconPathRow.unfollowed:=by kernel_rfl
theorem GF:prog.recurses 7=Rows.biconPathRow.recurses:=by kernel_rfl
theorem GG:prog.varsNamed 7=Rows.biconPathRow.named:=by kernel_rfl
theorem GH:joinedFacts AC 7 f7 Rows.biconPathSpec Rows.biconPathRow=true:=by unfold joinedFacts;rw[GD,GE,GF,GG];exact of_decide_eq_true (by kernel_rfl)
theorem BiconPath_holds:Rows.BiconPathSaid:=
 OpenClaim.holds_of_wide 7 f7 rfl rfl rfl rfl rfl rfl rfl ⟨rfl,rfl,rfl,rfl,rfl⟩ rfl rfl rfl rfl rfl (by kernel_rfl) func7 GH
  (of_decide_eq_true (by kernel_rfl)) (by unfold Func.isWrapper;first|(rw[if_pos (by decide+kernel)];kernel_rfl)|(rw[if_neg (by decide+kernel)];exact⟨rfl,rfl⟩))
  (fun os aa H enc _=>BiconPath_lifted os aa H enc)
end Go.Proofs.YtaofijjjheiknaaGreat
