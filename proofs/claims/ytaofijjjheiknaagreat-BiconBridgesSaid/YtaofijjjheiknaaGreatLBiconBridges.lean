/-
  Parts of the proof, put together: BiconBridges. No condition.
-/
import Derived.Test.YtaofijjjheiknaaGreatLBiconBridgesA
set_option linter.unusedVariables false
set_option linter.unusedSimpArgs false
set_option linter.unnecessarySimpa false
set_option maxHeartbeats 4000000
open Go.Proofs.Tryz renaming prog→AC
open Go.Proofs.Tryz
open Go.Value renaming int→Z9
open Go.IntKind renaming i64→Z8
namespace Go.Proofs.YtaofijjjheiknaaGreat
open Go.ChangeShapes Go.WideShapes Go.ChangeAt Go.RowKit Go.SL Go.Tup
set_option maxRecDepth 100000 in
theorem BiconBridges_lifted (os:Os) (aa:os.Started) (H:Type) (enc:TypeId×Value→H):ReturnsInHanded {} checked os 13 .any (Rows.biconBridgesSpec.pre6 enc AC f13 Rows.biconBridgesRow.domain false) (Rows.biconBridgesSpec.post enc AC f13 false true false false):=by
 refine returnsInHanded_of_change (C:=checked) own aa (by kernel_rfl) func13
  (ChangeSpec.witness6 (enc:=enc) (C:=checked) false ⟨#[],#[.agg #[Z9 Z8 0,.slice none 0 0]],[]⟩ 8 (by kernel_rfl) (by kernel_rfl) (by kernel_rfl) (by kernel_rfl)) ?_
 intro W ad args ds gs ah ab hW aj _;have ac:∀(j:Nat) t v,f13.params[j]? =some t→args[j]? =some v→Value.okWide AC W .any ad t v:=ab;have ai:=hW;obtain⟨p,q,ae,hV,rfl,ak,al⟩:=hW;have hA:DataW.TrodAll enc AC W 0 (fun _=>true) true f13.params.toList args.toList ds p:=ae;rw[params13] at hA ac;obtain⟨rfl,rfl⟩:=trodVars_none hV;obtain⟨v0,d0,rfl,rfl,h0⟩:=trodAll_one hA;obtain⟨n,p,m,cap,es,ch,rfl,hv,hm,hc,ag⟩:=nL underlying24 underlying3 underlying22 underlying53 underlying3 underlying3 rfl rfl (by kernel_rfl) (by kernel_rfl) (by kernel_rfl) (by kernel_rfl) rfl rfl (by kernel_rfl) (by kernel_rfl) h0 (ac 0 _ v0 rfl rfl);clear ae ab;refine(nJ hc ag (FW n p m cap es ch hv hm)).mono fun e W' ⟨he,hw⟩=>?_;subst he;exact⟨_,rfl,cW ai rfl rfl (by kernel_rfl) cU (by decide+kernel) rfl hw⟩
theorem FX:prog.inPlace 13=Rows.biconBridgesRow.inPlace:=by kernel_rfl
theorem FY:prog.unfollowed 13=Rows.biconBridgesRow.unfollowed:=by kernel_rfl
theorem FZ:prog.recurses 13=Rows.biconBridgesRow.recurses:=by kernel_rfl
theorem F0:prog.varsNamed 13=Rows.biconBridgesRow.named:=by kernel_rfl
theorem F1:joinedFacts AC 13 f13 Rows.biconBridgesSpec Rows.biconBridgesRow=true:=by unfold joinedFacts;rw[FX,FY,FZ,F0];exact of_decide_eq_true (by kernel_rfl)
theorem BiconBridges_holds:Rows.BiconBridgesSaid:=
 OpenClaim.holds_of_wide 13 f13 rfl rfl rfl rfl rfl rfl rfl ⟨rfl,rfl,rfl,rfl,rfl⟩ rfl rfl rfl rfl rfl (by kernel_rfl) func13 F1
  (of_decide_eq_true (by kernel_rfl)) (by unfold Func.isWrapper;first|(rw[if_pos (by decide+kernel)];kernel_rfl)|(rw[if_neg (by decide+kernel)];exact⟨rfl,rfl⟩))
  (fun os aa H enc _=>BiconBridges_lifted os aa H enc)
end Go.Proofs.YtaofijjjheiknaaGreat
