/-
  Parts of the proof, put together: BiconFaults. No condition.
-/
import Derived.Test.YtaofijjjheiknaaGreatLBiconFaultsA
set_option linter.unusedVariables false
set_option linter.unusedSimpArgs false
set_option linter.unnecessarySimpa false
set_option maxHeartbeats 4000000
open Go.Proofs.Tryz renaming prog→AC
open Go.Proofs.Tryz
open Go.Value renaming int→Z9
open Go.IntKind renaming i64→Z8
namespace Go.Proofs.YtaofijjjheiknaaGreat
open Go.ChangeShapes Go.WideShapes Go.ChangeAt Go.RowKit Go.SL Go.Tup
set_option maxRecDepth 100000 in
theorem BiconFaults_lifted (os:Os) (aa:os.Started) (H:Type) (enc:TypeId×Value→H):ReturnsInHanded {} checked os 14 .any (Rows.biconFaultsSpec.pre6 enc AC f14 Rows.biconFaultsRow.domain false) (Rows.biconFaultsSpec.post enc AC f14 false true false false):=by
 refine returnsInHanded_of_change (C:=checked) own aa (by kernel_rfl) func14
  (ChangeSpec.witness6 (enc:=enc) (C:=checked) false ⟨#[],#[.agg #[Z9 Z8 0,.slice none 0 0],.int .u16 0],[]⟩ 8 (by kernel_rfl) (by kernel_rfl) (by kernel_rfl) (by kernel_rfl)) ?_
 intro W ad args ds gs ah ab hW ak _;have ac:∀(j:Nat) t v,f14.params[j]? =some t→args[j]? =some v→Value.okWide AC W .any ad t v:=ab;have ai:=hW;obtain⟨p,q,ae,hV,rfl,al,am⟩:=hW;have hA:DataW.TrodAll enc AC W 0 (fun _=>true) true f14.params.toList args.toList ds p:=ae;rw[params14] at hA ac;obtain⟨rfl,rfl⟩:=trodVars_none hV;obtain⟨v0,v1,d0,d1,p0,p1,rfl,rfl,rfl,h0,h1⟩:=trodAll_two hA;obtain⟨n,p,m,cap,es,ch,rfl,hv,hm,hc,ag⟩:=nL underlying24 underlying3 underlying22 underlying53 underlying3 underlying3 rfl rfl (by kernel_rfl) (by kernel_rfl) (by kernel_rfl) (by kernel_rfl) rfl rfl (by kernel_rfl) (by kernel_rfl) h0 (ac 0 _ v0 rfl rfl);obtain⟨e1,aj,rfl⟩:=E7 underlying63 (ac 1 _ v1 rfl rfl);clear ae ab;refine(nJ hc ag (FP n p m cap es ch hv hm e1 aj)).mono fun e W' ⟨he,hw⟩=>?_;subst he;exact⟨_,rfl,cW ai rfl rfl (by kernel_rfl) cU (by decide+kernel) rfl hw⟩
theorem FQ:prog.inPlace 14=Rows.biconFaultsRow.inPlace:=by kernel_rfl
theorem FR:prog.unfollowed 14=Rows.biconFaultsRow.unfollowed:=by kernel_rfl
theorem FS:prog.recurses 14=Rows.biconFaultsRow.recurses:=by kernel_rfl
theorem FT:prog.varsNamed 14=Rows.biconFaultsRow.named:=by kernel_rfl
theorem FU:joinedFacts AC 14 f14 Rows.biconFaultsSpec Rows.biconFaultsRow=true:=by unfold joinedFacts;rw[FQ,FR,FS,FT];exact of_decide_eq_true (by kernel_rfl)
theorem BiconFaults_holds:Rows.BiconFaultsSaid:=
 OpenClaim.holds_of_wide 14 f14 rfl rfl rfl rfl rfl rfl rfl ⟨rfl,rfl,rfl,rfl,rfl⟩ rfl rfl rfl rfl rfl (by kernel_rfl) func14 FU
  (of_decide_eq_true (by kernel_rfl)) (by unfold Func.isWrapper;first|(rw[if_pos (by decide+kernel)];kernel_rfl)|(rw[if_neg (by decide+kernel)];exact⟨rfl,rfl⟩))
  (fun os aa H enc _=>BiconFaults_lifted os aa H enc)
end Go.Proofs.YtaofijjjheiknaaGreat
