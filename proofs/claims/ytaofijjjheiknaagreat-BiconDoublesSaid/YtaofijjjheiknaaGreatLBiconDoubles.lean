/-
  Parts of the proof, put together: BiconDoubles. No condition.
-/
import Derived.Test.YtaofijjjheiknaaGreatLBiconDoublesA
set_option linter.unusedVariables false
set_option linter.unusedSimpArgs false
set_option linter.unnecessarySimpa false
set_option maxHeartbeats 4000000
open Go.Proofs.Tryz renaming prog→AC,underlying3→CX,checked→ER
open Go.Proofs.Tryz
open Go.Value renaming int→Z9
open Go.IntKind renaming i64→Z8
namespace Go.Proofs.YtaofijjjheiknaaGreat
open Go.ChangeShapes Go.WideShapes Go.ChangeAt Go.RowKit Go.SL Go.Tup
set_option maxRecDepth 100000 in
theorem BiconDoubles_lifted (os:Os) (aa:os.Started) (H:Type) (enc:TypeId×Value→H):ReturnsInHanded {} ER os 6 .any (Rows.biconDoublesSpec.pre6 enc AC f6 Rows.biconDoublesRow.domain false) (Rows.biconDoublesSpec.post enc AC f6 false true false false):=by
 refine returnsInHanded_of_change (C:=ER) own aa (by kernel_rfl) func6
  (ChangeSpec.witness6 (enc:=enc) (C:=ER) false ⟨#[],#[.agg #[Z9 Z8 0,.slice none 0 0],.int .u8 0],[]⟩ 8 (by kernel_rfl) (by kernel_rfl) (by kernel_rfl) (by kernel_rfl)) ?_
 intro W ad args ds gs ah ab hW ak _;have ac:∀(j:Nat) t v,f6.params[j]? =some t→args[j]? =some v→Value.okWide AC W .any ad t v:=ab;have ai:=hW;obtain⟨p,q,ae,hV,rfl,al,am⟩:=hW;have hA:DataW.TrodAll enc AC W 0 (fun _=>true) true f6.params.toList args.toList ds p:=ae;rw[params6] at hA ac;obtain⟨rfl,rfl⟩:=trodVars_none hV;obtain⟨v0,v1,d0,d1,p0,p1,rfl,rfl,rfl,h0,h1⟩:=trodAll_two hA;obtain⟨n,p,m,cap,es,ch,rfl,hv,hm,hc,ag⟩:=Yj underlying24 CX underlying22 underlying53 CX CX rfl rfl (by kernel_rfl) (by kernel_rfl) (by kernel_rfl) (by kernel_rfl) rfl rfl (by kernel_rfl) (by kernel_rfl) h0 (ac 0 _ v0 rfl rfl);obtain⟨e1,aj,rfl⟩:=dI underlying5 (ac 1 _ v1 rfl rfl);clear ae ab;refine(dH hc ag (GI n p m cap es ch hv hm e1 aj)).mono fun e W' ⟨he,hw⟩=>?_;subst he;exact⟨_,rfl,Yi ai rfl rfl (by kernel_rfl) Yh (by decide+kernel) rfl hw⟩
theorem GJ:prog.inPlace 6=Rows.biconDoublesRow.inPlace:=by kernel_rfl
theorem GK:prog.unfollowed 6=Rows.biconDoublesRow.unfollowed:=by kernel_rfl
theorem GL:prog.recurses 6=Rows.biconDoublesRow.recurses:=by kernel_rfl
theorem GM:prog.varsNamed 6=Rows.biconDoublesRow.named:=by kernel_rfl
theorem GN:joinedFacts AC 6 f6 Rows.biconDoublesSpec Rows.biconDoublesRow=true:=by unfold joinedFacts;rw[GJ,GK,GL,GM];exact of_decide_eq_true (by kernel_rfl)
theorem BiconDoubles_holds:Rows.BiconDoublesSaid:=
 OpenClaim.holds_of_wide 6 f6 rfl rfl rfl rfl rfl rfl rfl ⟨rfl,rfl,rfl,rfl,rfl⟩ rfl rfl rfl rfl rfl (by kernel_rfl) func6 GN
  (of_decide_eq_true (by kernel_rfl)) (by unfold Func.isWrapper;first|(rw[if_pos (by decide+kernel)];kernel_rfl)|(rw[if_neg (by decide+kernel)];exact⟨rfl,rfl⟩))
  (fun os aa H enc _=>BiconDoubles_lifted os aa H enc)
end Go.Proofs.YtaofijjjheiknaaGreat
