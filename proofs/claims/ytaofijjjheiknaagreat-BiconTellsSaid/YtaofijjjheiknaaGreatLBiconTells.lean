/-
  Parts of the proof, put together: BiconTells. No condition.
-/
import Derived.Test.YtaofijjjheiknaaGreatLBiconTellsA
set_option linter.unusedVariables false
set_option linter.unusedSimpArgs false
set_option linter.unnecessarySimpa false
set_option maxHeartbeats 4000000
open Go.Proofs.Tryz renaming prog→AC,underlying3→CX,checked→ER
open Go.Proofs.Tryz
open Go.Value renaming int→Z9
open Go.IntKind renaming i64→Z8
namespace Go.Proofs.YtaofijjjheiknaaGreat
open Go.ChangeShapes Go.WideShapes Go.ChangeAt Go.RowKit Go.SL Go.Tup
set_option maxRecDepth 100000 in
theorem BiconTells_lifted (os:Os) (aa:os.Started) (H:Type) (enc:TypeId×Value→H):ReturnsInHanded {} ER os 11 .any (Rows.biconTellsSpec.pre6 enc AC f11 Rows.biconTellsRow.domain false) (Rows.biconTellsSpec.post enc AC f11 false true false false):=by
 refine returnsInHanded_of_change (C:=ER) own aa (by kernel_rfl) func11
  (ChangeSpec.witness6 (enc:=enc) (C:=ER) false ⟨#[],#[.agg #[Z9 Z8 0,.slice none 0 0],.int .u8 0],[]⟩ 8 (by kernel_rfl) (by kernel_rfl) (by kernel_rfl) (by kernel_rfl)) ?_
 intro W ad args ds gs ah ab hW ak _;have ac:∀(j:Nat) t v,f11.params[j]? =some t→args[j]? =some v→Value.okWide AC W .any ad t v:=ab;have ai:=hW;obtain⟨p,q,ae,hV,rfl,al,am⟩:=hW;have hA:DataW.TrodAll enc AC W 0 (fun _=>true) true f11.params.toList args.toList ds p:=ae;rw[params11] at hA ac;obtain⟨rfl,rfl⟩:=trodVars_none hV;obtain⟨v0,v1,d0,d1,p0,p1,rfl,rfl,rfl,h0,h1⟩:=trodAll_two hA;obtain⟨n,p,m,cap,es,ch,rfl,hv,hm,hc,ag⟩:=Yj underlying24 CX underlying22 underlying53 CX CX rfl rfl (by kernel_rfl) (by kernel_rfl) (by kernel_rfl) (by kernel_rfl) rfl rfl (by kernel_rfl) (by kernel_rfl) h0 (ac 0 _ v0 rfl rfl);obtain⟨e1,aj,rfl⟩:=dI underlying5 (ac 1 _ v1 rfl rfl);clear ae ab;refine(dH hc ag (F3 n p m cap es ch hv hm e1 aj)).mono fun e W' ⟨he,hw⟩=>?_;subst he;exact⟨_,rfl,Yi ai rfl rfl (by kernel_rfl) Yh (by decide+kernel) rfl hw⟩
theorem F4:prog.inPlace 11=Rows.biconTellsRow.inPlace:=by kernel_rfl
theorem F5:prog.unfollowed 11=Rows.biconTellsRow.unfollowed:=by kernel_rfl
theorem F6:prog.recurses 11=Rows.biconTellsRow.recurses:=by kernel_rfl
theorem F7:prog.varsNamed 11=Rows.biconTellsRow.named:=by kernel_rfl
theorem F8:joinedFacts AC 11 f11 Rows.biconTellsSpec Rows.biconTellsRow=true:=by unfold joinedFacts;rw[F4,F5,F6,F7];exact of_decide_eq_true (by kernel_rfl)
theorem BiconTells_holds:Rows.BiconTellsSaid:=
 OpenClaim.holds_of_wide 11 f11 rfl rfl rfl rfl rfl rfl rfl ⟨rfl,rfl,rfl,rfl,rfl⟩ rfl rfl rfl rfl rfl (by kernel_rfl) func11 F8
  (of_decide_eq_true (by kernel_rfl)) (by unfold Func.isWrapper;first|(rw[if_pos (by decide+kernel)];kernel_rfl)|(rw[if_neg (by decide+kernel)];exact⟨rfl,rfl⟩))
  (fun os aa H enc _=>BiconTells_lifted os aa H enc)
end Go.Proofs.YtaofijjjheiknaaGreat
