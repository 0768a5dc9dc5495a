/-
  Parts of the proof, put together: BiconApart. No condition.
-/
import Derived.Test.YtaofijjjheiknaaGreatLBiconApartA
set_option linter.unusedVariables false
set_option linter.unusedSimpArgs false
set_option linter.unnecessarySimpa false
set_option maxHeartbeats 4000000
open Go.Proofs.Tryz renaming prog→AC,underlying3→CX,checked→ER
open Go.Proofs.Tryz
open Go.Value renaming int→Z9
open Go.IntKind renaming i64→Z8
namespace Go.Proofs.YtaofijjjheiknaaGreat
open Go.ChangeShapes Go.WideShapes Go.ChangeAt Go.RowKit Go.SL Go.Tup
set_option maxRecDepth 100000 in
theorem BiconApart_lifted (os:Os) (aa:os.Started) (H:Type) (enc:TypeId×Value→H):ReturnsInHanded {} ER os 8 .any (Rows.biconApartSpec.pre6 enc AC f8 Rows.biconApartRow.domain false) (Rows.biconApartSpec.post enc AC f8 false true false false):=by
 refine returnsInHanded_of_change (C:=ER) own aa (by kernel_rfl) func8
  (ChangeSpec.witness6 (enc:=enc) (C:=ER) false ⟨#[],#[.agg #[Z9 Z8 0,.slice none 0 0],.agg #[Z9 Z8 0,.slice none 0 0]],[]⟩ 8 (by kernel_rfl) (by kernel_rfl) (by kernel_rfl) (by kernel_rfl)) ?_
 intro W ad args ds gs al ab hW a6 _;have ac:∀(j:Nat) t v,f8.params[j]? =some t→args[j]? =some v→Value.okWide AC W .any ad t v:=ab;have am:=hW;obtain⟨p,q,ae,hV,rfl,a7,a8⟩:=hW;have hA:DataW.TrodAll enc AC W 0 (fun _=>true) true f8.params.toList args.toList ds p:=ae;rw[params8] at hA ac;obtain⟨rfl,rfl⟩:=trodVars_none hV;obtain⟨v0,v1,d0,d1,p0,p1,rfl,rfl,rfl,h0,h1⟩:=trodAll_two hA;obtain⟨n0,an,m0,ag,ao,aq,rfl,ah,au,av,_⟩:=Yj underlying24 CX underlying22 underlying53 CX CX rfl rfl (by kernel_rfl) (by kernel_rfl) (by kernel_rfl) (by kernel_rfl) rfl rfl (by kernel_rfl) (by kernel_rfl) h0 (ac 0 _ v0 rfl rfl);have aw:=Ch1.rw ah;obtain⟨n1,ax,m1,ai,ay,az,rfl,aj,a0,a1,_⟩:=Yj underlying24 CX underlying22 underlying53 CX CX rfl rfl (by kernel_rfl) (by kernel_rfl) (by kernel_rfl) (by kernel_rfl) rfl rfl (by kernel_rfl) (by kernel_rfl) h1 (ac 1 _ v1 rfl rfl);have a2:=Ch1.rw aj;obtain⟨A,a3,ak,⟨rA,a4⟩,⟨rB,a5⟩⟩:=two_ch av a1 aw a2;clear ae ab;refine(dH a3 ak (GO n0 an m0 ag ao aq ah au n1 ax m1 ai ay az aj a0 A rA rB a4 a5)).mono fun e W' ⟨he,hw⟩=>?_;subst he;exact⟨_,rfl,Yi am rfl rfl (by kernel_rfl) Yh (by decide+kernel) rfl hw⟩
theorem GP:prog.inPlace 8=Rows.biconApartRow.inPlace:=by kernel_rfl
theorem GQ:prog.unfollowed 8=Rows.biconApartRow.unfollowed:=by kernel_rfl
theorem GR:prog.recurses 8=Rows.biconApartRow.recurses:=by kernel_rfl
theorem GS:prog.varsNamed 8=Rows.biconApartRow.named:=by kernel_rfl
theorem GT:joinedFacts AC 8 f8 Rows.biconApartSpec Rows.biconApartRow=true:=by unfold joinedFacts;rw[GP,GQ,GR,GS];exact of_decide_eq_true (by kernel_rfl)
theorem BiconApart_holds:Rows.BiconApartSaid:=
 OpenClaim.holds_of_wide 8 f8 rfl rfl rfl rfl rfl rfl rfl ⟨rfl,rfl,rfl,rfl,rfl⟩ rfl rfl rfl rfl rfl (by kernel_rfl) func8 GT
  (of_decide_eq_true (by kernel_rfl)) (by unfold Func.isWrapper;first|(rw[if_pos (by decide+kernel)];kernel_rfl)|(rw[if_neg (by decide+kernel)];exact⟨rfl,rfl⟩))
  (fun os aa H enc _=>BiconApart_lifted os aa H enc)
end Go.Proofs.YtaofijjjheiknaaGreat
