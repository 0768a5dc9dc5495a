/-
  Parts of the proof, put together: BiconRoom. No condition.
-/
import Derived.Test.YtaofijjjheiknaaGreatLBiconRoomA
set_option linter.unusedVariables false
set_option linter.unusedSimpArgs false
set_option linter.unnecessarySimpa false
set_option maxHeartbeats 4000000
open Go.Proofs.Tryz renaming prog→AC
open Go.Proofs.Tryz
namespace Go.Proofs.YtaofijjjheiknaaGreat
open Go.ChangeShapes Go.WideShapes Go.ChangeAt Go.RowKit Go.SL Go.Tup
set_option maxRecDepth 100000 in
theorem BiconRoom_lifted (os:Os) (aa:os.Started) (H:Type) (enc:TypeId×Value→H):ReturnsInHanded {} checked os 12 .any (Rows.biconRoomSpec.pre6 enc AC f12 Rows.biconRoomRow.domain false) (Rows.biconRoomSpec.post enc AC f12 false true false false):=by
 refine returnsInHanded_of_change (C:=checked) own aa (by kernel_rfl) func12
  (ChangeSpec.witness6 (enc:=enc) (C:=checked) false ⟨#[],#[.int .u8 0,.agg #[.int .u8 0,.int .u8 0,.int .u8 0,.int .u8 0]],[]⟩ 8 (by kernel_rfl) (by kernel_rfl) (by kernel_rfl) (by kernel_rfl)) ?_
 intro W ae args ds gs ah ab hW aq _;have ac:∀(j:Nat) t v,f12.params[j]? =some t→args[j]? =some v→Value.okWide AC W .any ae t v:=ab;have ai:=hW;obtain⟨p,q,ag,hV,rfl,au,av⟩:=hW;have hA:DataW.TrodAll enc AC W 0 (fun _=>true) true f12.params.toList args.toList ds p:=ag;rw[params12] at hA ac;obtain⟨rfl,rfl⟩:=trodVars_none hV;obtain⟨v0,v1,d0,d1,p0,p1,rfl,rfl,rfl,h0,h1⟩:=trodAll_two hA;obtain⟨e0,aj,rfl⟩:=E6 underlying5 (ac 0 _ v0 rfl rfl);obtain⟨l,ak,ad,rfl⟩:=openU8 (n:=4) (.inr ⟨_,_,underlying40⟩) (by kernel_rfl) (by kernel_rfl) underlying5 (ac 1 _ v1 rfl rfl);obtain⟨a,l1,rfl,al⟩:=Xv ak;obtain⟨b,l2,rfl,am⟩:=Xv al;obtain⟨c,l3,rfl,an⟩:=Xv am;obtain⟨d,l4,rfl,ao⟩:=Xv an;obtain rfl:=List.eq_nil_of_length_eq_zero ao;clear ag ab;refine(E4 (FH e0 aj a b c d (ad a oA19) (ad b oA19) (ad c oA19) (ad d oA19)) W).mono fun e W' ⟨he,hw⟩=>?_;subst he;exact⟨_,rfl,cW ai rfl rfl (by kernel_rfl) cU (by decide+kernel) rfl hw⟩
theorem FI:prog.inPlace 12=Rows.biconRoomRow.inPlace:=by kernel_rfl
theorem FJ:prog.unfollowed 12=Rows.biconRoomRow.unfollowed:=by kernel_rfl
theorem FK:prog.recurses 12=Rows.biconRoomRow.recurses:=by kernel_rfl
theorem FL:prog.varsNamed 12=Rows.biconRoomRow.named:=by kernel_rfl
theorem FM:joinedFacts AC 12 f12 Rows.biconRoomSpec Rows.biconRoomRow=true:=by unfold joinedFacts;rw[FI,FJ,FK,FL];exact of_decide_eq_true (by kernel_rfl)
theorem BiconRoom_holds:Rows.BiconRoomSaid:=
 OpenClaim.holds_of_wide 12 f12 rfl rfl rfl rfl rfl rfl rfl ⟨rfl,rfl,rfl,rfl,rfl⟩ rfl rfl rfl rfl rfl (by kernel_rfl) func12 FM
  (of_decide_eq_true (by kernel_rfl)) (by unfold Func.isWrapper;first|(rw[if_pos (by decide+kernel)];kernel_rfl)|(rw[if_neg (by decide+kernel)];exact⟨rfl,rfl⟩))
  (fun os aa H enc _=>BiconRoom_lifted os aa H enc)
end Go.Proofs.YtaofijjjheiknaaGreat
