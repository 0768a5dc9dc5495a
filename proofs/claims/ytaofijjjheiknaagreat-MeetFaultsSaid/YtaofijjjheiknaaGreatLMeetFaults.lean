/-
  Parts of the proof, put together: MeetFaults. No condition.
-/
import Derived.Test.YtaofijjjheiknaaGreatLMeetFaultsA
set_option linter.unusedVariables false
set_option linter.unusedSimpArgs false
set_option linter.unnecessarySimpa false
set_option maxHeartbeats 4000000
open Go.Proofs.Tryz renaming prog→AC,underlying3→CL,checked→DD
namespace Go.Proofs.YtaofijjjheiknaaGreat
open Go.ChangeShapes Go.WideShapes Go.ChangeAt Go.RowKit Go.SL Go.Tup
set_option maxRecDepth 100000 in
theorem MeetFaults_lifted (os:Os) (aa:os.Started) (H:Type) (enc:TypeId×Value→H):
  ReturnsInHanded {} DD os 10 .any (Rows.meetFaultsSpec.pre6 enc AC Tryz.f10 Rows.meetFaultsRow.domain false) (Rows.meetFaultsSpec.post enc AC Tryz.f10 false true false false):=by
 refine returnsInHanded_of_change (C:=DD) own aa (by kernel_rfl) Tryz.func10
  (ChangeSpec.witness6 (enc:=enc) (C:=DD) false ⟨#[],#[.agg #[.int .i64 0,.slice none 0 0],.int .u16 0],[]⟩ 8 (by kernel_rfl) (by kernel_rfl) (by kernel_rfl) (by kernel_rfl)) ?_
 intro W ad args ds gs ah ab hW ak _
 have ac:∀(j:Nat) t v,Tryz.f10.params[j]? =some t→args[j]? =some v→Value.okWide AC W .any ad t v:=ab
 have ai:=hW
 obtain⟨p,q,ae,hV,rfl,al,am⟩:=hW
 have hA:DataW.TrodAll enc AC W 0 (fun _=>true) true Tryz.f10.params.toList args.toList ds p:=ae
 rw[Tryz.params10] at hA ac
 obtain⟨rfl,rfl⟩:=trodVars_none hV
 obtain⟨v0,v1,d0,d1,p0,p1,rfl,rfl,rfl,h0,h1⟩:=trodAll_two hA
 obtain⟨n,p,m,cap,es,ch,rfl,hv,hm,hc,ag⟩:=aGi Tryz.underlying24 CL Tryz.underlying22 Tryz.underlying53 CL CL rfl rfl (by kernel_rfl) (by kernel_rfl) (by kernel_rfl) (by kernel_rfl) rfl rfl (by kernel_rfl) (by kernel_rfl) h0 (ac 0 _ v0 rfl rfl)
 obtain⟨e1,aj,rfl⟩:=bKs Tryz.underlying63 (ac 1 _ v1 rfl rfl)
 clear ae ab
 refine(aHl hc ag (MeetFaults_ct n p m cap es ch hv hm e1 aj)).mono fun e W' ⟨he,hw⟩=> ?_
 subst he
 exact⟨_,rfl,aMv ai rfl rfl (by kernel_rfl) aMu (by decide+kernel) rfl hw⟩
theorem aXx:Tryz.prog.inPlace 10=Rows.meetFaultsRow.inPlace:=by kernel_rfl
theorem aXy:Tryz.prog.unfollowed 10=Rows.meetFaultsRow.unfollowed:=by kernel_rfl
theorem aXz:Tryz.prog.recurses 10=Rows.meetFaultsRow.recurses:=by kernel_rfl
theorem aYa:Tryz.prog.varsNamed 10=Rows.meetFaultsRow.named:=by kernel_rfl
theorem aNl:joinedFacts AC 10 Tryz.f10 Rows.meetFaultsSpec Rows.meetFaultsRow=true:=by
 unfold joinedFacts
 rw[aXx,aXy,aXz,aYa]
 exact of_decide_eq_true (by kernel_rfl)
theorem MeetFaults_holds:Rows.MeetFaultsSaid:=
 OpenClaim.holds_of_wide 10 Tryz.f10 rfl rfl rfl rfl rfl rfl rfl ⟨rfl,rfl,rfl,rfl,rfl⟩ rfl rfl rfl rfl rfl (by kernel_rfl) Tryz.func10 aNl
  (of_decide_eq_true (by kernel_rfl)) (by unfold Func.isWrapper;first|(rw[if_pos (by decide+kernel)];kernel_rfl)|(rw[if_neg (by decide+kernel)];exact⟨rfl,rfl⟩))
  (fun os aa H enc _=>MeetFaults_lifted os aa H enc)
end Go.Proofs.YtaofijjjheiknaaGreat
