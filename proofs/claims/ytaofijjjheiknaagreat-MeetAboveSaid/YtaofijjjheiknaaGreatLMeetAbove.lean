/-
  Parts of the proof, put together: MeetAbove. No condition.
-/
import Derived.Test.YtaofijjjheiknaaGreatLMeetAboveA
set_option linter.unusedVariables false
set_option linter.unusedSimpArgs false
set_option linter.unnecessarySimpa false
set_option maxHeartbeats 4000000
open Go.Proofs.Tryz renaming prog→AC,underlying3→CL,checked→DD
namespace Go.Proofs.YtaofijjjheiknaaGreat
open Go.ChangeShapes Go.WideShapes Go.ChangeAt Go.RowKit Go.SL Go.Tup
set_option maxRecDepth 100000 in
theorem MeetAbove_lifted (os:Os) (aa:os.Started) (H:Type) (enc:TypeId×Value→H):
  ReturnsInHanded {} DD os 5 .any (Rows.meetAboveSpec.pre6 enc AC Tryz.f5 Rows.meetAboveRow.domain false) (Rows.meetAboveSpec.post enc AC Tryz.f5 false true false false):=by
 refine returnsInHanded_of_change (C:=DD) own aa (by kernel_rfl) Tryz.func5
  (ChangeSpec.witness6 (enc:=enc) (C:=DD) false ⟨#[],#[.agg #[.int .i64 0,.slice none 0 0],.int .u8 0],[]⟩ 8 (by kernel_rfl) (by kernel_rfl) (by kernel_rfl) (by kernel_rfl)) ?_
 intro W ad args ds gs ah ab hW ak _
 have ac:∀(j:Nat) t v,Tryz.f5.params[j]? =some t→args[j]? =some v→Value.okWide AC W .any ad t v:=ab
 have ai:=hW
 obtain⟨p,q,ae,hV,rfl,al,am⟩:=hW
 have hA:DataW.TrodAll enc AC W 0 (fun _=>true) true Tryz.f5.params.toList args.toList ds p:=ae
 rw[Tryz.params5] at hA ac
 obtain⟨rfl,rfl⟩:=trodVars_none hV
 obtain⟨v0,v1,d0,d1,p0,p1,rfl,rfl,rfl,h0,h1⟩:=trodAll_two hA
 obtain⟨n,p,m,cap,es,ch,rfl,hv,hm,hc,ag⟩:=aGi Tryz.underlying24 CL Tryz.underlying22 Tryz.underlying53 CL CL rfl rfl (by kernel_rfl) (by kernel_rfl) (by kernel_rfl) (by kernel_rfl) rfl rfl (by kernel_rfl) (by kernel_rfl) h0 (ac 0 _ v0 rfl rfl)
 obtain⟨e1,aj,rfl⟩:=aOm Tryz.underlying5 (ac 1 _ v1 rfl rfl)
 clear ae ab
 refine(aHl hc ag (MeetAbove_ct n p m cap es ch hv hm e1 aj)).mono fun e W' ⟨he,hw⟩=> ?_
 subst he
 exact⟨_,rfl,aMv ai rfl rfl (by kernel_rfl) aMu (by decide+kernel) rfl hw⟩
theorem bBc:Tryz.prog.inPlace 5=Rows.meetAboveRow.inPlace:=by kernel_rfl
theorem bBd:Tryz.prog.unfollowed 5=Rows.meetAboveRow.unfollowed:=by kernel_rfl
theorem bBe:Tryz.prog.recurses 5=Rows.meetAboveRow.recurses:=by kernel_rfl
theorem bBf:Tryz.prog.varsNamed 5=Rows.meetAboveRow.named:=by kernel_rfl
theorem aQo:joinedFacts AC 5 Tryz.f5 Rows.meetAboveSpec Rows.meetAboveRow=true:=by
 unfold joinedFacts
 rw[bBc,bBd,bBe,bBf]
 exact of_decide_eq_true (by kernel_rfl)
theorem MeetAbove_holds:Rows.MeetAboveSaid:=
 OpenClaim.holds_of_wide 5 Tryz.f5 rfl rfl rfl rfl rfl rfl rfl ⟨rfl,rfl,rfl,rfl,rfl⟩ rfl rfl rfl rfl rfl (by kernel_rfl) Tryz.func5 aQo
  (of_decide_eq_true (by kernel_rfl)) (by unfold Func.isWrapper;first|(rw[if_pos (by decide+kernel)];kernel_rfl)|(rw[if_neg (by decide+kernel)];exact⟨rfl,rfl⟩))
  (fun os aa H enc _=>MeetAbove_lifted os aa H enc)
end Go.Proofs.YtaofijjjheiknaaGreat
