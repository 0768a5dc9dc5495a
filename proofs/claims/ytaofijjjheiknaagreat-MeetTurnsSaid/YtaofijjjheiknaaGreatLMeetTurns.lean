/-
  Parts of the proof, put together: MeetTurns. No condition.
-/
import Derived.Test.YtaofijjjheiknaaGreatLMeetTurnsA
set_option linter.unusedVariables false
set_option linter.unusedSimpArgs false
set_option linter.unnecessarySimpa false
set_option maxHeartbeats 4000000
open Go.Proofs.Tryz renaming prog→AC,underlying3→CL,checked→DD
namespace Go.Proofs.YtaofijjjheiknaaGreat
open Go.ChangeShapes Go.WideShapes Go.ChangeAt Go.RowKit Go.SL Go.Tup
set_option maxRecDepth 100000 in
theorem MeetTurns_lifted (os:Os) (aa:os.Started) (H:Type) (enc:TypeId×Value→H):
  ReturnsInHanded {} DD os 3 .any (Rows.meetTurnsSpec.pre6 enc AC Tryz.f3 Rows.meetTurnsRow.domain false) (Rows.meetTurnsSpec.post enc AC Tryz.f3 false true false false):=by
 refine returnsInHanded_of_change (C:=DD) own aa (by kernel_rfl) Tryz.func3
  (ChangeSpec.witness6 (enc:=enc) (C:=DD) false ⟨#[],#[.agg #[.int .i64 0,.slice none 0 0]],[]⟩ 8 (by kernel_rfl) (by kernel_rfl) (by kernel_rfl) (by kernel_rfl)) ?_
 intro W ad args ds gs ah ab hW aj _
 have ac:∀(j:Nat) t v,Tryz.f3.params[j]? =some t→args[j]? =some v→Value.okWide AC W .any ad t v:=ab
 have ai:=hW
 obtain⟨p,q,ae,hV,rfl,ak,al⟩:=hW
 have hA:DataW.TrodAll enc AC W 0 (fun _=>true) true Tryz.f3.params.toList args.toList ds p:=ae
 rw[Tryz.params3] at hA ac
 obtain⟨rfl,rfl⟩:=trodVars_none hV
 obtain⟨v0,d0,rfl,rfl,h0⟩:=trodAll_one hA
 obtain⟨n,p,m,cap,es,ch,rfl,hv,hm,hc,ag⟩:=aGi Tryz.underlying24 CL Tryz.underlying22 Tryz.underlying53 CL CL rfl rfl (by kernel_rfl) (by kernel_rfl) (by kernel_rfl) (by kernel_rfl) rfl rfl (by kernel_rfl) (by kernel_rfl) h0 (ac 0 _ v0 rfl rfl)
 clear ae ab
 refine(aHl hc ag (MeetTurns_ct n p m cap es ch hv hm)).mono fun e W' ⟨he,hw⟩=> ?_
 subst he
 exact⟨_,rfl,aMv ai rfl rfl (by kernel_rfl) aMu (by decide+kernel) rfl hw⟩
theorem MeetTurns_holds:Rows.MeetTurnsSaid:=
 OpenClaim.holds_of_wide 3 Tryz.f3 rfl rfl rfl rfl rfl rfl rfl ⟨rfl,rfl,rfl,rfl,rfl⟩ rfl rfl rfl rfl rfl (by kernel_rfl) Tryz.func3 (by kernel_rfl)
  (of_decide_eq_true (by kernel_rfl)) (by unfold Func.isWrapper;first|(rw[if_pos (by decide+kernel)];kernel_rfl)|(rw[if_neg (by decide+kernel)];exact⟨rfl,rfl⟩))
  (fun os aa H enc _=>MeetTurns_lifted os aa H enc)
end Go.Proofs.YtaofijjjheiknaaGreat
