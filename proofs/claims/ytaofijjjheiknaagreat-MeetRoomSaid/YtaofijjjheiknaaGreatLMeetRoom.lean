/-
  Parts of the proof, put together: MeetRoom. No condition.
-/
import Derived.Test.YtaofijjjheiknaaGreatLMeetRoomA
set_option linter.unusedVariables false
set_option linter.unusedSimpArgs false
set_option linter.unnecessarySimpa false
set_option maxHeartbeats 4000000
open Go.Proofs.Tryz renaming prog→AC,checked→DD
namespace Go.Proofs.YtaofijjjheiknaaGreat
open Go.ChangeShapes Go.WideShapes Go.ChangeAt Go.RowKit Go.SL Go.Tup
set_option maxRecDepth 100000 in
theorem MeetRoom_lifted (os:Os) (aa:os.Started) (H:Type) (enc:TypeId×Value→H):
  ReturnsInHanded {} DD os 4 .any (Rows.meetRoomSpec.pre6 enc AC Tryz.f4 Rows.meetRoomRow.domain false) (Rows.meetRoomSpec.post enc AC Tryz.f4 false true false false):=by
 refine returnsInHanded_of_change (C:=DD) own aa (by kernel_rfl) Tryz.func4
  (ChangeSpec.witness6 (enc:=enc) (C:=DD) false ⟨#[],#[.int .u8 0,.agg #[.int .u8 0,.int .u8 0,.int .u8 0,.int .u8 0]],[]⟩ 8 (by kernel_rfl) (by kernel_rfl) (by kernel_rfl) (by kernel_rfl)) ?_
 intro W ae args ds gs ah ab hW ap _
 have ac:∀(j:Nat) t v,Tryz.f4.params[j]? =some t→args[j]? =some v→Value.okWide AC W .any ae t v:=ab
 have ai:=hW
 obtain⟨p,q,ag,hV,rfl,aq,au⟩:=hW
 have hA:DataW.TrodAll enc AC W 0 (fun _=>true) true Tryz.f4.params.toList args.toList ds p:=ag
 rw[Tryz.params4] at hA ac
 obtain⟨rfl,rfl⟩:=trodVars_none hV
 obtain⟨v0,v1,d0,d1,p0,p1,rfl,rfl,rfl,h0,h1⟩:=trodAll_two hA
 obtain⟨e0,aj,rfl⟩:=aOm Tryz.underlying5 (ac 0 _ v0 rfl rfl)
 obtain⟨l,ak,ad,rfl⟩:=openU8 (n:=4) (.inr ⟨_,_,Tryz.underlying40⟩) (by kernel_rfl) (by kernel_rfl) Tryz.underlying5 (ac 1 _ v1 rfl rfl)
 obtain⟨a,l1,rfl,al⟩:=bCz ak
 obtain⟨b,l2,rfl,am⟩:=bCz al
 obtain⟨c,l3,rfl,an⟩:=bCz am
 obtain⟨d,l4,rfl,ao⟩:=bCz an
 obtain rfl:=List.eq_nil_of_length_eq_zero ao
 clear ag ab
 refine(bKr (MeetRoom_ct e0 aj a b c d (ad a oA15) (ad b oA15) (ad c oA15) (ad d oA15)) W).mono fun e W' ⟨he,hw⟩=> ?_
 subst he
 exact⟨_,rfl,aMv ai rfl rfl (by kernel_rfl) aMu (by decide+kernel) rfl hw⟩
theorem MeetRoom_holds:Rows.MeetRoomSaid:=
 OpenClaim.holds_of_wide 4 Tryz.f4 rfl rfl rfl rfl rfl rfl rfl ⟨rfl,rfl,rfl,rfl,rfl⟩ rfl rfl rfl rfl rfl (by kernel_rfl) Tryz.func4 (by kernel_rfl)
  (of_decide_eq_true (by kernel_rfl)) (by unfold Func.isWrapper;first|(rw[if_pos (by decide+kernel)];kernel_rfl)|(rw[if_neg (by decide+kernel)];exact⟨rfl,rfl⟩))
  (fun os aa H enc _=>MeetRoom_lifted os aa H enc)
end Go.Proofs.YtaofijjjheiknaaGreat
