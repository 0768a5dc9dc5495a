/-
  Parts of the proof, put together: MeetTellsA, MeetTells. No condition.
-/
import Derived.Test.YtaofijjjheiknaaGreatLMeetTellsA
set_option linter.unusedVariables false
set_option linter.unusedSimpArgs false
set_option linter.unnecessarySimpa false
set_option maxHeartbeats 4000000
open Go.Proofs.Tryz renaming prog→AC,underlying3→CL,checked→DD
namespace Go.Proofs.YtaofijjjheiknaaGreat
open Go.ChangeShapes Go.WideShapes Go.ChangeAt Go.RowKit Go.SL Go.Tup
set_option maxRecDepth 100000 in
theorem MeetTells_lifted (os:Os) (ab:os.Started) (H:Type) (enc:TypeId×Value→H):
  ReturnsInHanded {} DD os 9 .any (Rows.meetTellsSpec.pre6 enc AC Tryz.f9 Rows.meetTellsRow.domain false) (Rows.meetTellsSpec.post enc AC Tryz.f9 false true false false):=by
 refine returnsInHanded_of_change (C:=DD) own ab (by kernel_rfl) Tryz.func9
  (ChangeSpec.witness6 (enc:=enc) (C:=DD) false ⟨#[],#[.agg #[.int .i64 0,.slice none 0 0],.slice none 0 0,.int .u8 0],[]⟩ 8 (by kernel_rfl) (by kernel_rfl) (by kernel_rfl) (by kernel_rfl)) ?_
 intro W ad args ds gs am ac hW a7 _
 have aa:∀(j:Nat) t v,Tryz.f9.params[j]? =some t→args[j]? =some v→Value.okWide AC W .any ad t v:=ac
 have an:=hW
 obtain⟨p,q,ae,hV,rfl,a8,a9⟩:=hW
 have hA:DataW.TrodAll enc AC W 0 (fun _=>true) true Tryz.f9.params.toList args.toList ds p:=ae
 rw[Tryz.params9] at hA aa
 obtain⟨rfl,rfl⟩:=trodVars_none hV
 obtain⟨v0,v1,v2,d0,d1,d2,p0,p1,p2,rfl,rfl,rfl,h0,h1,h2⟩:=trodAll_three hA
 obtain⟨n0,ao,m0,ag,ap,aq,rfl,ah,au,av,_⟩:=aGi Tryz.underlying24 CL Tryz.underlying22 Tryz.underlying53 CL CL rfl rfl (by kernel_rfl) (by kernel_rfl) (by kernel_rfl) (by kernel_rfl) rfl rfl (by kernel_rfl) (by kernel_rfl) h0 (aa 0 _ v0 rfl rfl)
 have aw:=Ch1.rw ah
 obtain⟨ax,n1,ai,ay,az,rfl,aj,ak,a0,a1,_⟩:=aNg Tryz.underlying28 Tryz.underlying33 Tryz.underlying2 (by kernel_rfl) (by kernel_rfl) h1 (aa 1 _ v1 rfl rfl)
 have a2:=Ch1.rv aj
 obtain⟨e2,a3,rfl⟩:=aOm Tryz.underlying5 (aa 2 _ v2 rfl rfl)
 obtain⟨A,a4,al,⟨rA,a5⟩,⟨rB,a6⟩⟩:=bPh av a1 aw a2
 clear ae ac
 refine(aHl a4 al (MeetTells_ct n0 ao m0 ag ap aq ah au ax n1 ai ay az aj a0 ak e2 a3 A rA rB a5 a6)).mono fun e W' ⟨he,hw⟩=> ?_
 subst he
 exact⟨_,rfl,aMv an rfl rfl (by kernel_rfl) aMu (by decide+kernel) rfl hw⟩
theorem bAy:Tryz.prog.inPlace 9=Rows.meetTellsRow.inPlace:=by kernel_rfl
theorem bAz:Tryz.prog.unfollowed 9=Rows.meetTellsRow.unfollowed:=by kernel_rfl
theorem bBa:Tryz.prog.recurses 9=Rows.meetTellsRow.recurses:=by kernel_rfl
theorem bBb:Tryz.prog.varsNamed 9=Rows.meetTellsRow.named:=by kernel_rfl
theorem aQn:joinedFacts AC 9 Tryz.f9 Rows.meetTellsSpec Rows.meetTellsRow=true:=by
 unfold joinedFacts
 rw[bAy,bAz,bBa,bBb]
 exact of_decide_eq_true (by kernel_rfl)
theorem MeetTells_holds:Rows.MeetTellsSaid:=
 OpenClaim.holds_of_wide 9 Tryz.f9 rfl rfl rfl rfl rfl rfl rfl ⟨rfl,rfl,rfl,rfl,rfl⟩ rfl rfl rfl rfl rfl (by kernel_rfl) Tryz.func9 aQn
  (of_decide_eq_true (by kernel_rfl)) (by unfold Func.isWrapper;first|(rw[if_pos (by decide+kernel)];kernel_rfl)|(rw[if_neg (by decide+kernel)];exact⟨rfl,rfl⟩))
  (fun os aa H enc _=>MeetTells_lifted os aa H enc)
end Go.Proofs.YtaofijjjheiknaaGreat
