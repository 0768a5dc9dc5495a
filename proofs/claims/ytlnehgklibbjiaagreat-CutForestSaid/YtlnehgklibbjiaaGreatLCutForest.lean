/-
  Parts of the proof, put together: CutForest0, CutForest. No condition.
-/
import Derived.Test.YtlnehgklibbjiaaGreatE25
set_option linter.unusedVariables false
set_option linter.unusedSimpArgs false
set_option linter.unnecessarySimpa false
set_option maxHeartbeats 4000000
namespace Go.Proofs.YtlnehgklibbjiaaGreat
open Go.SL Go.Spc Go.Tup Go.Srt Go.Gr
structure CfX where
 i:Nat
 p:Option Addr
 cap:Nat
 ch:Chunk
theorem CutForest_ct (n:Int) (p:Option Addr) (m cap:Nat) (es:List IE) (c:Chunk) (hv:Rw ecl 2 p m es c) (hm:m≤maxLen):
  CtQ Tryz.prog 7 [gv n p m cap] [c] (.bool true):=by
 have hl:=hv.1
 have hAw:=awake21ct
 have hSm:=small21ct n p m cap es c hv hm
 have hWk:Ct Tryz.prog 30 [.int .i64 9] [] fun v H'=>
  ∃bw bd ba bs cd ca cs,v=pv bw∧H'=[wrow bw bd ba bs,cd,ca,cs]∧Wc bd ba bs (wk0 10 9000 90) cd ca cs:=work21ct 9 (by omega)
 unfold gv at hSm⊢
 by_cases hok:formedB n es=true∧(n≤24∧(m:Int)≤45)
 rotate_left
 ·have hf:(formedB n es&&dec (n≤24∧(m:Int)≤45))=false:=by
   cases hq:formedB n es with
   |false=>rfl
   |true=>rw[dec_false fun h=>hok ⟨hq,h⟩];rfl
  rw[hf] at hSm
  refine Ct.intro Tryz.func7 rfl Tryz.ntmps7 (nle rfl) fun w0=> ?_;dsimp only[argSlots,Nat.reduceAdd]
  repeat(first|(refine st ?_;intros)|refine G.drawOrd (id:=3) [1,0,2,3,4,5,6,7,8,9] [(0,.eff [1])] (h:= ?_)|refine G.draw [] (h:= ?_)|(refine cq hAw ?_)|(refine cq hSm ?_))
  (refine Dn.post (Hr:=[c]) Tryz.results7 (hR:= ?_);exact⟨rfl,rfl⟩)
 obtain⟨hfm,hfew⟩:=hok
 rw[hfm,dec_true hfew,Bool.and_self] at hSm
 obtain⟨h0,hin⟩:=formed_in hfm
 obtain⟨N,rfl⟩:∃N:Nat,n=(N:Int):=⟨n.toNat,by omega⟩
 refine Ct.intro Tryz.func7 rfl Tryz.ntmps7 (nle rfl) fun w0=> ?_;dsimp only[argSlots,Nat.reduceAdd]
 repeat(first|(refine st ?_;intros)|refine G.drawOrd (id:=3) [1,0,2,3,4,5,6,7,8,9] [(0,.eff [1])] (h:= ?_)|refine G.draw [] (h:= ?_)|(refine cq hAw ?_)|(refine cq hSm ?_))
 rename_i b1
 refine R.callX (hct:=hWk) (h:= ?_)
 rintro _ _ ⟨bw,bd,ba,bs,cd,ca,cs,rfl,rfl,hW⟩
 dsimp only[List.cons_append,List.nil_append]
 constructor
 ·(·(first|(intro _ _ h;cases h;done)|(repeat(first|exact qok_nil|(apply qok_cons;(·first|(intro hc;exact absurd hc (nmem rfl))|(intro _;apply CellPr.mk;(·repeat(first|exact Has.here|apply Has.there));(first|exact rfl|assumption))|(intro _;apply CellsPr.mk;(·repeat(first|exact Has.here|apply Has.there));(first|exact rfl|assumption))))))))
 have hC:=cuts21ct bw bd ba bs 90 (by omega) cd ca cs hW N (by omega) p m cap es c hv (by omega) hin
 unfold gv at hC
 repeat(first|(refine st ?_;intros)|refine G.drawOrd (id:=3) [1,0,2,3,4,5,6,7,8,9] [(0,.eff [1])] (h:= ?_)|refine G.draw [] (h:= ?_)|(refine cq hAw ?_)|(refine cq hSm ?_))
 refine R.callX (hct:=hC) (h:= ?_)
 rintro _ _ ⟨cd',ca',cs',W,pl,k,cap',co,bq,f,h,x,nm,ls,rfl,rfl,hW1,hR,hk2,hT⟩
 dsimp only[List.cons_append,List.nil_append]
 constructor
 ·(·(first|(intro _ _ h;cases h;done)|(repeat(first|exact qok_nil|(apply qok_cons;(·first|(intro hc;exact absurd hc (nmem rfl))|(intro _;apply CellPr.mk;(·repeat(first|exact Has.here|apply Has.there));(first|exact rfl|assumption))|(intro _;apply CellsPr.mk;(·repeat(first|exact Has.here|apply Has.there));(first|exact rfl|assumption))))))))
 have hfo:=fun i hi=>forest_no hT.ap hT.nms hl hin (by omega) (by omega) (l:=cutsF (edT es) (blkL nm m)) rfl (i:=i) hi
 generalize hlq:cutsF (edT es) (blkL nm m)=l at*
 have hll:l.length=k:=hR.1
 have e1:IntKind.wrap .i64 ((N:Int)+(m:Int))=((N+m:Nat):Int):=wrap_i64 (by omega)
 repeat(first|(refine st ?_;intros)|refine G.drawOrd (id:=3) [1,0,2,3,4,5,6,7,8,9] [(0,.eff [1])] (h:= ?_)|refine G.draw [] (h:= ?_)|(refine cq hAw ?_)|(refine cq hSm ?_))
 rename_i b6
 refine G.loop (X:=CfX) (fun s=>s.i≤k∧Vec 62 2 s.p s.i s.cap (((l.take s.i).map (prE N)).flatMap ecl) s.ch)
  (fun s=>[(7,.int .i64 (s.i:Int)),(3,.slice pl k cap'),(1,pv b1),(6,pv b6),(5,.int .i64 0)])
  (fun s=>[s.ch,[(b6,row [.int .i64 ((N+m:Nat):Int),.slice s.p s.i s.cap] 37)],[(b1,row [.int .i64 (N:Int),.slice p m cap] 37)],c,co]) (fun s=>k-s.i) ⟨0,none,0,[]⟩ ⟨Nat.zero_le _,Vec.nil _ _⟩ (by repeat(first|exact trivial|refine⟨rfl,?_⟩)) (by repeat(first|exact Split.nil|(apply Split.cons;·(first|exact Take.nil|(repeat(first|exact Take.here|apply Take.there)))))) ?_
 rintro⟨i,q,qc,ch⟩ ⟨hi,hV⟩
 dsimp only at hi hV⊢
 by_cases hlt:i<k
 rotate_left
 ·obtain rfl:i=k:=by omega
  repeat(first|(refine st ?_;intros)|refine G.drawOrd (id:=3) [1,0,2,3,4,5,6,7,8,9] [(0,.eff [1])] (h:= ?_)|refine G.draw [] (h:= ?_)|(refine cq hAw ?_)|(refine cq hSm ?_))
  (refine Dn.post (Hr:=[c]) Tryz.results7 (hR:= ?_);exact⟨congrArg Value.bool (dec_true rfl),rfl⟩)
 obtain⟨u,kk,u1,u2,u3,u4,u5⟩:=hfo i (by omega)
 have hwr:IntKind.wrap .i64 ((N:Int)+(kk:Int))=((N+kk:Nat):Int):=wrap_i64 (by omega)
 have hin2:∀e∈(l.take i).map (prE N),inE ((N+m:Nat):Int) e:=by
  intro e he
  obtain⟨t,ht,rfl⟩:=List.mem_map.1 he
  obtain⟨j,hj,rfl⟩:=List.mem_iff_getElem.1 ht
  rw[List.length_take] at hj
  obtain⟨a,b,a1,a2,a3,a4,_⟩:=hfo j (by omega)
  rw[List.getElem_take]
  unfold prE inE
  rw[a1,a3,wrap_i64 (by omega)]
  dsimp only;omega
 have hRw:=Rw.ofVec ecl_len hV (by omega)
 have hLb:=LabelsN_ct (N+m) (by omega) q i qc _ ch hRw (by omega) hin2 (-1)
 have hpr:prE N l[i]=((u:Int),((N+kk:Nat):Int)):=by unfold prE;rw[u1,u3,hwr]
 have htk:((l.take (i+1)).map (prE N)).flatMap ecl=((l.take i).map (prE N)).flatMap ecl++[.int .i64 (u:Int),.int .i64 ((N+kk:Nat):Int)]:=by
  rw[List.take_add_one,List.getElem?_eq_getElem (by omega),Option.toList_some,List.map_append,List.flatMap_append,List.map_cons,hpr]
  simp[ecl]
 obtain⟨b0,off,cc,T0,fz,rfl,rfl,_,hget⟩:=(RV.rw hR).pos tcells_len (by omega)
 have hli:l[i]? =some l[i]:=List.getElem?_eq_getElem (by omega)
 have q0:=hget i 0 _ _ hli rfl
 have q1:=hget i 1 _ _ hli rfl
 rw[Nat.add_zero] at q0
 rw[u1] at q0
 rw[u3] at q1
 have hmx:i+1≤maxLen:=by simp only[maxLen];omega
 clear hfo
 unfold gv at hLb
 repeat(first|(refine st ?_;intros)|refine G.drawOrd (id:=3) [1,0,2,3,4,5,6,7,8,9] [(0,.eff [1])] (h:= ?_)|refine G.draw [] (h:= ?_)|(refine cq hAw ?_)|(refine cq hSm ?_))
 refine R.call (hct:=hLb) (h:= ?_)
 rintro _ _ ⟨bl,lb,rfl,rfl,hlk⟩
 try dsimp only[List.cons_append,List.nil_append]
 obtain⟨y1,y2,y3,_,y4⟩:=hlk.at_ u (by omega) (by omega)
 obtain⟨z1,z2,z3,_,z4⟩:=hlk.at_ (N+kk) (by omega) (by omega)
 have hne:(y1:Int)≠(z1:Int):=fun hq=>by
  obtain rfl:y1=z1:=by omega
  exact u5 (y3.trans z3.symm)
 have r0:=rcells_get y2
 have r1:=rcells_get z2
 repeat(first|(refine st ?_;intros)|refine G.drawOrd (id:=3) [1,0,2,3,4,5,6,7,8,9] [(0,.eff [1])] (h:= ?_)|refine G.draw [] (h:= ?_)|(refine cq hAw ?_)|(refine cq hSm ?_))
 rename_i p' cap2 c' hV'
 have hV3:Vec 62 2 p' (i+1) cap2 (((l.take (i+1)).map (prE N)).flatMap ecl) c':=by rw[htk];exact hV'
 refine Dn.round ⟨i+1,p',cap2,c'⟩ ⟨hlt,hV3⟩ (by dsimp only;omega)
end Go.Proofs.YtlnehgklibbjiaaGreat
namespace Go.Proofs.YtlnehgklibbjiaaGreat
open Go.ChangeShapes Go.WideShapes Go.ChangeAt Go.RowKit Go.SL Go.Tup
set_option maxRecDepth 100000 in
theorem CutForest_lifted (os:Os) (started:os.Started) (H:Type) (enc:TypeId×Value→H):
  ReturnsInHanded {} Tryz.checked os 7 .any (Rows.cutForestSpec.pre6 enc Tryz.prog Tryz.f7 Rows.cutForestRow.domain false) (Rows.cutForestSpec.post enc Tryz.prog Tryz.f7 false true false false):=by
 refine returnsInHanded_of_change (C:=Tryz.checked) own started (by kernel_rfl) Tryz.func7
  (ChangeSpec.witness6 (enc:=enc) (C:=Tryz.checked) false ⟨#[],#[.agg #[.int .i64 0,.slice none 0 0]],[]⟩ 8 (by kernel_rfl) (by kernel_rfl) (by kernel_rfl) (by kernel_rfl)) ?_
 intro W base args ds gs before hval0 hW hcnd _
 have hval:∀(j:Nat) t v,Tryz.f7.params[j]? =some t→args[j]? =some v→Value.okWide Tryz.prog W .any base t v:=hval0
 have hW':=hW
 obtain⟨p,q,hA0,hV,rfl,hfz,hnd⟩:=hW
 have hA:DataW.TrodAll enc Tryz.prog W 0 (fun _=>true) true Tryz.f7.params.toList args.toList ds p:=hA0
 rw[Tryz.params7] at hA hval
 obtain⟨rfl,rfl⟩:=trodVars_none hV
 obtain⟨v0,d0,rfl,rfl,h0⟩:=trodAll_one hA
 obtain⟨n,p,m,cap,es,ch,rfl,hv,hm,hc,hnd'⟩:=open_graphR Tryz.underlying37 Tryz.underlying3 Tryz.underlying35 Tryz.underlying62 Tryz.underlying3 Tryz.underlying3 rfl rfl (by kernel_rfl) (by kernel_rfl) (by kernel_rfl) (by kernel_rfl) rfl rfl (by kernel_rfl) (by kernel_rfl) h0 (hval 0 _ v0 rfl rfl)
 clear hA0 hval0
 refine(law_calls1 hc hnd' (CutForest_ct n p m cap es ch hv hm)).mono fun e W' ⟨he,hw⟩=> ?_
 subst he
 exact⟨_,rfl,lawPost hW' rfl rfl (by kernel_rfl) laidOut (by decide+kernel) rfl hw⟩
theorem CutForest_holds:Rows.CutForestSaid:=
 OpenClaim.holds_of_wide 7 Tryz.f7 rfl rfl rfl rfl rfl rfl rfl ⟨rfl,rfl,rfl,rfl,rfl⟩ rfl rfl rfl rfl rfl (by kernel_rfl) Tryz.func7 (by kernel_rfl)
  (of_decide_eq_true (by kernel_rfl)) (by unfold Func.isWrapper;first|(rw[if_pos (by decide+kernel)];kernel_rfl)|(rw[if_neg (by decide+kernel)];exact⟨rfl,rfl⟩))
  (fun os started H enc _=>CutForest_lifted os started H enc)
end Go.Proofs.YtlnehgklibbjiaaGreat
