/-
  Parts of the proof, put together: CompTells0, CompTells. No condition.
-/
import Derived.Test.YtpckicjfigmjkaaGreatJ30
set_option linter.unusedVariables false
set_option linter.unusedSimpArgs false
set_option linter.unnecessarySimpa false
set_option maxHeartbeats 4000000
namespace Go.Proofs.YtpckicjfigmjkaaGreat
open Go.SL Go.Spc Go.Tup Go.Srt
theorem CompTells_ct (n:Int) (hnI:inI64 n) (p:Option Addr) (m cap:Nat) (ts:List T5) (c:Chunk) (hv:RV p m ts c) (hm:m≤maxLen) (hi:InT ts) (e:Nat) (he:e<256):
  CtQ Tryz.prog 10 [.int .i64 n,.slice p m cap,.int .u8 (e:Int)] [c] (.bool true):=by
 have hflv:∀f:Fl,flv f= .agg #[.int .i64 (f.first:Int),.int .i64 (f.blocks:Int),.int .i64 (f.width:Int),.int .i64 (f.count:Int)]:=fun _=>rfl
 have hz:flv ⟨0,0,0,0⟩= .agg #[.int .i64 0,.int .i64 0,.int .i64 0,.int .i64 0]:=rfl
 have hAw:=awake15ct
 have hl:=hv.1
 have hmx:m≤9223372036854775807:=hm
 obtain⟨k,hk⟩:∃k:Nat,k=e%33:=⟨_,rfl⟩
 have e5:(e:Int).tmod 33=(k:Int):=by rw[Int.tmod_eq_emod_of_nonneg (by omega)];omega
 have e4:IntKind.wrap .i64 ((e:Int).tmod 33)=(k:Int):=by rw[e5];exact wrap_i64 (by omega)
 have e6:IntKind.wrap .i64 (8+(k:Int))=((8+k:Nat):Int):=by rw[wrap_i64 (by omega)];omega
 have hk33:k<33:=by omega
 clear hk e5
 have hWk:Ct Tryz.prog 15 [.int .i64 ((8+k:Nat):Int)] [] fun v H'=>
  ∃bw bd ba bs cd ca cs,v=pv bw∧H'=[wrow bw bd ba bs,cd,ca,cs]∧Wc bd ba bs (wk0 10 9000 (10*(8+k))) cd ca cs:=work15ct (8+k) (by omega)
 refine Ct.intro Tryz.func10 rfl Tryz.ntmps10 (nle rfl) fun w0=> ?_;dsimp only[argSlots,Nat.reduceAdd]
 repeat(first|(refine st ?_;intros)|(refine cq hAw ?_)|(refine cq hAll ?_)|(refine cq hSa ?_)|(refine cq hSb ?_)|(refine cq hCl ?_)|(refine cq hRn ?_)|(refine cq hTr ?_))
 refine R.call (hct:=hWk) (h:= ?_)
 rintro _ _ ⟨bw,bd,ba,bs,cd,ca,cs,rfl,rfl,hW⟩
 try dsimp only[List.cons_append,List.nil_append]
 by_cases hn60:60<n
 ·repeat(first|(refine st ?_;intros)|(refine cq hAw ?_)|(refine cq hAll ?_)|(refine cq hSa ?_)|(refine cq hSb ?_)|(refine cq hCl ?_)|(refine cq hRn ?_)|(refine cq hTr ?_))
  (refine Dn.post (Hr:=[c]) Tryz.results10 (hR:= ?_);exact⟨rfl,rfl⟩)
 by_cases h100:m≤100
 rotate_left
 ·repeat(first|(refine st ?_;intros)|(refine cq hAw ?_)|(refine cq hAll ?_)|(refine cq hSa ?_)|(refine cq hSb ?_)|(refine cq hCl ?_)|(refine cq hRn ?_)|(refine cq hTr ?_))
  (refine Dn.post (Hr:=[c]) Tryz.results10 (hR:= ?_);exact⟨rfl,rfl⟩)
 have hAll:=All_ct p m cap ts c hv (by omega) 3
 cases hfit:ts.all (fitsB 3) with
 |false=>
  rw[hfit] at hAll
  repeat(first|(refine st ?_;intros)|(refine cq hAw ?_)|(refine cq hAll ?_)|(refine cq hSa ?_)|(refine cq hSb ?_)|(refine cq hCl ?_)|(refine cq hRn ?_)|(refine cq hTr ?_))
  (refine Dn.post (Hr:=[c]) Tryz.results10 (hR:= ?_);exact⟨rfl,rfl⟩)
 |true=>
 rw[hfit] at hAll
 have hok:∀t∈ts,okT 3 t:=fun t ht=>okT_mk (hi t ht) (List.all_eq_true.1 hfit t ht)
 have hnb:nblocks 10 3 m≤50:=Nat.le_trans nb3 (by omega)
 have hLy:=Lay_k bw bd ba bs _ cd ca cs hW 3 (by omega) (by omega) p m cap _ c hv (by omega) hok (by show 10≤10*(8+k)-0;omega) rfl (Nat.zero_le _) (by rw[big0];show nblocks 10 3 m≤_;omega)
 rw[show(wk0 10 9000 (10*(8+k))).δ.size=10 from rfl] at hLy
 repeat(first|(refine st ?_;intros)|(refine cq hAw ?_)|(refine cq hAll ?_)|(refine cq hSa ?_)|(refine cq hSb ?_)|(refine cq hCl ?_)|(refine cq hRn ?_)|(refine cq hTr ?_))
 refine R.call (hct:=hLy) (h:= ?_)
 rintro _ _ ⟨cd1,ca1,cs1,W1,f,rfl,rfl,hW1,hE1,hK1,hg1,hl1,hf1,hc1,hb1,hfo1⟩
 try dsimp only[List.cons_append,List.nil_append]
 by_cases hn0:n<0
 ·have hTr:=Components_range n (.inl hn0) f (pv bw)
  rw[hflv f,hz] at hTr
  rw[hflv]
  repeat(first|(refine st ?_;intros)|(refine cq hAw ?_)|(refine cq hAll ?_)|(refine cq hSa ?_)|(refine cq hSb ?_)|(refine cq hCl ?_)|(refine cq hRn ?_)|(refine cq hTr ?_))
  (refine Dn.post (Hr:=[c]) Tryz.results10 (hR:= ?_);exact⟨congrArg Value.bool (dec_true rfl),rfl⟩)
 obtain⟨N,rfl⟩:∃N:Nat,n=(N:Int):=⟨n.toNat,by omega⟩
 obtain⟨hO1,hin1⟩:=(Ons.fresh 9000 (10*(8+k))).lay hW hW1 hE1 hg1 hl1 hfo1 (by show 0+nblocks 10 3 m≤_;omega)
 have hac1:=hE1.acts.2
 rw[show(wk0 10 9000 (10*(8+k))).δ.acts=0 from rfl] at hac1
 have hfl1:W1.δ.fault= -1:=hE1.fault rfl
 have hsT:sortT 100≤540:=by decide+kernel
 have hT:=Components_ons bw bd ba bs (10*(8+k)) (by omega) W1 cd1 ca1 cs1 hW1 N f _ _ hin1 hf1 (hc1.trans hl.symm) hO1 100 540 (by omega) (by omega) (by omega) (by omega) hsT (by simp[sumB,hb1];omega) (by omega)
 rw[hflv] at hT
 rw[hflv]
 repeat(first|(refine st ?_;intros)|(refine cq hAw ?_)|(refine cq hAll ?_)|(refine cq hSa ?_)|(refine cq hSb ?_)|(refine cq hCl ?_)|(refine cq hRn ?_)|(refine cq hTr ?_))
 refine R.call (hct:=hT) (h:= ?_)
 rintro _ _ ⟨x,y,e1,cd3,ca3,cs3,W3,rfl,rfl,hW3,hac3,hfl3,hK3,_,hc⟩
 dsimp only[List.cons_append,List.nil_append]
 unfold compA at hac3
 have hfl3':=hfl3 hfl1
 rcases hc with⟨rfl,ho,⟨a,b,hsp,hinX,hinY,hxc,hyc⟩,hxw,hyw,hO3⟩|⟨_,rfl,rfl,hO3,⟨_,h6⟩|⟨hno,rfl⟩⟩
 rotate_left
 ·exact absurd hfl1 h6
 ·have ht:=free_sum (fs:=[f]) hW3 hO3.live hO3.n
  have hCl:∀b':Nat,CtQ Tryz.prog 33 [pv bw,.slice (some ⟨b',0,none⟩) 1 1] [wrow bw bd ba bs,ca3,cs3,[(b',row [.int .i64 (f.first:Int),.int .i64 (f.blocks:Int),.int .i64 (f.width:Int),.int .i64 (f.count:Int)] 26)]] (.bool true):=fun b'=>
   clean15ct bw bd ba bs W3 ca3 cs3 hW3.ar hW3.sp (some ⟨b',0,none⟩) 1 1 [f] _ ⟨rfl,.inr ⟨b',0,_,_,_,rfl,rfl,rfl⟩⟩ (by omega) hO3.used ht
  have hRn:=Comp15no N (by omega) p m cap ts c hv (by omega) hno
  rw[hz]
  repeat(first|(refine st ?_;intros)|(refine cq hAw ?_)|(refine cq hAll ?_)|(refine cq hSa ?_)|(refine cq hSb ?_)|(refine cq hCl ?_)|(refine cq hRn ?_)|(refine cq hTr ?_))
  (refine Dn.post (Hr:=[c]) Tryz.results10 (hR:= ?_);exact⟨rfl,rfl⟩)
 have hRf:=Comp15ct N (by omega) p m cap ts c hv (by omega) ho
 obtain⟨LvX,hfoX,hsubX⟩:=hinX
 have hal:a.length≤1000000:=by
  obtain⟨sl,fl,lab,p1,p2,p3,p4,rfl,rfl⟩:=hsp
  rw[labT_len,p3.len];omega
 have hbl2:b.length≤1000000:=by
  obtain⟨sl,fl,lab,p1,p2,p3,p4,rfl,rfl⟩:=hsp
  have h1:=p1.length_eq
  have:(forT sl fl).length≤sl.length:=by
   unfold forT
   refine Nat.le_trans (List.length_filterMap_le _ _) ?_
   rw[List.length_zip];exact Nat.min_le_left _ _
  omega
 have hLi:=List_ct bw bd ba bs W3 cd3 ca3 cs3 hW3 x a LvX hfoX hsubX (by rw[hO3.size,hO3.room,hO3.used];omega) hfl3' (by omega) (by omega)
 rw[hflv x,hxc,hxw] at hLi
 rw[hflv x,hflv y,hxc,hxw,hyc,hyw]
 repeat(first|(refine st ?_;intros)|(refine cq hAw ?_)|(refine cq hAll ?_)|(refine cq hSa ?_)|(refine cq hSb ?_)|(refine cq hCl ?_)|(refine cq hRn ?_)|(refine cq hTr ?_))
 refine R.call (hct:=hRf) (h:= ?_)
 rintro _ _ ⟨pa,na,ka,cha,pb,nb,kb,chb,a',b',rfl,rfl,hVa,hVb,hnb',hsp'⟩
 try dsimp only[List.cons_append,List.nil_append]
 obtain⟨rfl,rfl⟩:=hsp.uniq ho hsp'
 repeat(first|(refine st ?_;intros)|(refine cq hAw ?_)|(refine cq hAll ?_)|(refine cq hSa ?_)|(refine cq hSb ?_)|(refine cq hCl ?_)|(refine cq hRn ?_)|(refine cq hTr ?_))
 refine R.call (hct:=hLi) (h:= ?_)
 rintro _ _ ⟨cd4,ca4,W4,po,oc,cho,rfl,rfl,hW4,hE4,hd4,hl4,hg4,hVo⟩
 try dsimp only[List.cons_append,List.nil_append]
 have hinY4:FileIn W4 (y,b):=FileIn.stay (W:=W3) hinY hE4.size (fun z _=>by rw[hd4]) (fun z hz=>by rw[hl4];exact hz)
 obtain⟨LvY,hfoY,hsubY⟩:=hinY4
 have hac4:=hE4.acts.2
 have hnbx:nblocks W3.δ.size 2 a.length≤1000000:=Nat.le_trans (nblocks_le (holds_pos (by rw[hO3.size];omega) (by omega) (by omega))) (by omega)
 have hus4:W4.α.used=0:=(used_eq hW3 hW4 hg4).trans hO3.used
 have hLj:=List_ct bw bd ba bs W4 cd4 ca4 cs3 hW4 y b LvY hfoY hsubY (by rw[hE4.size,hE4.room,hO3.size,hO3.room,hus4];omega) (hE4.fault hfl3') (by omega) (by omega)
 rw[hflv y,hyc,hyw] at hLj
 repeat(first|(refine st ?_;intros)|(refine cq hAw ?_)|(refine cq hAll ?_)|(refine cq hSa ?_)|(refine cq hSb ?_)|(refine cq hCl ?_)|(refine cq hRn ?_)|(refine cq hTr ?_))
 refine R.call (hct:=hLj) (h:= ?_)
 rintro _ _ ⟨cd5,ca5,W5,pp,pc,chp,rfl,rfl,hW5,hE5,hd5,hl5,hg5,hVp⟩
 try dsimp only[List.cons_append,List.nil_append]
 have ht:=free_sum (fs:=[f,x,y]) hW5 (by rw[hl5,hl4];exact hO3.live) (hE5.n.trans (hE4.n.trans hO3.n))
 have hSa:=Same_ct po a.length oc _ cho (RV.vec hVo) (by omega) pa na ka a cha hVa
 rw[decide_eq_true rfl] at hSa
 have hSb:=Same_ct pp b.length pc _ chp (RV.vec hVp) (by omega) pb nb kb b chb hVb
 rw[decide_eq_true rfl] at hSb
 have hCl:∀b':Nat,CtQ Tryz.prog 33 [pv bw,.slice (some ⟨b',0,none⟩) 3 3] [wrow bw bd ba bs,ca5,cs3,[(b',row [.int .i64 (f.first:Int),.int .i64 (f.blocks:Int),.int .i64 (f.width:Int),.int .i64 (f.count:Int),.int .i64 (x.first:Int),.int .i64 (x.blocks:Int),.int .i64 ((2:Nat):Int),.int .i64 (a.length:Int),.int .i64 (y.first:Int),.int .i64 (y.blocks:Int),.int .i64 ((3:Nat):Int),.int .i64 (b.length:Int)] 26)]] (.bool true):=fun b'=>
  clean15ct bw bd ba bs W5 ca5 cs3 hW5.ar hW5.sp (some ⟨b',0,none⟩) 3 3 [f,x,y] _ ⟨rfl,.inr ⟨b',0,_,_,_,rfl,rfl,by simp[fl4,hxc,hxw,hyc,hyw]⟩⟩ (by omega) ((used_eq hW4 hW5 hg5).trans hus4) ht
 repeat(first|(refine st ?_;intros)|(refine cq hAw ?_)|(refine cq hAll ?_)|(refine cq hSa ?_)|(refine cq hSb ?_)|(refine cq hCl ?_)|(refine cq hRn ?_)|(refine cq hTr ?_))
 (refine Dn.post (Hr:=[c]) Tryz.results10 (hR:= ?_);exact⟨rfl,rfl⟩)
end Go.Proofs.YtpckicjfigmjkaaGreat
namespace Go.Proofs.YtpckicjfigmjkaaGreat
open Go.ChangeShapes Go.WideShapes Go.ChangeAt Go.RowKit Go.SL Go.Tup
set_option maxRecDepth 100000 in
theorem CompTells_lifted (os:Os) (started:os.Started) (H:Type) (enc:TypeId×Value→H):
  ReturnsInHanded {} Tryz.checked os 10 .any (Rows.compTellsSpec.pre6 enc Tryz.prog Tryz.f10 Rows.compTellsRow.domain false) (Rows.compTellsSpec.post enc Tryz.prog Tryz.f10 false true false false):=by
 refine returnsInHanded_of_change (C:=Tryz.checked) own started (by kernel_rfl) Tryz.func10
  (ChangeSpec.witness6 (enc:=enc) (C:=Tryz.checked) false ⟨#[],#[.int .i64 0,.slice none 0 0,.int .u8 0],[]⟩ 8 (by kernel_rfl) (by kernel_rfl) (by kernel_rfl) (by kernel_rfl)) ?_
 intro W base args ds gs before hval0 hW hcnd _
 have hval:∀(j:Nat) t v,Tryz.f10.params[j]? =some t→args[j]? =some v→Value.okWide Tryz.prog W .any base t v:=hval0
 have hW':=hW
 obtain⟨p,q,hA0,hV,rfl,hfz,hnd⟩:=hW
 have hA:DataW.TrodAll enc Tryz.prog W 0 (fun _=>true) true Tryz.f10.params.toList args.toList ds p:=hA0
 rw[Tryz.params10] at hA hval
 obtain⟨rfl,rfl⟩:=trodVars_none hV
 obtain⟨v0,v1,v2,d0,d1,d2,p0,p1,p2,rfl,rfl,rfl,h0,h1,h2⟩:=trodAll_three hA
 obtain⟨e0,he0,rfl⟩:=openI64 Tryz.underlying3 (hval 0 _ v0 rfl rfl)
 obtain⟨p,n,cap,ts,ch,rfl,hv,hin,hm,hc,hnd'⟩:=open_tuplesR Tryz.underlying44 Tryz.underlying49 Tryz.underlying2 (by kernel_rfl) (by kernel_rfl) h1 (hval 1 _ v1 rfl rfl)
 obtain⟨e2,he2,rfl⟩:=openNat8 Tryz.underlying5 (hval 2 _ v2 rfl rfl)
 clear hA0 hval0
 refine(law_calls1 hc hnd' (CompTells_ct e0 he0 p n cap ts ch hv hm hin e2 he2)).mono fun e W' ⟨he,hw⟩=> ?_
 subst he
 exact⟨_,rfl,lawPost hW' rfl rfl (by kernel_rfl) laidOut (by decide+kernel) rfl hw⟩
theorem CompTells_holds:Rows.CompTellsSaid:=
 OpenClaim.holds_of_wide 10 Tryz.f10 rfl rfl rfl rfl rfl rfl rfl ⟨rfl,rfl,rfl,rfl,rfl⟩ rfl rfl rfl rfl rfl (by kernel_rfl) Tryz.func10 (by kernel_rfl)
  (of_decide_eq_true (by kernel_rfl)) (by unfold Func.isWrapper;first|(rw[if_pos (by decide+kernel)];kernel_rfl)|(rw[if_neg (by decide+kernel)];exact⟨rfl,rfl⟩))
  (fun os started H enc _=>CompTells_lifted os started H enc)
end Go.Proofs.YtpckicjfigmjkaaGreat
