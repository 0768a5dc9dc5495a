/-
  Parts of the proof, put together: RankCircles0, RankCircles. No condition.
-/
import Derived.Test.YtjoicjgfgkpdjaaGreatJ26
set_option linter.unusedVariables false
set_option linter.unusedSimpArgs false
set_option linter.unnecessarySimpa false
set_option maxHeartbeats 4000000
namespace Go.Proofs.YtjoicjgfgkpdjaaGreat
open Go.SL Go.Spc Go.Tup Go.Srt
theorem cell_of {cs:List Value} {i:Nat} {v:Value} {vs:List Value} (h:(cs.drop i).take 5=v::vs):cs[i]? =some v:=by
 have h2:=congrArg (fun l=>l[0]?) h
 simpa[List.getElem?_take,List.getElem?_drop] using h2
theorem RankCircles_ct (s:Nat) (hs:s<256) (b:Nat) (hb:b<65536) (e:Nat) (he:e<256):
  CtQ Tryz.prog 10 [.int .u8 (s:Int),.int .u16 (b:Int),.int .u8 (e:Int)] [] (.bool true):=by
 have hflv:∀f:Fl,flv f= .agg #[.int .i64 (f.first:Int),.int .i64 (f.blocks:Int),.int .i64 (f.width:Int),.int .i64 (f.count:Int)]:=fun _=>rfl
 have hAw:=awake14ct
 have hWk:Ct Tryz.prog 23 [.int .i64 9] [] fun v H'=>
  ∃bw bd ba bs cd ca cs,v=pv bw∧H'=[wrow bw bd ba bs,cd,ca,cs]∧Wc bd ba bs (wk0 10 6000 90) cd ca cs:=work14ct 9 (by omega)
 obtain⟨z,hz⟩:∃z:Nat,z=1+s%59:=⟨_,rfl⟩
 have hz1:1≤z:=by omega
 have hz60:z<60:=by omega
 have e1:IntKind.wrap .u8 (1+(s:Int).tmod 59)=(z:Int):=by
  rw[Int.tmod_eq_emod_of_nonneg (by omega)]
  have:(1+(s:Int)%59)=(z:Int):=by omega
  rw[this]
  unfold IntKind.wrap
  simp[IntKind.bits,IntKind.signed]
  omega
 have hal:=allS_one hz60
 refine Ct.intro Tryz.func10 rfl Tryz.ntmps10 (nle rfl) fun w0=> ?_;dsimp only[argSlots,Nat.reduceAdd]
 repeat(first|(refine st ?_;intros)|refine G.draw [] (h:= ?_)|(refine cq hAw ?_)|(refine cq hCl ?_))
 refine R.call (hct:=hWk) (h:= ?_)
 rintro _ _ ⟨bw,bd,ba,bs,cd,ca,cs,rfl,rfl,hW⟩
 try dsimp only[List.cons_append,List.nil_append]
 repeat(first|(refine st ?_;intros)|refine G.draw [] (h:= ?_)|(refine cq hAw ?_)|(refine cq hCl ?_))
 rename_i bl
 have hCh:=chains_ct (some ⟨bl,0,none⟩) 1 1 [z] [(bl,row [.int .u8 (z:Int)] 5)] ⟨rfl,.inr ⟨bl,0,_,_,_,rfl,rfl,rfl⟩⟩ (by omega) (by simp;omega) b hb none 0 0 [] [] ⟨rfl,.inl ⟨rfl,rfl⟩⟩ (by omega) [(bl,row [.int .u8 (z:Int)] 5)] [] [(bl,row [.int .u8 (z:Int)] 5)] (by simp) (by simp)
 refine R.callX (hct:=hCh) (h:= ?_)
 rintro _ _ ⟨q,qc,ch,p,sp,rfl,rfl,hV,hp1,hp2,hp3,hp4,hp5⟩
 dsimp only[List.cons_append,List.nil_append]
 constructor
 ·(·(first|(intro _ _ h;cases h;done)|(repeat(first|exact qok_nil|(apply qok_cons;(·first|(intro hc;exact absurd hc (nmem rfl))|(intro _;apply CellPr.mk;(·repeat(first|exact Has.here|apply Has.there));(first|exact rfl|assumption))|(intro _;apply CellsPr.mk;(·repeat(first|exact Has.here|apply Has.there));(first|exact rfl|assumption))))))))
 rw[hal] at hp1
 rw[hal,chL_one hz60] at hV
 rw[hal]
 clear hz e1
 have hj:e%z<z:=Nat.mod_lt _ (by omega)
 have her:=hang_err (sp:=sp) hp1 hp2 hp3 hp4 hp5 hj (hang_ok (by omega) hp2 hz60)
 have hok:=hang_ok (p:=p) (sp:=sp) (j:=e%z) (by omega) hp2 hz60
 obtain⟨rb,re,rfl,rfl,hre,hce,hcm⟩:=vpos1 hV hz1
 have hlen:(chO (elN p sp) [] 0 z).length=z:=chO_len _ _ _ _
 have hgj:∀i,i<z→(flat (chO (elN p sp) [] 0 z)++re)[i*5]? =some (.int .i64 (elN p sp i)):=by
  intro i hi
  have h1:=List.take_append_drop i (chO (elN p sp) [] 0 z)
  have h2:(chO (elN p sp) [] 0 z).drop i=(chO (elN p sp) [] 0 z)[i]::(chO (elN p sp) [] 0 z).drop (i+1):=List.drop_eq_getElem_cons (by omega)
  have h3:=t_cut ((chO (elN p sp) [] 0 z).take i) ((chO (elN p sp) [] 0 z).drop (i+1)) (chO (elN p sp) [] 0 z)[i] re (k:=i) (by rw[List.length_take];omega)
  rw[←h2,h1] at h3
  have h4:=cell_of h3
  have h5:(chO (elN p sp) [] 0 z)[i]=chT (elN p sp) [] (0+i) (decide (i+1=z)):=by
   have:=chO_getE (el:=elN p sp) (ws:=[]) (n:=0) hi
   rw[List.getElem?_eq_getElem (by omega)] at this
   simpa using this
  rw[h5] at h4
  rw[h4,Nat.zero_add];rfl
 have hgj:=hgj (e%z) hj
 have ew:IntKind.wrap .i64 (e:Int)=(e:Int):=wrap_i64 (by omega)
 have ew2:IntKind.wrap .i64 ((z:Int)-1)=((z-1:Nat):Int):=by rw[wrap_i64 (by omega)];omega
 have hz0:(z:Int)≠0:=by omega
 have hsplit:chO (elN p sp) [] 0 z=(chO (elN p sp) [] 0 z).take (z-1)++[⟨elN p sp (z-1),-1,1,0,0⟩]:=by
  have h1:=List.take_append_drop (z-1) (chO (elN p sp) [] 0 z)
  have h2:(chO (elN p sp) [] 0 z).drop (z-1)=[⟨elN p sp (z-1),-1,1,0,0⟩]:=by
   have h3:=chO_getE (el:=elN p sp) (ws:=[]) (n:=0) (s:=z) (i:=z-1) (by omega)
   rw[List.drop_eq_getElem_cons (by omega),List.drop_of_length_le (by omega)]
   rw[List.getElem?_eq_getElem (by omega)] at h3
   simp only[Option.some.injEq] at h3
   rw[h3]
   unfold chT
   rw[decide_eq_true (by omega),Nat.zero_add]
   rfl
  rw[h2] at h1
  exact h1.symm
 have et:(e:Int).tmod (z:Int)=((e%z:Nat):Int):=by rw[Int.tmod_eq_emod_of_nonneg (by omega)];rfl
 generalize e%z=j at*
 repeat(first|(refine st ?_;intros)|refine G.draw [] (h:= ?_)|(refine cq hAw ?_)|(refine cq hCl ?_))
 rw[et]
 clear et
 repeat(first|(refine st ?_;intros)|refine G.draw [] (h:= ?_)|(refine cq hAw ?_)|(refine cq hCl ?_))
 have hset:(flat (chO (elN p sp) [] 0 z)++re).set ((z-1)*5+Int.toNat 1) (.int .i64 (elN p sp j))=flat (hangT p sp z j)++re:=by
  have hAl:((chO (elN p sp) [] 0 z).take (z-1)).length=z-1:=by rw[List.length_take];omega
  unfold hangT
  generalize (chO (elN p sp) [] 0 z).take (z-1)=A at*
  rw[hsplit,flat_append,flat_append,List.append_assoc,List.append_assoc,List.set_append_right _ _ (by rw[flat_len5];simp;omega),flat_len5,hAl,show(z-1)*5+Int.toNat 1-(z-1)*5=1 by simp]
  simp[flat]
  rfl
 rw[hset]
 have hhl:(hangT p sp z j).length=z:=by
  unfold hangT
  rw[List.length_append,List.length_take,hlen]
  simp;omega
 have hV2:Vec 38 5 (some ⟨rb,0,none⟩) z qc (flat (hangT p sp z j)) [(rb,row (flat (hangT p sp z j)++re) 38)]:=by
  rw[flat_len5,hlen] at hre
  exact Vec.mk' rfl (by rw[flat_len5,hhl]) (by rw[List.length_append,flat_len5,hhl];omega) hce hcm
 clear hset hsplit hgj hlen
 generalize hangT p sp z j=ts at*
 clear hp1 hp3 hV
 generalize hrow:[(rb,row (flat ts++re) 38)]=ch at*
 have hnb:nblocks 10 3 z≤30:=Nat.le_trans nb3 (by omega)
 have hLy:=Lay_k bw bd ba bs _ cd ca cs hW 3 (by omega) (by omega) _ z qc _ ch (RV.vec hV2) (by omega) hok (by decide) rfl (by decide) (by rw[big0];show nblocks 10 3 z≤_;omega)
 rw[show(wk0 10 6000 90).δ.size=10 from rfl] at hLy
 refine R.call (hct:=hLy) (h:= ?_)
 rintro _ _ ⟨cd1,ca1,cs1,W1,f,rfl,rfl,hW1,hE1,hK1,hg1,hl1,hf1,hc1,hb1,hfo1⟩
 try dsimp only[List.cons_append,List.nil_append]
 obtain⟨hO1,hin1⟩:=(Ons.fresh 6000 90).lay hW hW1 hE1 hg1 hl1 hfo1 (by show 0+nblocks 10 3 z≤_;omega)
 have hac1:=hE1.acts.2
 rw[show(wk0 10 6000 90).δ.acts=0 from rfl] at hac1
 rw[hflv]
 have hT:=Ranks_ons bw bd ba bs 90 (by omega) W1 cd1 ca1 cs1 hW1 f ts _ hin1 hf1 (hc1.trans hhl.symm) hO1 60 30 200 (by omega) (by omega) (by omega) (by omega) (by decide+kernel) (by omega) (by simp[sumB,hb1];omega) (by omega)
 rw[hflv] at hT
 repeat(first|(refine st ?_;intros)|refine G.draw [] (h:= ?_)|(refine cq hAw ?_)|(refine cq hCl ?_))
 refine R.call (hct:=hT) (h:= ?_)
 rintro _ _ ⟨x,e1,cd3,ca3,cs3,W3,rfl,rfl,hW3,hac3,hfl3,hbg3,hK3,hc⟩
 dsimp only[List.cons_append,List.nil_append]
 rcases hc with⟨_,h6,_⟩|⟨_,rfl,hO4,⟨_,h6⟩|⟨k,h6,rfl⟩⟩
 ·rw[her] at h6;cases h6
 ·exact absurd (hE1.fault rfl) h6
 ·rw[her] at h6
  simp only[Option.some.injEq] at h6
  subst h6
  have ht:=free_sumN (fs:=[f]) hW3 hO4.live hO4.n
  have hCl:∀b':Nat,CtQ Tryz.prog 32 [pv bw,.slice (some ⟨b',0,none⟩) 1 1] [wrow bw bd ba bs,ca3,cs3,[(b',row [.int .i64 (f.first:Int),.int .i64 (f.blocks:Int),.int .i64 (f.width:Int),.int .i64 (f.count:Int)] 27)]] (.bool true):=fun b'=>
   clean14ct bw bd ba bs W3 ca3 cs3 hW3.ar hW3.sp (some ⟨b',0,none⟩) 1 1 [f] _ ⟨rfl,.inr ⟨b',0,_,_,_,rfl,rfl,rfl⟩⟩ (by omega) hO4.used ht
  have z1:((⟨0,0,0,0⟩:Fl).first:Int)=0:=rfl
  rw[hflv,z1]
  repeat(first|(refine st ?_;intros)|refine G.draw [] (h:= ?_)|(refine cq hAw ?_)|(refine cq hCl ?_))
  (refine Dn.post (Hr:=[]) Tryz.results10 (hR:= ?_);exact⟨rfl,rfl⟩)
end Go.Proofs.YtjoicjgfgkpdjaaGreat
namespace Go.Proofs.YtjoicjgfgkpdjaaGreat
open Go.ChangeShapes Go.WideShapes Go.ChangeAt Go.RowKit Go.SL Go.Tup
set_option maxRecDepth 100000 in
theorem RankCircles_lifted (os:Os) (started:os.Started) (H:Type) (enc:TypeId×Value→H):
  ReturnsInHanded {} Tryz.checked os 10 .any (Rows.rankCirclesSpec.pre6 enc Tryz.prog Tryz.f10 Rows.rankCirclesRow.domain false) (Rows.rankCirclesSpec.post enc Tryz.prog Tryz.f10 false true false false):=by
 refine returnsInHanded_of_change (C:=Tryz.checked) own started (by kernel_rfl) Tryz.func10
  (ChangeSpec.witness6 (enc:=enc) (C:=Tryz.checked) false ⟨#[],#[.int .u8 0,.int .u16 0,.int .u8 0],[]⟩ 8 (by kernel_rfl) (by kernel_rfl) (by kernel_rfl) (by kernel_rfl)) ?_
 intro W base args ds gs before hval0 hW hcnd _
 have hval:∀(j:Nat) t v,Tryz.f10.params[j]? =some t→args[j]? =some v→Value.okWide Tryz.prog W .any base t v:=hval0
 have hW':=hW
 obtain⟨p,q,hA0,hV,rfl,hfz,hnd⟩:=hW
 have hA:DataW.TrodAll enc Tryz.prog W 0 (fun _=>true) true Tryz.f10.params.toList args.toList ds p:=hA0
 rw[Tryz.params10] at hA hval
 obtain⟨rfl,rfl⟩:=trodVars_none hV
 obtain⟨v0,v1,v2,d0,d1,d2,p0,p1,p2,rfl,rfl,rfl,h0,h1,h2⟩:=trodAll_three hA
 obtain⟨e0,he0,rfl⟩:=openNat8 Tryz.underlying5 (hval 0 _ v0 rfl rfl)
 obtain⟨e1,he1,rfl⟩:=openNat16 Tryz.underlying46 (hval 1 _ v1 rfl rfl)
 obtain⟨e2,he2,rfl⟩:=openNat8 Tryz.underlying5 (hval 2 _ v2 rfl rfl)
 clear hA0 hval0
 refine(law_calls (RankCircles_ct e0 he0 e1 he1 e2 he2) W).mono fun e W' ⟨he,hw⟩=> ?_
 subst he
 exact⟨_,rfl,lawPost hW' rfl rfl (by kernel_rfl) laidOut (by decide+kernel) rfl hw⟩
theorem RankCircles_holds:Rows.RankCirclesSaid:=
 OpenClaim.holds_of_wide 10 Tryz.f10 rfl rfl rfl rfl rfl rfl rfl ⟨rfl,rfl,rfl,rfl,rfl⟩ rfl rfl rfl rfl rfl (by kernel_rfl) Tryz.func10 (by kernel_rfl)
  (of_decide_eq_true (by kernel_rfl)) (by unfold Func.isWrapper;first|(rw[if_pos (by decide+kernel)];kernel_rfl)|(rw[if_neg (by decide+kernel)];exact⟨rfl,rfl⟩))
  (fun os started H enc _=>RankCircles_lifted os started H enc)
end Go.Proofs.YtjoicjgfgkpdjaaGreat
