/-
  Parts of the proof, put together: RankTells0, RankTells. No condition.
-/
import Derived.Test.YtjoicjgfgkpdjaaGreatJ26
set_option linter.unusedVariables false
set_option linter.unusedSimpArgs false
set_option linter.unnecessarySimpa false
set_option maxHeartbeats 4000000
namespace Go.Proofs.YtjoicjgfgkpdjaaGreat
open Go.SL Go.Spc Go.Tup Go.Srt
theorem RankTells_ct (p:Option Addr) (n cap:Nat) (ts:List T5) (c:Chunk) (hv:RV p n ts c) (hn:n≤maxLen) (hi:InT ts) (e:Nat) (he:e<256):
  CtQ Tryz.prog 11 [.slice p n cap,.int .u8 (e:Int)] [c] (.bool true):=by
 have hflv:∀f:Fl,flv f= .agg #[.int .i64 (f.first:Int),.int .i64 (f.blocks:Int),.int .i64 (f.width:Int),.int .i64 (f.count:Int)]:=fun _=>rfl
 have hAw:=awake14ct
 have hl:=hv.1
 have hnx:n≤9223372036854775807:=hn
 obtain⟨k,hk⟩:∃k:Nat,k=e%33:=⟨_,rfl⟩
 have e5:(e:Int).tmod 33=(k:Int):=by rw[Int.tmod_eq_emod_of_nonneg (by omega)];omega
 have e4:IntKind.wrap .i64 ((e:Int).tmod 33)=(k:Int):=by rw[e5];exact wrap_i64 (by omega)
 have e6:IntKind.wrap .i64 (8+(k:Int))=((8+k:Nat):Int):=by rw[wrap_i64 (by omega)];omega
 have hk33:k<33:=by omega
 clear hk e5
 have hWk:Ct Tryz.prog 23 [.int .i64 ((8+k:Nat):Int)] [] fun v H'=>
  ∃bw bd ba bs cd ca cs,v=pv bw∧H'=[wrow bw bd ba bs,cd,ca,cs]∧Wc bd ba bs (wk0 10 6000 (10*(8+k))) cd ca cs:=work14ct (8+k) (by omega)
 refine Ct.intro Tryz.func11 rfl Tryz.ntmps11 (nle rfl) fun w0=> ?_;dsimp only[argSlots,Nat.reduceAdd]
 repeat(first|(refine st ?_;intros)|(refine cq hAw ?_)|(refine cq hAll ?_)|(refine cq hSa ?_)|(refine cq hCl ?_)|(refine cq hRn ?_))
 refine R.call (hct:=hWk) (h:= ?_)
 rintro _ _ ⟨bw,bd,ba,bs,cd,ca,cs,rfl,rfl,hW⟩
 try dsimp only[List.cons_append,List.nil_append]
 by_cases h150:n≤150
 rotate_left
 ·repeat(first|(refine st ?_;intros)|(refine cq hAw ?_)|(refine cq hAll ?_)|(refine cq hSa ?_)|(refine cq hCl ?_)|(refine cq hRn ?_))
  (refine Dn.post (Hr:=[c]) Tryz.results11 (hR:= ?_);exact⟨rfl,rfl⟩)
 have hAll:=All_ct p n cap ts c hv (by omega) 3
 cases hfit:ts.all (fitsB 3) with
 |false=>
  rw[hfit] at hAll
  repeat(first|(refine st ?_;intros)|(refine cq hAw ?_)|(refine cq hAll ?_)|(refine cq hSa ?_)|(refine cq hCl ?_)|(refine cq hRn ?_))
  (refine Dn.post (Hr:=[c]) Tryz.results11 (hR:= ?_);exact⟨rfl,rfl⟩)
 |true=>
 rw[hfit] at hAll
 have hok:∀t∈ts,okT 3 t:=fun t ht=>okT_mk (hi t ht) (List.all_eq_true.1 hfit t ht)
 have hnb:nblocks 10 3 n≤75:=Nat.le_trans nb3 (by omega)
 have hLy:=Lay_k bw bd ba bs _ cd ca cs hW 3 (by omega) (by omega) p n cap _ c hv (by omega) hok (by show 10≤10*(8+k)-0;omega) rfl (Nat.zero_le _) (by rw[big0];show nblocks 10 3 n≤_;omega)
 rw[show(wk0 10 6000 (10*(8+k))).δ.size=10 from rfl] at hLy
 repeat(first|(refine st ?_;intros)|(refine cq hAw ?_)|(refine cq hAll ?_)|(refine cq hSa ?_)|(refine cq hCl ?_)|(refine cq hRn ?_))
 refine R.call (hct:=hLy) (h:= ?_)
 rintro _ _ ⟨cd1,ca1,cs1,W1,f,rfl,rfl,hW1,hE1,hK1,hg1,hl1,hf1,hc1,hb1,hfo1⟩
 try dsimp only[List.cons_append,List.nil_append]
 obtain⟨hO1,hin1⟩:=(Ons.fresh 6000 (10*(8+k))).lay hW hW1 hE1 hg1 hl1 hfo1 (by show 0+nblocks 10 3 n≤_;omega)
 have hac1:=hE1.acts.2
 rw[show(wk0 10 6000 (10*(8+k))).δ.acts=0 from rfl] at hac1
 have hfl1:W1.δ.fault= -1:=hE1.fault rfl
 have hsT:sortT 75≤404:=by decide+kernel
 have hT:=Ranks_ons bw bd ba bs (10*(8+k)) (by omega) W1 cd1 ca1 cs1 hW1 f _ _ hin1 hf1 (hc1.trans hl.symm) hO1 150 75 404 (by omega) (by omega) (by omega) (by omega) hsT (by omega) (by simp[sumB,hb1];omega) (by omega)
 rw[hflv] at hT
 rw[hflv]
 repeat(first|(refine st ?_;intros)|(refine cq hAw ?_)|(refine cq hAll ?_)|(refine cq hSa ?_)|(refine cq hCl ?_)|(refine cq hRn ?_))
 refine R.call (hct:=hT) (h:= ?_)
 rintro _ _ ⟨x,e1,cd3,ca3,cs3,W3,rfl,rfl,hW3,hac3,hfl3,hbg3,hK3,hc⟩
 dsimp only[List.cons_append,List.nil_append]
 unfold rankA at hac3
 have hfl3':=hfl3 hfl1
 rcases hc with⟨rfl,her,hinX,hxw,hxc,hO3⟩|⟨_,rfl,hO3,⟨_,h6⟩|⟨k3,hk3,rfl⟩⟩
 rotate_left
 ·exact absurd hfl1 h6
 ·have hk3':k3=3:=by
   rcases errR_3 ts with h|h
   ·rw[h] at hk3;cases hk3
   ·rw[h] at hk3;cases hk3;rfl
  subst hk3'
  have hno:¬(OkL ts∧Ends ts):=fun h=>by
   rw[(errR_iff (by omega) hok).2 h] at hk3;cases hk3
  have ht:=free_sumN (fs:=[f]) hW3 hO3.live hO3.n
  have hCl:∀b':Nat,CtQ Tryz.prog 32 [pv bw,.slice (some ⟨b',0,none⟩) 1 1] [wrow bw bd ba bs,ca3,cs3,[(b',row [.int .i64 (f.first:Int),.int .i64 (f.blocks:Int),.int .i64 (f.width:Int),.int .i64 (f.count:Int)] 27)]] (.bool true):=fun b'=>
   clean14ct bw bd ba bs W3 ca3 cs3 hW3.ar hW3.sp (some ⟨b',0,none⟩) 1 1 [f] _ ⟨rfl,.inr ⟨b',0,_,_,_,rfl,rfl,rfl⟩⟩ (by omega) hO3.used ht
  have z1:((⟨0,0,0,0⟩:Fl).first:Int)=0:=rfl
  rw[hflv,z1]
  by_cases hOk:OkL ts
  ·have hRf:=Ranks14ct p n cap ts c hv (by omega) hok hOk
   repeat(first|(refine st ?_;intros)|(refine cq hAw ?_)|(refine cq hAll ?_)|(refine cq hSa ?_)|(refine cq hCl ?_)|(refine cq hRn ?_))
   refine R.call (hct:=hRf) (h:= ?_)
   rintro _ _ ⟨pu,uc,chu,us,bb,rfl,rfl,hVu,hbb,hus⟩
   try dsimp only[List.cons_append,List.nil_append]
   have hbf:bb=false:=by
    cases bb with
    |false=>rfl
    |true=>exact absurd ⟨hOk,hbb.1 rfl⟩ hno
   subst hbf
   repeat(first|(refine st ?_;intros)|(refine cq hAw ?_)|(refine cq hAll ?_)|(refine cq hSa ?_)|(refine cq hCl ?_)|(refine cq hRn ?_))
   (refine Dn.post (Hr:=[c]) Tryz.results11 (hR:= ?_);exact⟨rfl,rfl⟩)
  ·have hRn:=Ranks14no p n cap ts c hv (by omega) hOk
   repeat(first|(refine st ?_;intros)|(refine cq hAw ?_)|(refine cq hAll ?_)|(refine cq hSa ?_)|(refine cq hCl ?_)|(refine cq hRn ?_))
   (refine Dn.post (Hr:=[c]) Tryz.results11 (hR:= ?_);exact⟨rfl,rfl⟩)
 obtain⟨hOk,hEn⟩:=(errR_iff (by omega) hok).1 her
 have hRf:=Ranks14ct p n cap ts c hv (by omega) hok hOk
 obtain⟨LvX,hfoX,hsubX⟩:=hinX
 have hxc2:x.count=n:=by rw[hxc,ranksF_len,hl]
 have hLi:=List_ct bw bd ba bs W3 cd3 ca3 cs3 hW3 x (ranksF ts) LvX hfoX hsubX (by rw[hO3.size,hO3.room,hO3.used];omega) hfl3' (by omega) (by omega)
 rw[hflv x,hxc2] at hLi
 rw[hflv x,hxc2,hxw]
 repeat(first|(refine st ?_;intros)|(refine cq hAw ?_)|(refine cq hAll ?_)|(refine cq hSa ?_)|(refine cq hCl ?_)|(refine cq hRn ?_))
 refine R.call (hct:=hRf) (h:= ?_)
 rintro _ _ ⟨pu,uc,chu,us,bb,rfl,rfl,hVu,hbb,hus⟩
 try dsimp only[List.cons_append,List.nil_append]
 have hbt:bb=true:=hbb.2 hEn
 subst hbt
 have hus2:=hus hEn
 rw[hxw] at hLi
 repeat(first|(refine st ?_;intros)|(refine cq hAw ?_)|(refine cq hAll ?_)|(refine cq hSa ?_)|(refine cq hCl ?_)|(refine cq hRn ?_))
 refine R.call (hct:=hLi) (h:= ?_)
 rintro _ _ ⟨cd4,ca4,W4,po,oc,cho,rfl,rfl,hW4,hE4,hd4,hl4,hg4,hVo⟩
 try dsimp only[List.cons_append,List.nil_append]
 have ht:=free_sumN (fs:=[f,x]) hW4 (by rw[hl4];exact hO3.live) (hE4.n.trans hO3.n)
 have hSa:=Same_ct po n oc _ cho (RV.vec hVo) (by omega) pu us.length uc us chu (RV.vec hVu)
 rw[decide_eq_true hus2.symm] at hSa
 have hCl:∀b':Nat,CtQ Tryz.prog 32 [pv bw,.slice (some ⟨b',0,none⟩) 2 2] [wrow bw bd ba bs,ca4,cs3,[(b',row [.int .i64 (f.first:Int),.int .i64 (f.blocks:Int),.int .i64 (f.width:Int),.int .i64 (f.count:Int),.int .i64 (x.first:Int),.int .i64 (x.blocks:Int),.int .i64 ((2:Nat):Int),.int .i64 (n:Int)] 27)]] (.bool true):=fun b'=>
  clean14ct bw bd ba bs W4 ca4 cs3 hW4.ar hW4.sp (some ⟨b',0,none⟩) 2 2 [f,x] _ ⟨rfl,.inr ⟨b',0,_,_,_,rfl,rfl,by simp[fl4,hxc2,hxw]⟩⟩ (by omega) ((used_eq hW3 hW4 hg4).trans hO3.used) ht
 repeat(first|(refine st ?_;intros)|(refine cq hAw ?_)|(refine cq hAll ?_)|(refine cq hSa ?_)|(refine cq hCl ?_)|(refine cq hRn ?_))
 (refine Dn.post (Hr:=[c]) Tryz.results11 (hR:= ?_);exact⟨rfl,rfl⟩)
end Go.Proofs.YtjoicjgfgkpdjaaGreat
namespace Go.Proofs.YtjoicjgfgkpdjaaGreat
open Go.ChangeShapes Go.WideShapes Go.ChangeAt Go.RowKit Go.SL Go.Tup
set_option maxRecDepth 100000 in
theorem RankTells_lifted (os:Os) (started:os.Started) (H:Type) (enc:TypeId×Value→H):
  ReturnsInHanded {} Tryz.checked os 11 .any (Rows.rankTellsSpec.pre6 enc Tryz.prog Tryz.f11 Rows.rankTellsRow.domain false) (Rows.rankTellsSpec.post enc Tryz.prog Tryz.f11 false true false false):=by
 refine returnsInHanded_of_change (C:=Tryz.checked) own started (by kernel_rfl) Tryz.func11
  (ChangeSpec.witness6 (enc:=enc) (C:=Tryz.checked) false ⟨#[],#[.slice none 0 0,.int .u8 0],[]⟩ 8 (by kernel_rfl) (by kernel_rfl) (by kernel_rfl) (by kernel_rfl)) ?_
 intro W base args ds gs before hval0 hW hcnd _
 have hval:∀(j:Nat) t v,Tryz.f11.params[j]? =some t→args[j]? =some v→Value.okWide Tryz.prog W .any base t v:=hval0
 have hW':=hW
 obtain⟨p,q,hA0,hV,rfl,hfz,hnd⟩:=hW
 have hA:DataW.TrodAll enc Tryz.prog W 0 (fun _=>true) true Tryz.f11.params.toList args.toList ds p:=hA0
 rw[Tryz.params11] at hA hval
 obtain⟨rfl,rfl⟩:=trodVars_none hV
 obtain⟨v0,v1,d0,d1,p0,p1,rfl,rfl,rfl,h0,h1⟩:=trodAll_two hA
 obtain⟨p,n,cap,ts,ch,rfl,hv,hin,hm,hc,hnd'⟩:=open_tuplesR Tryz.underlying36 Tryz.underlying38 Tryz.underlying2 (by kernel_rfl) (by kernel_rfl) h0 (hval 0 _ v0 rfl rfl)
 obtain⟨e1,he1,rfl⟩:=openNat8 Tryz.underlying5 (hval 1 _ v1 rfl rfl)
 clear hA0 hval0
 refine(law_calls1 hc hnd' (RankTells_ct p n cap ts ch hv hm hin e1 he1)).mono fun e W' ⟨he,hw⟩=> ?_
 subst he
 exact⟨_,rfl,lawPost hW' rfl rfl (by kernel_rfl) laidOut (by decide+kernel) rfl hw⟩
theorem RankTells_holds:Rows.RankTellsSaid:=
 OpenClaim.holds_of_wide 11 Tryz.f11 rfl rfl rfl rfl rfl rfl rfl ⟨rfl,rfl,rfl,rfl,rfl⟩ rfl rfl rfl rfl rfl (by kernel_rfl) Tryz.func11 (by kernel_rfl)
  (of_decide_eq_true (by kernel_rfl)) (by unfold Func.isWrapper;first|(rw[if_pos (by decide+kernel)];kernel_rfl)|(rw[if_neg (by decide+kernel)];exact⟨rfl,rfl⟩))
  (fun os started H enc _=>RankTells_lifted os started H enc)
end Go.Proofs.YtjoicjgfgkpdjaaGreat
