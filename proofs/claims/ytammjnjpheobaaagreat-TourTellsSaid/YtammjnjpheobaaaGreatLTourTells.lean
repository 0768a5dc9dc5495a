/-
  Parts of the proof, put together: TourTells0, TourTells. No condition.
-/
import Derived.Test.YtammjnjpheobaaaGreatK30
set_option linter.unusedVariables false
set_option linter.unusedSimpArgs false
set_option linter.unnecessarySimpa false
set_option maxHeartbeats 4000000
namespace Go.Proofs.YtammjnjpheobaaaGreat
open Go.SL Go.Spc Go.Tup Go.Srt Go.Gr
theorem TourTells_ct (n:Int) (p:Option Addr) (m cap:Nat) (es:List IE) (c:Chunk) (hv:Rw ecl 2 p m es c) (hm:m≤maxLen) (e:Nat) (he:e<256):
  CtQ Tryz.prog 8 [gv n p m cap,.int .u8 (e:Int)] [c] (.bool true):=by
 have hflv:∀f:Fl,flv f= .agg #[.int .i64 (f.first:Int),.int .i64 (f.blocks:Int),.int .i64 (f.width:Int),.int .i64 (f.count:Int)]:=fun _=>rfl
 have hAw:=awake16ct
 have hFo:=Formed03ct n p m cap es c hv hm
 have hFe:=Few03ct n p m cap 60 100 hm
 have hel:=hv.1
 obtain⟨k,hk⟩:∃k:Nat,k=e%33:=⟨_,rfl⟩
 have e5:(e:Int).tmod 33=(k:Int):=by rw[Int.tmod_eq_emod_of_nonneg (by omega)];omega
 have e4:IntKind.wrap .i64 ((e:Int).tmod 33)=(k:Int):=by rw[e5];exact wrap_i64 (by omega)
 have e6:IntKind.wrap .i64 (8+(k:Int))=((8+k:Nat):Int):=by rw[wrap_i64 (by omega)];omega
 have hk33:k<33:=by omega
 clear hk
 have hWk:Ct Tryz.prog 14 [.int .i64 ((8+k:Nat):Int)] [] fun v H'=>
  ∃bw bd ba bs cd ca cs,v=pv bw∧H'=[wrow bw bd ba bs,cd,ca,cs]∧Wc bd ba bs (wk0 10 9000 (10*(8+k))) cd ca cs:=work16ct (8+k) (by omega)
 unfold gv at hFo hFe⊢
 cases hfm:formedB n es with
 |false=>
  rw[hfm] at hFo
  refine Ct.intro Tryz.func8 rfl Tryz.ntmps8 (nle rfl) fun w0=> ?_;dsimp only[argSlots,Nat.reduceAdd]
  repeat(first|(refine st ?_;intros)|(refine cq hAw ?_)|(refine cq hFo ?_)|(refine cq hFe ?_)|(refine cq hCl ?_)|(refine cq hSa ?_))
  (refine Dn.post (Hr:=[c]) Tryz.results8 (hR:= ?_);exact⟨rfl,rfl⟩)
 |true=>
 rw[hfm] at hFo
 by_cases hfew:n≤60∧(m:Int)≤100
 rotate_left
 ·rw[dec_false hfew] at hFe
  refine Ct.intro Tryz.func8 rfl Tryz.ntmps8 (nle rfl) fun w0=> ?_;dsimp only[argSlots,Nat.reduceAdd]
  repeat(first|(refine st ?_;intros)|(refine cq hAw ?_)|(refine cq hFo ?_)|(refine cq hFe ?_)|(refine cq hCl ?_)|(refine cq hSa ?_))
  (refine Dn.post (Hr:=[c]) Tryz.results8 (hR:= ?_);exact⟨rfl,rfl⟩)
 rw[dec_true hfew] at hFe
 obtain⟨h0,hin⟩:=formed_in hfm
 obtain⟨N,rfl⟩:∃N:Nat,n=(N:Int):=⟨n.toNat,by omega⟩
 refine Ct.intro Tryz.func8 rfl Tryz.ntmps8 (nle rfl) fun w0=> ?_;dsimp only[argSlots,Nat.reduceAdd]
 repeat(first|(refine st ?_;intros)|(refine cq hAw ?_)|(refine cq hFo ?_)|(refine cq hFe ?_)|(refine cq hCl ?_)|(refine cq hSa ?_))
 rename_i b1
 refine R.call (hct:=hWk) (h:= ?_)
 rintro _ _ ⟨bw,bd,ba,bs,cd,ca,cs,rfl,rfl,hW⟩
 try dsimp only[List.cons_append,List.nil_append]
 have hLa:=laid16ct bw bd ba bs (10*(8+k)) (by omega) cd ca cs hW N (by omega) p m cap es c hv (by omega) hin
 have hPt:=parts16ct N (by omega) p m cap es c hv (by omega) hin
 unfold gv at hLa hPt
 repeat(first|(refine st ?_;intros)|(refine cq hAw ?_)|(refine cq hFo ?_)|(refine cq hFe ?_)|(refine cq hCl ?_)|(refine cq hSa ?_))
 refine R.call (hct:=hLa) (h:= ?_)
 rintro _ _ ⟨cd1,ca1,cs1,W,f,h,lab,fl,rfl,rfl,hW1,hL,hfl1⟩
 try dsimp only[List.cons_append,List.nil_append]
 obtain⟨r,b,hpa⟩:=parts_of hL.labs hL.fors
 have hbl:=hpa.b_len hin (by omega)
 have hT:=Tours_laid bw bd ba bs (10*(8+k)) (by omega) N (by omega) es (by omega) hin W cd1 ca1 cs1 hW1 f h lab fl hL hpa
 rw[hflv,hflv] at hT
 rw[hflv,hflv]
 repeat(first|(refine st ?_;intros)|(refine cq hAw ?_)|(refine cq hFo ?_)|(refine cq hFe ?_)|(refine cq hCl ?_)|(refine cq hSa ?_))
 refine R.call (hct:=hT) (h:= ?_)
 rintro _ _ ⟨x,er,cd3,ca3,cs3,W3,rfl,rfl,hW3,hs3,hr3,hu3,hn3,ha3,hf3,hc⟩
 dsimp only[List.cons_append,List.nil_append]
 rcases hc with⟨rfl,hinX,hxw,hxc,hl3⟩|⟨_,_,h6,_⟩
 rotate_left
 ·exact absurd hfl1 h6
 obtain⟨LvX,hfoX,hsubX⟩:=hinX
 have hLi:=List_ct bw bd ba bs W3 cd3 ca3 cs3 hW3 x b LvX hfoX hsubX (by rw[hs3,hr3,hu3];omega) (hf3 hfl1) (by omega) (by omega)
 rw[hflv x,hxc,hxw] at hLi
 rw[hflv x,hxc,hxw]
 repeat(first|(refine st ?_;intros)|(refine cq hAw ?_)|(refine cq hFo ?_)|(refine cq hFe ?_)|(refine cq hCl ?_)|(refine cq hSa ?_))
 refine R.call (hct:=hLi) (h:= ?_)
 rintro _ _ ⟨cd4,ca4,W4,po,oc,cho,rfl,rfl,hW4,hE4,hd4,hl4,hg4,hVo⟩
 try dsimp only[List.cons_append,List.nil_append]
 repeat(first|(refine st ?_;intros)|(refine cq hAw ?_)|(refine cq hFo ?_)|(refine cq hFe ?_)|(refine cq hCl ?_)|(refine cq hSa ?_))
 refine R.call (hct:=hPt) (h:= ?_)
 rintro _ _ ⟨pa,ka,cha,pb,nb,kb,chb,lab',fl',rfl,rfl,hva,hvb,hlab',hfl',hnm⟩
 try dsimp only[List.cons_append,List.nil_append]
 obtain rfl:=labs_one hL.labs hlab'
 obtain rfl:=fors_one hL.fors hfl'
 have hRf:=Tours16ct pa N ka (labT lab) cha hva pb nb kb (forT (edT es) fl) chb hvb (by omega) (by omega) (by
  intro t ht
  obtain⟨i,d,hd,_,rfl⟩:=hpa.edge ht
  have h1:=hin d (List.mem_of_getElem? hd)
  have h2:=(List.getElem?_eq_some_iff.1 hd).1
  unfold inE at h1
  dsimp only
  omega) hpa.arcs.nd
 repeat(first|(refine st ?_;intros)|(refine cq hAw ?_)|(refine cq hFo ?_)|(refine cq hFe ?_)|(refine cq hCl ?_)|(refine cq hSa ?_))
 refine R.call (hct:=hRf) (h:= ?_)
 rintro _ _ ⟨pt,nt,kt,ct,r',rfl,rfl,hnt,hVt,hA,hrl⟩
 try dsimp only[List.cons_append,List.nil_append]
 have hpa2:PartsOk N es lab fl r' (toursF r'):=⟨hL.labs,hL.fors,hA,by rw[hrl,hvb.1],rfl⟩
 have hrr:r'=r:=(hpa2.nam_is hin (by omega)).symm.trans (hpa.nam_is hin (by omega))
 subst hrr
 have hbt:b=toursF r':=hpa.tours
 have ht:=free_sum (fs:=[f,h,x]) hW4 (by rw[hl4];exact hl3) (hE4.n.trans hn3)
 have hSa:=Same_ct po b.length oc b cho (RV.vec hVo) (by omega) pt nt kt (toursF r') ct (RV.vec hVt)
 rw[decide_eq_true hbt] at hSa
 have hCl:∀b':Nat,CtQ Tryz.prog 26 [pv bw,.slice (some ⟨b',0,none⟩) 3 3] [wrow bw bd ba bs,ca4,cs3,[(b',row [.int .i64 (f.first:Int),.int .i64 (f.blocks:Int),.int .i64 (f.width:Int),.int .i64 (f.count:Int),.int .i64 (h.first:Int),.int .i64 (h.blocks:Int),.int .i64 (h.width:Int),.int .i64 (h.count:Int),.int .i64 (x.first:Int),.int .i64 (x.blocks:Int),.int .i64 ((5:Nat):Int),.int .i64 (b.length:Int)] 27)]] (.bool true):=fun b'=>
  clean16ct bw bd ba bs W4 ca4 cs3 hW4.ar hW4.sp (some ⟨b',0,none⟩) 3 3 [f,h,x] _ ⟨rfl,.inr ⟨b',0,_,_,_,rfl,rfl,by simp[fl4,hxc,hxw]⟩⟩ (by omega) ((used_eq hW3 hW4 hg4).trans hu3) ht
 repeat(first|(refine st ?_;intros)|(refine cq hAw ?_)|(refine cq hFo ?_)|(refine cq hFe ?_)|(refine cq hCl ?_)|(refine cq hSa ?_))
 (refine Dn.post (Hr:=[c]) Tryz.results8 (hR:= ?_);exact⟨rfl,rfl⟩)
end Go.Proofs.YtammjnjpheobaaaGreat
namespace Go.Proofs.YtammjnjpheobaaaGreat
open Go.ChangeShapes Go.WideShapes Go.ChangeAt Go.RowKit Go.SL Go.Tup
set_option maxRecDepth 100000 in
theorem TourTells_lifted (os:Os) (started:os.Started) (H:Type) (enc:TypeId×Value→H):
  ReturnsInHanded {} Tryz.checked os 8 .any (Rows.tourTellsSpec.pre6 enc Tryz.prog Tryz.f8 Rows.tourTellsRow.domain false) (Rows.tourTellsSpec.post enc Tryz.prog Tryz.f8 false true false false):=by
 refine returnsInHanded_of_change (C:=Tryz.checked) own started (by kernel_rfl) Tryz.func8
  (ChangeSpec.witness6 (enc:=enc) (C:=Tryz.checked) false ⟨#[],#[.agg #[.int .i64 0,.slice none 0 0],.int .u8 0],[]⟩ 8 (by kernel_rfl) (by kernel_rfl) (by kernel_rfl) (by kernel_rfl)) ?_
 intro W base args ds gs before hval0 hW hcnd _
 have hval:∀(j:Nat) t v,Tryz.f8.params[j]? =some t→args[j]? =some v→Value.okWide Tryz.prog W .any base t v:=hval0
 have hW':=hW
 obtain⟨p,q,hA0,hV,rfl,hfz,hnd⟩:=hW
 have hA:DataW.TrodAll enc Tryz.prog W 0 (fun _=>true) true Tryz.f8.params.toList args.toList ds p:=hA0
 rw[Tryz.params8] at hA hval
 obtain⟨rfl,rfl⟩:=trodVars_none hV
 obtain⟨v0,v1,d0,d1,p0,p1,rfl,rfl,rfl,h0,h1⟩:=trodAll_two hA
 obtain⟨n,p,m,cap,es,ch,rfl,hv,hm,hc,hnd'⟩:=open_graphR Tryz.underlying37 Tryz.underlying3 Tryz.underlying35 Tryz.underlying51 Tryz.underlying3 Tryz.underlying3 rfl rfl (by kernel_rfl) (by kernel_rfl) (by kernel_rfl) (by kernel_rfl) rfl rfl (by kernel_rfl) (by kernel_rfl) h0 (hval 0 _ v0 rfl rfl)
 obtain⟨e1,he1,rfl⟩:=openNat8 Tryz.underlying5 (hval 1 _ v1 rfl rfl)
 clear hA0 hval0
 refine(law_calls1 hc hnd' (TourTells_ct n p m cap es ch hv hm e1 he1)).mono fun e W' ⟨he,hw⟩=> ?_
 subst he
 exact⟨_,rfl,lawPost hW' rfl rfl (by kernel_rfl) laidOut (by decide+kernel) rfl hw⟩
theorem TourTells_holds:Rows.TourTellsSaid:=
 OpenClaim.holds_of_wide 8 Tryz.f8 rfl rfl rfl rfl rfl rfl rfl ⟨rfl,rfl,rfl,rfl,rfl⟩ rfl rfl rfl rfl rfl (by kernel_rfl) Tryz.func8 (by kernel_rfl)
  (of_decide_eq_true (by kernel_rfl)) (by unfold Func.isWrapper;first|(rw[if_pos (by decide+kernel)];kernel_rfl)|(rw[if_neg (by decide+kernel)];exact⟨rfl,rfl⟩))
  (fun os started H enc _=>TourTells_lifted os started H enc)
end Go.Proofs.YtammjnjpheobaaaGreat
