/-
  Parts of the proof, put together: CutTells0, CutTells. No condition.
-/
import Derived.Test.YtlnehgklibbjiaaGreatE25
set_option linter.unusedVariables false
set_option linter.unusedSimpArgs false
set_option linter.unnecessarySimpa false
set_option maxHeartbeats 4000000
namespace Go.Proofs.YtlnehgklibbjiaaGreat
open Go.SL Go.Spc Go.Tup Go.Srt Go.Gr
theorem ApOk.uniq {N:Nat} {es:List IE} {ls ls':List (List Int)} (h:ApOk N es ls) (h':ApOk N es ls'):ls=ls':=by
 apply List.ext_getElem?
 intro v
 by_cases hv:v<N
 ·have h1:=lAt_get (ls:=ls) (v:=v) (by rw[h.len];exact hv)
  have h2:=lAt_get (ls:=ls') (v:=v) (by rw[h'.len];exact hv)
  rw[h1,h2,(h.lab v _ h1).uniq' (h'.lab v _ h2)]
 ·rw[List.getElem?_eq_none (by rw[h.len];omega),List.getElem?_eq_none (by rw[h'.len];omega)]
theorem NamesOk.uniq {N m:Nat} {es:List IE} {ls:List (List Int)} {nm nm':List Int} (h:NamesOk N m es ls nm) (h':NamesOk N m es ls nm'):nm=nm':=by
 apply List.ext_getElem?
 intro i
 by_cases hi:i<m
 ·rw[iAt_get (by rw[h.len];exact hi),iAt_get (by rw[h'.len];exact hi)]
  congr 1
  by_cases hn:nonL es i
  ·obtain⟨_,a,a1,_,a3,a4,a5⟩:=h.of hi (h.some_ hi hn)
   obtain⟨_,b,b1,_,b3,b4,b5⟩:=h'.of hi (h'.some_ hi hn)
   rcases Nat.lt_trichotomy a b with h1|h1|h1
   ·exact(b5 a h1 a3 a4).elim
   ·rw[a1,b1,h1]
   ·exact(a5 b h1 b3 b4).elim
  ·rw[(h.at_ i hi).lp hn,(h'.at_ i hi).lp hn]
 ·rw[List.getElem?_eq_none (by rw[h.len];omega),List.getElem?_eq_none (by rw[h'.len];omega)]
theorem CutTells_ct (n:Int) (p:Option Addr) (m cap:Nat) (es:List IE) (c:Chunk) (hv:Rw ecl 2 p m es c) (hm:m≤maxLen) (e:Nat) (he:e<256):
  CtQ Tryz.prog 11 [gv n p m cap,.int .u8 (e:Int)] [c] (.bool true):=by
 have hl:=hv.1
 have hAw:=awake21ct
 have hSm:=small21ct n p m cap es c hv hm
 obtain⟨k,hk⟩:∃k:Nat,k=e%33:=⟨_,rfl⟩
 have e5:(e:Int).tmod 33=(k:Int):=by rw[Int.tmod_eq_emod_of_nonneg (by omega)];omega
 have e4:IntKind.wrap .i64 ((e:Int).tmod 33)=(k:Int):=by rw[e5];exact wrap_i64 (by omega)
 have e6:IntKind.wrap .i64 (8+(k:Int))=((8+k:Nat):Int):=by rw[wrap_i64 (by omega)];omega
 have hk33:k<33:=by omega
 clear hk
 have hWk:Ct Tryz.prog 30 [.int .i64 ((8+k:Nat):Int)] [] fun v H'=>
  ∃bw bd ba bs cd ca cs,v=pv bw∧H'=[wrow bw bd ba bs,cd,ca,cs]∧Wc bd ba bs (wk0 10 9000 (10*(8+k))) cd ca cs:=work21ct (8+k) (by omega)
 unfold gv at hSm⊢
 by_cases hok:formedB n es=true∧(n≤24∧(m:Int)≤45)
 rotate_left
 ·have hf:(formedB n es&&dec (n≤24∧(m:Int)≤45))=false:=by
   cases hq:formedB n es with
   |false=>rfl
   |true=>rw[dec_false fun h=>hok ⟨hq,h⟩];rfl
  rw[hf] at hSm
  refine Ct.intro Tryz.func11 rfl Tryz.ntmps11 (nle rfl) fun w0=> ?_;dsimp only[argSlots,Nat.reduceAdd]
  repeat(first|(refine st ?_;intros)|(refine cq hAw ?_)|(refine cq hSm ?_)|(refine cq hSa ?_)|(refine cq hCl ?_))
  (refine Dn.post (Hr:=[c]) Tryz.results11 (hR:= ?_);exact⟨rfl,rfl⟩)
 obtain⟨hfm,hfew⟩:=hok
 rw[hfm,dec_true hfew,Bool.and_self] at hSm
 obtain⟨h0,hin⟩:=formed_in hfm
 obtain⟨N,rfl⟩:∃N:Nat,n=(N:Int):=⟨n.toNat,by omega⟩
 obtain⟨lg,hlg⟩:=lab_ex (gE es) (actE es [] (-1)) N (-1)
 have hRf:=Cuts21R_ct N (by omega) p m cap es c hv (by omega) hin lg ⟨hlg⟩
 unfold gv at hRf
 refine Ct.intro Tryz.func11 rfl Tryz.ntmps11 (nle rfl) fun w0=> ?_;dsimp only[argSlots,Nat.reduceAdd]
 repeat(first|(refine st ?_;intros)|(refine cq hAw ?_)|(refine cq hSm ?_)|(refine cq hSa ?_)|(refine cq hCl ?_))
 rename_i b1
 refine R.call (hct:=hWk) (h:= ?_)
 rintro _ _ ⟨bw,bd,ba,bs,cd,ca,cs,rfl,rfl,hW⟩
 try dsimp only[List.cons_append,List.nil_append]
 have hC:=cuts21ct bw bd ba bs (10*(8+k)) (by omega) cd ca cs hW N (by omega) p m cap es c hv (by omega) hin
 unfold gv at hC
 repeat(first|(refine st ?_;intros)|(refine cq hAw ?_)|(refine cq hSm ?_)|(refine cq hSa ?_)|(refine cq hCl ?_))
 refine R.call (hct:=hC) (h:= ?_)
 rintro _ _ ⟨cd',ca',cs',W,pl,kk,cap',co,bq,f,h,x,nm,ls,rfl,rfl,hW1,hR,hk2,hT⟩
 try dsimp only[List.cons_append,List.nil_append]
 have hfs:=free_sum (fs:=[f,h,x]) hW1 hT.live hT.n
 have hCl:=clean21ct bw bd ba bs W ca' cs' hW1.ar hW1.sp (some ⟨bq,0,none⟩) 3 3 [f,h,x] [(bq,row (fl4 f++fl4 h++fl4 x) 27)] ⟨rfl,.inr ⟨bq,0,fl4 f++fl4 h++fl4 x,27,(0,0),rfl,rfl,rfl⟩⟩ (by omega) hT.used hfs
 repeat(first|(refine st ?_;intros)|(refine cq hAw ?_)|(refine cq hSm ?_)|(refine cq hSa ?_)|(refine cq hCl ?_))
 refine R.call (hct:=hRf) (h:= ?_)
 rintro _ _ ⟨pb,nb,kb,cb,nm',ls',rfl,rfl,hA',hN',hR'⟩
 try dsimp only[List.cons_append,List.nil_append]
 obtain rfl:=hT.ap.uniq hA'
 obtain rfl:=hT.nms.uniq hN'
 rw[outR_is hT.ap hT.nms ⟨hlg⟩ hin hl (by omega) (by omega)] at hR'
 have hSa:=Same_ct pl kk cap' _ co hR (by omega) pb nb kb _ cb hR'
 rw[decide_eq_true rfl] at hSa
 repeat(first|(refine st ?_;intros)|(refine cq hAw ?_)|(refine cq hSm ?_)|(refine cq hSa ?_)|(refine cq hCl ?_))
 (refine Dn.post (Hr:=[c]) Tryz.results11 (hR:= ?_);exact⟨rfl,rfl⟩)
end Go.Proofs.YtlnehgklibbjiaaGreat
namespace Go.Proofs.YtlnehgklibbjiaaGreat
open Go.ChangeShapes Go.WideShapes Go.ChangeAt Go.RowKit Go.SL Go.Tup
set_option maxRecDepth 100000 in
theorem CutTells_lifted (os:Os) (started:os.Started) (H:Type) (enc:TypeId×Value→H):
  ReturnsInHanded {} Tryz.checked os 11 .any (Rows.cutTellsSpec.pre6 enc Tryz.prog Tryz.f11 Rows.cutTellsRow.domain false) (Rows.cutTellsSpec.post enc Tryz.prog Tryz.f11 false true false false):=by
 refine returnsInHanded_of_change (C:=Tryz.checked) own started (by kernel_rfl) Tryz.func11
  (ChangeSpec.witness6 (enc:=enc) (C:=Tryz.checked) false ⟨#[],#[.agg #[.int .i64 0,.slice none 0 0],.int .u8 0],[]⟩ 8 (by kernel_rfl) (by kernel_rfl) (by kernel_rfl) (by kernel_rfl)) ?_
 intro W base args ds gs before hval0 hW hcnd _
 have hval:∀(j:Nat) t v,Tryz.f11.params[j]? =some t→args[j]? =some v→Value.okWide Tryz.prog W .any base t v:=hval0
 have hW':=hW
 obtain⟨p,q,hA0,hV,rfl,hfz,hnd⟩:=hW
 have hA:DataW.TrodAll enc Tryz.prog W 0 (fun _=>true) true Tryz.f11.params.toList args.toList ds p:=hA0
 rw[Tryz.params11] at hA hval
 obtain⟨rfl,rfl⟩:=trodVars_none hV
 obtain⟨v0,v1,d0,d1,p0,p1,rfl,rfl,rfl,h0,h1⟩:=trodAll_two hA
 obtain⟨n,p,m,cap,es,ch,rfl,hv,hm,hc,hnd'⟩:=open_graphR Tryz.underlying37 Tryz.underlying3 Tryz.underlying35 Tryz.underlying62 Tryz.underlying3 Tryz.underlying3 rfl rfl (by kernel_rfl) (by kernel_rfl) (by kernel_rfl) (by kernel_rfl) rfl rfl (by kernel_rfl) (by kernel_rfl) h0 (hval 0 _ v0 rfl rfl)
 obtain⟨e1,he1,rfl⟩:=openNat8 Tryz.underlying5 (hval 1 _ v1 rfl rfl)
 clear hA0 hval0
 refine(law_calls1 hc hnd' (CutTells_ct n p m cap es ch hv hm e1 he1)).mono fun e W' ⟨he,hw⟩=> ?_
 subst he
 exact⟨_,rfl,lawPost hW' rfl rfl (by kernel_rfl) laidOut (by decide+kernel) rfl hw⟩
theorem CutTells_holds:Rows.CutTellsSaid:=
 OpenClaim.holds_of_wide 11 Tryz.f11 rfl rfl rfl rfl rfl rfl rfl ⟨rfl,rfl,rfl,rfl,rfl⟩ rfl rfl rfl rfl rfl (by kernel_rfl) Tryz.func11 (by kernel_rfl)
  (of_decide_eq_true (by kernel_rfl)) (by unfold Func.isWrapper;first|(rw[if_pos (by decide+kernel)];kernel_rfl)|(rw[if_neg (by decide+kernel)];exact⟨rfl,rfl⟩))
  (fun os started H enc _=>CutTells_lifted os started H enc)
end Go.Proofs.YtlnehgklibbjiaaGreat
