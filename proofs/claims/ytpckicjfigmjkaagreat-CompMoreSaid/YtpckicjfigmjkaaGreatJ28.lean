/-
  Parts of the proof, put together: Comp5, Comp6, Lay2, CompN. No condition.
-/
import Derived.Test.YtpckicjfigmjkaaGreatJ27
set_option linter.unusedVariables false
set_option linter.unusedSimpArgs false
set_option linter.unnecessarySimpa false
set_option maxHeartbeats 4000000
namespace Go.Proofs.YtpckicjfigmjkaaGreat
open Go.SL Go.Spc Go.Tup Go.Srt
section
variable {p:Jp} {B m k a s0:Nat} {e:Int} {er:Option Nat} {Gf:List (Fl×List T5)} {C:Chunk}
theorem joined_ct (hR:Rm p B m k a) (ff fc:Fl) (Fo ch:List T5) (hJ:JobS p B k a s0 e er ((ff,Fo)::(fc,ch)::Gf) C) (q:Nat) (hF:FB (2*q) q 1 Fo.length e ff) (hFc:FB (2*q) q 3 ch.length e fc) (hle:e=0→Fo.length+ch.length≤2*q) (hokF:e=0→∀t∈Fo,okT 1 t) (hok:e=0→∀t∈ch,okT 3 t)
  (hqB:2*q≤B) (hk:Gf.length+4≤k) (hst:s0≤9900):
  Ct Tryz.prog 47 [pv p.bj,flv ff,flv fc] [C] fun v H'=>∃g C' e',v=flv g∧H'=[C']∧JobS p B k a (s0+2) e' er ((g,Fo++ch.map fun t=>⟨t.c2,0,0,0,0⟩)::(fc,ch)::Gf) C'∧FB (2*q) q 1 (Fo++ch.map fun t=>(⟨t.c2,0,0,0,0⟩:T5)).length e' g∧(e'=0→e=0):=by
 have hflv:∀f:Fl,flv f= .agg #[.int .i64 (f.first:Int),.int .i64 (f.blocks:Int),.int .i64 (f.width:Int),.int .i64 (f.count:Int)]:=fun _=>rfl
 have hfl4:∀f:Fl,fl4 f=[.int .i64 (f.first:Int),.int .i64 (f.blocks:Int),.int .i64 (f.width:Int),.int .i64 (f.count:Int)]:=fun _=>rfl
 have hz:flv ⟨0,0,0,0⟩= .agg #[.int .i64 0,.int .i64 0,.int .i64 0,.int .i64 0]:=rfl
 have hB:=hR.bs
 have h1:=hF.cnt
 have h2:=hF.blk
 have h3:=hFc.cnt
 have h4:=hFc.blk
 have hM1:=fun b=>SFl1 hR hJ [] jn1F 1 fc.count (2*q) 1 (by omega) 95 inferInstance [] (okT 3) jn1 (fun t _=>Nat.le_refl _) (by omega) fc ch (by first|exact .inr (by assumption)|exact .inl (by repeat(first|exact List.mem_cons_self|apply List.mem_cons_of_mem))) (by omega) hok
  (fun h=>by rw[flat_ones (f:=jn1F) (g:=fun t=>⟨t.c2,0,0,0,0⟩) (fun _=>rfl),List.length_map,(hFc.ok h).2];exact Nat.le_refl _) (.inl (by omega)) hqB (by simp only[List.length_cons,List.length_nil];omega) (by omega) b
 simp only[hfl4] at hM1
 rw[flat_ones (f:=jn1F) (g:=fun t=>⟨t.c2,0,0,0,0⟩) (fun _=>rfl)] at hM1
 rw[hflv ff,hflv fc]
 refine Ct.intro Tryz.func47 rfl Tryz.ntmps47 (nle rfl) fun w0=> ?_;dsimp only[argSlots,Nat.reduceAdd]
 repeat(refine st ?_;intros)
 repeat(refine st ?_;intros)
 refine R.callX (hct:=hM1 _) (h:= ?_)
 rintro _ _ ⟨f1,C1,e1,rfl,rfl,hJ1,hF1,hE1⟩
 dsimp only[List.cons_append,List.nil_append]
 constructor
 ·(·(first|(intro _ _ h;cases h;done)|(repeat(first|exact qok_nil|(apply qok_cons;(·first|(intro hc;exact absurd hc (nmem rfl))|(intro _;apply CellPr.mk;(·repeat(first|exact Has.here|apply Has.there));(first|exact rfl|assumption))|(intro _;apply CellsPr.mk;(·repeat(first|exact Has.here|apply Has.there));(first|exact rfl|assumption))))))))
 try rw[hflv]
 have hF1c:=hF1.cnt
 have hF1b:=hF1.blk
 have hww:IntKind.wrap .i64 ((ff.count:Int)+(f1.count:Int))=((ff.count+f1.count:Nat):Int):=by rw[wrap_i64 (by omega)];omega
 by_cases he1:e1=0
 ·obtain⟨_,q1⟩:=hF.ok (hE1 he1)
  obtain⟨_,q2⟩:=hF1.ok he1
  rw[List.length_map] at q2
  have hle:=hle (hE1 he1)
  have hM2:=fun b=>SMap2 hR hJ1 (fun t=>t) 1 (ff.count+f1.count) q (by omega) 96 inferInstance (okT 1) jn2 (fun t h=>h) ff f1 Fo (ch.map fun t=>⟨t.c2,0,0,0,0⟩) (by first|exact .inr (by assumption)|exact .inl (by repeat(first|exact List.mem_cons_self|apply List.mem_cons_of_mem))) (by first|exact .inr (by assumption)|exact .inl (by repeat(first|exact List.mem_cons_self|apply List.mem_cons_of_mem))) (by omega) (by omega)
   (fun h t ht=>by
    rcases List.mem_append.1 ht with ht|ht
    ·exact hokF (hE1 he1) t ht
    ·obtain⟨u,hu,rfl⟩:=List.mem_map.1 ht
     exact okT1 (okT_cols (hok (hE1 he1) u hu)).2.2.1)
   (fun h=>by rw[List.length_map];omega) (.inr ⟨by omega,by omega⟩) (by omega) (by simp only[List.length_cons,List.length_nil];omega) (by omega) b
  simp only[hfl4,map_id_t,List.cons_append,List.nil_append] at hM2
  repeat(refine st ?_;intros)
  refine R.callX (hct:=hM2 _) (h:= ?_)
  rintro _ _ ⟨f2,C2,e2,rfl,rfl,hJ2,hF2,hE2⟩
  dsimp only[List.cons_append,List.nil_append]
  constructor
  ·(·(first|(intro _ _ h;cases h;done)|(repeat(first|exact qok_nil|(apply qok_cons;(·first|(intro hc;exact absurd hc (nmem rfl))|(intro _;apply CellPr.mk;(·repeat(first|exact Has.here|apply Has.there));(first|exact rfl|assumption))|(intro _;apply CellsPr.mk;(·repeat(first|exact Has.here|apply Has.there));(first|exact rfl|assumption))))))))
  try rw[hflv]
  have hFr:=fun b=>SFree hR hJ2 [(ff,Fo),(f1,ch.map fun t=>⟨t.c2,0,0,0,0⟩)] ((f2,Fo++ch.map fun t=>⟨t.c2,0,0,0,0⟩)::(fc,ch)::Gf) (.cons (.there (.there .here)) (.cons (.there .here) .nil)) (by simp) _ 2 _ (vec2 b ff f1)
  simp only[hfl4,List.map_cons,List.map_nil,List.cons_append,List.nil_append] at hFr
  repeat(refine st ?_;intros)
  refine R.callX (hct:=hFr _) (h:= ?_)
  rintro _ _ ⟨C3,rfl,rfl,hJ3⟩
  dsimp only[List.cons_append,List.nil_append]
  constructor
  ·(·(first|(intro _ _ h;cases h;done)|(repeat(first|exact qok_nil|(apply qok_cons;(·first|(intro hc;exact absurd hc (nmem rfl))|(intro _;apply CellPr.mk;(·repeat(first|exact Has.here|apply Has.there));(first|exact rfl|assumption))|(intro _;apply CellsPr.mk;(·repeat(first|exact Has.here|apply Has.there));(first|exact rfl|assumption))))))))
  repeat(refine st ?_;intros)
  have hF2':FB (2*q) q 1 (Fo++ch.map fun t=>(⟨t.c2,0,0,0,0⟩:T5)).length e2 f2:=by
   have h5:=hF2.cnt
   rw[List.length_append]
   exact⟨by omega,hF2.blk,fun h=>by have:=hF2.ok h;rwa[List.length_map] at this⊢⟩
  (refine Dn.post (Hr:=[C3]) Tryz.results47 (hR:= ?_);exact⟨f2,C3,e2,rfl,rfl,hJ3,hF2',fun h=>hE1 (hE2 h)⟩)
 ·have hM2:=fun x1 x2 x3 x4=>SMake_no hJ1 he1 (Fo++ch.map fun t=>(⟨t.c2,0,0,0,0⟩:T5)) (by simp only[List.length_cons];omega) x1 x2 x3 x4
  repeat(refine st ?_;intros)
  refine R.callX (hct:=hM2 _ _ _ _) (h:= ?_)
  rintro _ _ ⟨C2,rfl,rfl,hJ2⟩
  dsimp only[List.cons_append,List.nil_append]
  rw[hz]
  constructor
  ·(·(first|(intro _ _ h;cases h;done)|(repeat(first|exact qok_nil|(apply qok_cons;(·first|(intro hc;exact absurd hc (nmem rfl))|(intro _;apply CellPr.mk;(·repeat(first|exact Has.here|apply Has.there));(first|exact rfl|assumption))|(intro _;apply CellsPr.mk;(·repeat(first|exact Has.here|apply Has.there));(first|exact rfl|assumption))))))))
  have hFr:=fun b=>SFree hR hJ2 [(ff,Fo),(f1,ch.map fun t=>⟨t.c2,0,0,0,0⟩)] ((⟨0,0,0,0⟩,Fo++ch.map fun t=>⟨t.c2,0,0,0,0⟩)::(fc,ch)::Gf) (.cons (.there (.there .here)) (.cons (.there .here) .nil)) (by simp) _ 2 _ (vec2 b ff f1)
  simp only[hfl4,List.map_cons,List.map_nil,List.cons_append,List.nil_append] at hFr
  repeat(refine st ?_;intros)
  refine R.callX (hct:=hFr _) (h:= ?_)
  rintro _ _ ⟨C3,rfl,rfl,hJ3⟩
  dsimp only[List.cons_append,List.nil_append]
  constructor
  ·(·(first|(intro _ _ h;cases h;done)|(repeat(first|exact qok_nil|(apply qok_cons;(·first|(intro hc;exact absurd hc (nmem rfl))|(intro _;apply CellPr.mk;(·repeat(first|exact Has.here|apply Has.there));(first|exact rfl|assumption))|(intro _;apply CellsPr.mk;(·repeat(first|exact Has.here|apply Has.there));(first|exact rfl|assumption))))))))
  repeat(refine st ?_;intros)
  (refine Dn.post (Hr:=[C3]) Tryz.results47 (hR:= ?_);exact⟨⟨0,0,0,0⟩,C3,e1,rfl,rfl,hJ3,⟨Nat.zero_le _,Nat.zero_le _,fun h=>absurd h he1⟩,fun h=>absurd h he1⟩)
theorem farL_len (h:List T5):(farL h).length=h.length:=by unfold farL;rw[List.length_map,(perm_srt _).length_eq]
theorem trnM_oks (b:Nat):∀(ts:List T5) (k:Bool),(∀t∈ts,okT 3 t)→(trnM b).oks (fun _ t=>okT 3 t) k ts:=fun ts k h=>Maker.oks_of (M:=trnM b) (I:=fun _=>True) (Q:=okT 3) (fun _ t _ h=>⟨h,trivial⟩) ts k trivial h
structure RtX where
 e:Int
 C:Chunk
 f:Fl
 h:List T5
 j:Nat
 o:Bool
 b:Nat
theorem roots_ct (hR:Rm p B m k a) (f:Fl) (H:List T5) (hJ:JobS p B k a s0 e er ((f,H)::Gf) C) (q:Nat) (hF:FB (2*q) q 2 H.length e f) (hok:e=0→∀j,(∀t∈jmpL H j,okT 2 t)∧(jmpL H j).Pairwise fun a c=>a.c0<c.c0) (hend:e=0→∀j,9≤j→trnB (jmpL H j)=false)
  (hqB:2*q≤B) (hT:sortT q≤m) (hk:Gf.length+4≤k) (hst:s0≤9900):
  Ct Tryz.prog 48 [pv p.bj,flv f] [C] fun v H'=>∃g h C' e',v=flv g∧H'=[C']∧JobS p B k a (s0+50) e' er ((g,h)::Gf) C'∧FB (2*q) q 2 h.length e' g∧(e'=0→e=0∧∃j,h=jmpL H (j+1)∧trnB (jmpL H j)=false):=by
 have hflv:∀f:Fl,flv f= .agg #[.int .i64 (f.first:Int),.int .i64 (f.blocks:Int),.int .i64 (f.width:Int),.int .i64 (f.count:Int)]:=fun _=>rfl
 have hfl4:∀f:Fl,fl4 f=[.int .i64 (f.first:Int),.int .i64 (f.blocks:Int),.int .i64 (f.width:Int),.int .i64 (f.count:Int)]:=fun _=>rfl
 have hto1:tv o1= .agg #[.int .i64 1,.int .i64 0,.int .i64 0,.int .i64 0,.int .i64 0]:=rfl
 have htoB:tv oB= .agg #[.int .i64 2,.int .i64 0,.int .i64 0,.int .i64 0,.int .i64 0]:=rfl
 have hB:=hR.bs
 rw[hflv f]
 refine Ct.intro Tryz.func48 rfl Tryz.ntmps48 (nle rfl) fun w0=> ?_;dsimp only[argSlots,Nat.reduceAdd]
 repeat(refine st ?_;intros)
 rename_i b2 b3 b4 b5
 refine G.loop (X:=RtX) (fun x=>JobS p B k a (s0+5*x.j) x.e er ((x.f,x.h)::Gf) x.C∧FB (2*q) q 2 x.h.length x.e x.f∧(x.e=0→e=0∧x.h=jmpL H x.j)∧x.j≤10∧(x.e=0→0<x.j→trnB (jmpL H (x.j-1))=x.o)∧(x.j=0→x.o=true))
  (fun x=>[(5,pv x.b),(4,pv b4),(3,pv b3),(2,pv b2)])
  (fun x=>[x.C,[(b2,row [pv p.bj] 83)],[(b3,row [.int .i64 (x.f.first:Int),.int .i64 (x.f.blocks:Int),.int .i64 (x.f.width:Int),.int .i64 (x.f.count:Int)] 26)],[(b4,row [.int .i64 0,.int .i64 0,.int .i64 0,.int .i64 0] 26)],[(x.b,row [.bool x.o] 4)]])
  (fun x=>11-x.j) ⟨e,C,f,H,0,true,b5⟩ ⟨hJ,hF,fun h=>⟨h,rfl⟩,by dsimp only;omega,fun _ h=>absurd h (Nat.lt_irrefl 0),fun _=>rfl⟩ (body:= ?_)
 rintro⟨e0,C0,f0,h,j,o,b5⟩ ⟨hJ0,hF0,hE0,hj,hto,hj0⟩
 dsimp only at hJ0 hF0 hE0 hj hto hj0⊢
 cases o with
 |false=>
  have hpos:0<j:=by
   rcases Nat.eq_zero_or_pos j with h|h
   ·exact absurd (hj0 h) (by decide)
   ·exact h
  repeat(refine st ?_;intros)
  (refine Dn.post (Hr:=[C0]) Tryz.results48 (hR:= ?_);exact⟨f0,h,C0,e0,rfl,rfl,hJ0.more (by omega),hF0,fun hh=>⟨(hE0 hh).1,j-1,by rw[show j-1+1=j by omega];exact(hE0 hh).2,hto hh hpos⟩⟩)
 |true=>
 obtain⟨ph,nh,pc,rest,hrow⟩:=hJ0.row
 by_cases he0:e0=0
 rotate_left
 ·refine G.open hrow (by(repeat(first|exact Take.here|apply Take.there))) ?_
  repeat(refine st ?_;intros)
  refine Dn.close hrow (by(repeat(first|exact Take.here|apply Take.there))) (by(repeat(first|exact Take.here|apply Take.there))) ?_
  (refine Dn.post (Hr:=[C0]) Tryz.results48 (hR:= ?_);exact⟨f0,h,C0,e0,rfl,rfl,hJ0.more (by omega),hF0,fun hh=>absurd hh he0⟩)
 subst he0
 obtain⟨he,rfl⟩:=hE0 rfl
 have hj9:j≤9:=by
  rcases Nat.lt_or_ge 9 j with h1|h1
  ·have h2:=hend he (j-1) (by omega)
   rw[hto rfl (by omega)] at h2;cases h2
  ·exact h1
 obtain⟨hoj,hsj⟩:=hok he j
 have hF0c:=hF0.cnt
 have hF0b:=hF0.blk
 have hfar:∀z∈farL (jmpL H j),okT 3 z:=fun z hz=>by
  unfold farL at hz
  obtain⟨u,hu,rfl⟩:=List.mem_map.1 hz
  exact lookF_ok hoj 1 1 2 (by omega) (hoj u (srt_sub hu))
 have hM1:=fun b=>SFl1 hR hJ0 [] rtSF 2 f0.count q 1 (by omega) 97 inferInstance [] (okT 2) rtS (fun t _=>Nat.le_refl _) (by omega) f0 (jmpL H j) (by first|exact .inr (by assumption)|exact .inl (by repeat(first|exact List.mem_cons_self|apply List.mem_cons_of_mem))) (by omega) (fun _=>hoj)
  (fun h=>by rw[flat_ones (f:=rtSF) (g:=fun t=>t) (fun _=>rfl),List.length_map,(hF0.ok h).2];exact Nat.le_refl _) (.inr ⟨by omega,by omega⟩) (by omega) (by simp only[List.length_cons,List.length_nil];omega) (by omega) b
 simp only[hfl4] at hM1
 rw[flat_ones (f:=rtSF) (g:=fun t=>t) (fun _=>rfl),map_id_t] at hM1
 refine G.open hrow (by(repeat(first|exact Take.here|apply Take.there))) ?_
 repeat(refine st ?_;intros)
 refine R1.close hrow (by(repeat(first|exact Take.here|apply Take.there))) (by(repeat(first|exact Take.here|apply Take.there))) ?_
 repeat(refine st ?_;intros)
 refine R.callX (hct:=hM1 _) (h:= ?_)
 rintro _ _ ⟨f1,C1,e1,rfl,rfl,hJ1,hF1,hE1⟩
 dsimp only[List.cons_append,List.nil_append]
 constructor
 ·(·(first|(intro _ _ h;cases h;done)|(repeat(first|exact qok_nil|(apply qok_cons;(·first|(intro hc;exact absurd hc (nmem rfl))|(intro _;apply CellPr.mk;(·repeat(first|exact Has.here|apply Has.there));(first|exact rfl|assumption))|(intro _;apply CellsPr.mk;(·repeat(first|exact Has.here|apply Has.there));(first|exact rfl|assumption))))))))
 try rw[hflv]
 have hS2:=SSort hR hJ1 f1 _ _ oB rfl false hF1 .here (by omega) (by omega) hT (by omega)
 rw[hflv,htoB] at hS2
 repeat(refine st ?_;intros)
 refine R.callX (hct:=hS2) (h:= ?_)
 rintro _ _ ⟨f2,C2,e2,rfl,rfl,hJ2,hF2,hE2⟩
 dsimp only[List.cons_append,List.nil_append]
 constructor
 ·(·(first|(intro _ _ h;cases h;done)|(repeat(first|exact qok_nil|(apply qok_cons;(·first|(intro hc;exact absurd hc (nmem rfl))|(intro _;apply CellPr.mk;(·repeat(first|exact Has.here|apply Has.there));(first|exact rfl|assumption))|(intro _;apply CellsPr.mk;(·repeat(first|exact Has.here|apply Has.there));(first|exact rfl|assumption))))))))
 try rw[hflv]
 have hF2c:=hF2.cnt
 have hF2b:=hF2.blk
 have hR3:=fun b8 b4 b5=>SLookRun hR hJ2 98 inferInstance f2 f0 (srt (ltO oB) false (jmpL H j)) (jmpL H j) 1 1 2 3 q (by first|exact .inr (by assumption)|exact .inl (by repeat(first|exact List.mem_cons_self|apply List.mem_cons_of_mem))) (by first|exact .inr (by assumption)|exact .inl (by repeat(first|exact List.mem_cons_self|apply List.mem_cons_of_mem))) (lkRoots p f2 f0 b8 b4 b5) hF2 (hF0.mono fun _=>rfl) (by omega) (by omega) (by omega) (by omega) (by omega) (by omega)
  (fun _=>srt_oB _) (fun h=>hsj) (.inr ⟨by omega,by omega⟩) (by omega) (by simp only[List.length_cons,List.length_nil];omega) (by omega)
 simp only[lookH,hfl4] at hR3
 repeat(refine st ?_;intros)
 refine R.callX (hct:=hR3 _ _ _) (h:= ?_)
 rintro _ _ ⟨f3,C3,e3,rfl,rfl,hJ3,hF3,hE3⟩
 dsimp only[List.cons_append,List.nil_append]
 constructor
 ·(·(first|(intro _ _ h;cases h;done)|(repeat(first|exact qok_nil|(apply qok_cons;(·first|(intro hc;exact absurd hc (nmem rfl))|(intro _;apply CellPr.mk;(·repeat(first|exact Has.here|apply Has.there));(first|exact rfl|assumption))|(intro _;apply CellsPr.mk;(·repeat(first|exact Has.here|apply Has.there));(first|exact rfl|assumption))))))))
 try rw[hflv]
 rw[show(srt (ltO oB) false (jmpL H j)).map (lookF (jmpL H j) 1 1 2)=farL (jmpL H j) from rfl] at hJ3
 have hF3c:=hF3.cnt
 have hF3b:=hF3.blk
 have hM4:=fun bt b=>SMake1n hR hJ3 (trnM bt) (fun _ _=>rfl) false 2 f0.count q 1 (by omega) 99 inferInstance [pv bt] _ (trn_mk bt) (fun k t _=>Nat.le_refl _) (by omega) f3 (farL (jmpL H j)) (by first|exact .inr (by assumption)|exact .inl (by repeat(first|exact List.mem_cons_self|apply List.mem_cons_of_mem))) (by omega)
  (fun h=>trnM_oks bt _ _ hfar) (fun h=>by rw[trnM_all,List.length_map,farL_len,(hF0.ok rfl).2];exact Nat.le_refl _) (.inr ⟨by omega,by omega⟩) (by omega) (by simp only[List.length_cons,List.length_nil];omega) (by omega) b
 simp only[hfl4,trnM_C,trnM_all,trnM_st,Bool.false_or] at hM4
 rw[show((farL (jmpL H j)).any fun t=>decide (t.c1≠t.c2))=trnB (jmpL H j) from rfl] at hM4
 repeat(refine st ?_;intros)
 refine R.callX (hct:=hM4 _ _) (h:= ?_)
 rintro _ _ ⟨f4,C4,e4,k4,rfl,rfl,hJ4,hF4,hE4⟩
 dsimp only[List.cons_append,List.nil_append]
 constructor
 ·(·(first|(intro _ _ h;cases h;done)|(repeat(first|exact qok_nil|(apply qok_cons;(·first|(intro hc;exact absurd hc (nmem rfl))|(intro _;apply CellPr.mk;(·repeat(first|exact Has.here|apply Has.there));(first|exact rfl|assumption))|(intro _;apply CellsPr.mk;(·repeat(first|exact Has.here|apply Has.there));(first|exact rfl|assumption))))))))
 try rw[hflv]
 have hS5:=SSort hR hJ4 f4 _ _ o1 rfl false hF4 .here (by omega) (by omega) hT (by omega)
 rw[hflv,hto1,show srt (ltO o1) false ((farL (jmpL H j)).map fun t=>(⟨t.c0,t.c2,0,0,0⟩:T5))=jmpL H (j+1) from rfl] at hS5
 repeat(refine st ?_;intros)
 refine R.callX (hct:=hS5) (h:= ?_)
 rintro _ _ ⟨f5,C5,e5,rfl,rfl,hJ5,hF5,hE5⟩
 dsimp only[List.cons_append,List.nil_append]
 constructor
 ·(·(first|(intro _ _ h;cases h;done)|(repeat(first|exact qok_nil|(apply qok_cons;(·first|(intro hc;exact absurd hc (nmem rfl))|(intro _;apply CellPr.mk;(·repeat(first|exact Has.here|apply Has.there));(first|exact rfl|assumption))|(intro _;apply CellsPr.mk;(·repeat(first|exact Has.here|apply Has.there));(first|exact rfl|assumption))))))))
 try rw[hflv]
 have hFr:=fun b=>SFree hR hJ5 [(f2,srt (ltO oB) false (jmpL H j)),(f3,farL (jmpL H j)),(f0,jmpL H j)] ((f5,jmpL H (j+1))::Gf) (.cons (.there (.there .here)) (.cons (.there .here) (.cons (.there .here) .nil))) (by simp) _ 3 _ (vec3 b f2 f3 f0)
 simp only[hfl4,List.map_cons,List.map_nil,List.cons_append,List.nil_append] at hFr
 repeat(refine st ?_;intros)
 refine R.callX (hct:=hFr _) (h:= ?_)
 rintro _ _ ⟨C6,rfl,rfl,hJ6⟩
 dsimp only[List.cons_append,List.nil_append]
 constructor
 ·(·(first|(intro _ _ h;cases h;done)|(repeat(first|exact qok_nil|(apply qok_cons;(·first|(intro hc;exact absurd hc (nmem rfl))|(intro _;apply CellPr.mk;(·repeat(first|exact Has.here|apply Has.there));(first|exact rfl|assumption))|(intro _;apply CellsPr.mk;(·repeat(first|exact Has.here|apply Has.there));(first|exact rfl|assumption))))))))
 repeat(refine st ?_;intros)
 rename_i b9
 exact Dn.round ⟨e5,C6,f5,jmpL H (j+1),j+1,k4,b9⟩ ⟨hJ6.more (s1:=s0+5*(j+1)) (by omega),⟨Nat.le_trans hF5.cnt hF0c,hF5.blk,hF5.ok⟩,fun h=>⟨he,rfl⟩,by dsimp only;omega,fun h _=>(hE4 (hE5 h)).2.symm,fun h=>by dsimp only at h;omega⟩ (by dsimp only;omega)
end
section
variable {p:Jp} {B m k a s0:Nat} {e:Int} {er:Option Nat} {Gf:List (Fl×List T5)} {C:Chunk}
theorem least_ct (hR:Rm p B m k a) (f:Fl) (La:List T5) (hJ:JobS p B k a s0 e er ((f,La)::Gf) C) (q n:Nat) (hF:FB q q 2 n e f) (hok:e=0→∀t∈La,okT 2 t) (hn:e=0→La.length=n) (hqB:2*q≤B) (hT:sortT q≤m) (hk:Gf.length+4≤k) (hst:s0≤9890):
  Ct Tryz.prog 52 [pv p.bj,flv f] [C] fun v H'=>∃g C' e',v=flv g∧H'=[C']∧JobS p B k a (s0+7) e' er ((g,labF La)::Gf) C'∧FB q q 2 n e' g∧(e'=0→e=0):=by
 have hflv:∀f:Fl,flv f= .agg #[.int .i64 (f.first:Int),.int .i64 (f.blocks:Int),.int .i64 (f.width:Int),.int .i64 (f.count:Int)]:=fun _=>rfl
 have hfl4:∀f:Fl,fl4 f=[.int .i64 (f.first:Int),.int .i64 (f.blocks:Int),.int .i64 (f.width:Int),.int .i64 (f.count:Int)]:=fun _=>rfl
 have hto1:tv o1= .agg #[.int .i64 1,.int .i64 0,.int .i64 0,.int .i64 0,.int .i64 0]:=rfl
 have hto2:tv o12= .agg #[.int .i64 1,.int .i64 2,.int .i64 0,.int .i64 0,.int .i64 0]:=rfl
 have hB:=hR.bs
 have hFc:=hF.cnt
 have hFb:=hF.blk
 have hM1:=fun b=>SFl1 hR hJ [] ls1F 2 f.count q 1 (by omega) 103 inferInstance [] (okT 2) ls1 (fun t _=>Nat.le_refl _) (by omega) f La (by first|exact .inr (by assumption)|exact .inl (by repeat(first|exact List.mem_cons_self|apply List.mem_cons_of_mem))) (by omega) hok
  (fun h=>by rw[flat_ones (f:=ls1F) (g:=fun t=>⟨t.c1,t.c0,0,0,0⟩) (fun _=>rfl),List.length_map,(hF.ok h).2,hn h];exact Nat.le_refl _) (.inl (by omega)) (by omega) (by simp only[List.length_cons,List.length_nil];omega) (by omega) b
 simp only[hfl4] at hM1
 rw[flat_ones (f:=ls1F) (g:=fun t=>⟨t.c1,t.c0,0,0,0⟩) (fun _=>rfl)] at hM1
 rw[hflv f]
 refine Ct.intro Tryz.func52 rfl Tryz.ntmps52 (nle rfl) fun w0=> ?_;dsimp only[argSlots,Nat.reduceAdd]
 repeat(refine st ?_;intros)
 repeat(refine st ?_;intros)
 refine R.callX (hct:=hM1 _) (h:= ?_)
 rintro _ _ ⟨f1,C1,e1,rfl,rfl,hJ1,hF1,hE1⟩
 dsimp only[List.cons_append,List.nil_append]
 constructor
 ·(·(first|(intro _ _ h;cases h;done)|(repeat(first|exact qok_nil|(apply qok_cons;(·first|(intro hc;exact absurd hc (nmem rfl))|(intro _;apply CellPr.mk;(·repeat(first|exact Has.here|apply Has.there));(first|exact rfl|assumption))|(intro _;apply CellsPr.mk;(·repeat(first|exact Has.here|apply Has.there));(first|exact rfl|assumption))))))))
 try rw[hflv]
 have hS2:=SSort hR hJ1 f1 _ _ o12 rfl false hF1 .here (by omega) (by omega) hT (by omega)
 rw[hflv,hto2] at hS2
 repeat(refine st ?_;intros)
 refine R.callX (hct:=hS2) (h:= ?_)
 rintro _ _ ⟨f2,C2,e2,rfl,rfl,hJ2,hF2,hE2⟩
 dsimp only[List.cons_append,List.nil_append]
 constructor
 ·(·(first|(intro _ _ h;cases h;done)|(repeat(first|exact qok_nil|(apply qok_cons;(·first|(intro hc;exact absurd hc (nmem rfl))|(intro _;apply CellPr.mk;(·repeat(first|exact Has.here|apply Has.there));(first|exact rfl|assumption))|(intro _;apply CellsPr.mk;(·repeat(first|exact Has.here|apply Has.there));(first|exact rfl|assumption))))))))
 try rw[hflv]
 have hF2c:=hF2.cnt
 have hS3:=SSort hR hJ2 f2 _ _ o1 rfl true hF2 .here (by omega) (by omega) hT (by omega)
 rw[hflv,hto1,show srt (ltO o1) true (srt (ltO o12) false (La.map fun t=>(⟨t.c1,t.c0,0,0,0⟩:T5)))=frsL La from rfl] at hS3
 repeat(refine st ?_;intros)
 refine R.callX (hct:=hS3) (h:= ?_)
 rintro _ _ ⟨f3,C3,e3,rfl,rfl,hJ3,hF3,hE3⟩
 dsimp only[List.cons_append,List.nil_append]
 constructor
 ·(·(first|(intro _ _ h;cases h;done)|(repeat(first|exact qok_nil|(apply qok_cons;(·first|(intro hc;exact absurd hc (nmem rfl))|(intro _;apply CellPr.mk;(·repeat(first|exact Has.here|apply Has.there));(first|exact rfl|assumption))|(intro _;apply CellsPr.mk;(·repeat(first|exact Has.here|apply Has.there));(first|exact rfl|assumption))))))))
 try rw[hflv]
 have hF3c:=hF3.cnt
 have hF3b:=hF3.blk
 have he3:e3=0→e=0:=fun h=>hE1 (hE2 (hE3 h))
 have hfr:e3=0→∀t∈frsL La,okT 2 t:=fun h t ht=>by
  obtain⟨u,hu,rfl⟩:=List.mem_map.1 (srt_sub (srt_sub ht))
  have:=okT_cols (hok (he3 h) u hu)
  exact okT2 this.2.1 this.1
 have hL4:=look15ct hR hJ3 f f3 La (frsL La) ((f3,frsL La)::Gf) 1 2 (by omega) (hF.mono he3) hF3 (.there .here) List.mem_cons_self (fun h=>hok (he3 h)) (fun h=>hn (he3 h)) hfr (fun _=>srt_o1t _) (by omega) (by omega) (.inl (by omega)) (by omega) (by omega) hT (by simp only[List.length_cons,List.length_nil];omega) (by omega)
 unfold Look15 at hL4
 rw[hflv f,hflv f3] at hL4
 repeat(refine st ?_;intros)
 refine R.callX (hct:=hL4) (h:= ?_)
 rintro _ _ ⟨f4,C4,e4,rfl,rfl,hJ4,hF4,hE4⟩
 dsimp only[List.cons_append,List.nil_append]
 rw[hflv]
 constructor
 ·(·(first|(intro _ _ h;cases h;done)|(repeat(first|exact qok_nil|(apply qok_cons;(·first|(intro hc;exact absurd hc (nmem rfl))|(intro _;apply CellPr.mk;(·repeat(first|exact Has.here|apply Has.there));(first|exact rfl|assumption))|(intro _;apply CellsPr.mk;(·repeat(first|exact Has.here|apply Has.there));(first|exact rfl|assumption))))))))
 have hS5:=SSort hR hJ4 f4 _ _ o1 rfl false hF4 .here (by omega) (by omega) hT (by omega)
 rw[hflv,hto1,show srt (ltO o1) false (lookL 2 1 (frsL La) La)=labF La from rfl] at hS5
 repeat(refine st ?_;intros)
 refine R.callX (hct:=hS5) (h:= ?_)
 rintro _ _ ⟨f5,C5,e5,rfl,rfl,hJ5,hF5,hE5⟩
 dsimp only[List.cons_append,List.nil_append]
 constructor
 ·(·(first|(intro _ _ h;cases h;done)|(repeat(first|exact qok_nil|(apply qok_cons;(·first|(intro hc;exact absurd hc (nmem rfl))|(intro _;apply CellPr.mk;(·repeat(first|exact Has.here|apply Has.there));(first|exact rfl|assumption))|(intro _;apply CellsPr.mk;(·repeat(first|exact Has.here|apply Has.there));(first|exact rfl|assumption))))))))
 try rw[hflv]
 have hFr:=fun b=>SFree hR hJ5 [(f3,frsL La)] ((f5,labF La)::Gf) (.cons (.there .here) .nil) (by simp) _ 1 _ (vec1 b f3)
 simp only[hfl4,List.map_cons,List.map_nil,List.cons_append,List.nil_append] at hFr
 repeat(refine st ?_;intros)
 refine R.callX (hct:=hFr _) (h:= ?_)
 rintro _ _ ⟨C6,rfl,rfl,hJ6⟩
 dsimp only[List.cons_append,List.nil_append]
 constructor
 ·(·(first|(intro _ _ h;cases h;done)|(repeat(first|exact qok_nil|(apply qok_cons;(·first|(intro hc;exact absurd hc (nmem rfl))|(intro _;apply CellPr.mk;(·repeat(first|exact Has.here|apply Has.there));(first|exact rfl|assumption))|(intro _;apply CellsPr.mk;(·repeat(first|exact Has.here|apply Has.there));(first|exact rfl|assumption))))))))
 repeat(refine st ?_;intros)
 have hlen:(labF La).length=La.length:=by unfold labF lookL;rw[(perm_srt _).length_eq,List.length_map,List.length_map,(perm_srt _).length_eq]
 have he5:e5=0→e=0:=fun h=>he3 (hE4 (hE5 h))
 (refine Dn.post (Hr:=[C6]) Tryz.results52 (hR:= ?_);exact⟨f5,C6,e5,rfl,rfl,hJ6,⟨hF5.cnt,hF5.blk,fun h=>⟨(hF5.ok h).1,by rw[(hF5.ok h).2,hlen,hn (he5 h)]⟩⟩,he5⟩)
theorem named_ct (hR:Rm p B m k a) (ff fe:Fl) (Fo l:List T5) (hJ:JobS p B k a s0 e er ((ff,srt (ltO o1) true Fo)::Gf) C) (hl:In0 p (fe,l)) (hw:fe.width=3) (q:Nat) (hF:FB (2*q) q 1 (srt (ltO o1) true Fo).length e ff) (hq:fe.count≤q) (hok:e=0→∀t∈Fo,okT 1 t) (hs:e=0→(slS l).Pairwise fun a c=>a.c0<c.c0)
  (hqB:2*q≤B) (hT:sortT q≤m) (hk:Gf.length+4≤k) (hst:s0≤9890):
  Ct Tryz.prog 53 [pv p.bj,flv ff,flv fe] [C] fun v H'=>∃g C' e',v=flv g∧H'=[C']∧JobS p B k a (s0+4) e' er ((g,treF Fo l)::Gf) C'∧FB (2*q) q 3 (treF Fo l).length e' g∧(e'=0→e=0):=by
 have hflv:∀f:Fl,flv f= .agg #[.int .i64 (f.first:Int),.int .i64 (f.blocks:Int),.int .i64 (f.width:Int),.int .i64 (f.count:Int)]:=fun _=>rfl
 have hfl4:∀f:Fl,fl4 f=[.int .i64 (f.first:Int),.int .i64 (f.blocks:Int),.int .i64 (f.width:Int),.int .i64 (f.count:Int)]:=fun _=>rfl
 have hto1:tv o1= .agg #[.int .i64 1,.int .i64 0,.int .i64 0,.int .i64 0,.int .i64 0]:=rfl
 have hB:=hR.bs
 have hFc:=hF.cnt
 have hFb:=hF.blk
 obtain⟨hll,hlfit,hlb,hlw1,hlw5⟩:=in0file hl
 dsimp only at hll hlfit hlb hlw1 hlw5
 rw[hw] at hlfit
 have hfb:fe.blocks≤q:=by rw[hlb];exact Nat.le_trans (nblocks_le (holds_pos hR.ok.size.1 hlw1 hlw5)) hq
 have hM1:=fun b=>SFl1 hR hJ [] nm1F 3 fe.count q 1 (by omega) 104 inferInstance [] (okT 3) nm1 (fun t _=>Nat.le_refl _) (by omega) fe l (by first|exact .inr (by assumption)|exact .inl (by repeat(first|exact List.mem_cons_self|apply List.mem_cons_of_mem))) (by omega) (fun _=>hlfit)
  (fun h=>by rw[flat_ones (f:=nm1F) (g:=fun t=>t) (fun _=>rfl),List.length_map];omega) (.inl (by omega)) (by omega) (by simp only[List.length_cons,List.length_nil];omega) (by omega) b
 simp only[hfl4] at hM1
 rw[flat_ones (f:=nm1F) (g:=fun t=>t) (fun _=>rfl),map_id_t] at hM1
 rw[hflv ff,hflv fe]
 refine Ct.intro Tryz.func53 rfl Tryz.ntmps53 (nle rfl) fun w0=> ?_;dsimp only[argSlots,Nat.reduceAdd]
 repeat(refine st ?_;intros)
 repeat(refine st ?_;intros)
 refine R.callX (hct:=hM1 _) (h:= ?_)
 rintro _ _ ⟨f1,C1,e1,rfl,rfl,hJ1,hF1,hE1⟩
 dsimp only[List.cons_append,List.nil_append]
 constructor
 ·(·(first|(intro _ _ h;cases h;done)|(repeat(first|exact qok_nil|(apply qok_cons;(·first|(intro hc;exact absurd hc (nmem rfl))|(intro _;apply CellPr.mk;(·repeat(first|exact Has.here|apply Has.there));(first|exact rfl|assumption))|(intro _;apply CellsPr.mk;(·repeat(first|exact Has.here|apply Has.there));(first|exact rfl|assumption))))))))
 try rw[hflv]
 have hS2:=SSort hR hJ1 f1 _ _ o1 rfl false hF1 .here (by omega) (by omega) hT (by omega)
 rw[hflv,hto1] at hS2
 repeat(refine st ?_;intros)
 refine R.callX (hct:=hS2) (h:= ?_)
 rintro _ _ ⟨f2,C2,e2,rfl,rfl,hJ2,hF2,hE2⟩
 dsimp only[List.cons_append,List.nil_append]
 constructor
 ·(·(first|(intro _ _ h;cases h;done)|(repeat(first|exact qok_nil|(apply qok_cons;(·first|(intro hc;exact absurd hc (nmem rfl))|(intro _;apply CellPr.mk;(·repeat(first|exact Has.here|apply Has.there));(first|exact rfl|assumption))|(intro _;apply CellsPr.mk;(·repeat(first|exact Has.here|apply Has.there));(first|exact rfl|assumption))))))))
 try rw[hflv]
 have hF2c:=hF2.cnt
 have hF2b:=hF2.blk
 have he2:e2=0→e=0:=fun h=>hE1 (hE2 h)
 have hR3:=fun b8 b4 b5=>SLookRun hR hJ2 105 inferInstance ff f2 (srt (ltO o1) true Fo) (slS l) 0 1 1 2 q (by first|exact .inr (by assumption)|exact .inl (by repeat(first|exact List.mem_cons_self|apply List.mem_cons_of_mem))) (by first|exact .inr (by assumption)|exact .inl (by repeat(first|exact List.mem_cons_self|apply List.mem_cons_of_mem))) (lkN2 p ff f2 b8 b4 b5) (hF.mono he2) hF2 (by omega) (by omega) (by omega) (by omega) (by omega) (by omega)
  (fun _=>(srt_o1t Fo).imp fun hh=>by show T5.c0 _≤T5.c0 _;omega) (fun h=>hs (he2 h)) (.inr ⟨by omega,by omega⟩) (by omega) (by simp only[List.length_cons,List.length_nil];omega) (by omega)
 simp only[lookH,hfl4] at hR3
 repeat(refine st ?_;intros)
 refine R.callX (hct:=hR3 _ _ _) (h:= ?_)
 rintro _ _ ⟨f3,C3,e3,rfl,rfl,hJ3,hF3,hE3⟩
 dsimp only[List.cons_append,List.nil_append]
 constructor
 ·(·(first|(intro _ _ h;cases h;done)|(repeat(first|exact qok_nil|(apply qok_cons;(·first|(intro hc;exact absurd hc (nmem rfl))|(intro _;apply CellPr.mk;(·repeat(first|exact Has.here|apply Has.there));(first|exact rfl|assumption))|(intro _;apply CellsPr.mk;(·repeat(first|exact Has.here|apply Has.there));(first|exact rfl|assumption))))))))
 try rw[hflv]
 have hF3c:=hF3.cnt
 have hF3b:=hF3.blk
 have hR4:=fun b8 b4 b5=>SLookRun hR hJ3 106 inferInstance f3 f2 ((srt (ltO o1) true Fo).map (lookF (slS l) 0 1 1)) (slS l) 0 2 2 3 q (by first|exact .inr (by assumption)|exact .inl (by repeat(first|exact List.mem_cons_self|apply List.mem_cons_of_mem))) (by first|exact .inr (by assumption)|exact .inl (by repeat(first|exact List.mem_cons_self|apply List.mem_cons_of_mem))) (lkN3 p f3 f2 b8 b4 b5) hF3 (hF2.mono hE3) (by omega) (by omega) (by omega) (by omega) (by omega) (by omega)
  (fun _=>by rw[List.pairwise_map];exact(srt_o1t Fo).imp fun hh=>by show T5.c0 _≤T5.c0 _;exact Int.le_of_lt hh) (fun h=>hs (he2 (hE3 h))) (.inr ⟨by omega,by omega⟩) (by omega) (by simp only[List.length_cons,List.length_nil];omega) (by omega)
 simp only[lookH,hfl4] at hR4
 repeat(refine st ?_;intros)
 refine R.callX (hct:=hR4 _ _ _) (h:= ?_)
 rintro _ _ ⟨f4,C4,e4,rfl,rfl,hJ4,hF4,hE4⟩
 dsimp only[List.cons_append,List.nil_append]
 constructor
 ·(·(first|(intro _ _ h;cases h;done)|(repeat(first|exact qok_nil|(apply qok_cons;(·first|(intro hc;exact absurd hc (nmem rfl))|(intro _;apply CellPr.mk;(·repeat(first|exact Has.here|apply Has.there));(first|exact rfl|assumption))|(intro _;apply CellsPr.mk;(·repeat(first|exact Has.here|apply Has.there));(first|exact rfl|assumption))))))))
 try rw[hflv]
 have hFr:=fun b=>SFree hR hJ4 [(f2,slS l),(f3,(srt (ltO o1) true Fo).map (lookF (slS l) 0 1 1)),(ff,srt (ltO o1) true Fo)] ((f4,treF Fo l)::Gf) (.cons (.there (.there .here)) (.cons (.there .here) (.cons (.there .here) .nil))) (by simp) _ 3 _ (vec3 b f2 f3 ff)
 simp only[hfl4,List.map_cons,List.map_nil,List.cons_append,List.nil_append] at hFr
 repeat(refine st ?_;intros)
 refine R.callX (hct:=hFr _) (h:= ?_)
 rintro _ _ ⟨C5,rfl,rfl,hJ5⟩
 dsimp only[List.cons_append,List.nil_append]
 constructor
 ·(·(first|(intro _ _ h;cases h;done)|(repeat(first|exact qok_nil|(apply qok_cons;(·first|(intro hc;exact absurd hc (nmem rfl))|(intro _;apply CellPr.mk;(·repeat(first|exact Has.here|apply Has.there));(first|exact rfl|assumption))|(intro _;apply CellsPr.mk;(·repeat(first|exact Has.here|apply Has.there));(first|exact rfl|assumption))))))))
 repeat(refine st ?_;intros)
 have hlen:(treF Fo l).length=(srt (ltO o1) true Fo).length:=by unfold treF;rw[List.length_map,List.length_map]
 (refine Dn.post (Hr:=[C5]) Tryz.results53 (hR:= ?_);exact⟨f4,C5,e4,rfl,rfl,hJ5,⟨hF4.cnt,hF4.blk,fun h=>by rw[hlen];exact hF4.ok h⟩,fun h=>he2 (hE3 (hE4 h))⟩)
end
structure Stepped2 (W W':Wk) (A T:Nat) (er:Option Nat) (Pr:List T5→List T5→Prop) (f g:Fl) (w1 w2:Nat) (e:Int):Prop where
 gs:W'.α.gs.Perm W.α.gs
 room:W'.α.room=W.α.room
 size:W'.δ.size=W.δ.size
 n:W'.σ.n=W.σ.n
 acts:W'.δ.acts≤W.δ.acts+A
 big:big W.σ.free≤big W'.σ.free+T
 fault:W.δ.fault= -1→W'.δ.fault= -1
 keep:Keep W.live W W'
 res:(e=0∧er=none∧f.width=w1∧g.width=w2∧W'.live.Perm (addFs [f,g] W.live)∧∃ts us,Pr ts us∧FileOk W'.δ.disk W.δ.size [f.ext] f ts∧FileOk W'.δ.disk W.δ.size [g.ext] g us)∨
  (e≠0∧f=⟨0,0,0,0⟩∧g=⟨0,0,0,0⟩∧W'.live.Perm W.live∧((e=6∧W.δ.fault≠-1)∨∃m:Nat,er=some m∧e=(m:Int)))
def LayerQ2 (bw bd ba bs:Nat) (W:Wk) (cd cs:Chunk) (A T:Nat) (er:Option Nat) (Pr:List T5→List T5→Prop) (w1 w2:Nat) (v:Value) (H':Hp):Prop:=
 (8*W.δ.size≤W.α.room-W.α.used∧∃f g e cd' ca' cs' W',v= .tuple #[flv f,flv g,.int .i64 e]∧H'=[wrow bw bd ba bs,cd',ca',cs']∧Wc bd ba bs W' cd' ca' cs'∧Stepped2 W W' A T er Pr f g w1 w2 e)∨
 (W.α.room-W.α.used<8*W.δ.size∧v= .tuple #[flv ⟨0,0,0,0⟩,flv ⟨0,0,0,0⟩,.int .i64 7]∧∃ca' α',H'=[wrow bw bd ba bs,cd,ca',cs]∧Wc bd ba bs {W with α:=α'} cd ca' cs∧α'.gs.Perm W.α.gs∧α'.room=W.α.room)
theorem done_stepped2 {bw bd ba bs bj:Nat} {W W':Wk} {J:Jb} {f g:Fl} {ts us:List T5} {G2:List (Fl×List T5)} {A T:Nat} {Pr:List T5→List T5→Prop} {w1 w2:Nat} (h:DoneW (begP bw bd ba bs bj W) J [f,g] W') (hG:J.G.Perm ((f,ts)::(g,us)::G2)) (hA:J.acts≤W.δ.acts+A) (hT:J.took≤T)
  (hPr:J.e=0→Pr ts us∧f.width=w1∧g.width=w2):
  Stepped2 W W' A T J.er Pr (if J.e=0 then f else⟨0,0,0,0⟩) (if J.e=0 then g else⟨0,0,0,0⟩) w1 w2 J.e:=by
 refine⟨h.gs,h.room,h.size,h.n,Nat.le_trans h.acts hA,?_,?_,fun x hx=>h.keep x hx,?_⟩
 ·have:=h.tk
  have h2:(begP bw bd ba bs bj W).b0=big W.σ.free:=rfl
  omega
 ·intro hf
  exact h.flt (fun h2=>h2 hf)
 ·by_cases he:J.e=0
  ·obtain⟨h1,h2,h3⟩:=h.good he [(f,ts),(g,us)] G2 hG rfl
   obtain⟨p1,p2,p3⟩:=hPr he
   rw[if_pos he,if_pos he]
   exact .inl ⟨he,h3,p2,p3,h1,ts,us,p1,h2 _ List.mem_cons_self,h2 _ (List.mem_cons_of_mem _ List.mem_cons_self)⟩
  ·obtain⟨h1,h2⟩:=h.bad he
   rw[if_neg he,if_neg he]
   exact .inr ⟨he,rfl,rfl,h1,h2⟩
end Go.Proofs.YtpckicjfigmjkaaGreat
namespace Go.Proofs.YtpckicjfigmjkaaGreat
open Go.SL Go.Tup Go.Srt Go.Gr
section
variable {N:Nat} {sl:List T5} {L:Nat→Nat} {F:Nat→Prop} {E La Fo:List T5}
theorem CInv.foOk (hs:SlOk N sl) (h:CInv N sl L F E La Fo):∀t∈Fo,okT 1 t:=by
 intro t ht
 obtain⟨i,s,h1,_,rfl⟩:=(h.fo t).1 ht
 exact okT1 (okT_cols (hs.ok s (List.mem_of_getElem? h1))).1
theorem CInv.laLen (h:CInv N sl L F E La Fo):La.length=N:=by rw[h.lab.length_eq];simp
theorem CInv.jmpOk (hs:SlOk N sl) (h:CInv N sl L F E La Fo) (j:Nat):(∀t∈jmpL (hngL E) j,okT 2 t)∧(jmpL (hngL E) j).Pairwise fun a c=>a.c0<c.c0:=by
 have he:=h.eok hs
 rw[jmpL_is he]
 refine⟨fun t ht=> ?_,ptL_strict he _⟩
 obtain⟨u,hu,rfl⟩:=List.mem_map.1 ht
 have hn:=hs.n
 obtain⟨a,ha,e1⟩:=h.dmLab hs ⟨u,hu,rfl⟩
 obtain⟨b,hb,e2⟩:=h.dmLab hs (itA_dom he (2^j) ⟨u,hu,rfl⟩)
 have h1:=h.lt a ha
 have h2:=h.lt b hb
 rw[←e2,←e1]
 exact okT2 (inNt (by omega)) (inNt (by omega))
theorem CInv.jmpEnd (hs:SlOk N sl) (h:CInv N sl L F E La Fo) (hl:sl.length≤256) {j:Nat} (hj:9≤j):trnB (jmpL (hngL E) j)=false:=by
 have he:=h.eok hs
 rw[jmpL_is he,trnB_is he fun u hu=>itA_dom he _ hu]
 have h1:2^9≤2^j:=Nat.pow_le_pow_right (by omega) hj
 exact h.ends hs (by omega)
theorem CInv.rnd (hs:SlOk N sl) (h:CInv N sl L F E La Fo) {j:Nat} (ht:trnB (jmpL (hngL E) j)=false):Rnd E (2^(j+1))∧jmpL (hngL E) (j+1)=Hm E (2^(j+1)):=by
 have he:=h.eok hs
 refine⟨⟨fun u hu=> ?_⟩,jmpL_is he _⟩
 rw[jmpL_is he,trnB_is he fun u hu=>itA_dom he _ hu] at ht
 have hm:0<2^j:=Nat.pow_pos (by omega)
 have h1:=h.fixed hs hm ht hu
 have h2:itA (pC E) (2^(j+1)) u=itA (pC E) (2^j) u:=by
  rw[show 2^(j+1)=2^j+2^j by rw[Nat.pow_succ];omega,itA_add]
  exact it_fix E h1 _
 rw[h2];exact h1
theorem CInv.ed30 (hs:SlOk N sl) (h:CInv N sl L F E La Fo) (m:Nat):∀t∈lookL 3 0 (Hm E m) E,okT 3 t:=by
 intro t ht
 have he:=h.eok hs
 obtain⟨u,hu,rfl⟩:=List.mem_map.1 ((lookL30 he.ok).mem_iff.1 ht)
 obtain⟨i,s,h1,h2,rfl⟩:=(h.ed u).1 hu
 have h3:=hs.inN h1
 obtain⟨w,hw,he2⟩:=h.rfxL hs m h3.1
 have h4:=h.lt _ hw
 have h5:=h.lt _ h3.2
 have hn:=hs.n
 dsimp only
 rw[he2]
 exact okT3 (inNt (by omega)) (inNt (by omega)) (okT_cols (hs.ok s (List.mem_of_getElem? h1))).1
theorem CInv.ed31 (hs:SlOk N sl) (h:CInv N sl L F E La Fo) (m:Nat):∀t∈edL (Hm E m) E,okT 3 t:=by
 intro t ht
 obtain⟨u,hu,rfl⟩:=List.mem_map.1 ((h.edm hs m).mem_iff.1 ht)
 obtain⟨i,s,h1,h2,rfl⟩:=(h.ed u).1 hu
 have h3:=hs.inN h1
 obtain⟨w,hw,he2⟩:=h.rfxL hs m h3.1
 obtain⟨w',hw',he3⟩:=h.rfxL hs m h3.2
 have h4:=h.lt _ hw
 have h5:=h.lt _ hw'
 have hn:=hs.n
 dsimp only
 rw[he2,he3]
 exact okT3 (inNt (by omega)) (inNt (by omega)) (okT_cols (hs.ok s (List.mem_of_getElem? h1))).1
theorem CInv.foLen (h:CInv N sl L F E La Fo) (hb:(choL E).length≤2*E.length):Fo.length+(choL E).length≤2*sl.length:=by
 have:=h.len
 omega
end
theorem edL_len (h E:List T5):(edL h E).length=E.length:=by unfold edL lookL;rw[List.length_map,List.length_map,(perm_srt _).length_eq,List.length_map,List.length_map,(perm_srt _).length_eq]
theorem look30len (h E:List T5):(lookL 3 0 h E).length=E.length:=by unfold lookL;rw[List.length_map,List.length_map,(perm_srt _).length_eq]
theorem flat_filter {f:T5→List T5} (hf:∀t,f t=if t.c0=t.c1 then[] else[t]):∀l:List T5,l.flatMap f=l.filter fun t=>decide (t.c0≠t.c1)
 |[]=>rfl
 |t::l=>by
  rw[List.flatMap_cons,flat_filter hf l,hf,List.filter_cons]
  by_cases h:t.c0=t.c1<;>simp[h]
end Go.Proofs.YtpckicjfigmjkaaGreat
