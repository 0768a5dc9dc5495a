/-
  Parts of the proof, put together: TourApart0, TourApart. No condition.
-/
import Derived.Test.YtammjnjpheobaaaGreatK30
set_option linter.unusedVariables false
set_option linter.unusedSimpArgs false
set_option linter.unnecessarySimpa false
set_option maxHeartbeats 4000000
namespace Go.Proofs.YtammjnjpheobaaaGreat
open Go.SL Go.Spc Go.Tup Go.Srt Go.Gr
structure UnX where
 i:Nat
 p:Option Addr
 cap:Nat
 ch:Chunk
def GotT (N:Nat) (es:List IE) (p:Option Addr) (n cap:Nat) (ch:Chunk):Prop:=∃lab fl r b,PartsOk N es lab fl r b∧n=b.length∧Vec 49 5 p n cap (flat b) ch
structure ApX where
 k:Nat
 p0:Option Addr
 n0:Nat
 c0:Nat
 h0:Chunk
 p1:Option Addr
 n1:Nat
 c1:Nat
 h1:Chunk
 p2:Option Addr
 n2:Nat
 c2:Nat
 h2:Chunk
theorem TourApart_ct (n1:Int) (p1:Option Addr) (m1 cap1:Nat) (es1:List IE) (c1:Chunk) (hv1:Rw ecl 2 p1 m1 es1 c1) (hm1:m1≤maxLen) (n2:Int) (p2:Option Addr) (m2 cap2:Nat) (es2:List IE) (c2:Chunk) (hv2:Rw ecl 2 p2 m2 es2 c2) (hm2:m2≤maxLen)
  (A rA1 rA2:Chunk) (hA1:A.Perm (c1++rA1)) (hA2:A.Perm (c2++rA2)):
  CtQ Tryz.prog 5 [gv n1 p1 m1 cap1,gv n2 p2 m2 cap2] [A] (.bool true):=by
 have hflv:∀f:Fl,flv f= .agg #[.int .i64 (f.first:Int),.int .i64 (f.blocks:Int),.int .i64 (f.width:Int),.int .i64 (f.count:Int)]:=fun _=>rfl
 have hAw:=awake16ct
 have hFo1:=CtQ.inA (Formed03ct n1 p1 m1 cap1 es1 c1 hv1 hm1) hA1
 have hFo2:=CtQ.inA (Formed03ct n2 p2 m2 cap2 es2 c2 hv2 hm2) hA2
 have hFe1:=Few03ct n1 p1 m1 cap1 25 40 hm1
 have hFe2:=Few03ct n2 p2 m2 cap2 25 40 hm2
 have hel1:=hv1.1
 have hel2:=hv2.1
 unfold gv at hFo1 hFo2 hFe1 hFe2⊢
 cases hfm1:formedB n1 es1 with
 |false=>
  rw[hfm1] at hFo1
  refine Ct.intro Tryz.func5 rfl Tryz.ntmps5 (nle rfl) fun w0=> ?_;dsimp only[argSlots,Nat.reduceAdd]
  repeat(first|(refine st ?_;intros)|refine G.draw [] (h:= ?_)|(refine cq hAw ?_)|(refine cq hFo1 ?_)|(refine cq hFe1 ?_)|(refine cq hFo2 ?_)|(refine cq hFe2 ?_)|(refine cq hSa ?_))
  (refine Dn.post (Hr:=[A]) Tryz.results5 (hR:= ?_);exact⟨rfl,rfl⟩)
 |true=>
 rw[hfm1] at hFo1
 by_cases hfew1:n1≤25∧(m1:Int)≤40
 rotate_left
 ·rw[dec_false hfew1] at hFe1
  refine Ct.intro Tryz.func5 rfl Tryz.ntmps5 (nle rfl) fun w0=> ?_;dsimp only[argSlots,Nat.reduceAdd]
  repeat(first|(refine st ?_;intros)|refine G.draw [] (h:= ?_)|(refine cq hAw ?_)|(refine cq hFo1 ?_)|(refine cq hFe1 ?_)|(refine cq hFo2 ?_)|(refine cq hFe2 ?_)|(refine cq hSa ?_))
  (refine Dn.post (Hr:=[A]) Tryz.results5 (hR:= ?_);exact⟨rfl,rfl⟩)
 rw[dec_true hfew1] at hFe1
 cases hfm2:formedB n2 es2 with
 |false=>
  rw[hfm2] at hFo2
  refine Ct.intro Tryz.func5 rfl Tryz.ntmps5 (nle rfl) fun w0=> ?_;dsimp only[argSlots,Nat.reduceAdd]
  repeat(first|(refine st ?_;intros)|refine G.draw [] (h:= ?_)|(refine cq hAw ?_)|(refine cq hFo1 ?_)|(refine cq hFe1 ?_)|(refine cq hFo2 ?_)|(refine cq hFe2 ?_)|(refine cq hSa ?_))
  (refine Dn.post (Hr:=[A]) Tryz.results5 (hR:= ?_);exact⟨rfl,rfl⟩)
 |true=>
 rw[hfm2] at hFo2
 by_cases hfew2:n2≤25∧(m2:Int)≤40
 rotate_left
 ·rw[dec_false hfew2] at hFe2
  refine Ct.intro Tryz.func5 rfl Tryz.ntmps5 (nle rfl) fun w0=> ?_;dsimp only[argSlots,Nat.reduceAdd]
  repeat(first|(refine st ?_;intros)|refine G.draw [] (h:= ?_)|(refine cq hAw ?_)|(refine cq hFo1 ?_)|(refine cq hFe1 ?_)|(refine cq hFo2 ?_)|(refine cq hFe2 ?_)|(refine cq hSa ?_))
  (refine Dn.post (Hr:=[A]) Tryz.results5 (hR:= ?_);exact⟨rfl,rfl⟩)
 rw[dec_true hfew2] at hFe2
 obtain⟨h01,hin1⟩:=formed_in hfm1
 obtain⟨h02,hin2⟩:=formed_in hfm2
 obtain⟨N1,rfl⟩:∃N:Nat,n1=(N:Int):=⟨n1.toNat,by omega⟩
 obtain⟨N2,rfl⟩:∃N:Nat,n2=(N:Int):=⟨n2.toNat,by omega⟩
 have hwN:IntKind.wrap .i64 ((N1:Int)+(N2:Int))=((N1+N2:Nat):Int):=by rw[wrap_i64 (by omega)];omega
 refine Ct.intro Tryz.func5 rfl Tryz.ntmps5 (nle rfl) fun w0=> ?_;dsimp only[argSlots,Nat.reduceAdd]
 repeat(first|(refine stn ?_;intros)|refine G.draw [] (h:= ?_)|(refine cq hAw ?_)|(refine cq hFo1 ?_)|(refine cq hFe1 ?_)|(refine cq hFo2 ?_)|(refine cq hFe2 ?_)|(refine cq hSa ?_))
 apply G.seq
 repeat(first|(refine stn ?_;intros)|refine G.draw [] (h:= ?_)|(refine cq hAw ?_)|(refine cq hFo1 ?_)|(refine cq hFe1 ?_)|(refine cq hFo2 ?_)|(refine cq hFe2 ?_)|(refine cq hSa ?_))
 apply G.seq
 repeat(first|(refine stn ?_;intros)|refine G.draw [] (h:= ?_)|(refine cq hAw ?_)|(refine cq hFo1 ?_)|(refine cq hFe1 ?_)|(refine cq hFo2 ?_)|(refine cq hFe2 ?_)|(refine cq hSa ?_))
 rename_i b2 b3
 apply G.seq
 repeat(first|(refine stn ?_;intros)|refine G.draw [] (h:= ?_)|(refine cq hAw ?_)|(refine cq hFo1 ?_)|(refine cq hFe1 ?_)|(refine cq hFo2 ?_)|(refine cq hFe2 ?_)|(refine cq hSa ?_))
 apply G.seq
 repeat(first|(refine stn ?_;intros)|refine G.draw [] (h:= ?_)|(refine cq hAw ?_)|(refine cq hFo1 ?_)|(refine cq hFe1 ?_)|(refine cq hFo2 ?_)|(refine cq hFe2 ?_)|(refine cq hSa ?_))
 rename_i b5
 refine G.cut (D':=[]) (X:=UnX) (fun x=>Vec 51 2 x.p m1 x.cap (es1.flatMap ecl) x.ch) (fun _=>[(5,pv b5),(3,pv b3),(2,pv b2)])
  (fun x=>[x.ch,[(b5,row [.int .i64 ((N1+N2:Nat):Int),.slice x.p m1 x.cap] 37)],[(b3,row [.int .i64 (N2:Int),.slice p2 m2 cap2] 37)],[(b2,row [.int .i64 (N1:Int),.slice p1 m1 cap1] 37)],A]) ?_ ?_
 ·by_cases hm0:m1=0
  ·subst hm0
   obtain rfl:es1=[]:=List.eq_nil_of_length_eq_zero hel1
   repeat(first|(refine st ?_;intros)|refine G.draw [] (h:= ?_)|(refine cq hAw ?_)|(refine cq hFo1 ?_)|(refine cq hFe1 ?_)|(refine cq hFo2 ?_)|(refine cq hFe2 ?_)|(refine cq hSa ?_))
   exact Dn.meet ⟨0,none,0,[]⟩ (Vec.nil _ _)
  ·obtain⟨b,off,cs,T,fz,rfl,rfl,hfull⟩:=hv1.2.resolve_left (fun h=>hm0 h.1)
   have hnews:(cs.drop off).take (m1*2)=es1.flatMap ecl:=hfull
   have hlen:(es1.flatMap ecl).length=m1*2:=by rw[ecl_all_len,hel1]
   have hone:=ecl_one es1
   refine G.open hA1 (by(repeat(first|exact Take.here|apply Take.there))) ?_
   have hV0:Vec 51 2 none 0 0 [] []:=Vec.nil _ _
   repeat(first|(refine st ?_;intros)|refine G.draw [] (h:= ?_)|(refine cq hAw ?_)|(refine cq hFo1 ?_)|(refine cq hFe1 ?_)|(refine cq hFo2 ?_)|(refine cq hFe2 ?_)|(refine cq hSa ?_))
   rename_i q qc qch hq
   rw[Nat.zero_add,List.nil_append] at hq
   rw[Nat.zero_add]
   refine Dn.close hA1 (by(repeat(first|exact Take.here|apply Take.there))) (by(repeat(first|exact Take.here|apply Take.there))) ?_
   exact Dn.meet ⟨0,q,qc,qch⟩ hq
 rintro⟨_,q,qc,qch⟩ hq
 dsimp only at hq⊢
 repeat(first|(refine st ?_;intros)|refine G.draw [] (h:= ?_)|(refine cq hAw ?_)|(refine cq hFo1 ?_)|(refine cq hFe1 ?_)|(refine cq hFo2 ?_)|(refine cq hFe2 ?_)|(refine cq hSa ?_))
 refine G.loop (X:=UnX) (fun x=>x.i≤m2∧Vec 51 2 x.p (m1+x.i) x.cap ((es1++(es2.take x.i).map (shE N1)).flatMap ecl) x.ch) (fun x=>[(6,.int .i64 (x.i:Int)),(5,pv b5),(3,pv b3),(2,pv b2)])
  (fun x=>[x.ch,[(b5,row [.int .i64 ((N1+N2:Nat):Int),.slice x.p (m1+x.i) x.cap] 37)],[(b3,row [.int .i64 (N2:Int),.slice p2 m2 cap2] 37)],[(b2,row [.int .i64 (N1:Int),.slice p1 m1 cap1] 37)],A]) (fun x=>m2-x.i) ⟨0,q,qc,qch⟩ ⟨Nat.zero_le _,by simpa using hq⟩ (by repeat(first|exact trivial|refine⟨rfl,?_⟩)) (by repeat(first|exact Split.nil|(apply Split.cons;·(first|exact Take.nil|(repeat(first|exact Take.here|apply Take.there)))))) ?_
 rintro⟨i,w,wc,wh⟩ ⟨hi,hw⟩
 dsimp only at hi hw⊢
 by_cases hlt:i<m2
 ·obtain⟨b,off,cs,T,fz,rfl,rfl,_,hget⟩:=hv2.pos ecl_len (by omega)
  have hie:es2[i]? =some es2[i]:=List.getElem?_eq_getElem (by omega)
  have hine:=hin2 _ (List.getElem_mem (l:=es2) (n:=i) (by omega))
  have q0:=hget i 0 _ _ hie rfl
  have q1:=hget i 1 _ _ hie rfl
  rw[Nat.add_zero] at q0
  have htk:es2.take (i+1)=es2.take i++[es2[i]]:=by rw[List.take_add_one,hie];rfl
  generalize es2[i]=e at*
  unfold inE at hine
  have hmx:m1+i+1≤maxLen:=by simp only[maxLen];omega
  have w1:IntKind.wrap .i64 (e.1+(N1:Int))=e.1+(N1:Int):=wrap_i64 ⟨by omega,by omega⟩
  have w2:IntKind.wrap .i64 (e.2+(N1:Int))=e.2+(N1:Int):=wrap_i64 ⟨by omega,by omega⟩
  have hsn:(es1++(es2.take (i+1)).map (shE N1)).flatMap ecl=(es1++(es2.take i).map (shE N1)).flatMap ecl++[.int .i64 (e.1+(N1:Int)),.int .i64 (e.2+(N1:Int))]:=by
   rw[htk,List.map_append,←List.append_assoc,List.flatMap_append];rfl
  repeat(first|(refine stn ?_;intros)|refine G.draw [] (h:= ?_)|(refine cq hAw ?_)|(refine cq hFo1 ?_)|(refine cq hFe1 ?_)|(refine cq hFo2 ?_)|(refine cq hFe2 ?_)|(refine cq hSa ?_))
  refine G.open hA2 (by(repeat(first|exact Take.here|apply Take.there))) ?_
  repeat(first|(refine st ?_;intros)|refine G.draw [] (h:= ?_)|(refine cq hAw ?_)|(refine cq hFo1 ?_)|(refine cq hFe1 ?_)|(refine cq hFo2 ?_)|(refine cq hFe2 ?_)|(refine cq hSa ?_))
  rename_i p' cap' c' hV'
  have hV3:Vec 51 2 p' (m1+(i+1)) cap' ((es1++(es2.take (i+1)).map (shE N1)).flatMap ecl) c':=by rw[hsn];exact hV'
  refine Dn.close hA2 (by(repeat(first|exact Take.here|apply Take.there))) (by(repeat(first|exact Take.here|apply Take.there))) ?_
  refine Dn.round ⟨i+1,p',cap',c'⟩ ⟨hlt,hV3⟩ (by dsimp only;omega)
 obtain rfl:i=m2:=by omega
 rw[List.take_of_length_le (by omega)] at hw
 repeat(first|(refine st ?_;intros)|refine G.draw [] (h:= ?_)|(refine cq hAw ?_)|(refine cq hFo1 ?_)|(refine cq hFe1 ?_)|(refine cq hFo2 ?_)|(refine cq hFe2 ?_)|(refine cq hSa ?_))
 rename_i b7 b8
 refine G.loop (X:=ApX) (fun x=>x.k≤3∧(0<x.k→GotT N1 es1 x.p0 x.n0 x.c0 x.h0)∧(x.k=0→x.p0=none∧x.n0=0∧x.c0=0∧x.h0=[])∧(1<x.k→GotT N2 es2 x.p1 x.n1 x.c1 x.h1)∧(x.k≤1→x.p1=none∧x.n1=0∧x.c1=0∧x.h1=[])∧(2<x.k→GotT (N1+N2) (unE es1 es2 N1) x.p2 x.n2 x.c2 x.h2)∧(x.k≤2→x.p2=none∧x.n2=0∧x.c2=0∧x.h2=[]))
  (fun x=>[(9,.int .i64 (x.k:Int)),(8,pv b8),(7,pv b7),(3,pv b3),(2,pv b2)])
  (fun x=>[x.h0,x.h1,x.h2,[(b7,row [.slice x.p0 x.n0 x.c0,.slice x.p1 x.n1 x.c1,.slice x.p2 x.n2 x.c2] 52)],[(b8,row [.int .i64 (N1:Int),.slice p1 m1 cap1,.int .i64 (N2:Int),.slice p2 i cap2,.int .i64 ((N1+N2:Nat):Int),.slice w (m1+i) wc] 53)],wh,[(b3,row [.int .i64 (N2:Int),.slice p2 i cap2] 37)],[(b2,row [.int .i64 (N1:Int),.slice p1 m1 cap1] 37)],A])
  (fun x=>3-x.k) ⟨0,none,0,0,[],none,0,0,[],none,0,0,[]⟩ ⟨by dsimp only;omega,fun h=>absurd h (Nat.lt_irrefl 0),fun _=>⟨rfl,rfl,rfl,rfl⟩,fun h=>by dsimp only at h;omega,fun _=>⟨rfl,rfl,rfl,rfl⟩,fun h=>by dsimp only at h;omega,fun _=>⟨rfl,rfl,rfl,rfl⟩⟩ (by repeat(first|exact trivial|refine⟨rfl,?_⟩)) (by repeat(first|exact Split.nil|(apply Split.cons;·(first|exact Take.nil|(repeat(first|exact Take.here|apply Take.there)))))) ?_
 rintro⟨k,p0,n0,d0,h0',q1,n1',d1,h1',q2,n2',d2,h2'⟩ ⟨hk,g0,z0,g1,z1,g2,z2⟩
 dsimp only at hk g0 z0 g1 z1 g2 z2⊢
 have hWk:Ct Tryz.prog 14 [.int .i64 9] [] fun v H'=>
  ∃bw bd ba bs cd ca cs,v=pv bw∧H'=[wrow bw bd ba bs,cd,ca,cs]∧Wc bd ba bs (wk0 10 9000 90) cd ca cs:=work16ct 9 (by omega)
 by_cases hk3:k<3
 ·rcases(by omega:k=0∨k=1∨k=2) with rfl|rfl|rfl
  ·obtain⟨rfl,rfl,rfl,rfl⟩:=z0 rfl
   have hLa:=fun bw bd ba bs cd ca cs hW=>laid16in bw bd ba bs 90 (by omega) cd ca cs hW N1 (by omega) p1 m1 cap1 es1 c1 hv1 (by omega) hin1 A rA1 hA1
   unfold gv at hLa
   repeat(first|(refine st ?_;intros)|refine G.draw [] (h:= ?_)|(refine cq hAw ?_)|(refine cq hFo1 ?_)|(refine cq hFe1 ?_)|(refine cq hFo2 ?_)|(refine cq hFe2 ?_)|(refine cq hSa ?_))
   refine R.call (hct:=hWk) (h:= ?_)
   rintro _ _ ⟨bw,bd,ba,bs,cd,ca,cs,rfl,rfl,hW⟩
   try dsimp only[List.cons_append,List.nil_append]
   have hLa:=hLa bw bd ba bs cd ca cs hW
   repeat(first|(refine st ?_;intros)|refine G.draw [] (h:= ?_)|(refine cq hAw ?_)|(refine cq hFo1 ?_)|(refine cq hFe1 ?_)|(refine cq hFo2 ?_)|(refine cq hFe2 ?_)|(refine cq hSa ?_))
   refine R.call (hct:=hLa) (h:= ?_)
   rintro _ _ ⟨cd1,ca1,cs1,W,f,h,lab,fl,rfl,rfl,hW1,hL,hfl1⟩
   try dsimp only[List.cons_append,List.nil_append]
   obtain⟨r,b,hpa⟩:=parts_of hL.labs hL.fors
   have hbl:=hpa.b_len hin1 (by omega)
   have hT:=Tours_laid bw bd ba bs 90 (by omega) N1 (by omega) es1 (by omega) hin1 W cd1 ca1 cs1 hW1 f h lab fl hL hpa
   rw[hflv,hflv] at hT
   rw[hflv,hflv]
   repeat(first|(refine st ?_;intros)|refine G.draw [] (h:= ?_)|(refine cq hAw ?_)|(refine cq hFo1 ?_)|(refine cq hFe1 ?_)|(refine cq hFo2 ?_)|(refine cq hFe2 ?_)|(refine cq hSa ?_))
   refine R.call (hct:=hT) (h:= ?_)
   rintro _ _ ⟨x,er,cd3,ca3,cs3,W3,rfl,rfl,hW3,hs3,hr3,hu3,hn3,ha3,hf3,hc⟩
   dsimp only[List.cons_append,List.nil_append]
   rcases hc with⟨rfl,hinX,hxw,hxc,hl3⟩|⟨_,_,h6,_⟩
   rotate_left
   ·exact absurd hfl1 h6
   obtain⟨LvX,hfoX,hsubX⟩:=hinX
   have hLi:=List_ct bw bd ba bs W3 cd3 ca3 cs3 hW3 x b LvX hfoX hsubX (by rw[hs3,hr3,hu3];omega) (hf3 hfl1) (by omega) (by omega)
   rw[hflv x,hxc,hxw] at hLi
   rw[hflv x,hxc,hxw]
   repeat(first|(refine st ?_;intros)|refine G.draw [] (h:= ?_)|(refine cq hAw ?_)|(refine cq hFo1 ?_)|(refine cq hFe1 ?_)|(refine cq hFo2 ?_)|(refine cq hFe2 ?_)|(refine cq hSa ?_))
   refine R.call (hct:=hLi) (h:= ?_)
   rintro _ _ ⟨cd4,ca4,W4,po,oc,cho,rfl,rfl,hW4,hE4,hd4,hl4,hg4,hVo⟩
   try dsimp only[List.cons_append,List.nil_append]
   repeat(first|(refine st ?_;intros)|refine G.draw [] (h:= ?_)|(refine cq hAw ?_)|(refine cq hFo1 ?_)|(refine cq hFe1 ?_)|(refine cq hFo2 ?_)|(refine cq hFe2 ?_)|(refine cq hSa ?_))
   exact Dn.round ⟨1,po,b.length,oc,cho,q1,n1',d1,h1',q2,n2',d2,h2'⟩ ⟨by dsimp only;omega,fun _=>⟨lab,fl,r,b,hpa,rfl,hVo⟩,fun h=>by dsimp only at h;omega,fun h=>by dsimp only at h;omega,fun _=>z1 (by omega),fun h=>by dsimp only at h;omega,fun _=>z2 (by omega)⟩ (by dsimp only;omega)
  ·obtain⟨rfl,rfl,rfl,rfl⟩:=z1 (Nat.le_refl _)
   have hLa:=fun bw bd ba bs cd ca cs hW=>laid16in bw bd ba bs 90 (by omega) cd ca cs hW N2 (by omega) p2 i cap2 es2 c2 hv2 (by omega) hin2 A rA2 hA2
   unfold gv at hLa
   repeat(first|(refine st ?_;intros)|refine G.draw [] (h:= ?_)|(refine cq hAw ?_)|(refine cq hFo1 ?_)|(refine cq hFe1 ?_)|(refine cq hFo2 ?_)|(refine cq hFe2 ?_)|(refine cq hSa ?_))
   refine R.call (hct:=hWk) (h:= ?_)
   rintro _ _ ⟨bw,bd,ba,bs,cd,ca,cs,rfl,rfl,hW⟩
   try dsimp only[List.cons_append,List.nil_append]
   have hLa:=hLa bw bd ba bs cd ca cs hW
   repeat(first|(refine st ?_;intros)|refine G.draw [] (h:= ?_)|(refine cq hAw ?_)|(refine cq hFo1 ?_)|(refine cq hFe1 ?_)|(refine cq hFo2 ?_)|(refine cq hFe2 ?_)|(refine cq hSa ?_))
   refine R.call (hct:=hLa) (h:= ?_)
   rintro _ _ ⟨cd1,ca1,cs1,W,f,h,lab,fl,rfl,rfl,hW1,hL,hfl1⟩
   try dsimp only[List.cons_append,List.nil_append]
   obtain⟨r,b,hpa⟩:=parts_of hL.labs hL.fors
   have hbl:=hpa.b_len hin2 (by omega)
   have hT:=Tours_laid bw bd ba bs 90 (by omega) N2 (by omega) es2 (by omega) hin2 W cd1 ca1 cs1 hW1 f h lab fl hL hpa
   rw[hflv,hflv] at hT
   rw[hflv,hflv]
   repeat(first|(refine st ?_;intros)|refine G.draw [] (h:= ?_)|(refine cq hAw ?_)|(refine cq hFo1 ?_)|(refine cq hFe1 ?_)|(refine cq hFo2 ?_)|(refine cq hFe2 ?_)|(refine cq hSa ?_))
   refine R.call (hct:=hT) (h:= ?_)
   rintro _ _ ⟨x,er,cd3,ca3,cs3,W3,rfl,rfl,hW3,hs3,hr3,hu3,hn3,ha3,hf3,hc⟩
   dsimp only[List.cons_append,List.nil_append]
   rcases hc with⟨rfl,hinX,hxw,hxc,hl3⟩|⟨_,_,h6,_⟩
   rotate_left
   ·exact absurd hfl1 h6
   obtain⟨LvX,hfoX,hsubX⟩:=hinX
   have hLi:=List_ct bw bd ba bs W3 cd3 ca3 cs3 hW3 x b LvX hfoX hsubX (by rw[hs3,hr3,hu3];omega) (hf3 hfl1) (by omega) (by omega)
   rw[hflv x,hxc,hxw] at hLi
   rw[hflv x,hxc,hxw]
   repeat(first|(refine st ?_;intros)|refine G.draw [] (h:= ?_)|(refine cq hAw ?_)|(refine cq hFo1 ?_)|(refine cq hFe1 ?_)|(refine cq hFo2 ?_)|(refine cq hFe2 ?_)|(refine cq hSa ?_))
   refine R.call (hct:=hLi) (h:= ?_)
   rintro _ _ ⟨cd4,ca4,W4,po,oc,cho,rfl,rfl,hW4,hE4,hd4,hl4,hg4,hVo⟩
   try dsimp only[List.cons_append,List.nil_append]
   repeat(first|(refine st ?_;intros)|refine G.draw [] (h:= ?_)|(refine cq hAw ?_)|(refine cq hFo1 ?_)|(refine cq hFe1 ?_)|(refine cq hFo2 ?_)|(refine cq hFe2 ?_)|(refine cq hSa ?_))
   exact Dn.round ⟨2,p0,n0,d0,h0',po,b.length,oc,cho,q2,n2',d2,h2'⟩ ⟨by dsimp only;omega,fun _=>g0 (by omega),fun h=>by dsimp only at h;omega,fun _=>⟨lab,fl,r,b,hpa,rfl,hVo⟩,fun h=>by dsimp only at h;omega,fun h=>by dsimp only at h;omega,fun _=>z2 (by omega)⟩ (by dsimp only;omega)
  ·obtain⟨rfl,rfl,rfl,rfl⟩:=z2 (Nat.le_refl _)
   have hLa:=fun bw bd ba bs cd ca cs hW=>laid16ct bw bd ba bs 90 (by omega) cd ca cs hW (N1+N2) (by omega) w (m1+i) wc (unE es1 es2 N1) wh (Rw.ofVec ecl_len hw (by omega)) (by omega) (un_inE hin1 hin2)
   unfold gv at hLa
   repeat(first|(refine st ?_;intros)|refine G.draw [] (h:= ?_)|(refine cq hAw ?_)|(refine cq hFo1 ?_)|(refine cq hFe1 ?_)|(refine cq hFo2 ?_)|(refine cq hFe2 ?_)|(refine cq hSa ?_))
   refine R.call (hct:=hWk) (h:= ?_)
   rintro _ _ ⟨bw,bd,ba,bs,cd,ca,cs,rfl,rfl,hW⟩
   try dsimp only[List.cons_append,List.nil_append]
   have hLa:=hLa bw bd ba bs cd ca cs hW
   repeat(first|(refine st ?_;intros)|refine G.draw [] (h:= ?_)|(refine cq hAw ?_)|(refine cq hFo1 ?_)|(refine cq hFe1 ?_)|(refine cq hFo2 ?_)|(refine cq hFe2 ?_)|(refine cq hSa ?_))
   refine R.call (hct:=hLa) (h:= ?_)
   rintro _ _ ⟨cd1,ca1,cs1,W,f,h,lab,fl,rfl,rfl,hW1,hL,hfl1⟩
   try dsimp only[List.cons_append,List.nil_append]
   obtain⟨r,b,hpa⟩:=parts_of hL.labs hL.fors
   have hbl:=hpa.b_len (un_inE hin1 hin2) (by omega)
   have hT:=Tours_laid bw bd ba bs 90 (by omega) (N1+N2) (by omega) (unE es1 es2 N1) (by simp;omega) (un_inE hin1 hin2) W cd1 ca1 cs1 hW1 f h lab fl hL hpa
   rw[hflv,hflv] at hT
   rw[hflv,hflv]
   repeat(first|(refine st ?_;intros)|refine G.draw [] (h:= ?_)|(refine cq hAw ?_)|(refine cq hFo1 ?_)|(refine cq hFe1 ?_)|(refine cq hFo2 ?_)|(refine cq hFe2 ?_)|(refine cq hSa ?_))
   refine R.call (hct:=hT) (h:= ?_)
   rintro _ _ ⟨x,er,cd3,ca3,cs3,W3,rfl,rfl,hW3,hs3,hr3,hu3,hn3,ha3,hf3,hc⟩
   dsimp only[List.cons_append,List.nil_append]
   rcases hc with⟨rfl,hinX,hxw,hxc,hl3⟩|⟨_,_,h6,_⟩
   rotate_left
   ·exact absurd hfl1 h6
   obtain⟨LvX,hfoX,hsubX⟩:=hinX
   have hLi:=List_ct bw bd ba bs W3 cd3 ca3 cs3 hW3 x b LvX hfoX hsubX (by rw[hs3,hr3,hu3];omega) (hf3 hfl1) (by omega) (by omega)
   rw[hflv x,hxc,hxw] at hLi
   rw[hflv x,hxc,hxw]
   repeat(first|(refine st ?_;intros)|refine G.draw [] (h:= ?_)|(refine cq hAw ?_)|(refine cq hFo1 ?_)|(refine cq hFe1 ?_)|(refine cq hFo2 ?_)|(refine cq hFe2 ?_)|(refine cq hSa ?_))
   refine R.call (hct:=hLi) (h:= ?_)
   rintro _ _ ⟨cd4,ca4,W4,po,oc,cho,rfl,rfl,hW4,hE4,hd4,hl4,hg4,hVo⟩
   try dsimp only[List.cons_append,List.nil_append]
   repeat(first|(refine st ?_;intros)|refine G.draw [] (h:= ?_)|(refine cq hAw ?_)|(refine cq hFo1 ?_)|(refine cq hFe1 ?_)|(refine cq hFo2 ?_)|(refine cq hFe2 ?_)|(refine cq hSa ?_))
   exact Dn.round ⟨3,p0,n0,d0,h0',q1,n1',d1,h1',po,b.length,oc,cho⟩ ⟨by dsimp only;omega,fun _=>g0 (by omega),fun h=>by dsimp only at h;omega,fun _=>g1 (by omega),fun h=>by dsimp only at h;omega,fun _=>⟨lab,fl,r,b,hpa,rfl,hVo⟩,fun h=>by dsimp only at h;omega⟩ (by dsimp only;omega)
 obtain rfl:k=3:=by omega
 obtain⟨labA,flA,rA,tA,hpA,rfl,hVA⟩:=g0 (by omega)
 obtain⟨labB,flB,rB,tB,hpB,rfl,hVB⟩:=g1 (by omega)
 obtain⟨labC,flC,rC,tC,hpC,rfl,hVC⟩:=g2 (by omega)
 have hblA:=hpA.b_len hin1 (by omega)
 have hblB:=hpB.b_len hin2 (by omega)
 have hblC:=hpC.b_len (un_inE hin1 hin2) (by omega)
 have hbnd:=tour_bnd hpB hin2 (by omega) (by omega)
 have hap:=apart_is hin1 hin2 (by omega) hpA hpB hpC
 have hw2m:IntKind.wrap .i64 ((2:Int)*(m1:Int))=((2*m1:Nat):Int):=by rw[wrap_i64 (by omega)];omega
 repeat(first|(refine st ?_;intros)|refine G.draw [] (h:= ?_)|(refine cq hAw ?_)|(refine cq hFo1 ?_)|(refine cq hFe1 ?_)|(refine cq hFo2 ?_)|(refine cq hFe2 ?_)|(refine cq hSa ?_))
 refine G.loop (X:=UnX) (fun x=>x.i≤tB.length∧Vec 49 5 x.p (tA.length+x.i) x.cap (flat (tA++(tB.take x.i).map (shT es1.length N1))) x.ch)
  (fun x=>[(20,.int .i64 (x.i:Int)),(19,.int .i64 ((2*m1:Nat):Int)),(18,.int .i64 (N1:Int)),(7,pv b7)])
  (fun x=>[x.ch,h1',h2',[(b7,row [.slice x.p (tA.length+x.i) x.cap,.slice q1 tB.length d1,.slice q2 tC.length d2] 52)],A]) (fun x=>tB.length-x.i) ⟨0,p0,d0,h0'⟩ ⟨Nat.zero_le _,by simpa using hVA⟩ (body:= ?_)
 rintro⟨i2,w2,wc2,wh2⟩ ⟨hi2,hw2⟩
 dsimp only at hi2 hw2⊢
 by_cases hlt2:i2<tB.length
 ·obtain⟨bb,offb,csb,Tb,fzb,rfl,rfl,hcut,_⟩:=(RV.rw (RV.vec hVB)).pos tcells_len (by omega)
  have hti:tB[i2]? =some tB[i2]:=List.getElem?_eq_getElem (by omega)
  have hcu:(csb.drop (offb+i2*5)).take 5=[.int .i64 tB[i2].c0,.int .i64 tB[i2].c1,.int .i64 tB[i2].c2,.int .i64 tB[i2].c3,.int .i64 tB[i2].c4]:=hcut i2 _ hti
  have htb:=hbnd _ (List.mem_of_getElem? hti)
  have htk:tB.take (i2+1)=tB.take i2++[tB[i2]]:=by rw[List.take_add_one,hti];rfl
  generalize tB[i2]=t at*
  have hmx:tA.length+i2+1≤maxLen:=by simp only[maxLen];omega
  have u0:IntKind.wrap .i64 (t.c0+((2*m1:Nat):Int))=t.c0+2*(es1.length:Int):=by rw[wrap_i64 (by omega)];omega
  have u1:IntKind.wrap .i64 (t.c1+(N1:Int))=t.c1+(N1:Int):=wrap_i64 (by omega)
  have u2:IntKind.wrap .i64 (t.c2+(N1:Int))=t.c2+(N1:Int):=wrap_i64 (by omega)
  have u3:IntKind.wrap .i64 (t.c3+(N1:Int))=t.c3+(N1:Int):=wrap_i64 (by omega)
  have hsn:flat (tA++(tB.take (i2+1)).map (shT es1.length N1))=flat (tA++(tB.take i2).map (shT es1.length N1))++[.int .i64 (t.c0+2*(es1.length:Int)),.int .i64 (t.c1+(N1:Int)),.int .i64 (t.c2+(N1:Int)),.int .i64 (t.c3+(N1:Int)),.int .i64 t.c4]:=by
   rw[htk,List.map_append,←List.append_assoc,flat_append];rfl
  repeat(first|(refine st ?_;intros)|refine G.draw [] (h:= ?_)|(refine cq hAw ?_)|(refine cq hFo1 ?_)|(refine cq hFe1 ?_)|(refine cq hFo2 ?_)|(refine cq hFe2 ?_)|(refine cq hSa ?_))
  rename_i p' cap' c' hV'
  have hV3:Vec 49 5 p' (tA.length+(i2+1)) cap' (flat (tA++(tB.take (i2+1)).map (shT es1.length N1))) c':=by rw[hsn];exact hV'
  refine Dn.round ⟨i2+1,p',cap',c'⟩ ⟨hlt2,hV3⟩ (by dsimp only;omega)
 obtain rfl:i2=tB.length:=by omega
 rw[List.take_of_length_le (Nat.le_refl _)] at hw2
 have hSa:=Same_ct w2 (tA.length+tB.length) wc2 _ wh2 (RV.vec hw2) (by omega) q2 tC.length d2 tC h2' (RV.vec hVC)
 rw[decide_eq_true hap.symm] at hSa
 repeat(first|(refine st ?_;intros)|refine G.draw [] (h:= ?_)|(refine cq hAw ?_)|(refine cq hFo1 ?_)|(refine cq hFe1 ?_)|(refine cq hFo2 ?_)|(refine cq hFe2 ?_)|(refine cq hSa ?_))
 (refine Dn.post (Hr:=[A]) Tryz.results5 (hR:= ?_);exact⟨rfl,rfl⟩)
end Go.Proofs.YtammjnjpheobaaaGreat
namespace Go.Proofs.YtammjnjpheobaaaGreat
open Go.ChangeShapes Go.WideShapes Go.ChangeAt Go.RowKit Go.SL Go.Tup
set_option maxRecDepth 100000 in
theorem TourApart_lifted (os:Os) (started:os.Started) (H:Type) (enc:TypeId×Value→H):
  ReturnsInHanded {} Tryz.checked os 5 .any (Rows.tourApartSpec.pre6 enc Tryz.prog Tryz.f5 Rows.tourApartRow.domain false) (Rows.tourApartSpec.post enc Tryz.prog Tryz.f5 false true false false):=by
 refine returnsInHanded_of_change (C:=Tryz.checked) own started (by kernel_rfl) Tryz.func5
  (ChangeSpec.witness6 (enc:=enc) (C:=Tryz.checked) false ⟨#[],#[.agg #[.int .i64 0,.slice none 0 0],.agg #[.int .i64 0,.slice none 0 0]],[]⟩ 8 (by kernel_rfl) (by kernel_rfl) (by kernel_rfl) (by kernel_rfl)) ?_
 intro W base args ds gs before hval0 hW hcnd _
 have hval:∀(j:Nat) t v,Tryz.f5.params[j]? =some t→args[j]? =some v→Value.okWide Tryz.prog W .any base t v:=hval0
 have hW':=hW
 obtain⟨p,q,hA0,hV,rfl,hfz,hnd⟩:=hW
 have hA:DataW.TrodAll enc Tryz.prog W 0 (fun _=>true) true Tryz.f5.params.toList args.toList ds p:=hA0
 rw[Tryz.params5] at hA hval
 obtain⟨rfl,rfl⟩:=trodVars_none hV
 obtain⟨v0,v1,d0,d1,p0,p1,rfl,rfl,rfl,h0,h1⟩:=trodAll_two hA
 obtain⟨n0,p0s,m0,cap0,es0,ch0,rfl,hv0,hm0,hc0,_⟩:=open_graphR Tryz.underlying37 Tryz.underlying3 Tryz.underlying35 Tryz.underlying51 Tryz.underlying3 Tryz.underlying3 rfl rfl (by kernel_rfl) (by kernel_rfl) (by kernel_rfl) (by kernel_rfl) rfl rfl (by kernel_rfl) (by kernel_rfl) h0 (hval 0 _ v0 rfl rfl)
 have hs0:=Ch1.rw hv0
 obtain⟨n1,p1s,m1,cap1,es1,ch1,rfl,hv1,hm1,hc1,_⟩:=open_graphR Tryz.underlying37 Tryz.underlying3 Tryz.underlying35 Tryz.underlying51 Tryz.underlying3 Tryz.underlying3 rfl rfl (by kernel_rfl) (by kernel_rfl) (by kernel_rfl) (by kernel_rfl) rfl rfl (by kernel_rfl) (by kernel_rfl) h1 (hval 1 _ v1 rfl rfl)
 have hs1:=Ch1.rw hv1
 obtain⟨A,hcA,hndA,⟨rA,hAa⟩,⟨rB,hAb⟩⟩:=two_ch hc0 hc1 hs0 hs1
 clear hA0 hval0
 refine(law_calls1 hcA hndA (TourApart_ct n0 p0s m0 cap0 es0 ch0 hv0 hm0 n1 p1s m1 cap1 es1 ch1 hv1 hm1 A rA rB hAa hAb)).mono fun e W' ⟨he,hw⟩=> ?_
 subst he
 exact⟨_,rfl,lawPost hW' rfl rfl (by kernel_rfl) laidOut (by decide+kernel) rfl hw⟩
theorem TourApart_holds:Rows.TourApartSaid:=
 OpenClaim.holds_of_wide 5 Tryz.f5 rfl rfl rfl rfl rfl rfl rfl ⟨rfl,rfl,rfl,rfl,rfl⟩ rfl rfl rfl rfl rfl (by kernel_rfl) Tryz.func5 (by kernel_rfl)
  (of_decide_eq_true (by kernel_rfl)) (by unfold Func.isWrapper;first|(rw[if_pos (by decide+kernel)];kernel_rfl)|(rw[if_neg (by decide+kernel)];exact⟨rfl,rfl⟩))
  (fun os started H enc _=>TourApart_lifted os started H enc)
end Go.Proofs.YtammjnjpheobaaaGreat
