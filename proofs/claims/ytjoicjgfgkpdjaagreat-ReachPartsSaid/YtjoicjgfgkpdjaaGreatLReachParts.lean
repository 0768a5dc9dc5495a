/-
  Parts of the proof, put together: ReachParts0, ReachParts. No condition.
-/
import Derived.Test.YtjoicjgfgkpdjaaGreatF25
set_option linter.unusedVariables false
set_option linter.unusedSimpArgs false
set_option linter.unnecessarySimpa false
set_option maxHeartbeats 4000000
namespace Go.Proofs.YtjoicjgfgkpdjaaGreat
open Go.SL Go.Spc Go.Tup Go.Srt
def iv (l:List Nat):List Value:=l.map fun (x:Nat)=>Value.int .i64 (x:Int)
theorem iv_get {l:List Nat} {k x:Nat} (h:l[k]? =some x):(iv l)[k]? =some (.int .i64 (x:Int)):=by simp[iv,h]
theorem iv_set (l:List Nat) (k x:Nat):(iv l).set k (.int .i64 (x:Int))=iv (l.set k x):=by simp[iv,List.map_set]
theorem iv_four {l:List Nat} (h:l.length=4):∃a b c d,l=[a,b,c,d]:=by
 match l,h with
 |[a,b,c,d],_=>exact⟨a,b,c,d,rfl⟩
structure PrX where
 k:Int
 A:List Nat
 y:Nat
 B:List Nat
 Rr:List Nat
theorem ReachParts_ct (p:Option Addr) (m cap:Nat) (xs:List Int) (c:Chunk) (hv:Rw icl 1 p m xs c) (hxi:∀x∈xs,inI64 x) (hm:m≤maxLen) (a0 a1 a2 a3:Nat) (h0:a0<256) (h1:a1<256) (h2':a2<256) (h3:a3<256):
  CtQ Tryz.prog 8 [.slice p m cap,.agg #[.int .u8 (a0:Int),.int .u8 (a1:Int),.int .u8 (a2:Int),.int .u8 (a3:Int)]] [c] (.bool true):=by
 have hflv:∀f:Fl,flv f= .agg #[.int .i64 (f.first:Int),.int .i64 (f.blocks:Int),.int .i64 (f.width:Int),.int .i64 (f.count:Int)]:=fun _=>rfl
 have hAw:=awake18ct
 have hl:=hv.1
 have hmx:m≤9223372036854775807:=hm
 have hWk:Ct Tryz.prog 15 [.int .i64 9] [] fun v H'=>
  ∃bw bd ba bs cd ca cs,v=pv bw∧H'=[wrow bw bd ba bs,cd,ca,cs]∧Wc bd ba bs (wk0 10 9000 90) cd ca cs:=work18ct 9 (by omega)
 by_cases hm0:m=0
 ·subst hm0
  refine Ct.intro Tryz.func8 rfl Tryz.ntmps8 (nle rfl) fun w0=> ?_;dsimp only[argSlots,Nat.reduceAdd]
  repeat(first|(refine st ?_;intros)|refine G.draw [] (h:= ?_)|refine G.draw (id:=21) [(32,.quiet)] (h:= ?_)|(refine cq hAw ?_)|(refine cq hCl ?_))
  (refine Dn.post (Hr:=[c]) Tryz.results8 (hR:= ?_);exact⟨rfl,rfl⟩)
 by_cases h200:m≤200
 rotate_left
 ·refine Ct.intro Tryz.func8 rfl Tryz.ntmps8 (nle rfl) fun w0=> ?_;dsimp only[argSlots,Nat.reduceAdd]
  repeat(first|(refine st ?_;intros)|refine G.draw [] (h:= ?_)|refine G.draw (id:=21) [(32,.quiet)] (h:= ?_)|(refine cq hAw ?_)|(refine cq hCl ?_))
  (refine Dn.post (Hr:=[c]) Tryz.results8 (hR:= ?_);exact⟨rfl,rfl⟩)
 have hCol:=column18ct p m cap xs c hv (by omega)
 have hfour:∀i,i<4→∃a:Nat,a<256∧([.int .u8 (a0:Int),.int .u8 (a1:Int),.int .u8 (a2:Int),.int .u8 (a3:Int)]:List Value)[i]? =some (.int .u8 (a:Int)):=by
  intro i hi
  match i,hi with
  |0,_=>exact⟨a0,h0,rfl⟩
  |1,_=>exact⟨a1,h1,rfl⟩
  |2,_=>exact⟨a2,h2',rfl⟩
  |3,_=>exact⟨a3,h3,rfl⟩
 generalize hcs:([.int .u8 (a0:Int),.int .u8 (a1:Int),.int .u8 (a2:Int),.int .u8 (a3:Int)]:List Value)=cs8 at*
 have hcl:cs8.length=4:=by rw[←hcs];rfl
 refine Ct.intro Tryz.func8 rfl Tryz.ntmps8 (nle rfl) fun w0=> ?_;dsimp only[argSlots,Nat.reduceAdd]
 repeat(first|(refine st ?_;intros)|refine G.draw [] (h:= ?_)|refine G.draw (id:=21) [(32,.quiet)] (h:= ?_)|(refine cq hAw ?_)|(refine cq hCl ?_))
 rename_i b3 b5
 refine G.loop (X:=Nat×List Nat) (fun x=>x.1≤4∧x.2.length=4∧(∀y∈x.2,y<m)∧(x.2.take x.1).Pairwise (·≤·)) (fun x=>[(6,.int .i64 (x.1:Int)),(0,.slice p m cap),(3,pv b3),(5,pv b5)]) (fun x=>[[(b5,row (iv x.2) 59)],[(b3,row cs8 58)],c]) (fun x=>4-x.1) (0,[0,0,0,0]) ⟨by omega,rfl,by simp;omega,by simp⟩ (body:= ?_)
 rintro⟨i,ps⟩ ⟨hi,hpl,hpm,hps⟩
 dsimp only at hi hpl hpm hps⊢
 by_cases hi4:i<4
 ·obtain⟨a,ha,hga⟩:=hfour i hi4
  have e1:IntKind.wrap .i64 ((a:Int))=(a:Int):=wrap_i64 (by omega)
  have e3:IntKind.wrap .i64 ((i:Int)+1)=((i+1:Nat):Int):=by rw[wrap_i64 (by omega)];omega
  have hpl4:(iv ps).length=4:=by simp[iv,hpl]
  repeat(first|(refine st ?_;intros)|refine G.draw [] (h:= ?_)|refine G.draw (id:=21) [(32,.quiet)] (h:= ?_)|(refine cq hAw ?_)|(refine cq hCl ?_))
  have e2:(a:Int).tmod (m:Int)=((a%m:Nat):Int):=by rw[Int.tmod_eq_emod_of_nonneg (by omega)];rfl
  have ham:a%m<m:=Nat.mod_lt _ (by omega)
  rw[e2,iv_set]
  clear e2
  generalize a%m=am at*
  have hq0:ps.set i am=ps.take i++am::([]++ps.drop (i+1)):=by
   rw[List.set_eq_take_append_cons_drop,if_pos (by omega)];rfl
  rw[hq0]
  refine G.loop (X:=PrX) (fun x=>x.k=(x.A.length:Int)∧x.A.length+x.B.length=i∧x.Rr.length=3-i∧(∀z∈x.A++x.y::(x.B++x.Rr),z<m)∧(x.A++x.B).Pairwise (·≤·)∧∀z∈x.B,x.y≤z)
   (fun x=>[(7,.int .i64 x.k),(6,.int .i64 (i:Int)),(0,.slice p m cap),(3,pv b3),(5,pv b5)]) (fun x=>[[(b5,row (iv (x.A++x.y::(x.B++x.Rr))) 59)],[(b3,row cs8 58)],c]) (fun x=>x.A.length) ⟨(i:Int),ps.take i,am,[],ps.drop (i+1)⟩
   ⟨by simp;omega,by simp;omega,by simp;omega,by
    intro z hz
    simp only[List.nil_append,List.mem_append,List.mem_cons] at hz
    rcases hz with hz|rfl|hz
    ·exact hpm z (List.mem_of_mem_take hz)
    ·exact ham
    ·exact hpm z (List.mem_of_mem_drop hz),by simpa using hps,by simp⟩ (body:= ?_)
  rintro⟨kz,A,y,B,Rr⟩ ⟨hk,hAB,hRr,hM,hpw,hyB⟩
  dsimp only at hk hAB hRr hM hpw hyB⊢
  obtain⟨hpA,hpB,hpAB⟩:=List.pairwise_append.1 hpw
  have hfin:(∀z∈A,z≤y)→i+1≤4∧(A++y::(B++Rr)).length=4∧(∀z∈A++y::(B++Rr),z<m)∧((A++y::(B++Rr)).take (i+1)).Pairwise (·≤·):=by
   intro hA
   refine⟨by omega,by simp;omega,hM,?_⟩
   have:(A++y::(B++Rr)).take (i+1)=A++y::B:=by
    have e1:A++y::(B++Rr)=(A++y::B)++Rr:=by simp
    rw[e1,List.take_left' (by simp;omega)]
   rw[this,List.pairwise_append,List.pairwise_cons]
   exact⟨hpA,⟨hyB,hpB⟩,fun u hu w hw=>by
    rcases List.mem_cons.1 hw with rfl|hw
    ·exact hA u hu
    ·exact hpAB u hu w hw⟩
  rcases List.eq_nil_or_concat A with rfl|⟨A',z,rfl⟩
  ·have hk0:kz=0:=by simpa using hk
   obtain⟨f1,f2,f3,f4⟩:=hfin (by simp)
   repeat(first|(refine st ?_;intros)|refine G.draw [] (h:= ?_)|refine G.draw (id:=21) [(32,.quiet)] (h:= ?_)|(refine cq hAw ?_)|(refine cq hCl ?_))
   refine Dn.round (i+1,[]++y::(B++Rr)) ⟨f1,f2,f3,f4⟩ (by dsimp only;omega)
  ·rw[List.concat_eq_append] at*
   have hkA:kz=((A'.length+1:Nat):Int):=by simpa using hk
   have ek:kz.toNat=A'.length+1:=by omega
   have ek1:(kz-1).toNat=A'.length:=by omega
   have hi1:A'.length+1+B.length=i:=by simpa using hAB
   have hform:∀u v:Nat,(A'++[u])++v::(B++Rr)=A'++u::v::(B++Rr):=fun u v=>by simp
   rw[hform] at hM hfin⊢
   have g1:(iv (A'++z::y::(B++Rr)))[A'.length+1]? =some (.int .i64 (y:Int)):=iv_get (by rw[List.getElem?_append_right (by omega)];simp)
   have g2:(iv (A'++z::y::(B++Rr)))[A'.length]? =some (.int .i64 (z:Int)):=iv_get (by simp)
   have s1:(iv (A'++z::y::(B++Rr))).set (A'.length+1) (.int .i64 (z:Int))=iv (A'++z::z::(B++Rr)):=by rw[iv_set];congr 1;simp[List.set_append]
   have s2:(iv (A'++z::z::(B++Rr))).set A'.length (.int .i64 (y:Int))=iv (A'++y::z::(B++Rr)):=by rw[iv_set];congr 1;simp
   have l1:(iv (A'++z::y::(B++Rr))).length=4:=by simp[iv];omega
   have l2:(iv (A'++z::z::(B++Rr))).length=4:=by simp[iv];omega
   by_cases hyz:y<z
   ·generalize hr0:iv (A'++z::y::(B++Rr))=r0 at*
    generalize hr1:iv (A'++z::z::(B++Rr))=r1 at*
    repeat(first|(refine st ?_;intros)|refine G.draw [] (h:= ?_)|refine G.draw (id:=21) [(32,.quiet)] (h:= ?_)|(refine cq hAw ?_)|(refine cq hCl ?_))
    refine Dn.round ⟨kz-1,A',y,z::B,Rr⟩ ⟨by dsimp only;omega,by simp;omega,hRr,fun w hw=>hM w (by simp only[List.mem_append,List.mem_cons,List.cons_append] at hw⊢;rcases hw with h|h|h|h|h<;>simp[h]),by simpa using hpw,fun w hw=> ?_⟩ (by simp)
    rcases List.mem_cons.1 hw with rfl|hw
    ·show y≤_
     omega
    ·exact hyB w hw
   ·obtain⟨f1,f2,f3,f4⟩:=hfin (fun w hw=>by
     rcases List.mem_append.1 hw with h|h
     ·have:=(List.pairwise_append.1 hpA).2.2 w h z (by simp)
      omega
     ·simp only[List.mem_singleton] at h;omega)
    generalize hr0:iv (A'++z::y::(B++Rr))=r0 at*
    repeat(first|(refine st ?_;intros)|refine G.draw [] (h:= ?_)|refine G.draw (id:=21) [(32,.quiet)] (h:= ?_)|(refine cq hAw ?_)|(refine cq hCl ?_))
    refine Dn.round (i+1,A'++z::y::(B++Rr)) ⟨f1,f2,f3,f4⟩ (by dsimp only;omega) (by repeat(first|exact trivial|refine⟨rfl,?_⟩)) (by rw[←hr0];exact(by repeat(first|exact Split.nil|(apply Split.cons;·(repeat(first|exact Take.here|apply Take.there|exact Take.nil))))))
 obtain rfl:i=4:=by omega
 obtain⟨a,b,d,e,rfl⟩:=iv_four hpl
 have hps2:a≤b∧b≤d∧d≤e:=by
  rw[List.take_of_length_le (by simp)] at hps
  simp at hps;omega
 have hem:e<m:=hpm e (by simp)
 have hiv:iv [a,b,d,e]=[.int .i64 (a:Int),.int .i64 (b:Int),.int .i64 (d:Int),.int .i64 (e:Int)]:=rfl
 rw[hiv]
 repeat(first|(refine st ?_;intros)|refine G.draw [] (h:= ?_)|refine G.draw (id:=21) [(32,.quiet)] (h:= ?_)|(refine cq hAw ?_)|(refine cq hCl ?_))
 refine R.call (hct:=hWk) (h:= ?_)
 rintro _ _ ⟨bw,bd,ba,bs,cd,ca,cs,rfl,rfl,hW⟩
 try dsimp only[List.cons_append,List.nil_append]
 repeat(first|(refine st ?_;intros)|refine G.draw [] (h:= ?_)|refine G.draw (id:=21) [(32,.quiet)] (h:= ?_)|(refine cq hAw ?_)|(refine cq hCl ?_))
 refine R.call (hct:=hCol) (h:= ?_)
 rintro _ _ ⟨pq,qc0,chv,rfl,rfl,hVv⟩
 try dsimp only[List.cons_append,List.nil_append]
 have hnb1:nblocks 10 1 m≤m:=nblocks_le (holds_pos (by omega) (by omega) (by omega))
 have hLy:=Lay_k bw bd ba bs _ cd ca cs hW 1 (by omega) (by omega) pq m qc0 _ chv (RV.vec hVv) (by omega) (colT_ok hxi) (by show 10≤90-0;omega) rfl (Nat.zero_le _) (by rw[big0];show nblocks 10 1 m≤_;omega)
 rw[show(wk0 10 9000 (90)).δ.size=10 from rfl] at hLy
 repeat(first|(refine st ?_;intros)|refine G.draw [] (h:= ?_)|refine G.draw (id:=21) [(32,.quiet)] (h:= ?_)|(refine cq hAw ?_)|(refine cq hCl ?_))
 refine R.call (hct:=hLy) (h:= ?_)
 rintro _ _ ⟨cd1,ca1,cs1,W1,f,rfl,rfl,hW1,hE1,hK1,hg1,hl1,hf1,hc1,hb1,hfo1⟩
 try dsimp only[List.cons_append,List.nil_append]
 have hsz1:W1.δ.size=10:=hE1.size
 have hrm1:W1.α.room=90:=hE1.room
 have hus1:W1.α.used=0:=used_eq hW hW1 hg1
 have hbg1:=hE1.big
 have hac1:=hE1.acts.2
 rw[big0] at hbg1
 rw[show(wk0 10 9000 (90)).δ.acts=0 from rfl] at hac1
 rw[hflv]
 repeat(first|(refine st ?_;intros)|refine G.draw [] (h:= ?_)|refine G.draw (id:=21) [(32,.quiet)] (h:= ?_)|(refine cq hAw ?_)|(refine cq hCl ?_))
 rename_i bl
 generalize hq4:([⟨0,(a:Int),(e:Int),0,0⟩,⟨1,(a:Int),(d:Int),0,0⟩,⟨2,(b:Int),(e:Int),0,0⟩,⟨3,(b:Int),(b:Int),0,0⟩]:List T5)=qts
 have hql:qts.length=4:=by rw[←hq4];rfl
 have hRV2:RV (some ⟨bl,0,none⟩) 4 qts [(bl,row [.int .i64 0,.int .i64 (a:Int),.int .i64 (e:Int),.int .i64 0,.int .i64 0,.int .i64 1,.int .i64 (a:Int),.int .i64 (d:Int),.int .i64 0,.int .i64 0,.int .i64 2,.int .i64 (b:Int),.int .i64 (e:Int),.int .i64 0,.int .i64 0,.int .i64 3,.int .i64 (b:Int),.int .i64 (b:Int),.int .i64 0,.int .i64 0] 38)]:=⟨hql,.inr ⟨bl,0,_,_,_,rfl,rfl,by rw[←hq4];rfl⟩⟩
 have hqok:okQs m qts∧qts.Pairwise (fun a c=>a.c0<c.c0)∧∀t∈qts,okT 3 t:=by
  rw[←hq4]
  refine⟨⟨?_,by simp⟩,by simp,?_⟩
  ·intro q hq
   simp only[List.mem_cons,List.not_mem_nil,or_false] at hq
   rcases hq with rfl|rfl|rfl|rfl<;>(unfold okQ;dsimp only;omega)
  ·intro q hq
   simp only[List.mem_cons,List.not_mem_nil,or_false] at hq
   rcases hq with rfl|rfl|rfl|rfl<;>exact okT3 ⟨by omega,by omega⟩ ⟨by omega,by omega⟩ ⟨by omega,by omega⟩
 obtain⟨hokq,hinc,hok2⟩:=hqok
 have hnb2:nblocks 10 3 4≤4:=nblocks_le (holds_pos (by omega) (by omega) (by omega))
 have hLy2:=Lay_k bw bd ba bs W1 cd1 ca1 cs1 hW1 3 (by omega) (by omega) _ 4 4 _ _ hRV2 (by omega) hok2 (by omega) (hE1.fault rfl) (by omega) (by rw[hsz1];omega)
 rw[hsz1] at hLy2
 refine R.call (hct:=hLy2) (h:= ?_)
 rintro _ _ ⟨cd2,ca2,cs2,W2,g,rfl,rfl,hW2,hE2,hK2,hg2,hl2,hf2,hc2,hb2,hfo2⟩
 try dsimp only[List.cons_append,List.nil_append]
 obtain⟨h2,hf0⟩:=two_lay (wa:=1) (wb:=3) (na:=m) (nb:=4) hW hW1 hE1 hg1 hl1 hf1 hc1 hb1 hfo1 hW2 hE2 hK2 hg2 hl2 hf2 hc2 hb2 hfo2
 rw[hflv]
 have hT:=Least_two bw bd ba bs 90 (by omega) W2 cd2 ca2 cs2 hW2 f g _ _ h2 (by rw[colT_len];omega) (by omega)
 rw[hflv,hflv] at hT
 repeat(first|(refine st ?_;intros)|refine G.draw [] (h:= ?_)|refine G.draw (id:=21) [(32,.quiet)] (h:= ?_)|(refine cq hAw ?_)|(refine cq hCl ?_))
 refine R.call (hct:=hT) (h:= ?_)
 rintro _ _ ⟨x,e1,cd3,ca3,cs3,W3,rfl,rfl,hW3,hus3,hrm3,hn3,hsz3,hac3,hfl3,hc⟩
 dsimp only[List.cons_append,List.nil_append]
 rw[colT_len,hl] at hc
 rcases hc with⟨rfl,_,hin3,hxw,hxc,hl3⟩|⟨_,_,_,⟨_,h6⟩|⟨_,h6⟩⟩
 rotate_left
 ·exact absurd hf0 h6
 ·exact absurd hokq h6
 have hxl:(colT xs).length=m:=by rw[colT_len];exact hl
 have hlf:leastF (colT xs) qts=qts.map (ansQ (colT xs)):=leastF_inc (fun t ht=>(okT_cols (colT_ok hxi t ht)).1) (fun q hm=>(okT_cols (hok2 q hm)).1) (by rw[hxl];exact hokq) hinc
 have hxc2:x.count=4:=by rw[hxc,hlf,List.length_map,hql]
 obtain⟨LvX,hfoX,hsubX⟩:=hin3
 have hLi:=List_ct bw bd ba bs W3 cd3 ca3 cs3 hW3 x _ LvX hfoX hsubX (by omega) (hfl3 hf0) (by omega) (by omega)
 rw[hflv x,hxc2] at hLi
 rw[hflv x,hxc2]
 repeat(first|(refine st ?_;intros)|refine G.draw [] (h:= ?_)|refine G.draw (id:=21) [(32,.quiet)] (h:= ?_)|(refine cq hAw ?_)|(refine cq hCl ?_))
 refine R.call (hct:=hLi) (h:= ?_)
 rintro _ _ ⟨cd4,ca4,W4,po,oc,cho,rfl,rfl,hW4,hE4,hd4,hl4,hg4,hVo⟩
 try dsimp only[List.cons_append,List.nil_append]
 have ht:=free_sum (fs:=[f,g,x]) hW4 (by rw[hl4];exact hl3) (hE4.n.trans hn3)
 have hCl:∀b':Nat,CtQ Tryz.prog 27 [pv bw,.slice (some ⟨b',0,none⟩) 3 3] [wrow bw bd ba bs,ca4,cs3,[(b',row [.int .i64 (f.first:Int),.int .i64 (f.blocks:Int),.int .i64 (f.width:Int),.int .i64 (f.count:Int),.int .i64 (g.first:Int),.int .i64 (g.blocks:Int),.int .i64 (g.width:Int),.int .i64 (g.count:Int),.int .i64 (x.first:Int),.int .i64 (x.blocks:Int),.int .i64 (x.width:Int),.int .i64 4] 27)]] (.bool true):=fun b'=>
  clean18ct bw bd ba bs W4 ca4 cs3 hW4.ar hW4.sp (some ⟨b',0,none⟩) 3 3 [f,g,x] _ ⟨rfl,.inr ⟨b',0,_,_,_,rfl,rfl,by simp[fl4,hxc2]⟩⟩ (by omega) ((used_eq hW3 hW4 hg4).trans hus3) ht
 rw[hlf,←hq4] at hVo
 obtain⟨rb,re,rfl,rfl,_,_,_⟩:=vpos1 hVo (by omega)
 obtain⟨vb,voff,vc,vT,vf,rfl,rfl,_,hget⟩:=hv.pos icl_len (by omega)
 have hxb:xs[b]? =some xs[b]:=List.getElem?_eq_getElem (by omega)
 have hgb:=hget b 0 _ _ hxb rfl
 rw[Nat.add_zero,Nat.mul_one] at hgb
 have hvb:at0 (colT xs) b=xs[b]:=at0get (t:=⟨xs[b],0,0,0,0⟩) (by simp[colT,hxb])
 have z1:ansQ (colT xs) ⟨0,(a:Int),(e:Int),0,0⟩=⟨0,rmin (at0 (colT xs)) a (e-a),0,0,0⟩:=by unfold ansQ;dsimp only;congr 2;omega
 have z2:ansQ (colT xs) ⟨1,(a:Int),(d:Int),0,0⟩=⟨1,rmin (at0 (colT xs)) a (d-a),0,0,0⟩:=by unfold ansQ;dsimp only;congr 2;omega
 have z3:ansQ (colT xs) ⟨2,(b:Int),(e:Int),0,0⟩=⟨2,rmin (at0 (colT xs)) b (e-b),0,0,0⟩:=by unfold ansQ;dsimp only;congr 2;omega
 have z4:ansQ (colT xs) ⟨3,(b:Int),(b:Int),0,0⟩=⟨3,xs[b],0,0,0⟩:=by
  unfold ansQ;dsimp only
  have:((b:Int)-(b:Int)).toNat=0:=by omega
  rw[this,Int.toNat_natCast,←hvb];rfl
 have hmin:=rmin_cov (at0 (colT xs)) hps2.1 hps2.2.1 hps2.2.2
 simp only[List.map_cons,List.map_nil,z1,z2,z3,z4]
 generalize rmin (at0 (colT xs)) a (e-a)=m1 at*
 generalize rmin (at0 (colT xs)) a (d-a)=m2 at*
 generalize rmin (at0 (colT xs)) b (e-b)=m3 at*
 generalize xs[b]=m4 at*
 have hfl:flat [⟨0,m1,0,0,0⟩,⟨1,m2,0,0,0⟩,⟨2,m3,0,0,0⟩,⟨3,m4,0,0,0⟩]=[.int .i64 0,.int .i64 m1,.int .i64 0,.int .i64 0,.int .i64 0,.int .i64 1,.int .i64 m2,.int .i64 0,.int .i64 0,.int .i64 0,.int .i64 2,.int .i64 m3,.int .i64 0,.int .i64 0,.int .i64 0,.int .i64 3,.int .i64 m4,.int .i64 0,.int .i64 0,.int .i64 0]:=rfl
 rw[hfl]
 repeat(first|(refine st ?_;intros)|refine G.draw [] (h:= ?_)|refine G.draw (id:=21) [(32,.quiet)] (h:= ?_)|(refine cq hAw ?_)|(refine cq hCl ?_))
 (refine Dn.post (Hr:=[[(vb,rowf vc vT vf)]]) Tryz.results8 (hR:= ?_);exact⟨rfl,rfl⟩)
end Go.Proofs.YtjoicjgfgkpdjaaGreat
namespace Go.Proofs.YtjoicjgfgkpdjaaGreat
open Go.ChangeShapes Go.WideShapes Go.ChangeAt Go.RowKit Go.SL Go.Tup
set_option maxRecDepth 100000 in
theorem ReachParts_lifted (os:Os) (started:os.Started) (H:Type) (enc:TypeId×Value→H):
  ReturnsInHanded {} Tryz.checked os 8 .any (Rows.reachPartsSpec.pre6 enc Tryz.prog Tryz.f8 Rows.reachPartsRow.domain false) (Rows.reachPartsSpec.post enc Tryz.prog Tryz.f8 false true false false):=by
 refine returnsInHanded_of_change (C:=Tryz.checked) own started (by kernel_rfl) Tryz.func8
  (ChangeSpec.witness6 (enc:=enc) (C:=Tryz.checked) false ⟨#[],#[.slice none 0 0,.agg #[.int .u8 0,.int .u8 0,.int .u8 0,.int .u8 0]],[]⟩ 8 (by kernel_rfl) (by kernel_rfl) (by kernel_rfl) (by kernel_rfl)) ?_
 intro W base args ds gs before hval0 hW hcnd _
 have hval:∀(j:Nat) t v,Tryz.f8.params[j]? =some t→args[j]? =some v→Value.okWide Tryz.prog W .any base t v:=hval0
 have hW':=hW
 obtain⟨p,q,hA0,hV,rfl,hfz,hnd⟩:=hW
 have hA:DataW.TrodAll enc Tryz.prog W 0 (fun _=>true) true Tryz.f8.params.toList args.toList ds p:=hA0
 rw[Tryz.params8] at hA hval
 obtain⟨rfl,rfl⟩:=trodVars_none hV
 obtain⟨v0,v1,d0,d1,p0,p1,rfl,rfl,rfl,h0,h1⟩:=trodAll_two hA
 obtain⟨p,n,cap,xs,ch,rfl,hv,hin,hm,hc,hs⟩:=open_intsR Tryz.underlying35 Tryz.underlying2 (by kernel_rfl) h0 (hval 0 _ v0 rfl rfl)
 obtain⟨l,hll,hlr,rfl⟩:=openU8 (n:=4) (.inr ⟨_,_,Tryz.underlying58⟩) (by kernel_rfl) (by kernel_rfl) Tryz.underlying5 (hval 1 _ v1 rfl rfl)
 obtain⟨a,l1,rfl,hl1⟩:=uncons hll
 obtain⟨b,l2,rfl,hl2⟩:=uncons hl1
 obtain⟨c,l3,rfl,hl3⟩:=uncons hl2
 obtain⟨d,l4,rfl,hl4⟩:=uncons hl3
 obtain rfl:=List.eq_nil_of_length_eq_zero hl4
 clear hA0 hval0
 refine(law_calls1 hc hs.nodup (ReachParts_ct p n cap xs ch hv hin hm a b c d (hlr a (by simp)) (hlr b (by simp)) (hlr c (by simp)) (hlr d (by simp)))).mono fun e W' ⟨he,hw⟩=> ?_
 subst he
 exact⟨_,rfl,lawPost hW' rfl rfl (by kernel_rfl) laidOut (by decide+kernel) rfl hw⟩
theorem ReachParts_holds:Rows.ReachPartsSaid:=
 OpenClaim.holds_of_wide 8 Tryz.f8 rfl rfl rfl rfl rfl rfl rfl ⟨rfl,rfl,rfl,rfl,rfl⟩ rfl rfl rfl rfl rfl (by kernel_rfl) Tryz.func8 (by kernel_rfl)
  (of_decide_eq_true (by kernel_rfl)) (by unfold Func.isWrapper;first|(rw[if_pos (by decide+kernel)];kernel_rfl)|(rw[if_neg (by decide+kernel)];exact⟨rfl,rfl⟩))
  (fun os started H enc _=>ReachParts_lifted os started H enc)
end Go.Proofs.YtjoicjgfgkpdjaaGreat
