/-
  Parts of the proof, put together: TourWalks0, TourWalks. No condition.
-/
import Derived.Test.YtammjnjpheobaaaGreatK30
set_option linter.unusedVariables false
set_option linter.unusedSimpArgs false
set_option linter.unnecessarySimpa false
set_option maxHeartbeats 4000000
namespace Go.Proofs.YtammjnjpheobaaaGreat
open Go.SL Go.Spc Go.Tup Go.Srt Go.Gr
def fcs (l:List Bool):List Value:=l.map Value.bool
theorem fcs_get {l:List Bool} {i:Nat} {x:Bool} (h:l[i]? =some x):(fcs l)[i]? =some (.bool x):=by unfold fcs;rw[List.getElem?_map,h];rfl
theorem fcs_set (l:List Bool) (i:Nat) (x:Bool):(fcs l).set i (.bool x)=fcs (l.set i x):=by unfold fcs;rw[List.map_set]
theorem fcs_len (l:List Bool):(fcs l).length=l.length:=by simp[fcs]
instance zero200:ZeroV Tryz.prog 47 (fcs (List.replicate 200 false)):=⟨.agg Tryz.zeroCells47,(by show Tryz.zeroCells47=_;kernel_rfl),Tryz.zeroValue47⟩
structure SnOk (b:List T5) (k:Nat) (sn:List Bool):Prop where
 len:sn.length=200
 is_:∀x:Nat,x<200→(sn[x]? =some true↔∃j u,j<k∧b[j]? =some u∧u.c0=(x:Int))
theorem SnOk.start (b:List T5):SnOk b 0 (List.replicate 200 false):=by
 refine⟨List.length_replicate,fun x hx=>⟨fun h=> ?_,fun ⟨j,_,hj,_⟩=>absurd hj (Nat.not_lt_zero _)⟩⟩
 rw[List.getElem?_replicate,if_pos hx] at h;cases h
theorem SnOk.no {es:List IE} {b:List T5} {k:Nat} {sn:List Bool} {t:T5} (h:SnOk b k sn) (hs:StepOk es b k t) {x:Nat} (hx:x<200) (ht:t.c0=(x:Int)):sn[x]? =some false:=by
 have hxl:x<sn.length:=by rw[h.len];exact hx
 have h1:sn[x]? =some sn[x]:=List.getElem?_eq_getElem hxl
 rw[h1]
 cases hb:sn[x] with
 |false=>rfl
 |true=>
  rw[hb] at h1
  obtain⟨j,u,hj,hu,hc⟩:=(h.is_ x hx).1 h1
  have:=hs.once j u hu (hc.trans ht.symm)
  omega
theorem SnOk.put {b:List T5} {k:Nat} {sn:List Bool} {t:T5} (h:SnOk b k sn) (hbk:b[k]? =some t) {x:Nat} (hx:x<200) (ht:t.c0=(x:Int)):SnOk b (k+1) (sn.set x true):=by
 refine⟨by rw[List.length_set];exact h.len,fun y hy=> ?_⟩
 by_cases hxy:x=y
 ·subst hxy
  rw[List.getElem?_set_self (by rw[h.len];exact hx)]
  exact⟨fun _=>⟨k,t,by omega,hbk,ht⟩,fun _=>rfl⟩
 ·rw[List.getElem?_set_ne hxy,h.is_ y hy]
  constructor
  ·rintro⟨j,u,a1,a2,a3⟩
   exact⟨j,u,by omega,a2,a3⟩
  ·rintro⟨j,u,a1,a2,a3⟩
   refine⟨j,u,?_,a2,a3⟩
   rcases Nat.lt_or_ge j k with h1|h1
   ·exact h1
   ·have:j=k:=by omega
    subst this
    rw[hbk] at a2;cases a2
    omega
structure TwX where
 k:Nat
 sn:List Bool
theorem TourWalks_ct (n:Int) (p:Option Addr) (m cap:Nat) (es:List IE) (c:Chunk) (hv:Rw ecl 2 p m es c) (hm:m≤maxLen):
  CtQ Tryz.prog 4 [gv n p m cap] [c] (.bool true):=by
 have hflv:∀f:Fl,flv f= .agg #[.int .i64 (f.first:Int),.int .i64 (f.blocks:Int),.int .i64 (f.width:Int),.int .i64 (f.count:Int)]:=fun _=>rfl
 have hAw:=awake16ct
 have hFo:=Formed03ct n p m cap es c hv hm
 have hFe:=Few03ct n p m cap 60 100 hm
 have hel:=hv.1
 have hWk:Ct Tryz.prog 14 [.int .i64 9] [] fun v H'=>
  ∃bw bd ba bs cd ca cs,v=pv bw∧H'=[wrow bw bd ba bs,cd,ca,cs]∧Wc bd ba bs (wk0 10 9000 90) cd ca cs:=work16ct 9 (by omega)
 unfold gv at hFo hFe⊢
 cases hfm:formedB n es with
 |false=>
  rw[hfm] at hFo
  refine Ct.intro Tryz.func4 rfl Tryz.ntmps4 (nle rfl) fun w0=> ?_;dsimp only[argSlots,Nat.reduceAdd]
  repeat(first|(refine st ?_;intros)|refine G.draw [] (h:= ?_)|(refine cq hAw ?_)|(refine cq hFo ?_)|(refine cq hFe ?_))
  (refine Dn.post (Hr:=[c]) Tryz.results4 (hR:= ?_);exact⟨rfl,rfl⟩)
 |true=>
 rw[hfm] at hFo
 by_cases hfew:n≤60∧(m:Int)≤100
 rotate_left
 ·rw[dec_false hfew] at hFe
  refine Ct.intro Tryz.func4 rfl Tryz.ntmps4 (nle rfl) fun w0=> ?_;dsimp only[argSlots,Nat.reduceAdd]
  repeat(first|(refine st ?_;intros)|refine G.draw [] (h:= ?_)|(refine cq hAw ?_)|(refine cq hFo ?_)|(refine cq hFe ?_))
  (refine Dn.post (Hr:=[c]) Tryz.results4 (hR:= ?_);exact⟨rfl,rfl⟩)
 rw[dec_true hfew] at hFe
 obtain⟨h0,hin⟩:=formed_in hfm
 obtain⟨N,rfl⟩:∃N:Nat,n=(N:Int):=⟨n.toNat,by omega⟩
 refine Ct.intro Tryz.func4 rfl Tryz.ntmps4 (nle rfl) fun w0=> ?_;dsimp only[argSlots,Nat.reduceAdd]
 repeat(first|(refine st ?_;intros)|refine G.draw [] (h:= ?_)|(refine cq hAw ?_)|(refine cq hFo ?_)|(refine cq hFe ?_))
 rename_i b1
 refine R.call (hct:=hWk) (h:= ?_)
 rintro _ _ ⟨bw,bd,ba,bs,cd,ca,cs,rfl,rfl,hW⟩
 try dsimp only[List.cons_append,List.nil_append]
 have hLa:=laid16ct bw bd ba bs 90 (by omega) cd ca cs hW N (by omega) p m cap es c hv (by omega) hin
 have hPt:=parts16ct N (by omega) p m cap es c hv (by omega) hin
 unfold gv at hLa hPt
 repeat(first|(refine st ?_;intros)|refine G.draw [] (h:= ?_)|(refine cq hAw ?_)|(refine cq hFo ?_)|(refine cq hFe ?_))
 refine R.call (hct:=hLa) (h:= ?_)
 rintro _ _ ⟨cd1,ca1,cs1,W,f,h,lab,fl,rfl,rfl,hW1,hL,hfl1⟩
 try dsimp only[List.cons_append,List.nil_append]
 obtain⟨r,b,hpa⟩:=parts_of hL.labs hL.fors
 have hbl:=hpa.b_len hin (by omega)
 have hT:=Tours_laid bw bd ba bs 90 (by omega) N (by omega) es (by omega) hin W cd1 ca1 cs1 hW1 f h lab fl hL hpa
 rw[hflv,hflv] at hT
 rw[hflv,hflv]
 repeat(first|(refine st ?_;intros)|refine G.draw [] (h:= ?_)|(refine cq hAw ?_)|(refine cq hFo ?_)|(refine cq hFe ?_))
 refine R.call (hct:=hT) (h:= ?_)
 rintro _ _ ⟨x,er,cd3,ca3,cs3,W3,rfl,rfl,hW3,hs3,hr3,hu3,hn3,ha3,hf3,hc⟩
 dsimp only[List.cons_append,List.nil_append]
 rcases hc with⟨rfl,hinX,hxw,hxc,hl3⟩|⟨_,_,h6,_⟩
 rotate_left
 ·exact absurd hfl1 h6
 obtain⟨LvX,hfoX,hsubX⟩:=hinX
 have hLi:=List_ct bw bd ba bs W3 cd3 ca3 cs3 hW3 x b LvX hfoX hsubX (by rw[hs3,hr3,hu3];omega) (hf3 hfl1) (by omega) (by omega)
 rw[hflv x,hxc,hxw] at hLi
 rw[hflv x,hxc,hxw]
 repeat(first|(refine st ?_;intros)|refine G.draw [] (h:= ?_)|(refine cq hAw ?_)|(refine cq hFo ?_)|(refine cq hFe ?_))
 refine R.call (hct:=hLi) (h:= ?_)
 rintro _ _ ⟨cd4,ca4,W4,po,oc,cho,rfl,rfl,hW4,hE4,hd4,hl4,hg4,hVo⟩
 try dsimp only[List.cons_append,List.nil_append]
 repeat(first|(refine st ?_;intros)|refine G.draw [] (h:= ?_)|(refine cq hAw ?_)|(refine cq hFo ?_)|(refine cq hFe ?_))
 refine R.call (hct:=hPt) (h:= ?_)
 rintro _ _ ⟨pa,ka,cha,pb,nb,kb,chb,lab',fl',rfl,rfl,hva,hvb,hlab',hfl',hnm⟩
 try dsimp only[List.cons_append,List.nil_append]
 obtain rfl:=labs_one hL.labs hlab'
 obtain rfl:=fors_one hL.fors hfl'
 have hnb:(forT (edT es) fl).length=nb:=hvb.1
 have hbn:b.length=2*nb:=by rw[hpa.len_b hin,hnb]
 have hw2:IntKind.wrap .i64 ((2:Int)*(nb:Int))=(b.length:Int):=by rw[wrap_i64 (by omega),hbn];omega
 have hokb:=hpa.tour_ok hin (by omega) (by omega)
 repeat(first|(refine st ?_;intros)|refine G.draw [] (h:= ?_)|(refine cq hAw ?_)|(refine cq hFo ?_)|(refine cq hFe ?_))
 rename_i b13
 refine G.loop (X:=TwX) (fun x=>x.k≤b.length∧SnOk b x.k x.sn) (fun x=>[(14,.int .i64 (x.k:Int)),(13,pv b13),(12,.slice pb nb kb),(9,.slice po b.length oc),(1,pv b1)])
  (fun x=>[[(b13,row (fcs x.sn) 47)],chb,cho,c,[(b1,row [.int .i64 (N:Int),.slice p m cap] 37)]]) (fun x=>b.length-x.k) ⟨0,List.replicate 200 false⟩ ⟨Nat.zero_le _,SnOk.start b⟩ (by repeat(first|exact trivial|refine⟨rfl,?_⟩)) (by repeat(first|exact Split.nil|(apply Split.cons;·(first|exact Take.nil|(repeat(first|exact Take.here|apply Take.there)))))) ?_
 rintro⟨k,sn⟩ ⟨hk,hsn⟩
 dsimp only at hk hsn⊢
 by_cases hlk:k<b.length
 ·obtain⟨bo,of,cc,T',fz,rfl,rfl,_,hget⟩:=(RV.rw (RV.vec hVo)).pos tcells_len (by omega)
  obtain⟨t,ht⟩:∃t,b[k]? =some t:=⟨_,List.getElem?_eq_getElem hlk⟩
  have hst:=hpa.step_ok hin ht
  obtain⟨d,hd,hev,hod⟩:=hst.edg
  obtain⟨n1,n2⟩:=hst.num
  have hdl:=(List.getElem?_eq_some_iff.1 hd).1
  obtain⟨be,oe,ce,Te,fe,rfl,rfl,hcute,hgete⟩:=hv.pos ecl_len (by omega)
  obtain⟨y,hy⟩:∃y:Nat,t.c0=(y:Int):=⟨t.c0.toNat,by omega⟩
  have hy200:y<200:=by omega
  have hno:=fcs_get (hsn.no hst hy200 hy)
  have hput:=hsn.put ht hy200 hy
  have hset:(fcs sn).set y (.bool true)=fcs (sn.set y true):=fcs_set _ _ _
  have hlenf:(fcs sn).length=200:=by rw[fcs_len];exact hsn.len
  have hd2:es[y/2]? =some d:=by rw[←hd];congr 1;omega
  have q1:=hcute _ _ hd2
  unfold ecl at q1
  have t0:cc[of+k*5]? =some (.int .i64 (y:Int)):=by rw[←hy];exact hget k 0 _ _ ht rfl
  have t1:cc[of+k*5+1]? =some (.int .i64 t.c1):=hget k 1 _ _ ht rfl
  have t2:cc[of+k*5+2]? =some (.int .i64 t.c2):=hget k 2 _ _ ht rfl
  have t3:cc[of+k*5+3]? =some (.int .i64 t.c3):=hget k 3 _ _ ht rfl
  have t4:cc[of+k*5+4]? =some (.int .i64 t.c4):=hget k 4 _ _ ht rfl
  have e1:IntKind.wrap .i64 ((k:Int)+1)=((k+1:Nat):Int):=by rw[wrap_i64 (by omega)];omega
  have d1:(y:Int).tdiv 2=((y/2:Nat):Int):=by rw[Int.tdiv_eq_ediv_of_nonneg (by omega)];omega
  have d2:IntKind.wrap .i64 ((y:Int).tdiv 2)=((y/2:Nat):Int):=by rw[d1];exact wrap_i64 (by omega)
  have d3:(y:Int).tmod 2=((y%2:Nat):Int):=by rw[Int.tmod_eq_emod_of_nonneg (by omega)];omega
  have hpr:(k=0∧t.c4=0∧t.c1=t.c3)∨∃u,0<k∧b[k-1]? =some u∧((u.c3≠t.c3∧t.c4=0∧t.c1=t.c3)∨(u.c3=t.c3∧t.c4=u.c4+1∧t.c1=u.c2)):=by
   by_cases hk0:k=0
   ·have:=hst.fst (.inl hk0)
    exact .inl ⟨hk0,this⟩
   ·have hu:b[k-1]? =some b[k-1]:=List.getElem?_eq_getElem (by omega)
    refine .inr ⟨_,by omega,hu,?_⟩
    by_cases h3:b[k-1].c3=t.c3
    ·exact .inr ⟨h3,hst.mid (by omega) _ hu h3⟩
    ·exact .inl ⟨h3,hst.fst (.inr ⟨_,hu,h3⟩)⟩
  have hnx:(k+1=b.length∧t.c2=t.c3)∨∃w,k+1<b.length∧b[k+1]? =some w∧((w.c3≠t.c3∧t.c2=t.c3)∨w.c3=t.c3):=by
   by_cases hk1:k+1=b.length
   ·exact .inl ⟨hk1,hst.lst (.inl hk1)⟩
   ·have hu:b[k+1]? =some b[k+1]:=List.getElem?_eq_getElem (by omega)
    refine .inr ⟨_,by omega,hu,?_⟩
    by_cases h3:b[k+1].c3=t.c3
    ·exact .inr h3
    ·exact .inl ⟨h3,hst.lst (.inr ⟨_,hu,h3⟩)⟩
  have hpar:(y%2=0∧t.c1=d.1∧t.c2=d.2)∨(y%2=1∧t.c1=d.2∧t.c2=d.1):=by
   rcases Nat.mod_two_eq_zero_or_one y with h|h
   ·exact .inl ⟨h,hev (by omega)⟩
   ·exact .inr ⟨h,hod (by omega)⟩
  have hi4:inI64 t.c4:=(okT_cols (hokb t (List.mem_of_getElem? ht))).2.2.2.2
  have hround:SnOk b (k+1) (sn.set y true):=hput
  repeat(first|(refine stn ?_;intros)|refine G.draw [] (h:= ?_)|(refine cq hAw ?_)|(refine cq hFo ?_)|(refine cq hFe ?_))
  apply G.seq
  repeat(first|(refine stn ?_;intros)|refine G.draw [] (h:= ?_)|(refine cq hAw ?_)|(refine cq hFo ?_)|(refine cq hFe ?_))
  apply G.seq
  repeat(first|(refine stn ?_;intros)|refine G.draw [] (h:= ?_)|(refine cq hAw ?_)|(refine cq hFo ?_)|(refine cq hFe ?_))
  apply G.seq
  repeat(first|(refine stn ?_;intros)|refine G.draw [] (h:= ?_)|(refine cq hAw ?_)|(refine cq hFo ?_)|(refine cq hFe ?_))
  refine G.cut (D':=[]) (X:=Bool) (fun v=>(v=true∧t.c4=0∧t.c1=t.c3)∨(v=false∧∃u,0<k∧b[k-1]? =some u∧t.c4=u.c4+1∧t.c1=u.c2)) (fun v=>[(15,.bool v),(14,.int .i64 (k:Int)),(13,pv b13),(12,.slice pb nb kb),(9,.slice (some ⟨bo,of,none⟩) b.length oc),(1,pv b1)])
   (fun _=>[[(b13,row (fcs sn) 47)],chb,[(bo,rowf cc T' fz)],[(be,rowf ce Te fe)],[(b1,row [.int .i64 (N:Int),.slice (some ⟨be,oe,none⟩) m cap] 37)]]) ?_ ?_
  ·rcases hpr with⟨hk0,hf4,hf1⟩|⟨u,hk0,hu,⟨hf3,hf4,hf1⟩|⟨hf3,hf4,hf1⟩⟩
   ·repeat(first|(refine st ?_;intros)|refine G.draw [] (h:= ?_)|(refine cq hAw ?_)|(refine cq hFo ?_)|(refine cq hFe ?_))
    exact Dn.meet true (.inl ⟨rfl,hf4,hf1⟩)
   ·have e2:IntKind.wrap .i64 ((k:Int)-1)=((k-1:Nat):Int):=by rw[wrap_i64 (by omega)];omega
    have u3:cc[of+(k-1)*5+3]? =some (.int .i64 u.c3):=hget (k-1) 3 _ _ hu rfl
    have h3:dec (u.c3≠t.c3)=true:=dec_true hf3
    repeat(first|(refine st ?_;intros)|refine G.draw [] (h:= ?_)|(refine cq hAw ?_)|(refine cq hFo ?_)|(refine cq hFe ?_))
    try rw[h3]
    exact Dn.meet true (.inl ⟨rfl,hf4,hf1⟩)
   ·have e2:IntKind.wrap .i64 ((k:Int)-1)=((k-1:Nat):Int):=by rw[wrap_i64 (by omega)];omega
    have u3:cc[of+(k-1)*5+3]? =some (.int .i64 u.c3):=hget (k-1) 3 _ _ hu rfl
    have h3:dec (u.c3≠t.c3)=false:=dec_false fun h=>h hf3
    repeat(first|(refine st ?_;intros)|refine G.draw [] (h:= ?_)|(refine cq hAw ?_)|(refine cq hFo ?_)|(refine cq hFe ?_))
    try rw[h3]
    exact Dn.meet false (.inr ⟨rfl,u,hk0,hu,hf4,hf1⟩)
  intro v1 hv1
  try dsimp only
  repeat(first|(refine stn ?_;intros)|refine G.draw [] (h:= ?_)|(refine cq hAw ?_)|(refine cq hFo ?_)|(refine cq hFe ?_))
  refine G.cut (D':=[]) (X:=Bool) (fun v=>v=true→t.c2=t.c3) (fun v=>[(16,.bool v),(15,.bool v1),(14,.int .i64 (k:Int)),(13,pv b13),(12,.slice pb nb kb),(9,.slice (some ⟨bo,of,none⟩) b.length oc),(1,pv b1)])
   (fun _=>[[(b13,row (fcs sn) 47)],chb,[(bo,rowf cc T' fz)],[(be,rowf ce Te fe)],[(b1,row [.int .i64 (N:Int),.slice (some ⟨be,oe,none⟩) m cap] 37)]]) ?_ ?_
  ·rcases hnx with⟨hk1,hl2⟩|⟨w,hk1,hw,⟨hw3,hl2⟩|hw3⟩
   ·repeat(first|(refine st ?_;intros)|refine G.draw [] (h:= ?_)|(refine cq hAw ?_)|(refine cq hFo ?_)|(refine cq hFe ?_))
    exact Dn.meet true (fun _=>hl2)
   ·have w3:cc[of+(k+1)*5+3]? =some (.int .i64 w.c3):=hget (k+1) 3 _ _ hw rfl
    have h3:dec (w.c3≠t.c3)=true:=dec_true hw3
    repeat(first|(refine st ?_;intros)|refine G.draw [] (h:= ?_)|(refine cq hAw ?_)|(refine cq hFo ?_)|(refine cq hFe ?_))
    try rw[h3]
    exact Dn.meet true (fun _=>hl2)
   ·have w3:cc[of+(k+1)*5+3]? =some (.int .i64 w.c3):=hget (k+1) 3 _ _ hw rfl
    have h3:dec (w.c3≠t.c3)=false:=dec_false fun h=>h hw3
    repeat(first|(refine st ?_;intros)|refine G.draw [] (h:= ?_)|(refine cq hAw ?_)|(refine cq hFo ?_)|(refine cq hFe ?_))
    try rw[h3]
    exact Dn.meet false (fun h=>absurd h (by decide))
  intro v2 hv2
  try dsimp only
  repeat(first|(refine stn ?_;intros)|refine G.draw [] (h:= ?_)|(refine cq hAw ?_)|(refine cq hFo ?_)|(refine cq hFe ?_))
  apply G.seq
  repeat(first|(refine stn ?_;intros)|refine G.draw [] (h:= ?_)|(refine cq hAw ?_)|(refine cq hFo ?_)|(refine cq hFe ?_))
  refine G.cut (D':=[]) (X:=Unit) (fun _=>True) (fun _=>[(17,.int .i64 (y:Int)),(14,.int .i64 (k:Int)),(13,pv b13),(12,.slice pb nb kb),(9,.slice (some ⟨bo,of,none⟩) b.length oc),(1,pv b1)])
   (fun _=>[[(b13,row (fcs sn) 47)],chb,[(bo,rowf cc T' fz)],[(be,rowf ce Te fe)],[(b1,row [.int .i64 (N:Int),.slice (some ⟨be,oe,none⟩) m cap] 37)]]) ?_ ?_
  ·rcases hv1 with⟨rfl,hf4,hf1⟩|⟨rfl,u,hk0,hu,hf4,hf1⟩
   ·cases v2 with
    |true=>
     have hl2:=hv2 rfl
     repeat(first|(refine st ?_;intros)|refine G.draw [] (h:= ?_)|(refine cq hAw ?_)|(refine cq hFo ?_)|(refine cq hFe ?_))
     exact Dn.meet () trivial
    |false=>
     repeat(first|(refine st ?_;intros)|refine G.draw [] (h:= ?_)|(refine cq hAw ?_)|(refine cq hFo ?_)|(refine cq hFe ?_))
     exact Dn.meet () trivial
   ·have e2:IntKind.wrap .i64 ((k:Int)-1)=((k-1:Nat):Int):=by rw[wrap_i64 (by omega)];omega
    have u4:cc[of+(k-1)*5+4]? =some (.int .i64 u.c4):=hget (k-1) 4 _ _ hu rfl
    have u2:cc[of+(k-1)*5+2]? =some (.int .i64 u.c2):=hget (k-1) 2 _ _ hu rfl
    have e3:IntKind.wrap .i64 (u.c4+1)=t.c4:=by rw[←hf4];exact wrap_i64 hi4
    cases v2 with
    |true=>
     have hl2:=hv2 rfl
     repeat(first|(refine st ?_;intros)|refine G.draw [] (h:= ?_)|(refine cq hAw ?_)|(refine cq hFo ?_)|(refine cq hFe ?_))
     exact Dn.meet () trivial
    |false=>
     repeat(first|(refine st ?_;intros)|refine G.draw [] (h:= ?_)|(refine cq hAw ?_)|(refine cq hFo ?_)|(refine cq hFe ?_))
     exact Dn.meet () trivial
  intro _ _
  try dsimp only
  rcases hpar with⟨hy2,g1,g2⟩|⟨hy2,g1,g2⟩
  ·repeat(first|(refine st ?_;intros)|refine G.draw [] (h:= ?_)|(refine cq hAw ?_)|(refine cq hFo ?_)|(refine cq hFe ?_))
   exact Dn.round ⟨k+1,sn.set y true⟩ ⟨hlk,hround⟩ (by dsimp only;omega)
  ·repeat(first|(refine st ?_;intros)|refine G.draw [] (h:= ?_)|(refine cq hAw ?_)|(refine cq hFo ?_)|(refine cq hFe ?_))
   exact Dn.round ⟨k+1,sn.set y true⟩ ⟨hlk,hround⟩ (by dsimp only;omega)
 obtain rfl:k=b.length:=by omega
 repeat(first|(refine st ?_;intros)|refine G.draw [] (h:= ?_)|(refine cq hAw ?_)|(refine cq hFo ?_)|(refine cq hFe ?_))
 refine G.loop (X:=Nat) (fun j=>j≤nb) (fun j=>[(19,.int .i64 (j:Int)),(13,pv b13),(12,.slice pb nb kb)])
  (fun _=>[[(b13,row (fcs sn) 47)],chb,c]) (fun j=>nb-j) 0 (Nat.zero_le _) (by repeat(first|exact trivial|refine⟨rfl,?_⟩)) (by repeat(first|exact Split.nil|(apply Split.cons;·(first|exact Take.nil|(repeat(first|exact Take.here|apply Take.there)))))) ?_
 intro j hj
 by_cases hlj:j<nb
 ·obtain⟨bo,of,cc,T',fz,rfl,rfl,_,hget⟩:=(RV.rw hvb).pos tcells_len (by omega)
  obtain⟨t,ht⟩:∃t,(forT (edT es) fl)[j]? =some t:=⟨_,List.getElem?_eq_getElem (by omega)⟩
  have htm:=List.mem_of_getElem? ht
  obtain⟨i,d,hd,_,rfl⟩:=hpa.edge htm
  have hil:=(List.getElem?_eq_some_iff.1 hd).1
  obtain⟨⟨u1,hu1,hc1⟩,u2,hu2,hc2⟩:=hpa.both_b hin htm
  dsimp only at hc1 hc2
  obtain⟨j1,hj1⟩:=List.mem_iff_getElem?.1 hu1
  obtain⟨j2,hj2⟩:=List.mem_iff_getElem?.1 hu2
  have s1:sn[2*i]? =some true:=(hsn.is_ (2*i) (by omega)).2 ⟨j1,u1,(List.getElem?_eq_some_iff.1 hj1).1,hj1,by omega⟩
  have s2:sn[2*i+1]? =some true:=(hsn.is_ (2*i+1) (by omega)).2 ⟨j2,u2,(List.getElem?_eq_some_iff.1 hj2).1,hj2,by omega⟩
  have f1:=fcs_get s1
  have f2:=fcs_get s2
  have hlenf:(fcs sn).length=200:=by rw[fcs_len];exact hsn.len
  have t0:cc[of+j*5]? =some (.int .i64 (i:Int)):=hget j 0 _ _ ht rfl
  have e1:IntKind.wrap .i64 ((2:Int)*(i:Int))=((2*i:Nat):Int):=by rw[wrap_i64 (by omega)];omega
  have e2:IntKind.wrap .i64 (((2*i:Nat):Int)+1)=((2*i+1:Nat):Int):=by rw[wrap_i64 (by omega)];omega
  repeat(first|(refine st ?_;intros)|refine G.draw [] (h:= ?_)|(refine cq hAw ?_)|(refine cq hFo ?_)|(refine cq hFe ?_))
  exact Dn.round (j+1) hlj (by omega)
 obtain rfl:j=nb:=by omega
 repeat(first|(refine st ?_;intros)|refine G.draw [] (h:= ?_)|(refine cq hAw ?_)|(refine cq hFo ?_)|(refine cq hFe ?_))
 (refine Dn.post (Hr:=[c]) Tryz.results4 (hR:= ?_);exact⟨rfl,rfl⟩)
end Go.Proofs.YtammjnjpheobaaaGreat
