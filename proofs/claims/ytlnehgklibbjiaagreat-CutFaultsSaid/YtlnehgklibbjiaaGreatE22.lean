/-
  Parts of the proof, put together: Look2, Look3, Ord, Cut1. No condition.
-/
import Derived.Test.YtlnehgklibbjiaaGreatE21
set_option linter.unusedVariables false
set_option linter.unusedSimpArgs false
set_option linter.unnecessarySimpa false
set_option maxHeartbeats 4000000
namespace Go.Proofs.YtlnehgklibbjiaaGreat
open Go.SL Go.Spc Go.Tup Go.Srt
theorem setL5 {c:List Value} (h:c.length=5):setL [.int .i64 0,.int .i64 0,.int .i64 0,.int .i64 0,.int .i64 0] 0 c=c:=by
 rw[setL_eq _ _ _ (by simp[h]),h];simp
structure LkLX where
 cd:Chunk
 ca:Chunk
 W:Wk
 s:LkS
theorem LkOk.more {bs:List T5} {s s':LkS} {k:Int} (h:LkOk bs s k) (hc:s.begun=true→s.ok=true∧s.t.c0<k) (hb:s'.begun=true)
  (hm:(s'.pos=s.pos+1∧s'.ok=true∧bs[s.pos]? =some s'.t)∨(s.pos=bs.length∧s'.pos=s.pos∧s'.ok=false)):LkOk bs s' k:=by
 have ha:=h.all hc
 refine⟨fun h1=>(by rw[hb] at h1;cases h1),fun _ ho=> ?_,fun _ ho=> ?_⟩
 ·rcases hm with⟨h1,_,h3⟩|⟨_,_,h3⟩
  ·exact⟨s.pos,h1,h3,ha⟩
  ·rw[h3] at ho;cases ho
 ·rcases hm with⟨_,h2,_⟩|⟨h1,h2,_⟩
  ·rw[h2] at ho;cases ho
  ·refine⟨h2.trans h1,fun u hu=> ?_⟩
   obtain⟨j,hj,rfl⟩:=List.mem_iff_getElem.1 hu
   exact ha j _ (by omega) (List.getElem?_eq_getElem hj)
theorem LkOk.hit {bs:List T5} {s:LkS} {k:Int} (h:LkOk bs s k) (hr:bs.Pairwise fun a c=>a.c0<c.c0) (hb:s.begun=true) (ho:s.ok=true) (hk:s.t.c0=k) (v:Nat):lkV bs k v=s.t.col v:=by
 obtain⟨p,_,h2,_⟩:=h.yes hb ho
 exact lkV_some hr (List.mem_of_getElem? h2) hk
theorem LkOk.over {bs:List T5} {s:LkS} {k:Int} (h:LkOk bs s k) (hr:bs.Pairwise fun a c=>a.c0<c.c0) (hb:s.begun=true) (ho:s.ok=true) (hk:k<s.t.c0) (v:Nat):lkV bs k v= -1:=by
 obtain⟨p,_,h2,h3⟩:=h.yes hb ho
 obtain⟨hp,h4⟩:=List.getElem?_eq_some_iff.1 h2
 refine lkV_none fun u hu=> ?_
 obtain⟨j,hj,rfl⟩:=List.mem_iff_getElem.1 hu
 rcases Nat.lt_trichotomy j p with h5|h5|h5
 ·have:=h3 j _ h5 (List.getElem?_eq_getElem hj);omega
 ·subst h5;rw[h4];omega
 ·have:=List.pairwise_iff_getElem.1 hr p j hp hj h5
  rw[h4] at this;omega
theorem LkOk.out {bs:List T5} {s:LkS} {k:Int} (h:LkOk bs s k) (hb:s.begun=true) (ho:s.ok=false) (v:Nat):lkV bs k v= -1:=
 lkV_none fun u hu=>by have:=(h.no hb ho).2 u hu;omega
theorem look_ct (bw bd ba bs bl bx key value to:Nat) (hkey:key<5) (hval:value<5) (hto:to<5) (W:Wk) (cd ca cs:Chunk) (h:Wc bd ba bs W cd ca cs) (fb:Fl) (bts:List T5) (LvB:List Ext) (hfo:FileOk W.δ.disk W.δ.size LvB fb bts) (hsub:∀e∈LvB,e∈W.live) (hrise:bts.Pairwise fun a c=>a.c0<c.c0)
  (g:Gr) (Gs:List Gr) (hg:W.α.gs.Perm (g::Gs)) (s:LkS) (hrd:IsRd bw bx W fb bts g s.pos s.cx s.cb) (hpos:s.pos≤fb.count) (t:T5) (hs:LkOk bts s (t.col key)) (hany:s.any=true→s.last≤t.col key) (hac:W.δ.acts≤100000000000) (hcn:fb.count≤1000000):
  Ct Tryz.prog 95 [pv bl,tv t] [lkRow bl bx key value to s,wrow bw bd ba bs,cd,ca,cs,s.cx,s.cb] fun v H'=>
   ∃cd' ca' W' s' u k e,v= .tuple #[tv u,.bool k,.int .i64 e]∧H'=[lkRow bl bx key value to s',wrow bw bd ba bs,cd',ca',cs,s'.cx,s'.cb]∧Wc bd ba bs W' cd' ca' cs∧Ev W W' (nblocks W.δ.size fb.width s'.pos-nblocks W.δ.size fb.width s.pos) 0∧W'.δ.disk=W.δ.disk∧W'.σ=W.σ∧W'.live=W.live∧
    s.pos≤s'.pos∧s'.pos≤fb.count∧
    ((e=0∧k=true∧u=lookF bts key value to t∧W'.α.gs.Perm (g::Gs)∧IsRd bw bx W' fb bts g s'.pos s'.cx s'.cb∧LkOk bts s' (t.col key)∧s'.any=true∧s'.last=t.col key)∨
     (e=6∧W.δ.fault≠-1∧W'.α.gs.Perm Gs∧ClosedRd bx s'.cx)):=by
 have hlen:=hfo.len
 have hnb:=nblocks_le (n:=fb.count) (holds_pos h.dev.num.1.1 hfo.w1 hfo.w2)
 have htv:tv t= .agg #[.int .i64 t.c0,.int .i64 t.c1,.int .i64 t.c2,.int .i64 t.c3,.int .i64 t.c4]:=rfl
 have htc:tcells t=[.int .i64 t.c0,.int .i64 t.c1,.int .i64 t.c2,.int .i64 t.c3,.int .i64 t.c4]:=rfl
 have hq:=tcol_cell t hkey
 have hset:∀x,(tcells t).set to (.int .i64 x)=tcells (setc t to x):=fun x=>setc_cells t hto x
 have hlF:∀u:T5,u=setc t to (lkV bts (t.col key) value)→.agg (tcells (setc t to (lkV bts (t.col key) value))).toArray=tv (lookF bts key value to t):=fun _ _=>rfl
 have hlF:=hlF _ rfl
 have hbk: .agg (tcells t).toArray=tv t:=rfl
 generalize hk:t.col key=k at*
 rw[htv]
 rw[htc] at hq hset hbk
 generalize hcc:([.int .i64 t.c0,.int .i64 t.c1,.int .i64 t.c2,.int .i64 t.c3,.int .i64 t.c4]:List Value)=cc at*
 have hcl:cc.length=5:=by rw[←hcc];rfl
 have hbox:(Value.agg cc.toArray).cells=cc.toArray:=rfl
 have hld:(cc.drop 0).take 5=cc:=by rw[List.drop_zero,List.take_of_length_le (by omega)]
 have hca:cc.all Value.oneCell'=true:=by rw[←hcc];rfl
 have hs5:=setL5 hcl
 obtain⟨pos,ok,begun,tb,last,any,cx,cb,op⟩:=s
 unfold lkRow
 dsimp only at hrd hpos hs hany⊢
 have hnl:any=true→¬k<last:=fun h=>by have:=hany h;omega
 have hs1:LkOk bts ⟨pos,ok,begun,tb,k,true,cx,cb,op⟩ k:=⟨hs.nb,hs.yes,hs.no⟩
 cases any
 case' true=>have hnl1:=hnl rfl
 all_goals
  refine Ct.intro Tryz.func95 rfl Tryz.ntmps95 (nle rfl) fun w0=> ?_;dsimp only[argSlots,Nat.reduceAdd]
  repeat(first|(refine st ?_;intros)|refine G.draw [] (h:= ?_))
  rename_i b3 b4
  refine G.loop (X:=LkLX) (fun x=>Wc bd ba bs x.W x.cd x.ca cs∧Ev W x.W (nblocks W.δ.size fb.width x.s.pos-nblocks W.δ.size fb.width pos) 0∧x.W.δ.disk=W.δ.disk∧x.W.σ=W.σ∧x.W.live=W.live∧pos≤x.s.pos∧x.s.pos≤fb.count∧x.W.α.gs.Perm (g::Gs)∧IsRd bw bx x.W fb bts g x.s.pos x.s.cx x.s.cb∧LkOk bts x.s k∧x.s.any=true∧x.s.last=k)
   (fun _=>[(7,.int .i64 k),(4,pv b4),(3,pv b3),(0,pv bl)])
   (fun x=>[[(b4,row [.int .i64 0,.int .i64 0,.int .i64 0,.int .i64 0,.int .i64 0] 47)],[(b3,row cc 47)],[(bl,row [.func (.func 52) #[pv bx] #[],.int .i64 x.s.t.c0,.int .i64 x.s.t.c1,.int .i64 x.s.t.c2,.int .i64 x.s.t.c3,.int .i64 x.s.t.c4,.bool x.s.ok,.bool x.s.begun,.int .i64 (key:Int),.int .i64 (value:Int),.int .i64 (to:Int),.int .i64 x.s.last,.bool x.s.any] 149)],wrow bw bd ba bs,x.cd,x.ca,cs,x.s.cx,x.s.cb])
   (fun x=>(fb.count-x.s.pos)+(if x.s.begun=true∧x.s.ok=false then 0 else 1)) ⟨cd,ca,W,⟨pos,ok,begun,tb,k,true,cx,cb,op⟩⟩
   ⟨h,(Ev.refl W).weak (Nat.zero_le _) (Nat.le_refl _),rfl,rfl,rfl,Nat.le_refl _,hpos,hg,hrd,hs1,rfl,rfl⟩ (body:= ?_)
  rintro⟨cd2,ca2,W2,⟨pos2,ok2,begun2,tb2,last2,any2,cx2,cb2,op2⟩⟩ ⟨hW2,hE2,hd2,hσ2,hl2,hpp2,hpos2,hg2,hrd2,hk2,ha2,hla2⟩
  dsimp only at hW2 hE2 hd2 hσ2 hl2 hpp2 hpos2 hg2 hrd2 hk2 ha2 hla2⊢
  subst ha2 hla2
  have hac2:=hE2.acts.2
  have hm2:nblocks W.δ.size fb.width pos≤nblocks W.δ.size fb.width pos2:=nblocks_mono hpp2
  have hm3:nblocks W.δ.size fb.width pos2≤nblocks W.δ.size fb.width fb.count:=nblocks_mono hpos2
  have hgo:(begun2=true→ok2=true∧tb2.c0<last2)→Ct Tryz.prog 120 [pv bl] [[(bl,row [.func (.func 52) #[pv bx] #[],.int .i64 tb2.c0,.int .i64 tb2.c1,.int .i64 tb2.c2,.int .i64 tb2.c3,.int .i64 tb2.c4,.bool ok2,.bool begun2,.int .i64 (key:Int),.int .i64 (value:Int),.int .i64 (to:Int),.int .i64 last2,.bool true] 149)],wrow bw bd ba bs,cd2,ca2,cs,cx2,cb2] fun v H'=>
    ∃cd' ca' W' s' e,v= .int .i64 e∧H'=[[(bl,row [.func (.func 52) #[pv bx] #[],.int .i64 s'.t.c0,.int .i64 s'.t.c1,.int .i64 s'.t.c2,.int .i64 s'.t.c3,.int .i64 s'.t.c4,.bool s'.ok,.bool s'.begun,.int .i64 (key:Int),.int .i64 (value:Int),.int .i64 (to:Int),.int .i64 s'.last,.bool s'.any] 149)],wrow bw bd ba bs,cd',ca',cs,s'.cx,s'.cb]∧Wc bd ba bs W' cd' ca' cs∧Ev W W' (nblocks W.δ.size fb.width s'.pos-nblocks W.δ.size fb.width pos) 0∧W'.δ.disk=W.δ.disk∧W'.σ=W.σ∧W'.live=W.live∧
     s'.last=last2∧s'.any=true∧s'.begun=true∧pos≤s'.pos∧s'.pos≤fb.count∧
     ((e=0∧W'.α.gs.Perm (g::Gs)∧IsRd bw bx W' fb bts g s'.pos s'.cx s'.cb∧LkOk bts s' last2∧(fb.count-s'.pos)+(if s'.begun=true∧s'.ok=false then 0 else 1)<(fb.count-pos2)+1)∨
      (e=6∧W.δ.fault≠-1∧W'.α.gs.Perm Gs∧ClosedRd bx s'.cx)):=by
   intro hc
   have hM:=more_ct bw bd ba bs bl bx key value to W2 cd2 ca2 cs hW2 fb bts LvB (by rw[hd2,hE2.size];exact hfo) (fun e he=>by rw[hl2];exact hsub e he) hrise g Gs hg2 ⟨pos2,ok2,begun2,tb2,last2,true,cx2,cb2,op2⟩ hrd2 hpos2 (fun hb=>by
    obtain⟨h1,_⟩:=hc hb
    obtain⟨p,h2,h3,_⟩:=hk2.yes hb h1
    exact⟨h1,p,h2,h3⟩) (by omega)
   refine hM.mono ?_
   rintro v H' ⟨cd',ca',W',s',e,rfl,rfl,hW',hE',hd',hσ',hl',e1,e2,e3,hc'⟩
   rw[hE2.size] at hE'
   dsimp only at hE' e1 e2 hc'
   have hpp:pos2≤s'.pos∧s'.pos≤fb.count:=by
    rcases hc' with⟨_,_,_,⟨h1,h2,_⟩|⟨h1,h2,_⟩⟩|⟨_,_,_,_,h5,h6⟩
    ·omega
    ·omega
    ·exact⟨h6,h5⟩
   have hm4:nblocks W.δ.size fb.width pos2≤nblocks W.δ.size fb.width s'.pos:=nblocks_mono hpp.1
   refine⟨cd',ca',W',s',e,rfl,rfl,hW',(hE2.trans hE').weak (by omega) (Nat.le_refl _),hd'.trans hd2,hσ'.trans hσ2,hl'.trans hl2,e1,e2,e3,by omega,hpp.2,?_⟩
   rcases hc' with⟨rfl,g1,g2,g3⟩|⟨rfl,f1,f2,f3,_⟩
   ·refine .inl ⟨rfl,g1,g2,hk2.more hc e3 (by
     rcases g3 with⟨_,q1,q2,q3⟩|⟨q0,q1,q2⟩
     ·exact .inl ⟨q1,q2,q3⟩
     ·exact .inr ⟨by dsimp only;omega,q1,q2⟩),?_⟩
    rcases g3 with⟨q0,q1,q2,q3⟩|⟨q0,q1,q2⟩
    ·split<;>omega
    ·rw[if_pos ⟨e3,q2⟩];omega
   ·exact .inr ⟨rfl,fault_keep hE2 f1,f2,f3⟩
  have hout:∀x:Int,lkV bts last2 value=x→cc.set to (.int .i64 x)=tcells (setc t to (lkV bts last2 value)):=fun x hx=>by rw[hset,hx]
  cases begun2 with
  |false=>
   have hM:=hgo (fun h=>by cases h)
   have hms:(if(false:Bool)=true∧ok2=false then 0 else 1)=1:=if_neg (by simp)
   repeat(first|(refine st ?_;intros)|refine G.draw [] (h:= ?_))
   refine R.call (hct:=hM) (h:= ?_)
   rintro _ _ ⟨cd3,ca3,W3,⟨pos3,ok3,begun3,tb3,last3,any3,cx3,cb3,op3⟩,e,rfl,rfl,hW3,hE3,hd3,hσ3,hl3,hla3,han3,hbg3,hpp3,hpos3,hc3⟩
   try dsimp only[List.cons_append,List.nil_append]
   dsimp only at hW3 hE3 hd3 hσ3 hl3 hla3 han3 hbg3 hpp3 hpos3 hc3⊢
   rcases hc3 with⟨rfl,g1,g2,g3,g4⟩|⟨rfl,f1,f2,f3⟩
   ·repeat(first|(refine st ?_;intros)|refine G.draw [] (h:= ?_))
    refine Dn.round ⟨cd3,ca3,W3,⟨pos3,ok3,begun3,tb3,last3,any3,cx3,cb3,op3⟩⟩ ⟨hW3,hE3,hd3,hσ3,hl3,hpp3,hpos3,g1,g2,g3,han3,hla3⟩ (by dsimp only;rw[hms];exact g4)
   ·repeat(first|(refine st ?_;intros)|refine G.draw [] (h:= ?_))
    (refine Dn.post (Hr:=[[(bl,row [.func (.func 52) #[pv bx] #[],.int .i64 tb3.c0,.int .i64 tb3.c1,.int .i64 tb3.c2,.int .i64 tb3.c3,.int .i64 tb3.c4,.bool ok3,.bool begun3,.int .i64 (key:Int),.int .i64 (value:Int),.int .i64 (to:Int),.int .i64 last3,.bool any3] 149)],wrow bw bd ba bs,cd3,ca3,cs,cx3,cb3]) Tryz.results95 (hR:= ?_);exact⟨cd3,ca3,W3,⟨pos3,ok3,begun3,tb3,last3,any3,cx3,cb3,op3⟩,t,false,6,by rw[←hbk];rfl,rfl,hW3,hE3,hd3,hσ3,hl3,hpp3,hpos3,.inr ⟨rfl,f1,f2,f3⟩⟩)
  |true=>
   cases ok2 with
   |false=>
    have hv:=hk2.out rfl rfl value
    have hset1:=hout _ hv
    have hfin:=hlF
    have h2l:(tcells (setc t to (lkV bts last2 value))).length=5:=rfl
    have h2a:(tcells (setc t to (lkV bts last2 value))).all Value.oneCell'=true:=rfl
    generalize tcells (setc t to (lkV bts last2 value))=c2 at*
    have hld2:(c2.drop 0).take 5=c2:=by rw[List.drop_zero,List.take_of_length_le (by omega)]
    have hs52:=setL5 h2l
    repeat(first|(refine st ?_;intros)|refine G.draw [] (h:= ?_))
    (refine Dn.post (Hr:=[[(bl,row [.func (.func 52) #[pv bx] #[],.int .i64 tb2.c0,.int .i64 tb2.c1,.int .i64 tb2.c2,.int .i64 tb2.c3,.int .i64 tb2.c4,.bool false,.bool true,.int .i64 (key:Int),.int .i64 (value:Int),.int .i64 (to:Int),.int .i64 last2,.bool true] 149)],wrow bw bd ba bs,cd2,ca2,cs,cx2,cb2]) Tryz.results95 (hR:= ?_);exact⟨cd2,ca2,W2,⟨pos2,false,true,tb2,last2,true,cx2,cb2,op2⟩,lookF bts key value to t,true,0,by rw[←hfin];rfl,rfl,hW2,hE2,hd2,hσ2,hl2,hpp2,hpos2,.inl ⟨rfl,rfl,rfl,hg2,hrd2,hk2,rfl,rfl⟩⟩)
   |true=>
    by_cases hlt:tb2.c0<last2
    ·have hM:=hgo (fun _=>⟨rfl,hlt⟩)
     have hms:(if(true:Bool)=true∧(true:Bool)=false then 0 else 1)=1:=if_neg (by simp)
     repeat(first|(refine st ?_;intros)|refine G.draw [] (h:= ?_))
     refine R.call (hct:=hM) (h:= ?_)
     rintro _ _ ⟨cd3,ca3,W3,⟨pos3,ok3,begun3,tb3,last3,any3,cx3,cb3,op3⟩,e,rfl,rfl,hW3,hE3,hd3,hσ3,hl3,hla3,han3,hbg3,hpp3,hpos3,hc3⟩
     try dsimp only[List.cons_append,List.nil_append]
     dsimp only at hW3 hE3 hd3 hσ3 hl3 hla3 han3 hbg3 hpp3 hpos3 hc3⊢
     rcases hc3 with⟨rfl,g1,g2,g3,g4⟩|⟨rfl,f1,f2,f3⟩
     ·repeat(first|(refine st ?_;intros)|refine G.draw [] (h:= ?_))
      refine Dn.round ⟨cd3,ca3,W3,⟨pos3,ok3,begun3,tb3,last3,any3,cx3,cb3,op3⟩⟩ ⟨hW3,hE3,hd3,hσ3,hl3,hpp3,hpos3,g1,g2,g3,han3,hla3⟩ (by dsimp only;rw[hms];exact g4)
     ·repeat(first|(refine st ?_;intros)|refine G.draw [] (h:= ?_))
      (refine Dn.post (Hr:=[[(bl,row [.func (.func 52) #[pv bx] #[],.int .i64 tb3.c0,.int .i64 tb3.c1,.int .i64 tb3.c2,.int .i64 tb3.c3,.int .i64 tb3.c4,.bool ok3,.bool begun3,.int .i64 (key:Int),.int .i64 (value:Int),.int .i64 (to:Int),.int .i64 last3,.bool any3] 149)],wrow bw bd ba bs,cd3,ca3,cs,cx3,cb3]) Tryz.results95 (hR:= ?_);exact⟨cd3,ca3,W3,⟨pos3,ok3,begun3,tb3,last3,any3,cx3,cb3,op3⟩,t,false,6,by rw[←hbk];rfl,rfl,hW3,hE3,hd3,hσ3,hl3,hpp3,hpos3,.inr ⟨rfl,f1,f2,f3⟩⟩)
    ·by_cases heq:tb2.c0=last2
     ·have hv:=hk2.hit hrise rfl rfl heq value
      dsimp only at hv
      have hset1:=hout _ hv
      have hfin:=hlF
      have hrow:([.func (.func 52) #[pv bx] #[],.int .i64 tb2.c0,.int .i64 tb2.c1,.int .i64 tb2.c2,.int .i64 tb2.c3,.int .i64 tb2.c4,.bool true,.bool true,.int .i64 (key:Int),.int .i64 (value:Int),.int .i64 (to:Int),.int .i64 last2,.bool true]:List Value)[1+value]? =some (.int .i64 (tb2.col value)):=by
       match value,hval with
       |0,_=>rfl
       |1,_=>rfl
       |2,_=>rfl
       |3,_=>rfl
       |4,_=>rfl
      have h2l:(tcells (setc t to (lkV bts last2 value))).length=5:=rfl
      have h2a:(tcells (setc t to (lkV bts last2 value))).all Value.oneCell'=true:=rfl
      generalize tcells (setc t to (lkV bts last2 value))=c2 at*
      have hld2:(c2.drop 0).take 5=c2:=by rw[List.drop_zero,List.take_of_length_le (by omega)]
      have hs52:=setL5 h2l
      generalize tb2.col value=y at*
      repeat(first|(refine st ?_;intros)|refine G.draw [] (h:= ?_))
      (refine Dn.post (Hr:=[[(bl,row [.func (.func 52) #[pv bx] #[],.int .i64 tb2.c0,.int .i64 tb2.c1,.int .i64 tb2.c2,.int .i64 tb2.c3,.int .i64 tb2.c4,.bool true,.bool true,.int .i64 (key:Int),.int .i64 (value:Int),.int .i64 (to:Int),.int .i64 last2,.bool true] 149)],wrow bw bd ba bs,cd2,ca2,cs,cx2,cb2]) Tryz.results95 (hR:= ?_);exact⟨cd2,ca2,W2,⟨pos2,true,true,tb2,last2,true,cx2,cb2,op2⟩,lookF bts key value to t,true,0,by rw[←hfin];rfl,rfl,hW2,hE2,hd2,hσ2,hl2,hpp2,hpos2,.inl ⟨rfl,rfl,rfl,hg2,hrd2,hk2,rfl,rfl⟩⟩)
     ·have hv:=hk2.over hrise rfl rfl (by dsimp only;omega) value
      have hset1:=hout _ hv
      have hfin:=hlF
      have h2l:(tcells (setc t to (lkV bts last2 value))).length=5:=rfl
      have h2a:(tcells (setc t to (lkV bts last2 value))).all Value.oneCell'=true:=rfl
      generalize tcells (setc t to (lkV bts last2 value))=c2 at*
      have hld2:(c2.drop 0).take 5=c2:=by rw[List.drop_zero,List.take_of_length_le (by omega)]
      have hs52:=setL5 h2l
      repeat(first|(refine st ?_;intros)|refine G.draw [] (h:= ?_))
      (refine Dn.post (Hr:=[[(bl,row [.func (.func 52) #[pv bx] #[],.int .i64 tb2.c0,.int .i64 tb2.c1,.int .i64 tb2.c2,.int .i64 tb2.c3,.int .i64 tb2.c4,.bool true,.bool true,.int .i64 (key:Int),.int .i64 (value:Int),.int .i64 (to:Int),.int .i64 last2,.bool true] 149)],wrow bw bd ba bs,cd2,ca2,cs,cx2,cb2]) Tryz.results95 (hR:= ?_);exact⟨cd2,ca2,W2,⟨pos2,true,true,tb2,last2,true,cx2,cb2,op2⟩,lookF bts key value to t,true,0,by rw[←hfin];rfl,rfl,hW2,hE2,hd2,hσ2,hl2,hpp2,hpos2,.inl ⟨rfl,rfl,rfl,hg2,hrd2,hk2,rfl,rfl⟩⟩)
theorem column_ct (f:Fl) (k:Nat) (hk:k<f.width) (h5:f.width≤5):CtQ Tryz.prog 92 [flv f,.int .i64 (k:Int)] [] (.bool true):=by
 have hflv:flv f= .agg #[.int .i64 (f.first:Int),.int .i64 (f.blocks:Int),.int .i64 (f.width:Int),.int .i64 (f.count:Int)]:=rfl
 rw[hflv]
 refine Ct.intro Tryz.func92 rfl Tryz.ntmps92 (nle rfl) fun w0=> ?_;dsimp only[argSlots,Nat.reduceAdd]
 repeat(refine st ?_;intros)
 (refine Dn.post (Hr:=[]) Tryz.results92 (hR:= ?_);exact⟨congrArg Value.bool (dec_true (by omega)),rfl⟩)
theorem can_ct (bw bd ba bs:Nat) (δ:Dv) (cd:Chunk) (h:IsDev bd δ cd) (f:Fl) (h1:1≤f.width) (h5:f.width≤5) (hb:f.blocks=nblocks δ.size f.width f.count) (hc:f.count≤100000000):
  CtQ Tryz.prog 93 [pv bw,flv f] [wrow bw bd ba bs,cd] (.bool true):=by
 have hflv:flv f= .agg #[.int .i64 (f.first:Int),.int .i64 (f.blocks:Int),.int .i64 (f.width:Int),.int .i64 (f.count:Int)]:=rfl
 rw[hflv]
 have hH:=Holds_ct bw bd ba bs δ cd h f.width h1 h5
 have hp:=holds_pos h.num.1.1 h1 h5
 have hh:holds δ.size f.width≤δ.size:=Nat.le_trans (Nat.div_le_self _ _) (by omega)
 have hs:=h.num.1.2
 have e1:IntKind.wrap .i64 ((f.count:Int)+(holds δ.size f.width:Int))=((f.count+holds δ.size f.width:Nat):Int):=wrap_i64 (by omega)
 have e2:IntKind.wrap .i64 (((f.count+holds δ.size f.width:Nat):Int)-1)=((f.count+holds δ.size f.width-1:Nat):Int):=by rw[wrap_i64 (by omega)];omega
 have e3:((f.count+holds δ.size f.width-1:Nat):Int).tdiv (holds δ.size f.width:Int)=(f.blocks:Int):=by
  rw[Int.tdiv_eq_ediv_of_nonneg (by omega),hb];rfl
 have e4:IntKind.wrap .i64 (((f.count+holds δ.size f.width-1:Nat):Int).tdiv (holds δ.size f.width:Int))=(f.blocks:Int):=by
  rw[e3,wrap_i64]
  have:f.blocks≤f.count:=by rw[hb];exact nblocks_le hp
  omega
 generalize holds δ.size f.width=hd at*
 refine Ct.intro Tryz.func93 rfl Tryz.ntmps93 (nle rfl) fun w0=> ?_;dsimp only[argSlots,Nat.reduceAdd]
 repeat(first|(refine st ?_;intros)|refine G.draw [] (h:= ?_)|(refine cq hH ?_))
 (refine Dn.post (Hr:=[wrow bw bd ba bs,cd]) Tryz.results93 (hR:= ?_);exact⟨congrArg Value.bool (dec_true rfl),rfl⟩)
def lkZ (bw bl bx key value to:Nat) (ats:List T5) (fb:Fl) (bts:List T5) (LvB:List Ext) (size:Nat) (g:Gr):Mkr LkS where
 own s:=if s.op then[g] else[]
 C s:=[lkRow bl bx key value to s,s.cx,s.cb].flatten
 J W s i:=W.δ.size=size∧s.op=true∧IsRd bw bx W fb bts g s.pos s.cx s.cb∧s.pos≤fb.count∧FileOk W.δ.disk size LvB fb bts∧(∀e∈LvB,e∈W.live)∧
  ∀k:Int,(∀j t,j<i→ats[j]? =some t→t.col key≤k)→LkOk bts s k∧(s.any=true→s.last≤k)
 E W s:=s.pos≤fb.count∧((s.op=true∧IsRd bw bx W fb bts g s.pos s.cx s.cb)∨(s.op=false∧ClosedRd bx s.cx))
 pot s:=nblocks size fb.width s.pos
theorem lkZ_ok (bw bl bx key value to:Nat) (ats:List T5) (fb:Fl) (bts:List T5) (LvB:List Ext) (size:Nat) (g:Gr) (Lv:List Ext) (hs:∀e∈LvB,e∈Lv):(lkZ bw bl bx key value to ats fb bts LvB size g).Ok Lv where
 stay:=by
  rintro W W' s i ⟨h1,h2,h3,h4,h5,h6,h7⟩ hz hK hl _
  exact⟨hz.trans h1,h2,h3.move hz,h4,h5.keep fun x ⟨e,he,h8⟩=>hK x ⟨e,hs e he,h8⟩,fun e he=>hl e (hs e he),h7⟩
 fin:=by
  rintro W s i ⟨h1,h2,h3,h4,_⟩
  exact⟨h4,.inl ⟨h2,h3⟩⟩
 stayE:=by
  rintro W W' s ⟨h1,h2⟩ hz
  refine⟨h1,h2.imp (fun ⟨a,b⟩=>⟨a,b.move hz⟩) id⟩
theorem lkZ_see (bw bd ba bs bl bx key value to:Nat) (hkey:key<5) (hval:value<5) (hto:to<5) (ats:List T5) (hsort:ats.Pairwise fun a c=>a.col key≤c.col key) (fb:Fl) (bts:List T5) (LvB:List Ext) (size room:Nat) (g:Gr) (hrise:bts.Pairwise fun a c=>a.c0<c.c0) (hcn:fb.count≤1000000):
  MkrCt bw bd ba bs (lkZ bw bl bx key value to ats fb bts LvB size g) size room ats (fun i=>lookF bts key value to (at5 ats i)) 95 [pv bl] []:=by
 rintro base W cd ca cs s i t hW hg hrm hsz ⟨h1,h2,h3,h4,h5,h6,h7⟩ ht hac
 subst hsz
 have hi:=(List.getElem?_eq_some_iff.1 ht).1
 have hat:at5 ats i=t:=by unfold at5;simp[List.getD_eq_getElem?_getD,ht]
 obtain⟨hk,hany⟩:=h7 (t.col key) fun j u hj hu=>by
  obtain⟨hj2,rfl⟩:=List.getElem?_eq_some_iff.1 hu
  obtain⟨_,rfl⟩:=List.getElem?_eq_some_iff.1 ht
  exact List.pairwise_iff_getElem.1 hsort j i hj2 hi hj
 have hg':W.α.gs.Perm (g::base):=by simpa[lkZ,h2] using hg
 have hC:=look_ct bw bd ba bs bl bx key value to hkey hval hto W cd ca cs hW fb bts LvB h5 h6 hrise g base hg' s h3 h4 t hk hany hac hcn
 refine Ct.convP hC (by unfold lkZ;refine permC fun z=> ?_;simp only[List.flatten_cons,List.flatten_nil,List.append_nil,List.flatten_append,List.count_append];omega) ?_
 rintro v H' ⟨cd',ca',W',s',u,k,e,rfl,rfl,hW',hE',hd',hσ',hl',hp1,hp2,hc⟩
 have hm:nblocks W.δ.size fb.width s.pos≤nblocks W.δ.size fb.width s'.pos:=nblocks_mono hp1
 rcases hc with⟨rfl,rfl,rfl,hg2,hr2,hk2,ha2,hl2⟩|⟨rfl,hf,hg2,hx⟩
 ·refine⟨[wrow bw bd ba bs,cd',ca',cs,(lkZ bw bl bx key value to ats fb bts LvB W.δ.size g).C {s' with op:=true}],⟨cd',ca',W',{s' with op:=true},_,true,0,rfl,rfl,hW',hE',hd',hσ',hl',hm,by simpa[lkZ] using hg2,.inl ⟨rfl,rfl,by dsimp only;rw[hat],?_⟩⟩,?_⟩
  ·refine⟨hE'.size,rfl,hr2,hp2,by rw[hd'];exact h5,by rw[hl'];exact h6,fun k hk=> ?_⟩
   have h8:=hk i t (Nat.lt_succ_self i) ht
   exact⟨⟨(hk2.up h8).nb,(hk2.up h8).yes,(hk2.up h8).no⟩,fun _=>by show s'.last≤k;omega⟩
  ·have hrow:lkRow bl bx key value to {s' with op:=true}=lkRow bl bx key value to s':=rfl
   refine permC fun z=> ?_
   simp only[lkZ,hrow,List.flatten_cons,List.flatten_nil,List.append_nil,List.count_append];omega
 ·refine⟨[wrow bw bd ba bs,cd',ca',cs,(lkZ bw bl bx key value to ats fb bts LvB W.δ.size g).C {s' with op:=false}],⟨cd',ca',W',{s' with op:=false},u,k,6,rfl,rfl,hW',hE',hd',hσ',hl',hm,by simpa[lkZ] using hg2,.inr ⟨rfl,hf,hp2,.inr ⟨rfl,hx⟩⟩⟩,?_⟩
  have hrow:lkRow bl bx key value to {s' with op:=false}=lkRow bl bx key value to s':=rfl
  refine permC fun z=> ?_
  simp only[lkZ,hrow,List.flatten_cons,List.flatten_nil,List.append_nil,List.count_append];omega
theorem max_wd {a b:Nat}:max (a:Int) (((b+1:Nat):Int))=((max a (b+1):Nat):Int):=by omega
theorem lkV_in {bts:List T5} {w:Nat} (h:∀t∈bts,okT w t) (k:Int) (v:Nat):inI64 (lkV bts k v):=by
 unfold lkV
 split
 ·rename_i t ht
  have h1:=okT_cols (h t (List.mem_of_find?_eq_some ht))
  match v with
  |0=>exact h1.1
  |1=>exact h1.2.1
  |2=>exact h1.2.2.1
  |3=>exact h1.2.2.2.1
  |4=>exact h1.2.2.2.2
  |n+5=>exact in_0
 ·exact in_m1
theorem lookF_ok {bts:List T5} {w wa:Nat} (h:∀t∈bts,okT w t) (key value to:Nat) (hto:to<5) {t:T5} (ht:okT wa t):okT (max wa (to+1)) (lookF bts key value to t):=by
 obtain⟨a0,a1,a2,a3,a4⟩:=okT_cols ht
 have hv:=lkV_in h (t.col key) value
 unfold lookF
 generalize lkV bts (t.col key) value=x at*
 match to,hto with
 |0,_=>exact okTk hv a1 a2 a3 a4 (by omega) (fun h=>ht.2 1 (by omega)) (fun h=>ht.2 2 (by omega)) (fun h=>ht.2 3 (by omega)) (fun h=>ht.2 4 (by omega))
 |1,_=>exact okTk a0 hv a2 a3 a4 (by omega) (by omega) (fun h=>ht.2 2 (by omega)) (fun h=>ht.2 3 (by omega)) (fun h=>ht.2 4 (by omega))
 |2,_=>exact okTk a0 a1 hv a3 a4 (by omega) (by omega) (by omega) (fun h=>ht.2 3 (by omega)) (fun h=>ht.2 4 (by omega))
 |3,_=>exact okTk a0 a1 a2 hv a4 (by omega) (by omega) (by omega) (by omega) (fun h=>ht.2 4 (by omega))
 |4,_=>exact okTk a0 a1 a2 a3 hv (by omega) (by omega) (by omega) (by omega) (by omega)
theorem Look_ct (bw bd ba bs key value to:Nat) (W:Wk) (cd ca cs:Chunk) (h:Wc bd ba bs W cd ca cs) (fa:Fl) (ats:List T5) (LvA:List Ext) (hfa:FileOk W.δ.disk W.δ.size LvA fa ats) (hsa:∀e∈LvA,e∈W.live)
  (fb:Fl) (bts:List T5) (LvB:List Ext) (hfb:FileOk W.δ.disk W.δ.size LvB fb bts) (hsb:∀e∈LvB,e∈W.live) (hkey:key<fa.width) (hval:value<fb.width) (hto:to<5)
  (hsort:ats.Pairwise fun a c=>a.col key≤c.col key) (hrise:bts.Pairwise fun a c=>a.c0<c.c0) (hr:3*W.δ.size≤W.α.room-W.α.used) (hfit:nblocks W.δ.size (max fa.width (to+1)) fa.count≤big W.σ.free) (hac:W.δ.acts≤1000000000) (hca:fa.count≤1000000) (hcb:fb.count≤1000000):
  Ct Tryz.prog 59 [pv bw,flv fa,.int .i64 (key:Int),flv fb,.int .i64 (value:Int),.int .i64 (to:Int)] [wrow bw bd ba bs,cd,ca,cs] fun v H'=>
   ∃cd' ca' cs' W' f' e,v= .tuple #[flv f',.int .i64 e]∧H'=[wrow bw bd ba bs,cd',ca',cs']∧Wc bd ba bs W' cd' ca' cs'∧Ev W W' (fa.blocks+fa.count+1+fb.blocks) (nblocks W.δ.size (max fa.width (to+1)) fa.count)∧Keep W.live W W'∧W'.α.gs.Perm W.α.gs∧
    ((e=0∧W'.live.Perm (addF f' W.live)∧f'.width=max fa.width (to+1)∧f'.count=fa.count∧FileOk W'.δ.disk W.δ.size [f'.ext] f' (ats.map (lookF bts key value to)))∨(e=6∧f'=⟨0,0,0,0⟩∧W.δ.fault≠-1∧W'.live.Perm W.live)):=by
 have ha5:=hfa.w2
 have hb5:=hfb.w2
 have ha1:=hfa.w1
 have hflv:∀f:Fl,flv f= .agg #[.int .i64 (f.first:Int),.int .i64 (f.blocks:Int),.int .i64 (f.width:Int),.int .i64 (f.count:Int)]:=fun _=>rfl
 have hz:flv ⟨0,0,0,0⟩= .agg #[.int .i64 0,.int .i64 0,.int .i64 0,.int .i64 0]:=rfl
 have hCa:=column_ct fa key hkey ha5
 have hCb:=column_ct fb value hval hb5
 have hCn:=can_ct bw bd ba bs W.δ cd h.dev fa ha1 ha5 hfa.blk (by omega)
 have hRd:=Read_u bw bd ba bs W cd ca cs h fb bts LvB hfb (by omega)
 have e1:IntKind.wrap .i64 ((to:Int)+1)=((to+1:Nat):Int):=by rw[wrap_i64 (by omega)];rfl
 have e2:max (fa.width:Int) ((to+1:Nat):Int)=((max fa.width (to+1):Nat):Int):=max_wd
 rw[hflv] at hCa hCb hCn hRd
 rw[hflv fa,hflv fb]
 refine Ct.introD Tryz.func59 rfl Tryz.ntmps59 (nle rfl) fun w0=> ?_;dsimp only[argSlots,Nat.reduceAdd]
 repeat(first|(refine st ?_;intros)|(refine cq hCa ?_)|(refine cq hCb ?_)|(refine cq hCn ?_))
 refine R.call (hct:=hRd) (h:= ?_)
 rintro _ _ ⟨bx,g,ca1,α1,cx,cb,rfl,rfl,hW1,hE1,hg1,hgn,hr1⟩
 try dsimp only[List.cons_append,List.nil_append]
 have hu1:α1.used=W.α.used+W.δ.size:=by
  have:=hW1.ar.num.2.2.2
  dsimp only at this
  rw[this,(hg1.map (·.n)).sum_nat,h.ar.num.2.2.2];simp[hgn];omega
 have hrm1:α1.room=W.α.room:=hE1.room
 have hbb:fb.blocks≤fb.count:=by rw[hfb.blk];exact nblocks_le (holds_pos h.dev.num.1.1 hfb.w1 hfb.w2)
 have hsz:8≤W.δ.size:=h.dev.num.1.1
 have hE:∀bl:Nat,Ct Tryz.prog 94 [pv bw,flv fa,.int .i64 ((max fa.width (to+1):Nat):Int),.func (.func 95) #[pv bl] #[]]
   [wrow bw bd ba bs,cd,ca1,cs,lkRow bl bx key value to ⟨0,false,false,T5.zero,0,false,cx,cb,true⟩,cx,cb] fun v H'=>
   ∃cd' ca' cs' W' r' f' e,v= .tuple #[flv f',.int .i64 e]∧H'=[wrow bw bd ba bs,cd',ca',cs',lkRow bl bx key value to r',r'.cx,r'.cb]∧Wc bd ba bs W' cd' ca' cs'∧Ev {W with α:=α1} W' (fa.blocks+fa.count+1+fb.blocks) (nblocks W.δ.size (max fa.width (to+1)) fa.count)∧Keep W.live W W'∧RSt bw bx fb bts g W.α.gs W' r'.cx r'.cb∧
    ((e=0∧W'.live.Perm (addF f' W.live)∧f'.width=max fa.width (to+1)∧f'.count=fa.count∧FileOk W'.δ.disk W.δ.size [f'.ext] f' (ats.map (lookF bts key value to)))∨(e=6∧f'=⟨0,0,0,0⟩∧W.δ.fault≠-1∧W'.live.Perm W.live)):=by
  intro bl
  have h1:=each_ct bw bd ba bs (lkZ bw bl bx key value to ats fb bts LvB W.δ.size g) {W with α:=α1} cd ca1 cs hW1 (lkZ_ok bw bl bx key value to ats fb bts LvB W.δ.size g W.live hsb) fa ats LvA hfa hsa (max fa.width (to+1)) (by omega) (by omega)
   (fun i=>lookF bts key value to (at5 ats i)) (fun i hi=>lookF_ok hfb.fit key value to hto (hfa.fit _ (by
    have hil:i<ats.length:=by rw[hfa.len];exact hi
    unfold at5;rw[List.getD_eq_getElem?_getD,List.getElem?_eq_getElem hil]
    exact List.getElem_mem hil))) 95 inferInstance [pv bl] []
   (lkZ_see bw bd ba bs bl bx key value to (by omega) (by omega) hto ats hsort fb bts LvB W.δ.size α1.room g hrise hcb) ⟨0,false,false,T5.zero,0,false,cx,cb,true⟩ W.α.gs hg1
   ⟨rfl,rfl,hr1,Nat.zero_le _,hfb,hsb,fun k _=>⟨⟨fun _=>rfl,fun h=>(by cases h),fun h=>(by cases h)⟩,fun h=>(by cases h)⟩⟩ fb.blocks (fun W2 r2 hr2=>by
    show nblocks W.δ.size fb.width r2.pos≤_
    rw[hfb.blk];exact nblocks_mono hr2.1) (by omega) (by dsimp only;omega) hfit hac hca
  refine Ct.convP h1 (by unfold lkZ;refine permC fun z=> ?_;simp only[List.flatten_cons,List.flatten_nil,List.append_nil,List.flatten_append,List.count_append]) ?_
  rintro v H' ⟨cd',ca',cs',W',r',f',e,rfl,rfl,a1,a2,a3,a4,a5,a6⟩
  refine⟨[wrow bw bd ba bs,cd',ca',cs',lkRow bl bx key value to r',r'.cx,r'.cb],⟨cd',ca',cs',W',r',f',e,rfl,rfl,a1,a2,a3,?_,?_⟩,by unfold lkZ;refine permC fun z=> ?_;simp only[List.flatten_cons,List.flatten_nil,List.append_nil,List.flatten_append,List.count_append]⟩
  ·rcases a5.2 with⟨b1,b2⟩|⟨b1,b2⟩
   ·exact .inl ⟨by simpa[lkZ,b1] using a4,_,b2⟩
   ·exact .inr ⟨by simpa[lkZ,b1] using a4,b2⟩
  ·have hmap:rangeT (fun i=>lookF bts key value to (at5 ats i)) fa.count=ats.map (lookF bts key value to):=by
    unfold rangeT
    apply List.ext_getElem?
    intro i
    rw[List.getElem?_map,List.getElem?_map]
    by_cases hi:i<fa.count
    ·have hil:i<ats.length:=by rw[hfa.len];exact hi
     rw[List.getElem?_range hi,List.getElem?_eq_getElem hil]
     show some (lookF bts key value to (at5 ats i))=_
     unfold at5;rw[List.getD_eq_getElem?_getD,List.getElem?_eq_getElem hil];rfl
    ·rw[List.getElem?_eq_none (by simp;omega),List.getElem?_eq_none (by rw[hfa.len];omega)];rfl
   rw[←hmap]
   exact a6
 have hE:=fun bl=>hE bl
 unfold lkRow at hE
 dsimp only at hE
 rw[hflv fa] at hE
 repeat(first|(refine st ?_;intros)|(refine cq hCa ?_)|(refine cq hCb ?_)|(refine cq hCn ?_))
 rename_i b7 b9 b12 bl
 rw[e2]
 refine R.call (hct:=hE bl) (h:= ?_)
 rintro _ _ ⟨cd2,ca2,cs2,W2,r2,f2,e,rfl,rfl,hW2,hE2,hK2,hR2,hc2⟩
 dsimp only[List.cons_append,List.nil_append]
 rw[hflv]
 have hRc:=RCloseAny bw bd ba bs W2 cd2 ca2 cs2 hW2 bx fb bts g W.α.gs r2.cx r2.cb hR2
 repeat(first|(refine st ?_;intros)|(refine cq hCa ?_)|(refine cq hCb ?_)|(refine cq hCn ?_))
 refine Go.SL.Lv.call (hc:=hRc) (h:= ?_)
 rintro _ _ ⟨ca8,α8,cx8,rfl,hW8,hE8,hg8⟩
 try dsimp only[List.cons_append,List.nil_append]
 (refine Go.SL.Lv.nil (Hr:=[wrow bw bd ba bs,cd2,ca8,cs2]) Tryz.results59 (hR:= ?_);exact⟨cd2,ca8,cs2,{W2 with α:=α8},f2,e,rfl,rfl,hW8,((hE1.trans hE2).trans hE8).weak (by omega) (by omega),hK2,hg8,hc2⟩)
end Go.Proofs.YtlnehgklibbjiaaGreat
namespace Go.Proofs.YtlnehgklibbjiaaGreat
open Go.SL Go.Tup Go.Srt
theorem cmp33lt (x y z w:Int):(if cmp3 x y≠0 then cmp3 x y else if cmp3 z w≠0 then cmp3 z w else 0)<0↔x<y∨x=y∧z<w:=by unfold cmp3;(repeat' split)<;>omega
theorem ltO_o12 (a b:T5):ltO o12 a b=true↔a.c0<b.c0∨a.c0=b.c0∧a.c1<b.c1:=by
 have hf:formed o12=true:=by decide
 unfold ltO cmpT
 rw[decide_eq_true_iff,if_pos hf]
 exact cmp33lt a.c0 b.c0 a.c1 b.c1
theorem srt_o12 (once:Bool) (l:List T5):(srt (ltO o12) once l).Pairwise fun a c=>a.c0<c.c0∨a.c0=c.c0∧(if once then a.c1<c.c1 else a.c1≤c.c1):=by
 refine(sd_srt (ltO_swo o12) once l).imp fun {a b} h=> ?_
 cases once with
 |true=>
  simp only[if_true] at h⊢
  exact(ltO_o12 a b).1 h
 |false=>
  simp only[Bool.false_eq_true,if_false] at h⊢
  have h1:¬ltO o12 b a=true:=by rw[h];decide
  rw[ltO_o12] at h1
  omega
theorem srt_has {o:T5} {once:Bool} {l:List T5} {z:T5} (h:z∈l):∃w∈srt (ltO o) once l,eqv (ltO o) z w=true:=by
 have h1:=sp_srt (ltO_swo o) once l z
 have hz:eqv (ltO o) z z=true:=by
  rw[eqv_iff]
  have:ltO o z z=false:=by
   cases h2:ltO o z z with
   |false=>rfl
   |true=>have:=(ltO_swo o).asym z z h2;rw[h2] at this;cases this
  exact⟨this,this⟩
 have h2:z∈l.filter (eqv (ltO o) z):=List.mem_filter.2 ⟨h,hz⟩
 cases h3:(srt (ltO o) once l).filter (eqv (ltO o) z) with
 |nil=>
  exfalso
  rw[h3] at h1
  cases h4:l.filter (eqv (ltO o) z) with
  |nil=>rw[h4] at h2;cases h2
  |cons a b=>
   rw[h4] at h1
   cases once<;>simp[keepC] at h1
 |cons a b=>
  have h4:a∈(srt (ltO o) once l).filter (eqv (ltO o) z):=by rw[h3];exact List.mem_cons_self
  obtain⟨h5,h6⟩:=List.mem_filter.1 h4
  exact⟨a,h5,h6⟩
theorem srt_o12mem {once:Bool} {l:List T5} (hl:∀t∈l,okT 2 t) {z:T5}:z∈srt (ltO o12) once l↔z∈l:=by
 refine⟨srt_sub,fun h=> ?_⟩
 obtain⟨w,hw,he⟩:=srt_has (o:=o12) (once:=once) h
 rw[eqv_iff] at he
 have h1:¬ltO o12 z w=true:=by rw[he.1];decide
 have h2:¬ltO o12 w z=true:=by rw[he.2];decide
 rw[ltO_o12] at h1 h2
 have hz:=(hl z h).2
 have hq:=(hl w (srt_sub hw)).2
 have e2:w.c2=z.c2:=by have a:=hz 2 (by omega);have b:=hq 2 (by omega);exact b.trans a.symm
 have e3:w.c3=z.c3:=by have a:=hz 3 (by omega);have b:=hq 3 (by omega);exact b.trans a.symm
 have e4:w.c4=z.c4:=by have a:=hz 4 (by omega);have b:=hq 4 (by omega);exact b.trans a.symm
 have:w=z:=by
  cases w;cases z
  simp only[T5.mk.injEq]
  dsimp only at h1 h2 e2 e3 e4
  omega
 rw[←this];exact hw
end Go.Proofs.YtlnehgklibbjiaaGreat
namespace Go.Proofs.YtlnehgklibbjiaaGreat
open Go.SL Go.Spc Go.Tup Go.Srt
def endsM:Maker Unit:=⟨fun _=>[],fun _ t=>if t.c3= -1 then[] else[⟨t.c1,t.c3,0,0,0⟩,⟨t.c2,t.c3,0,0,0⟩],fun _ _=>(),fun _ _=>none⟩
theorem ends_mk:MakeU endsM 2 (fun _ t=>okT 4 t) 60 [] []:=by
 rintro bx Pst Br bnd hP ps X ⟨⟩ t hX hk hb
 have htv:tv t= .agg #[.int .i64 t.c0,.int .i64 t.c1,.int .i64 t.c2,.int .i64 t.c3,.int .i64 t.c4]:=rfl
 rw[htv]
 unfold putV
 simp only[List.nil_append,List.cons_append]
 show Ct _ _ _ [X] _
 have ti:=okT_cols hk
 by_cases h:t.c3= -1
 ·refine Ct.intro Tryz.func60 rfl Tryz.ntmps60 (nle rfl) fun w0=> ?_;dsimp only[argSlots,Nat.reduceAdd]
  repeat(refine st ?_;intros)
  (refine Dn.post (Hr:=[X]) Tryz.results60 (hR:= ?_);exact⟨X,(),rfl,.inl ⟨rfl,rfl,(by trivial),by simpa[endsM,h] using hX⟩⟩)
 ·simp only[endsM,if_neg h,List.length_cons,List.length_nil] at hb
  have hP1:=hP ps X ⟨t.c1,t.c3,0,0,0⟩ hX (okT2 ti.2.1 ti.2.2.2.1) (by omega)
  have hP2:=fun X' h=>hP (ps++[⟨t.c1,t.c3,0,0,0⟩]) X' ⟨t.c2,t.c3,0,0,0⟩ h (okT2 ti.2.2.1 ti.2.2.2.1) (by rw[List.length_append,List.length_singleton];omega)
  refine Ct.intro Tryz.func60 rfl Tryz.ntmps60 (nle rfl) fun w0=> ?_;dsimp only[argSlots,Nat.reduceAdd]
  repeat(refine st ?_;intros)
  refine R.callV (hct:=by exact hP1) (h:= ?_)
  rintro _ _ ⟨X',rfl,⟨rfl,hX'⟩|⟨rfl,hB⟩⟩
  try dsimp only[List.cons_append,List.nil_append]
  ·have hP3:=hP2 X' hX'
   repeat(refine st ?_;intros)
   refine R.callV (hct:=by exact hP3) (h:= ?_)
   rintro _ _ ⟨X2,rfl,⟨rfl,hX2⟩|⟨rfl,hB⟩⟩
   try dsimp only[List.cons_append,List.nil_append]
   ·repeat(refine st ?_;intros)
    (refine Dn.post (Hr:=[X2]) Tryz.results60 (hR:= ?_);exact⟨X2,(),rfl,.inl ⟨rfl,rfl,(by trivial),by simpa[endsM,h] using hX2⟩⟩)
   ·repeat(refine st ?_;intros)
    (refine Dn.post (Hr:=[X2]) Tryz.results60 (hR:= ?_);exact⟨X2,(),rfl,.inr (.inl ⟨rfl,hB⟩)⟩)
  ·repeat(refine st ?_;intros)
   (refine Dn.post (Hr:=[X']) Tryz.results60 (hR:= ?_);exact⟨X',(),rfl,.inr (.inl ⟨rfl,hB⟩)⟩)
def cutM (bl bm:Nat):Maker (Int×Bool) where
 C k:=[[(bl,row [.int .i64 k.1] 2)],[(bm,row [.bool k.2] 4)]]
 outs k t:=if t.c0=k.1 then(if k.2 then[] else[⟨t.c0,1,0,0,0⟩]) else[]
 next k t:=(t.c0,if t.c0=k.1 then true else false)
 err _ _:=none
theorem cutM_C (bl bm:Nat) (k:Int×Bool):(cutM bl bm).C k=[[(bl,row [.int .i64 k.1] 2)],[(bm,row [.bool k.2] 4)]]:=rfl
theorem cut_mk (bl bm:Nat):MakeU (cutM bl bm) 2 (fun _ t=>okT 2 t) 61 [] [pv bl,pv bm]:=by
 rintro bx Pst Br bnd hP ps X ⟨last,many⟩ t hX hk hb
 have htv:tv t= .agg #[.int .i64 t.c0,.int .i64 t.c1,.int .i64 t.c2,.int .i64 t.c3,.int .i64 t.c4]:=rfl
 rw[htv]
 unfold putV
 simp only[List.nil_append,List.cons_append]
 show Ct _ _ _ [X,[(bl,row [.int .i64 last] 2)],[(bm,row [.bool many] 4)]] _
 have ti:=okT_cols hk
 by_cases h:t.c0=last
 ·cases many with
  |true=>
   refine Ct.intro Tryz.func61 rfl Tryz.ntmps61 (nle rfl) fun w0=> ?_;dsimp only[argSlots,Nat.reduceAdd]
   repeat(refine st ?_;intros)
   (refine Dn.post (Hr:=[X,[(bl,row [.int .i64 t.c0] 2)],[(bm,row [.bool true] 4)]]) Tryz.results61 (hR:= ?_);exact⟨X,(t.c0,true),rfl,.inl ⟨rfl,rfl,by simp[cutM,h],by simpa[cutM,h] using hX⟩⟩)
  |false=>
   have hP1:=hP ps X ⟨t.c0,1,0,0,0⟩ hX (okT2 ti.1 in_1) (by simp[cutM,h] at hb;omega)
   refine Ct.intro Tryz.func61 rfl Tryz.ntmps61 (nle rfl) fun w0=> ?_;dsimp only[argSlots,Nat.reduceAdd]
   repeat(refine st ?_;intros)
   refine R.callV (hct:=by exact hP1) (h:= ?_)
   rintro _ _ ⟨X',rfl,⟨rfl,hX'⟩|⟨rfl,hB⟩⟩
   try dsimp only[List.cons_append,List.nil_append]
   ·repeat(refine st ?_;intros)
    (refine Dn.post (Hr:=[X',[(bl,row [.int .i64 t.c0] 2)],[(bm,row [.bool true] 4)]]) Tryz.results61 (hR:= ?_);exact⟨X',(t.c0,true),rfl,.inl ⟨rfl,rfl,by simp[cutM,h],by simpa[cutM,h] using hX'⟩⟩)
   ·repeat(refine st ?_;intros)
    (refine Dn.post (Hr:=[X',[(bl,row [.int .i64 t.c0] 2)],[(bm,row [.bool true] 4)]]) Tryz.results61 (hR:= ?_);exact⟨X',(t.c0,true),rfl,.inr (.inl ⟨rfl,hB⟩)⟩)
 ·refine Ct.intro Tryz.func61 rfl Tryz.ntmps61 (nle rfl) fun w0=> ?_;dsimp only[argSlots,Nat.reduceAdd]
  repeat(refine st ?_;intros)
  (refine Dn.post (Hr:=[X,[(bl,row [.int .i64 t.c0] 2)],[(bm,row [.bool false] 4)]]) Tryz.results61 (hR:= ?_);exact⟨X,(t.c0,false),rfl,.inl ⟨rfl,rfl,by simp[cutM,h],by simpa[cutM,h] using hX⟩⟩)
def markF (t:T5):Option T5:=if t.c2= -1 then none else some ⟨t.c0,t.c1,0,0,0⟩
theorem mark_mk:MakeU (mOpt markF) 2 (fun _ t=>okT 3 t) 63 [] []:=by
 rintro bx Pst Br bnd hP ps X ⟨⟩ t hX hk hb
 have htv:tv t= .agg #[.int .i64 t.c0,.int .i64 t.c1,.int .i64 t.c2,.int .i64 t.c3,.int .i64 t.c4]:=rfl
 rw[htv]
 unfold putV
 simp only[List.nil_append,List.cons_append]
 show Ct _ _ _ [X] _
 have ti:=okT_cols hk
 by_cases h:t.c2= -1
 ·refine Ct.intro Tryz.func63 rfl Tryz.ntmps63 (nle rfl) fun w0=> ?_;dsimp only[argSlots,Nat.reduceAdd]
  repeat(refine st ?_;intros)
  (refine Dn.post (Hr:=[X]) Tryz.results63 (hR:= ?_);exact⟨X,(),rfl,.inl ⟨rfl,rfl,(by trivial),by simpa[mOpt,markF,h] using hX⟩⟩)
 ·have hP1:=hP ps X ⟨t.c0,t.c1,0,0,0⟩ hX (okT2 ti.1 ti.2.1) (by simp[mOpt,markF,h] at hb;omega)
  refine Ct.intro Tryz.func63 rfl Tryz.ntmps63 (nle rfl) fun w0=> ?_;dsimp only[argSlots,Nat.reduceAdd]
  repeat(refine st ?_;intros)
  refine R.callV (hct:=by exact hP1) (h:= ?_)
  rintro _ _ ⟨X',rfl,⟨rfl,hX'⟩|⟨rfl,hB⟩⟩
  try dsimp only[List.cons_append,List.nil_append]
  ·repeat(refine st ?_;intros)
   (refine Dn.post (Hr:=[X']) Tryz.results63 (hR:= ?_);exact⟨X',(),rfl,.inl ⟨rfl,rfl,(by trivial),by simpa[mOpt,markF,h] using hX'⟩⟩)
  ·repeat(refine st ?_;intros)
   (refine Dn.post (Hr:=[X']) Tryz.results63 (hR:= ?_);exact⟨X',(),rfl,.inr (.inl ⟨rfl,hB⟩)⟩)
theorem Look_step (p:Jp) (hp:p.Ok) (J:Jb) (he:J.e=0) (fa fb:Fl) (ats bts:List T5) (ha:(fa,ats)∈J.G∨In0 p (fa,ats)) (hb:(fb,bts)∈J.G∨In0 p (fb,bts)) (hca:fa.count≤100000) (hcb:fb.count≤100000)
  (key value to:Nat) (hkey:key<fa.width) (hval:value<fb.width) (hto:to<5) (hsort:ats.Pairwise fun a c=>a.col key≤c.col key) (hrise:bts.Pairwise fun a c=>a.c0<c.c0)
  (A T:Nat) (hT:nblocks p.size (max fa.width (to+1)) fa.count≤T) (hroom:Fits p J T) (hA:fa.blocks+fa.count+1+fb.blocks≤A) (hac:J.acts+A≤1000000000)
  (W:Wk) (cd ca cs:Chunk) (held:List (Fl×List T5)) (hW:Wc p.bd p.ba p.bs W cd ca cs) (hJW:JobW p J held W):
  Ct Tryz.prog 59 [pv p.bw,flv fa,.int .i64 (key:Int),flv fb,.int .i64 (value:Int),.int .i64 (to:Int)] [wrow p.bw p.bd p.ba p.bs,cd,ca,cs] fun v H'=>
   ∃f e cd' ca' cs' W',v= .tuple #[flv f,.int .i64 e]∧H'=[wrow p.bw p.bd p.ba p.bs,cd',ca',cs']∧Wc p.bd p.ba p.bs W' cd' ca' cs'∧Stepped p W W' A T none (ats.map (lookF bts key value to)) f e∧
    (f.count≤fa.count∧f.blocks≤nblocks p.size (max fa.width (to+1)) fa.count∧(e=0→f.width=max fa.width (to+1)∧f.count=fa.count)):=by
 obtain⟨LvA,hfoa,hsa⟩:=hJW.file (ha.imp (fun h=>(hJW.ok he).1.mem_iff.2 h) id)
 obtain⟨LvB,hfob,hsb⟩:=hJW.file (hb.imp (fun h=>(hJW.ok he).1.mem_iff.2 h) id)
 dsimp only at hfoa hfob
 obtain⟨⟨hs1,hs2⟩,_⟩:=hW.dev.num
 have hus:=hJW.used hp hW
 have hbig:=hJW.big hW he hroom
 have hjac:=hJW.acts
 have hnb:nblocks W.δ.size (max fa.width (to+1)) fa.count≤T:=by rw[hJW.size];exact hT
 refine(Look_ct p.bw p.bd p.ba p.bs key value to W cd ca cs hW fa ats LvA hfoa hsa fb bts LvB hfob hsb hkey hval hto hsort hrise (by omega) (by omega) (by omega) (by omega) (by omega)).mono ?_
 rintro v H' ⟨cd',ca',cs',W',f,e,rfl,rfl,hW',hE,hK,hg,hc⟩
 refine⟨f,e,cd',ca',cs',W',rfl,rfl,hW',⟨hg,hE.room,hE.size,hE.n,by have:=hE.acts.2;omega,by have:=hE.big;omega,hE.fault,hK,?_⟩,?_⟩
 ·rcases hc with⟨a,b,_,_,c⟩|⟨a,b,c,d⟩
  ·exact .inl ⟨a,rfl,b,c⟩
  ·exact .inr ⟨by omega,b,d,.inl ⟨a,c⟩⟩
 ·rcases hc with⟨a,b,c1,c2,c⟩|⟨a,rfl,c,d⟩
  ·refine⟨by omega,?_,fun _=>⟨c1,c2⟩⟩
   rw[c.blk,c1,c2,hJW.size];exact Nat.le_refl _
  ·exact⟨Nat.zero_le _,Nat.zero_le _,fun h=>by omega⟩
def lookH (bj b8 b4 b5:Nat) (fa fb:Fl):Hp:=[[(b8,row [pv bj] 77)],[(b4,row (fl4 fa) 27)],[(b5,row (fl4 fb) 27)]]
def LookR (p:Jp) (fa:Fl) (w:Nat) (f:Fl) (e:Int):Prop:=f.count≤fa.count∧f.blocks≤nblocks p.size w fa.count∧(e=0→f.width=w∧f.count=fa.count)
theorem look1step (p:Jp) (hp:p.Ok) (J:Jb) (he:J.e=0) (fa fb:Fl) (ats bts:List T5) (ha:(fa,ats)∈J.G∨In0 p (fa,ats)) (hb:(fb,bts)∈J.G∨In0 p (fb,bts)) (hca:fa.count≤100000) (hcb:fb.count≤100000)
  (hwa:fa.width=3) (hwb:fb.width=2) (hsort:ats.Pairwise fun a c=>a.col 0≤c.col 0) (hrise:bts.Pairwise fun a c=>a.c0<c.c0)
  (A T:Nat) (hT:nblocks p.size 4 fa.count≤T) (hroom:Fits p J T) (hA:fa.blocks+fa.count+1+fb.blocks≤A) (hac:J.acts+A≤1000000000) (b8 b4 b5:Nat):
  StepCt p J 58 [pv b8,pv b4,pv b5] (lookH p.bj b8 b4 b5 fa fb) A T none (ats.map (lookF bts 0 1 3)) fun f e Hx'=>Hx'=lookH p.bj b8 b4 b5 fa fb∧LookR p fa 4 f e:=by
 intro W cd ca cs held ph capj hW hJW
 have hL:=Look_step p hp J he fa fb ats bts ha hb hca hcb 0 1 3 (by omega) (by omega) (by omega) hsort hrise A T (by rw[hwa];exact hT) hroom hA hac W cd ca cs held hW hJW
 rw[hwa] at hL
 have hflv:∀f:Fl,flv f= .agg #[.int .i64 (f.first:Int),.int .i64 (f.blocks:Int),.int .i64 (f.width:Int),.int .i64 (f.count:Int)]:=fun _=>rfl
 have hfl4:∀f:Fl,fl4 f=[.int .i64 (f.first:Int),.int .i64 (f.blocks:Int),.int .i64 (f.width:Int),.int .i64 (f.count:Int)]:=fun _=>rfl
 rw[hflv fa,hflv fb] at hL
 unfold jrow lookH
 rw[hfl4 fa,hfl4 fb]
 refine Ct.intro Tryz.func58 rfl Tryz.ntmps58 (nle rfl) fun w0=> ?_;dsimp only[argSlots,Nat.reduceAdd]
 repeat(first|(refine st ?_;intros)|refine G.draw [] (h:= ?_))
 refine R.callX (hct:=hL) (h:= ?_)
 rintro _ _ ⟨f,e,cd',ca',cs',W',rfl,rfl,hW',hS,hR⟩
 dsimp only[List.cons_append,List.nil_append]
 constructor
 ·(·(first|(intro _ _ h;cases h;done)|(repeat(first|exact qok_nil|(apply qok_cons;(·first|(intro hc;exact absurd hc (nmem rfl))|(intro _;apply CellPr.mk;(·repeat(first|exact Has.here|apply Has.there));(first|exact rfl|assumption))|(intro _;apply CellsPr.mk;(·repeat(first|exact Has.here|apply Has.there));(first|exact rfl|assumption))))))))
 rw[hflv]
 repeat(first|(refine st ?_;intros)|refine G.draw [] (h:= ?_))
 (refine Dn.post (Hr:=[[(p.bj,row [pv p.bw,.int .i64 0,.slice ph held.length capj] 108)],wrow p.bw p.bd p.ba p.bs,cd',ca',cs',[(b8,row [pv p.bj] 77)],[(b4,row (fl4 fa) 27)],[(b5,row (fl4 fb) 27)]]) Tryz.results58 (hR:= ?_);exact⟨f,e,cd',ca',cs',W',_,rfl,rfl,hW',hS,rfl,hR⟩)
theorem look4step (p:Jp) (hp:p.Ok) (J:Jb) (he:J.e=0) (fa fb:Fl) (ats bts:List T5) (ha:(fa,ats)∈J.G∨In0 p (fa,ats)) (hb:(fb,bts)∈J.G∨In0 p (fb,bts)) (hca:fa.count≤100000) (hcb:fb.count≤100000)
  (hwa:fa.width=2) (hwb:fb.width=2) (hsort:ats.Pairwise fun a c=>a.col 0≤c.col 0) (hrise:bts.Pairwise fun a c=>a.c0<c.c0)
  (A T:Nat) (hT:nblocks p.size 3 fa.count≤T) (hroom:Fits p J T) (hA:fa.blocks+fa.count+1+fb.blocks≤A) (hac:J.acts+A≤1000000000) (b8 b4 b5:Nat):
  StepCt p J 62 [pv b8,pv b4,pv b5] (lookH p.bj b8 b4 b5 fa fb) A T none (ats.map (lookF bts 0 1 2)) fun f e Hx'=>Hx'=lookH p.bj b8 b4 b5 fa fb∧LookR p fa 3 f e:=by
 intro W cd ca cs held ph capj hW hJW
 have hL:=Look_step p hp J he fa fb ats bts ha hb hca hcb 0 1 2 (by omega) (by omega) (by omega) hsort hrise A T (by rw[hwa];exact hT) hroom hA hac W cd ca cs held hW hJW
 rw[hwa] at hL
 have hflv:∀f:Fl,flv f= .agg #[.int .i64 (f.first:Int),.int .i64 (f.blocks:Int),.int .i64 (f.width:Int),.int .i64 (f.count:Int)]:=fun _=>rfl
 have hfl4:∀f:Fl,fl4 f=[.int .i64 (f.first:Int),.int .i64 (f.blocks:Int),.int .i64 (f.width:Int),.int .i64 (f.count:Int)]:=fun _=>rfl
 rw[hflv fa,hflv fb] at hL
 unfold jrow lookH
 rw[hfl4 fa,hfl4 fb]
 refine Ct.intro Tryz.func62 rfl Tryz.ntmps62 (nle rfl) fun w0=> ?_;dsimp only[argSlots,Nat.reduceAdd]
 repeat(first|(refine st ?_;intros)|refine G.draw [] (h:= ?_))
 refine R.callX (hct:=hL) (h:= ?_)
 rintro _ _ ⟨f,e,cd',ca',cs',W',rfl,rfl,hW',hS,hR⟩
 dsimp only[List.cons_append,List.nil_append]
 constructor
 ·(·(first|(intro _ _ h;cases h;done)|(repeat(first|exact qok_nil|(apply qok_cons;(·first|(intro hc;exact absurd hc (nmem rfl))|(intro _;apply CellPr.mk;(·repeat(first|exact Has.here|apply Has.there));(first|exact rfl|assumption))|(intro _;apply CellsPr.mk;(·repeat(first|exact Has.here|apply Has.there));(first|exact rfl|assumption))))))))
 rw[hflv]
 repeat(first|(refine st ?_;intros)|refine G.draw [] (h:= ?_))
 (refine Dn.post (Hr:=[[(p.bj,row [pv p.bw,.int .i64 0,.slice ph held.length capj] 108)],wrow p.bw p.bd p.ba p.bs,cd',ca',cs',[(b8,row [pv p.bj] 77)],[(b4,row (fl4 fa) 27)],[(b5,row (fl4 fb) 27)]]) Tryz.results62 (hR:= ?_);exact⟨f,e,cd',ca',cs',W',_,rfl,rfl,hW',hS,rfl,hR⟩)
end Go.Proofs.YtlnehgklibbjiaaGreat
