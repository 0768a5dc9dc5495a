/-
  Parts of the proof, put together: TreeSizes0, RefTr, Uniq17, RefTrW, Ref17W. No condition.
-/
import Derived.Test.YtlnehgklibbjiaaGreatD27
set_option linter.unusedVariables false
set_option linter.unusedSimpArgs false
set_option linter.unnecessarySimpa false
set_option maxHeartbeats 4000000
namespace Go.Proofs.YtlnehgklibbjiaaGreat
open Go.SL Go.Spc Go.Tup Go.Srt Go.Gr
def SumOk (l:List T5) (i:Nat) (sm:List Int):Prop:=sm.length=61∧∀j:Nat,j<61→∃x,sm[j]? =some x∧x=sumW (fun e=>decide (e.c1+1=(j:Int))) (·.c3) (l.take i)∧0≤x∧x≤60*i
theorem SumOk.start (l:List T5):SumOk l 0 (List.replicate 61 0):=by
 refine⟨by simp,fun j hj=>⟨0,?_,rfl,by omega,by omega⟩⟩
 rw[List.getElem?_replicate,if_pos hj]
theorem SumOk.step {l:List T5} {i:Nat} {sm:List Int} (h:SumOk l i sm) (hi:i<l.length) {k:Nat} (hk:k<61) (he:(at5 l i).c1+1=(k:Int)) (hb:1≤(at5 l i).c3∧(at5 l i).c3≤60) {x:Int} (hx:sm[k]? =some x):SumOk l (i+1) (sm.set k (x+(at5 l i).c3)):=by
 refine⟨by simpa using h.1,fun j hj=> ?_⟩
 have hl:=h.1
 have ht:l.take (i+1)=l.take i++[at5 l i]:=by rw[List.take_add_one,at5get hi];rfl
 obtain⟨y,y1,y2,y3,y4⟩:=h.2 j hj
 rw[ht,sumW_append,sumW_cons,sumW_nil,he,←y2]
 by_cases hjk:j=k
 ·subst hjk
  rw[hx] at y1
  obtain rfl:=Option.some.inj y1
  rw[List.getElem?_set_self (by omega)]
  exact⟨_,rfl,by simp,by omega,by omega⟩
 ·rw[List.getElem?_set_ne (fun h=>hjk h.symm),decide_eq_false (by omega)]
  exact⟨y,y1,by simp,y3,by omega⟩
theorem tab_one {N:Nat} {es:List IE} {lab:List Int} {b:List T5} {tl:List (Nat×Fo)} {l:List T5} (hT:TabOk N es lab b tl l) {v:Nat} (hv:v<N) (f:T5→Int):sumW (fun e=>decide (e.c0=(v:Int))) f l=f (at5 l v):=by
 have hl:=hT.len
 have e1:l=l.take v++at5 l v::l.drop (v+1):=by
  have:=List.drop_eq_getElem_cons (l:=l) (i:=v) (by omega)
  have h2:=at5get (r:=l) (k:=v) (by omega)
  rw[List.getElem?_eq_getElem (by omega)] at h2
  rw[←Option.some.inj h2,←this,List.take_append_drop]
 have hno:∀i,i<N→i≠v→decide ((at5 l i).c0=(v:Int))=false:=fun i hi hne=>decide_eq_false (by rw[hT.at_ i hi];omega)
 rw[e1,sumW_append,sumW_cons,sumW_zero (l:=l.take v),sumW_zero (l:=l.drop (v+1)),decide_eq_true (hT.at_ v hv),if_pos rfl]
 ·rw[←e1];omega
 ·intro e he
  obtain⟨i,hi,rfl⟩:=List.mem_iff_getElem.1 he
  rw[List.length_drop] at hi
  have h2:=at5get (r:=l) (k:=v+1+i) (by omega)
  rw[List.getElem?_eq_getElem (by omega)] at h2
  rw[List.getElem_drop,Option.some.inj h2]
  exact hno _ (by omega) (by omega)
 ·intro e he
  obtain⟨i,hi,rfl⟩:=List.mem_iff_getElem.1 he
  rw[List.length_take] at hi
  have h2:=at5get (r:=l) (k:=i) (by omega)
  rw[List.getElem?_eq_getElem (by omega)] at h2
  rw[List.getElem_take,Option.some.inj h2]
  exact hno _ (by omega) (by omega)
theorem SumOk.at_ {N:Nat} {es:List IE} {lab:List Int} {b:List T5} {tl:List (Nat×Fo)} {l:List T5} (hT:TabOk N es lab b tl l) {sm:List Int} (h:SumOk l N sm) (hN:N≤60) {v:Nat} (hv:v<N):sm[v+1]? =some ((at5 l v).c3-1):=by
 obtain⟨x,h1,h2,_⟩:=h.2 (v+1) (by omega)
 rw[h1,h2,List.take_of_length_le (by rw[hT.len];exact Nat.le_refl _)]
 congr 1
 have e1:(fun e:T5=>decide (e.c1+1=((v+1:Nat):Int)))=fun e=>decide (e.c1=(v:Int)):=by
  funext e;exact decide_eq_decide.2 (by omega)
 rw[e1,sumW_perm _ _ hT.perm,outF_sum,if_neg (by omega),←sumW_perm _ _ hT.perm,tab_one hT hv]
 omega
theorem SumOk.top {N:Nat} {es:List IE} {lab:List Int} {b:List T5} {tl:List (Nat×Fo)} {l:List T5} (hT:TabOk N es lab b tl l) {sm:List Int} (h:SumOk l N sm):sm[0]? =some (N:Int):=by
 obtain⟨x,h1,h2,_⟩:=h.2 0 (by omega)
 rw[h1,h2,List.take_of_length_le (by rw[hT.len];exact Nat.le_refl _)]
 congr 1
 have e1:(fun e:T5=>decide (e.c1+1=((0:Nat):Int)))=fun e=>decide (e.c1= -1):=by
  funext e;exact decide_eq_decide.2 (by omega)
 rw[e1,sumW_perm _ _ hT.perm,outF_sum,if_pos rfl,hT.tlo.sz,sumW_zero]
 ·omega
 ·intro e he
  obtain⟨v,_,hq⟩:=outF_v he
  exact decide_eq_false (by omega)
structure SizX where
 i:Nat
 sm:List Int
theorem TreeSizes_ct (n:Int) (p:Option Addr) (m cap:Nat) (es:List IE) (c:Chunk) (hv:Rw ecl 2 p m es c) (hm:m≤maxLen):
  CtQ Tryz.prog 5 [gv n p m cap] [c] (.bool true):=by
 have hflv:∀f:Fl,flv f= .agg #[.int .i64 (f.first:Int),.int .i64 (f.blocks:Int),.int .i64 (f.width:Int),.int .i64 (f.count:Int)]:=fun _=>rfl
 have hAw:=awake17ct
 have hFo:=Formed03ct n p m cap es c hv hm
 have hFe:=Few03ct n p m cap 60 100 hm
 have hWk:Ct Tryz.prog 14 [.int .i64 9] [] fun v H'=>
  ∃bw bd ba bs cd ca cs,v=pv bw∧H'=[wrow bw bd ba bs,cd,ca,cs]∧Wc bd ba bs (wk0 10 9000 90) cd ca cs:=work17ct 9 (by omega)
 unfold gv at hFo hFe⊢
 cases hfm:formedB n es with
 |false=>
  rw[hfm] at hFo
  refine Ct.intro Tryz.func5 rfl Tryz.ntmps5 (nle rfl) fun w0=> ?_;dsimp only[argSlots,Nat.reduceAdd]
  repeat(first|(refine st ?_;intros)|refine G.draw [] (h:= ?_)|(refine cq hAw ?_)|(refine cq hFo ?_)|(refine cq hFe ?_))
  (refine Dn.post (Hr:=[c]) Tryz.results5 (hR:= ?_);exact⟨rfl,rfl⟩)
 |true=>
 rw[hfm] at hFo
 by_cases hfew:n≤60∧(m:Int)≤100
 rotate_left
 ·rw[dec_false hfew] at hFe
  refine Ct.intro Tryz.func5 rfl Tryz.ntmps5 (nle rfl) fun w0=> ?_;dsimp only[argSlots,Nat.reduceAdd]
  repeat(first|(refine st ?_;intros)|refine G.draw [] (h:= ?_)|(refine cq hAw ?_)|(refine cq hFo ?_)|(refine cq hFe ?_))
  (refine Dn.post (Hr:=[c]) Tryz.results5 (hR:= ?_);exact⟨rfl,rfl⟩)
 rw[dec_true hfew] at hFe
 obtain⟨h0,hin⟩:=formed_in hfm
 obtain⟨N,rfl⟩:∃N:Nat,n=(N:Int):=⟨n.toNat,by omega⟩
 refine Ct.intro Tryz.func5 rfl Tryz.ntmps5 (nle rfl) fun w0=> ?_;dsimp only[argSlots,Nat.reduceAdd]
 repeat(first|(refine st ?_;intros)|refine G.draw [] (h:= ?_)|(refine cq hAw ?_)|(refine cq hFo ?_)|(refine cq hFe ?_))
 rename_i b1
 refine R.call (hct:=hWk) (h:= ?_)
 rintro _ _ ⟨bw,bd,ba,bs,cd,ca,cs,rfl,rfl,hW⟩
 try dsimp only[List.cons_append,List.nil_append]
 have hLa:=laid17ct bw bd ba bs 90 (by omega) cd ca cs hW N (by omega) p m cap es c hv (by omega) hin
 unfold gv at hLa
 repeat(first|(refine st ?_;intros)|refine G.draw [] (h:= ?_)|(refine cq hAw ?_)|(refine cq hFo ?_)|(refine cq hFe ?_))
 refine R.call (hct:=hLa) (h:= ?_)
 rintro _ _ ⟨cd1,ca1,cs1,W,f,h,lab,fl,r,b,rfl,rfl,hW1,hL⟩
 try dsimp only[List.cons_append,List.nil_append]
 have hbl:=hL.parts.b_len hin (by omega)
 have hfc:=hL.fc
 have hhc:=hL.hc
 have hbg:=hL.big
 have hact:=hL.acts
 have hcnt:=hL.parts.hcnt hin (by omega)
 have hsT:=sortT_le (b:=181) (m:=181) (l:=4) (by omega) (by decide)
 have hT:=Trees_ct bw bd ba bs W cd1 ca1 cs1 hW1 f h _ _ (by exact hL.inF) (by exact hL.inH) hL.fw hL.hw 181 (by omega) (by omega) (by rw[hfc];exact hcnt) (by omega) (by omega)
 rw[hflv,hflv] at hT
 rw[hflv,hflv]
 repeat(first|(refine st ?_;intros)|refine G.draw [] (h:= ?_)|(refine cq hAw ?_)|(refine cq hFo ?_)|(refine cq hFe ?_))
 refine R.call (hct:=hT) (h:= ?_)
 rintro _ _ (⟨_,x,er,cd3,ca3,cs3,W3,rfl,rfl,hW3,hS3,hw3⟩|⟨hsm,_⟩)
 rotate_left
 ·exfalso
  have h1:=hL.room
  have h2:=hL.used
  have h3:=hL.size
  omega
 dsimp only[List.cons_append,List.nil_append]
 obtain⟨rfl,hl3,hfo3,hft3⟩:=stepped_ok hS3 hL.fault
 have hsz3:W3.δ.size=10:=hS3.size.trans hL.size
 obtain⟨Lv,hfo,hsub⟩:=FileIn.new (by rw[hL.size] at hfo3;exact hfo3) hsz3 hl3
 dsimp only at hfo
 have hus3:W3.α.used=0:=(used_eq hW1 hW3 hS3.gs).trans hL.used
 have hrm3:W3.α.room=90:=hS3.room.trans hL.room
 obtain⟨tl,_,hTab⟩:=hL.parts.tab hin (by omega)
 generalize hls:treesF (labT lab) b=l at hfo hTab hS3 hfo3
 have hxc:x.count=N:=by rw[←hfo.len,hTab.len]
 have hac3:=hS3.acts
 have hLi:=List_ct bw bd ba bs W3 cd3 ca3 cs3 hW3 x l Lv hfo hsub (by omega) hft3 (by omega) (by omega)
 rw[hflv] at hLi
 rw[hflv]
 repeat(first|(refine st ?_;intros)|refine G.draw [] (h:= ?_)|(refine cq hAw ?_)|(refine cq hFo ?_)|(refine cq hFe ?_))
 refine R.call (hct:=hLi) (h:= ?_)
 rintro _ _ ⟨cd4,ca4,W4,p4,cap4,co,rfl,rfl,hW4,_,_,_,_,hV⟩
 try dsimp only[List.cons_append,List.nil_append]
 have hR:=RV.vec hV
 rw[hxc] at hR
 have hq:((x.count:Nat):Int)=(N:Int):=by rw[hxc]
 rw[hxc]
 repeat(first|(refine st ?_;intros)|refine G.draw [] (h:= ?_)|(refine cq hAw ?_)|(refine cq hFo ?_)|(refine cq hFe ?_))
 rename_i b11
 refine G.loop (X:=SizX) (fun s=>s.i≤N∧SumOk l s.i s.sm)
  (fun s=>[(12,.int .i64 (s.i:Int)),(9,.slice p4 N cap4),(1,pv b1),(11,pv b11)])
  (fun s=>[[(b1,row [.int .i64 (N:Int),.slice p m cap] 37)],c,co,[(b11,row (s.sm.map (Value.int .i64)) 49)]])
  (fun s=>N-s.i) ⟨0,List.replicate 61 0⟩ ⟨Nat.zero_le _,SumOk.start l⟩ (body:= ?_)
 rintro⟨i,sm⟩ ⟨hi,hS⟩
 dsimp only at hi hS⊢
 have hll:=hTab.len
 by_cases hlt:i<N
 ·obtain⟨b0,off,cs,T,fz,rfl,rfl,_,hget⟩:=(RV.rw hR).pos tcells_len (by omega)
  have q1:cs[off+i*5+1]? =some (.int .i64 (at5 l i).c1):=hget i 1 _ _ (at5get (by omega)) rfl
  have q3:cs[off+i*5+3]? =some (.int .i64 (at5 l i).c3):=hget i 3 _ _ (at5get (by omega)) rfl
  have hbn:=hTab.bnd hlt
  obtain⟨k,hk,hk61⟩:∃k:Nat,(at5 l i).c1+1=(k:Int)∧k<N+1:=by
   rcases hTab.par hlt with⟨h1,_⟩|⟨pp,hpp,h1,_⟩
   ·exact⟨0,by omega,by omega⟩
   ·exact⟨pp+1,by omega,by omega⟩
  obtain⟨x0,hx,_,hx1,hx2⟩:=hS.2 k (by omega)
  have hst:=hS.step (by omega) (by omega) hk (by omega) hx
  have hsl:=hS.1
  generalize (at5 l i).c1=z1 at*
  generalize (at5 l i).c3=z3 at*
  have w1:IntKind.wrap .i64 (z1+1)=((k:Nat):Int):=by rw[wrap_i64 (by omega)];exact hk
  have w2:IntKind.wrap .i64 (x0+z3)=x0+z3:=wrap_i64 (by omega)
  have hs1:(sm.map (Value.int .i64))[k]? =some (.int .i64 x0):=by rw[List.getElem?_map,hx];rfl
  have hs2:(sm.map (Value.int .i64)).set k (.int .i64 (x0+z3))=(sm.set k (x0+z3)).map (Value.int .i64):=by rw[List.map_set]
  repeat(first|(refine st ?_;intros)|refine G.draw [] (h:= ?_)|(refine cq hAw ?_)|(refine cq hFo ?_)|(refine cq hFe ?_))
  refine Dn.round ⟨i+1,sm.set k (x0+z3)⟩ ⟨hlt,hst⟩ (by dsimp only;omega)
 obtain rfl:i=N:=by omega
 have hsl:=hS.1
 repeat(first|(refine st ?_;intros)|refine G.draw [] (h:= ?_)|(refine cq hAw ?_)|(refine cq hFo ?_)|(refine cq hFe ?_))
 refine G.loop (X:=Nat) (fun u=>u≤i) (fun u=>[(14,.int .i64 (u:Int)),(9,.slice p4 i cap4),(1,pv b1),(11,pv b11)])
  (fun _=>[[(b1,row [.int .i64 (i:Int),.slice p m cap] 37)],c,co,[(b11,row (sm.map (Value.int .i64)) 49)]]) (fun u=>i-u) 0 (Nat.zero_le _) (body:= ?_)
 intro u hu
 by_cases hul:u<i
 rotate_left
 ·obtain rfl:u=i:=by omega
  have hs1:(sm.map (Value.int .i64))[0]? =some (.int .i64 (u:Int)):=by rw[List.getElem?_map,hS.top hTab];rfl
  repeat(first|(refine st ?_;intros)|refine G.draw [] (h:= ?_)|(refine cq hAw ?_)|(refine cq hFo ?_)|(refine cq hFe ?_))
  (refine Dn.post (Hr:=[c]) Tryz.results5 (hR:= ?_);exact⟨congrArg Value.bool (dec_true rfl),rfl⟩)
 obtain⟨b0,off,cs,T,fz,rfl,rfl,_,hget⟩:=(RV.rw hR).pos tcells_len (by omega)
 have q3:cs[off+u*5+3]? =some (.int .i64 (at5 l u).c3):=hget u 3 _ _ (at5get (by omega)) rfl
 have hs1:(sm.map (Value.int .i64))[u+1]? =some (.int .i64 ((at5 l u).c3-1)):=by rw[List.getElem?_map,hS.at_ hTab (by omega) hul];rfl
 have hbn:=hTab.bnd hul
 generalize (at5 l u).c3=z3 at*
 have w1:IntKind.wrap .i64 ((u:Int)+1)=((u+1:Nat):Int):=wrap_i64 (by omega)
 have w2:IntKind.wrap .i64 (z3-1+1)=z3:=by rw[wrap_i64 (by omega)];omega
 repeat(first|(refine st ?_;intros)|refine G.draw [] (h:= ?_)|(refine cq hAw ?_)|(refine cq hFo ?_)|(refine cq hFe ?_))
 refine Dn.round (u+1) (by omega) (by omega)
end Go.Proofs.YtlnehgklibbjiaaGreat
namespace Go.Proofs.YtlnehgklibbjiaaGreat
open Go.SL Go.Tup Go.Gr Go.Srt
def metB (b:List T5) (i:Nat):Bool:=(b.take i).any fun t=>decide (t.c2=(at5 b i).c2)
namespace PartsOk
variable {N:Nat} {es:List IE} {lab:List Int} {fl:List Bool} {r b:List T5}
theorem b_order (h:PartsOk N es lab fl r b) (hf:∀e∈es,inE N e):b.Pairwise fun a c=>a.c3=c.c3→a.c4<c.c4:=by
 rw[h.tours]
 unfold toursF toursTo
 rw[List.pairwise_flatMap]
 refine⟨fun i hi=> ?_,?_⟩
 ·split
  ·unfold tourL
   rw[List.pairwise_map]
   exact List.pairwise_lt_range.imp fun {a c} hac _=>by
    show((a:Nat):Int)<((c:Nat):Int)
    omega
  ·exact .nil
 ·refine List.Pairwise.imp_of_mem (fun {i j} hi hj hij=> ?_) List.pairwise_lt_range
  have hi:=List.mem_range.1 hi
  have hj:=List.mem_range.1 hj
  intro a ha c hc he
  split at ha
  next hri=>
   split at hc
   next hrj=>
    obtain⟨n,_,rfl⟩:=List.mem_map.1 ha
    obtain⟨m,_,rfl⟩:=List.mem_map.1 hc
    refine(h.arcs.root_uniq hij hj hri hrj ?_).elim
    rw[←h.arcs.it_lab (h.hl hf) hi n,←h.arcs.it_lab (h.hl hf) hj m]
    exact he
   next=>simp at hc
  next=>simp at ha
theorem vis_seen (h:PartsOk N es lab fl r b) (hf:∀e∈es,inE N e) {p:Nat} {t:T5} (hp:b[p]? =some t):
  ((visT b t).c2= -1∧(metB b p=true∨t.c2=t.c3))∨((visT b t).c2=t.c2∧(visT b t).c3=t.c1∧metB b p=false∧t.c2≠t.c3∧t.c2≠-1):=by
 have hpl:=(List.getElem?_eq_some_iff.1 hp).1
 have hat:at5 b p=t:=by
  have:=at5get hpl
  rw[hp] at this
  exact(Option.some.inj this).symm
 obtain⟨i,n,hi,hr,hn,rfl⟩:=h.b_arc (List.mem_of_getElem? hp)
 have htw:=h.tw hf hi
 have hroot:=hr
 unfold rootB at hroot
 obtain⟨hroot,_⟩:=of_decide_eq_true hroot
 have e3:∀{i:Nat},i<r.length→∀m,(arcAt r i m).c3=(at5 r i).c3:=fun hi m=>h.arcs.it_lab (h.hl hf) hi m
 have e2:∀{i:Nat},i<r.length→∀m,(arcAt r i m).c2=(vtA r i (m+1):Int):=fun {i} hi m=>by
  obtain⟨_,_,_,_,c2,_⟩:=h.arc_g hf (itF_lt (f:=sigF r) sigF_lt hi m)
  rw[h.vt_succ hi]
  show(at5 r (itF (sigF r) m i)).c2=_
  omega
 have e1:(arcAt r i n).c1=(vtA r i n:Int):=by
  obtain⟨_,_,c1,_⟩:=h.arc_g hf (itF_lt (f:=sigF r) sigF_lt hi n)
  unfold vtA
  show(at5 r (itF (sigF r) n i)).c1=_
  omega
 have hv0:(vtA r i 0:Int)=(at5 r i).c3:=by
  obtain⟨_,_,c1,_⟩:=h.arc_g hf hi
  show((at5 r i).c1.toNat:Int)=_
  omega
 have hl:∀{i:Nat} (m:Nat),i<r.length→∃x:Nat,(at5 r i).c3=x∧lab[vtA r i m]? =some (x:Int):=fun {i} m hi=>by
  obtain⟨y,y1,_,y2,_⟩:=h.lab_at hf (itF_lt (f:=sigF r) sigF_lt hi m)
  rw[h.arcs.it_lab (h.hl hf) hi] at y1
  exact⟨y,y1,y2⟩
 have hord:=List.pairwise_iff_getElem.1 (h.b_order hf)
 have hpg:b[p]=arcAt r i n:=by
  have:=List.getElem?_eq_getElem hpl
  rw[hp] at this
  exact(Option.some.inj this).symm
 rw[h.vis_at hf hi hr]
 by_cases hd:n<broA r i n
 ·right
  rw[if_pos hd]
  refine⟨(e2 hi n).symm,e1.symm,?_,?_,by rw[e2 hi];omega⟩
  ·unfold metB
   rw[List.any_eq_false]
   intro u hu
   obtain⟨q,hq,hqu⟩:=List.mem_iff_getElem.1 hu
   rw[List.length_take] at hq
   rw[List.getElem_take] at hqu
   simp only[decide_eq_true_eq]
   intro hc
   rw[hat] at hc
   obtain⟨i',n',hi',hr',hn',rfl⟩:=h.b_arc (List.mem_of_mem_take hu)
   rw[e2 hi,e2 hi'] at hc
   have hvv:vtA r i' (n'+1)=vtA r i (n+1):=by omega
   obtain⟨x,x1,x2⟩:=hl (n'+1) hi'
   obtain⟨y,y1,y2⟩:=hl (n+1) hi
   rw[hvv,y2] at x2
   have hxy:=Option.some.inj x2
   have hsame:(at5 r i').c3=(at5 r i).c3:=by rw[x1,y1,hxy]
   have hii:i'=i:=by
    rcases Nat.lt_trichotomy i' i with h1|h1|h1
    ·exact(h.arcs.root_uniq h1 hi hr' hr hsame).elim
    ·exact h1
    ·exact(h.arcs.root_uniq h1 hi' hr hr' hsame.symm).elim
   subst hii
   have h1:=hord q p (by omega) hpl (by omega)
   rw[hqu,hpg,e3 hi,e3 hi] at h1
   have h2:((n':Nat):Int)<((n:Nat):Int):=h1 rfl
   exact htw.first hn hd (j:=n'+1) (by omega) hvv
  ·rw[e2 hi,e3 hi,←hv0]
   intro hq
   exact htw.first hn hd (Nat.zero_le n) (by omega)
 ·left
  rw[if_neg hd]
  refine⟨rfl,?_⟩
  obtain⟨j,hj,hjv⟩:=htw.again hn hd
  match j,hj,hjv with
  |0,hj,hjv=>
   right
   rw[e2 hi,e3 hi,←hv0,hjv]
  |j+1,hj,hjv=>
   left
   unfold metB
   rw[List.any_eq_true]
   refine⟨arcAt r i j,?_,decide_eq_true ?_⟩
   ·obtain⟨q,hq,hqu⟩:=List.mem_iff_getElem.1 (h.arc_b hi hr (show j<perA r i by omega))
    have hqp:q<p:=by
     rcases Nat.lt_trichotomy q p with h1|h1|h1
     ·exact h1
     ·exfalso
      subst h1
      rw[hpg] at hqu
      have h2:((n:Nat):Int)=((j:Nat):Int):=congrArg T5.c4 hqu
      omega
     ·exfalso
      have h2:=hord p q hpl hq h1
      rw[hqu,hpg,e3 hi,e3 hi] at h2
      have h3:((n:Nat):Int)<((j:Nat):Int):=h2 rfl
      omega
    refine List.mem_of_getElem? (i:=q) ?_
    rw[List.getElem?_take,if_pos hqp,List.getElem?_eq_getElem hq,hqu]
   ·rw[hat,e2 hi,e2 hi,hjv]
end PartsOk
def cntM (P:List T5):Nat:=((numM 0 0).all (0,0) P).length
theorem cntM_up {P:List T5} {v:T5} (h:v.c2= -1):cntM (P++[v])=cntM P:=by
 unfold cntM
 rw[Maker.all_app,List.length_append]
 simp only[Maker.all]
 have:(numM 0 0).outs ((numM 0 0).st (0,0) P) v=[]:=by unfold numM;dsimp only;rw[if_pos h]
 rw[this];rfl
theorem cntM_down {P Q:List T5} {v:T5} (h:v.c2≠-1):cntM (P++[v])=cntM P+1∧∃e,((numM 0 0).all (0,0) (P++v::Q))[cntM P]? =some e∧e.c0=v.c2∧e.c1=v.c3:=by
 have ho:∃e,(numM 0 0).outs ((numM 0 0).st (0,0) P) v=[e]∧e.c0=v.c2∧e.c1=v.c3:=by
  unfold numM;dsimp only;rw[if_neg h]
  exact⟨_,rfl,rfl,rfl⟩
 obtain⟨e,he,h1,h2⟩:=ho
 refine⟨?_,e,?_,h1,h2⟩
 ·unfold cntM
  rw[Maker.all_app,List.length_append]
  simp only[Maker.all]
  rw[he];rfl
 ·unfold cntM
  rw[Maker.all_app,List.getElem?_append_right (Nat.le_refl _),Nat.sub_self]
  simp only[Maker.all]
  rw[he];rfl
structure Wrt (N:Nat) (L:List T5) (k:Nat) (o:List T5):Prop where
 len:o.length=N
 got:∀j e,j<k→L[j]? =some e→o[e.c0.toNat]? =some {e with c3:=0}
def tabL (tl:List (Nat×Fo)):List T5:=outF (-1) (-1) 0 (grove tl)
namespace TabOk
variable {N:Nat} {es:List IE} {lab:List Int} {b:List T5} {tl:List (Nat×Fo)} {l:List T5}
theorem tabL_len (h:TabOk N es lab b tl l):(tabL tl).length=N:=by unfold tabL;rw[outF_len,h.tlo.sz]
theorem tab_c2 {k:Nat} {e:T5} (hk:(tabL tl)[k]? =some e):e.c2=(k:Int):=by
 have h1:=congrArg (·[k]?) (outF_c2 (grove tl) (-1) (-1) 0)
 unfold tabL at hk
 simp only[List.getElem?_map,hk,Option.map_some] at h1
 have hkl:k<(grove tl).sz:=by
  rw[←outF_len (grove tl) (-1) (-1) 0]
  exact(List.getElem?_eq_some_iff.1 hk).1
 rw[List.getElem?_range' (by omega)] at h1
 simp only[Option.map_some,Option.some.injEq] at h1
 omega
theorem entry (h:TabOk N es lab b tl l) {k:Nat} {e:T5} (hk:(tabL tl)[k]? =some e):k<N∧e.c2=(k:Int)∧∃v,v<N∧e.c0=(v:Int)∧at5 l v=e∧
  ((e.c1= -1∧e.c4=0)∨∃j e',j<k∧(tabL tl)[j]? =some e'∧e'.c0=e.c1∧e.c4=e'.c4+1):=by
 have hkN:k<N:=by
  rw[←h.tabL_len]
  exact(List.getElem?_eq_some_iff.1 hk).1
 have hm:=List.mem_of_getElem? hk
 have hc:=tab_c2 hk
 obtain⟨v,hv,h1,h2⟩:=h.of hm
 refine⟨hkN,hc,v,hv,h1,h2,?_⟩
 rcases outF_par hm with⟨h3,h4⟩|⟨e',h3,h4,h5,h6,_⟩
 ·exact .inl ⟨h3,by omega⟩
 ·obtain⟨j,hj⟩:=List.mem_iff_getElem?.1 h3
  have hj2:=tab_c2 (tl:=tl) hj
  exact .inr ⟨j,e',by omega,hj,h4,h5⟩
theorem c0inj (h:TabOk N es lab b tl l) {j k:Nat} {e e':T5} (hj:(tabL tl)[j]? =some e') (hk:(tabL tl)[k]? =some e) (hq:e'.c0=e.c0):j=k:=by
 obtain⟨_,c1,v,_,v1,v2,_⟩:=h.entry hj
 obtain⟨_,d1,w,_,w1,w2,_⟩:=h.entry hk
 obtain rfl:v=w:=by omega
 rw[v2] at w2
 subst w2
 omega
theorem wstart (N:Nat) (tl:List (Nat×Fo)):Wrt N (tabL tl) 0 (List.replicate N T5.zero):=⟨by simp,fun j e hj=>by omega⟩
theorem wstep (h:TabOk N es lab b tl l) {k:Nat} {o:List T5} {e:T5} (hw:Wrt N (tabL tl) k o) (hk:(tabL tl)[k]? =some e):Wrt N (tabL tl) (k+1) (o.set e.c0.toNat {e with c3:=0}):=by
 obtain⟨_,_,v,hv,h1,_⟩:=h.entry hk
 refine⟨by rw[List.length_set];exact hw.len,fun j e' hj hje=> ?_⟩
 by_cases hjk:j=k
 ·subst hjk
  rw[hk] at hje
  obtain rfl:=Option.some.inj hje
  rw[List.getElem?_set_self (by rw[hw.len];omega)]
 ·have hne:e.c0.toNat≠e'.c0.toNat:=fun hq=>by
   obtain⟨_,_,w,_,w1,_⟩:=h.entry hje
   rw[h1,w1,Int.toNat_natCast,Int.toNat_natCast] at hq
   exact hjk (h.c0inj hje hk (by rw[h1,w1,hq]))
  rw[List.getElem?_set_ne hne]
  exact hw.got j e' (by omega) hje
def outC (N:Nat) (l:List T5) (dn:List Int):List T5:=(List.range N).map fun w=>{at5 l w with c3:=(dn.count (w:Int):Int)}
theorem outC_get {dn:List Int} {v:Nat} (hv:v<N):(outC N l dn)[v]? =some {at5 l v with c3:=(dn.count (v:Int):Int)}:=by
 unfold outC
 rw[List.getElem?_map,List.getElem?_range hv];rfl
theorem wend (h:TabOk N es lab b tl l) {o:List T5} (hw:Wrt N (tabL tl) N o):o=outC N l []:=by
 apply List.ext_getElem?
 intro v
 by_cases hv:v<N
 ·rw[outC_get hv]
  obtain⟨j,hj⟩:=List.mem_iff_getElem?.1 (h.mem hv)
  obtain⟨hjN,_⟩:=h.entry hj
  have:=hw.got j _ hjN hj
  have h0:=h.at_ v hv
  rw[show(at5 l v).c0.toNat=v by omega] at this
  exact this
 ·rw[List.getElem?_eq_none (by rw[hw.len];omega),List.getElem?_eq_none (by unfold outC;simp;omega)]
theorem outC_set {dn:List Int} {v:Nat} (hv:v<N) {x:Int} (hx:x=(dn.count (v:Int):Int)+1):(outC N l dn).set v {at5 l v with c3:=x}=outC N l ((v:Int)::dn):=by
 apply List.ext_getElem?
 intro w
 by_cases hw:w<N
 ·rw[outC_get hw]
  by_cases hq:v=w
  ·subst hq
   rw[List.getElem?_set_self (by unfold outC;simpa using hv),List.count_cons_self,hx]
   congr 1
  ·rw[List.getElem?_set_ne hq,outC_get hw,List.count_cons_of_ne (by omega)]
 ·rw[List.getElem?_eq_none (by rw[List.length_set];unfold outC;simp;omega),List.getElem?_eq_none (by unfold outC;simp;omega)]
def wayF (tl:List (Nat×Fo)) (v:Nat):List Int:=(((chF (-1) [] (-1) 0 (grove tl)).find? fun x=>decide (x.1.c0=(v:Int))).map (·.2)).getD []
theorem chF_nd:∀{T:Fo} {u:Int} {up:List Int} {d:Int} {n:Nat},T.vs.Nodup→(∀v∈T.vs,(v:Int)∉up)→up.Nodup→∀x∈chF u up d n T,x.2.Nodup
 | .nil,_,_,_,_,_,_,_,x,h=>by simp[chF] at h
 | .node v s r,u,up,d,n,hn,hu,hup,x,h=>by
  simp only[Fo.vs,List.nodup_cons,List.mem_append,List.nodup_append,not_or] at hn
  obtain⟨⟨hvs,hvr⟩,hns,hnr,_⟩:=hn
  simp only[Fo.vs,List.mem_cons,List.mem_append] at hu
  simp only[chF,List.mem_cons,List.mem_append] at h
  have hnv:((v:Int)::up).Nodup:=List.nodup_cons.2 ⟨hu v (.inl rfl),hup⟩
  rcases h with rfl|h|h
  ·exact hnv
  ·refine chF_nd hns (fun y hy hq=> ?_) hnv x h
   rcases List.mem_cons.1 hq with h1|h1
   ·exact hvs (by rw[show v=y by omega];exact hy)
   ·exact hu y (.inr (.inl hy)) h1
  ·exact chF_nd hnr (fun y hy=>hu y (.inr (.inr hy))) hup x h
theorem way_mem (h:TabOk N es lab b tl l) {v:Nat} (hv:v<N):(at5 l v,wayF tl v)∈chF (-1) [] (-1) 0 (grove tl):=by
 obtain⟨c,hc,_⟩:=h.way hv
 unfold wayF
 cases hf:(chF (-1) [] (-1) 0 (grove tl)).find? fun x=>decide (x.1.c0=(v:Int)) with
 |none=>
  rw[List.find?_eq_none] at hf
  exact(hf _ hc (by simp[h.at_ v hv])).elim
 |some x=>
  have h1:x.1.c0=(v:Int):=by simpa using List.find?_some hf
  have h2:=List.mem_of_find?_eq_some hf
  obtain⟨w,hw,h3,h4⟩:=h.of (chF_out h2)
  obtain rfl:w=v:=by omega
  rw[h4]
  exact h2
theorem ch_inj (h:TabOk N es lab b tl l) {x y:T5×List Int} (hx:x∈chF (-1) [] (-1) 0 (grove tl)) (hy:y∈chF (-1) [] (-1) 0 (grove tl)) (he:x.1.c0=y.1.c0):x=y:=by
 have hn:((chF (-1) [] (-1) 0 (grove tl)).map fun x=>x.1.c0).Nodup:=by
  have h1:=congrArg (List.map fun t:T5=>t.c0) (chF_fst (grove tl) (-1) [] (-1) 0)
  rw[outF_c0,List.map_map] at h1
  rw[show(fun x:T5×List Int=>x.1.c0)=(fun t:T5=>t.c0)∘(fun x:T5×List Int=>x.1) from rfl,h1]
  exact List.Pairwise.map _ (fun a c hac=>fun hq=>hac (by omega)) h.nodup
 exact nodup_inj hn hx hy he
theorem way_is (h:TabOk N es lab b tl l) {v:Nat} (hv:v<N):Way (fun x=>(at5 l x.toNat).c1) v (wayF tl v)∧(wayF tl v).length≤N∧(∀w∈wayF tl v,w<(N:Int))∧(wayF tl v).Nodup:=by
 obtain⟨c,h1,h2,h3,_⟩:=h.way hv
 have h5:=h.ch_inj h1 (h.way_mem hv) rfl
 have hb:=h.bnd hv
 obtain rfl:c=wayF tl v:=congrArg Prod.snd h5
 refine⟨h2,by omega,fun w hw=> ?_,chF_nd h.nodup (by simp) .nil _ h1⟩
 rcases(chF_up h1).2.1 w hw with h5|⟨y,hy,rfl⟩
 ·simp at h5
 ·have:=List.mem_range.1 (h.tlo.vs_perm.mem_iff.1 hy)
  omega
theorem count_flat {α:Type} {f:α→List Int} (w:Int):∀{l:List α},(∀x∈l,(f x).Nodup)→(l.flatMap f).count w=l.countP fun x=>decide (w∈f x)
 |[],_=>rfl
 |x::l,h=>by
  have h1:=h x List.mem_cons_self
  rw[List.flatMap_cons,List.count_append,List.countP_cons,count_flat w fun y hy=>h y (List.mem_cons_of_mem _ hy)]
  by_cases hw:w∈f x
  ·rw[h1.count,if_pos hw];simp[hw];omega
  ·rw[h1.count,if_neg hw];simp[hw]
theorem way_count (h:TabOk N es lab b tl l) {v:Nat} (hv:v<N):((((List.range N).flatMap (wayF tl)).count (v:Int):Nat):Int)=(at5 l v).c3:=by
 have hp:(chF (-1) [] (-1) 0 (grove tl)).Perm ((List.range N).map fun v=>(at5 l v,wayF tl v)):=by
  have hn:(chF (-1) [] (-1) 0 (grove tl)).Nodup:=by
   have:((chF (-1) [] (-1) 0 (grove tl)).map fun x=>x.1.c0).Nodup:=by
    have h1:=congrArg (List.map fun t:T5=>t.c0) (chF_fst (grove tl) (-1) [] (-1) 0)
    rw[outF_c0,List.map_map] at h1
    rw[show(fun x:T5×List Int=>x.1.c0)=(fun t:T5=>t.c0)∘(fun x:T5×List Int=>x.1) from rfl,h1]
    exact List.Pairwise.map _ (fun a c hac=>fun hq=>hac (by omega)) h.nodup
   exact(List.pairwise_map.1 this).imp fun {a c} hac=>fun hq=>hac (by rw[hq])
  have hn2:((List.range N).map fun v=>(at5 l v,wayF tl v)).Nodup:=by
   refine List.pairwise_map.2 (List.Pairwise.imp_of_mem (fun {a c} ha hc hac=> ?_) List.nodup_range)
   intro hq
   have h1:=congrArg (fun x:T5×List Int=>x.1.c0) hq
   dsimp only at h1
   rw[h.at_ a (List.mem_range.1 ha),h.at_ c (List.mem_range.1 hc)] at h1
   exact hac (by omega)
  rw[List.perm_ext_iff_of_nodup hn hn2]
  intro x
  rw[List.mem_map]
  constructor
  ·intro hx
   obtain⟨w,hw,h3,_⟩:=h.of (chF_out hx)
   exact⟨w,List.mem_range.2 hw,h.ch_inj (h.way_mem hw) hx (by rw[h.at_ w hw,h3])⟩
  ·rintro⟨w,hw,rfl⟩
   exact h.way_mem (List.mem_range.1 hw)
 rw[count_flat _ fun x hx=>(h.way_is (List.mem_range.1 hx)).2.2.2]
 have h1:=chF_cnt (v:Int) (T:=grove tl) (u:= -1) (up:=[]) (d:= -1) (n:=0) h.nodup
 rw[if_neg (by simp),←sumW_perm _ _ h.perm,tab_one h hv] at h1
 rw[←h1,hp.countP_eq,List.countP_map]
 rfl
theorem outC_end (h:TabOk N es lab b tl l) {dn:List Int} (hd:dn.Perm ((List.range N).flatMap (wayF tl))):outC N l dn=l:=by
 apply List.ext_getElem?
 intro v
 by_cases hv:v<N
 ·rw[outC_get hv,hd.count_eq,h.way_count hv,at5get (by rw[h.len];exact hv)]
 ·rw[List.getElem?_eq_none (by unfold outC;simp;omega),List.getElem?_eq_none (by rw[h.len];omega)]
theorem flat_le (f:Nat→List Int) (m:Nat):∀n,(∀v,v<n→(f v).length≤m)→((List.range n).flatMap f).length≤n*m
 |0,_=>by simp
 |n+1,h=>by
  have h1:=h n (Nat.lt_succ_self n)
  have h2:=flat_le f m n fun v hv=>h v (by omega)
  rw[List.range_succ,List.flatMap_append,List.length_append,Nat.succ_mul]
  simp only[List.flatMap_cons,List.flatMap_nil,List.append_nil]
  omega
end TabOk
theorem LabOk.uniq {g:Nat→Ed} {S:Nat→Prop} {N:Nat} {l l':List Int} (h:LabOk g S N (-1) l) (h':LabOk g S N (-1) l'):l=l':=by
 apply List.ext_getElem?
 intro v
 by_cases hv:v<N
 ·obtain⟨x,h1,h2,_,h3⟩:=h.at_ v hv (by omega)
  obtain⟨y,g1,g2,_,g3⟩:=h'.at_ v hv (by omega)
  have e1:=h3 y g2
  have e2:=g3 x h2
  rw[h1,g1,show x=y by omega]
 ·rw[List.getElem?_eq_none (by rw[h.len];omega),List.getElem?_eq_none (by rw[h'.len];omega)]
theorem PartsOk.uniq {N:Nat} {es:List IE} {lab lab':List Int} {fl fl':List Bool} {r r' b b':List T5} (h:PartsOk N es lab fl r b) (h':PartsOk N es lab' fl' r' b'):lab'=lab∧b'=b:=by
 obtain rfl:=h.labs.uniq h'.labs
 have hfl:fl=fl':=by
  apply List.ext_getElem?
  intro i
  by_cases hi:i<es.length
  ·have i1:i<fl.length:=by rw[h.fors.1];exact hi
   have i2:i<fl'.length:=by rw[h'.fors.1];exact hi
   have h1:fl[i]? =some fl[i]:=List.getElem?_eq_getElem i1
   have h2:fl'[i]? =some fl'[i]:=List.getElem?_eq_getElem i2
   have k1:=h.fors.2 i _ h1
   have k2:=h'.fors.2 i _ h2
   rw[h1,h2]
   congr 1
   rw[Bool.eq_iff_iff,k1,k2]
  ·rw[List.getElem?_eq_none (by rw[h.fors.1];omega),List.getElem?_eq_none (by rw[h'.fors.1];omega)]
 subst hfl
 have hr:r=r':=by
  refine List.Perm.eq_of_pairwise (le:=fun a b=>lessB b a=false) ?_ h.arcs.sa h'.arcs.sa (h.arcs.perm.trans h'.arcs.perm.symm)
  intro x y hx hy h1 h2
  have hx':=h.arcs.perm.mem_iff.1 hx
  have hy':=h'.arcs.perm.mem_iff.1 hy
  refine nodup_inj (nodup_two h.arcs.nd (labT lab)) hx' hy' ?_
  have k1:¬lessB y x=true:=by rw[h1];decide
  have k2:¬lessB x y=true:=by rw[h2];decide
  rw[lessB_iff] at k1 k2
  omega
 subst hr
 exact⟨rfl,by rw[h.tours,h'.tours]⟩
theorem metB_iff {b:List T5} {i:Nat} (hi:i<b.length):metB b i=true↔∃q,q<i∧(at5 b q).c2=(at5 b i).c2:=by
 unfold metB
 rw[List.any_eq_true]
 constructor
 ·rintro⟨t,ht,he⟩
  obtain⟨q,hq,rfl⟩:=List.mem_iff_getElem.1 ht
  rw[List.length_take] at hq
  have h1:=at5get (r:=b) (k:=q) (by omega)
  rw[List.getElem?_eq_getElem (by omega)] at h1
  refine⟨q,by omega,?_⟩
  rw[←Option.some.inj h1]
  have:=of_decide_eq_true he
  rwa[List.getElem_take] at this
 ·rintro⟨q,hq,he⟩
  refine⟨at5 b q,?_,decide_eq_true he⟩
  refine List.mem_of_getElem? (i:=q) ?_
  rw[List.getElem?_take,if_pos hq]
  exact at5get (by omega)
theorem met17ct (p:Option Addr) (m cap:Nat) (b:List T5) (c:Chunk) (hv:RV p m b c) (hm:m≤1000000) (i:Nat) (hi:i<m):
  CtQ Tryz.prog 66 [.slice p m cap,.int .i64 (i:Int)] [c] (.bool (metB b i)):=by
 have hl:=hv.1
 have hmi:=metB_iff (b:=b) (i:=i) (by omega)
 obtain⟨bb,off,cs,T,fz,rfl,rfl,_,hget⟩:=(RV.rw hv).pos tcells_len (by omega)
 have hg:∀j,j<m→cs[off+j*5+2]? =some (.int .i64 (at5 b j).c2):=fun j hj=>hget j 2 _ _ (at5get (by omega)) rfl
 have hgi:=hg i hi
 refine Ct.intro Tryz.func66 rfl Tryz.ntmps66 (nle rfl) fun w0=> ?_;dsimp only[argSlots,Nat.reduceAdd]
 repeat(first|(refine st ?_;intros)|refine G.draw [] (h:= ?_))
 refine G.loop (X:=Nat) (fun j=>j≤i∧∀q,q<j→(at5 b q).c2≠(at5 b i).c2) (fun j=>[(5,.int .i64 (j:Int)),(0,.slice (some ⟨bb,off,none⟩) m cap),(1,.int .i64 (i:Int))]) (fun _=>[[(bb,rowf cs T fz)]]) (fun j=>i-j) 0 ⟨Nat.zero_le _,fun q h=>by omega⟩ (body:= ?_)
 rintro j ⟨hj,hno⟩
 by_cases hlt:j<i
 ·have hgj:=hg j (by omega)
  have hnx:(at5 b j).c2≠(at5 b i).c2→∀q,q<j+1→(at5 b q).c2≠(at5 b i).c2:=fun hne q hq=>by
   rcases Nat.eq_or_lt_of_le (Nat.lt_succ_iff.1 hq) with rfl|h1
   ·exact hne
   ·exact hno q h1
  have hye:(at5 b j).c2=(at5 b i).c2→metB b i=true:=fun he=>hmi.2 ⟨j,hlt,he⟩
  generalize (at5 b j).c2=x at*
  generalize (at5 b i).c2=y at*
  by_cases hq:x=y
  ·rw[hye hq]
   repeat(first|(refine st ?_;intros)|refine G.draw [] (h:= ?_))
   (refine Dn.post (Hr:=[[(bb,rowf cs T fz)]]) Tryz.results66 (hR:= ?_);exact⟨rfl,rfl⟩)
  ·repeat(first|(refine st ?_;intros)|refine G.draw [] (h:= ?_))
   refine Dn.round (j+1) ⟨hlt,hnx hq⟩ (by omega)
 ·obtain rfl:j=i:=by omega
  have hf:metB b j=false:=by
   cases hb:metB b j with
   |false=>rfl
   |true=>
    obtain⟨q,hq,he⟩:=hmi.1 hb
    exact(hno q hq he).elim
  rw[hf]
  repeat(first|(refine st ?_;intros)|refine G.draw [] (h:= ?_))
  (refine Dn.post (Hr:=[[(bb,rowf cs T fz)]]) Tryz.results66 (hR:= ?_);exact⟨rfl,rfl⟩)
theorem zrep_t5:∀n,zrep n [Value.int .i64 0,.int .i64 0,.int .i64 0,.int .i64 0,.int .i64 0]=(List.replicate n T5.zero).flatMap tcells
 |0=>rfl
 |n+1=>by rw[List.replicate_succ,List.flatMap_cons,←zrep_t5 n];rfl
theorem tset (o:List T5) (i:Nat) (t:T5) (h:i<o.length):setL (o.flatMap tcells) (i*5) [.int .i64 t.c0,.int .i64 t.c1,.int .i64 t.c2,.int .i64 t.c3,.int .i64 t.c4]=(o.set i t).flatMap tcells:=by
 have:=fm_set tcells_len o i t [] h
 rw[List.append_nil,List.append_nil] at this
 exact this
theorem tget {o:List T5} {i j:Nat} {t:T5} {v:Value} (h:o[i]? =some t) (hj:(tcells t)[j]? =some v):(o.flatMap tcells)[i*5+j]? =some v:=by
 have:=fm_get tcells_len h hj []
 rwa[List.append_nil] at this
theorem tset3 {o:List T5} {i:Nat} {t:T5} (h:o[i]? =some t) (x:Int):(o.flatMap tcells).set (i*5+3) (.int .i64 x)=(o.set i {t with c3:=x}).flatMap tcells:=by
 obtain⟨hi,rfl⟩:=List.getElem?_eq_some_iff.1 h
 rw[←tset o i _ hi]
 have h1:=fm_len tcells_len o
 have h2:(i+1)*5≤o.length*5:=Nat.mul_le_mul_right _ hi
 apply List.ext_getElem?
 intro k
 rw[setL_eq _ _ _ (by simp only[List.length_take,List.length_cons,List.length_nil,List.length_append];omega)]
 by_cases hk:k=i*5+3
 ·subst hk
  rw[List.getElem?_set_self (by omega),List.append_assoc,List.getElem?_append_right (by simp only[List.length_take,List.length_cons,List.length_nil,List.length_append];omega),List.getElem?_append_left (by simp only[List.length_take,List.length_cons,List.length_nil,List.length_append];omega)]
  have:i*5+3-(List.take (i*5) (o.flatMap tcells)).length=3:=by rw[List.length_take];omega
  rw[this];rfl
 ·rw[List.getElem?_set_ne (by omega)]
  rcases Nat.lt_or_ge k (i*5) with h3|h3
  ·rw[List.append_assoc,List.getElem?_append_left (by simp only[List.length_take,List.length_cons,List.length_nil,List.length_append];omega),List.getElem?_take,if_pos h3]
  ·rw[List.append_assoc,List.getElem?_append_right (by simp only[List.length_take,List.length_cons,List.length_nil,List.length_append];omega)]
   have h4:(List.take (i*5) (o.flatMap tcells)).length=i*5:=by rw[List.length_take];omega
   rw[h4]
   rcases Nat.lt_or_ge k (i*5+5) with h5|h5
   ·rw[List.getElem?_append_left (by simp only[List.length_take,List.length_cons,List.length_nil,List.length_append];omega)]
    obtain⟨j,rfl⟩:∃j,k=i*5+j:=⟨k-i*5,by omega⟩
    rw[Nat.add_sub_cancel_left]
    have hj:j=0∨j=1∨j=2∨j=4:=by omega
    rcases hj with rfl|rfl|rfl|rfl
    ·exact tget h rfl
    ·exact tget h rfl
    ·exact tget h rfl
    ·exact tget h rfl
   ·rw[List.getElem?_append_right (by simp only[List.length_take,List.length_cons,List.length_nil,List.length_append];omega),List.getElem?_drop]
    congr 1
    simp only[List.length_cons,List.length_nil]
    omega
def visU (b:List T5) (x i:Nat):List T5:=(ofLab (b.take i) x).map (visT b)
theorem visU_skip {b:List T5} {x i:Nat} {t:T5} (h:b[i]? =some t) (hne:t.c3≠(x:Int)):visU b x (i+1)=visU b x i:=by
 unfold visU ofLab
 rw[List.take_add_one,h,List.filter_append]
 simp[hne]
theorem visU_step {b:List T5} {x i:Nat} {t:T5} (h:b[i]? =some t) (he:t.c3=(x:Int)):visU b x (i+1)=visU b x i++[visT b t]:=by
 unfold visU ofLab
 rw[List.take_add_one,h,List.filter_append]
 simp[he]
theorem visU_rest {b:List T5} {x i:Nat} {t:T5} (h:b[i]? =some t) (he:t.c3=(x:Int)):(ofLab b x).map (visT b)=visU b x i++visT b t::(ofLab (b.drop (i+1)) x).map (visT b):=by
 obtain⟨hi,rfl⟩:=List.getElem?_eq_some_iff.1 h
 have h1:b=b.take i++b[i]::b.drop (i+1):=by rw[←List.drop_eq_getElem_cons hi,List.take_append_drop]
 unfold visU ofLab
 have h2:List.filter (fun t=>decide (t.c3=(x:Int))) b=List.filter (fun t=>decide (t.c3=(x:Int))) (b.take i)++b[i]::List.filter (fun t=>decide (t.c3=(x:Int))) (b.drop (i+1)):=by
  conv=>lhs;rw[h1]
  rw[List.filter_append,List.filter_cons,if_pos (by simpa using he)]
 rw[h2,List.map_append,List.map_cons]
def rootV (y:Nat×Fo):T5:=⟨(y.1:Int),-1,(y.1:Int),-1,((y.2.sz+1:Nat):Int)⟩
structure RtX where
 v:Nat
 n:Nat
 tl1:List (Nat×Fo)
 tl2:List (Nat×Fo)
 o:List T5
structure RtOk (N:Nat) (tl:List (Nat×Fo)) (s:RtX):Prop where
 v:s.v≤N
 spl:tl=s.tl1++s.tl2
 lo:∀y∈s.tl1,y.1<s.v
 hi:∀y∈s.tl2,s.v≤y.1
 w:Wrt N (tabL tl) (cntM (vsT s.tl1)) s.o
 n:s.n=cntM (vsT s.tl1)
structure RuX where
 i:Nat
 n:Nat
 o:List T5
structure RwX where
 u:Nat
 dn:List Int
structure RkX where
 k:Int
 rest:List Int
 dn:List Int
section
variable {N:Nat} {es:List IE} {lab:List Int} {fl:List Bool} {r b:List T5} {tl:List (Nat×Fo)} {l:List T5}
theorem TabOk.all_is (h:TabOk N es lab b tl l) (hN:N≤1000000):(numM 0 0).all (0,0) (vsT tl)=tabL tl:=numM_vsT (d:=0) (n:=0) (by have:=h.tlo.sz;omega)
theorem TabOk.cnt_all (h:TabOk N es lab b tl l) (hN:N≤1000000):cntM (vsT tl)=N:=by
 unfold cntM
 rw[h.all_is hN,h.tabL_len]
theorem vsT_app (a c:List (Nat×Fo)):vsT (a++c)=vsT a++vsT c:=by unfold vsT;rw[List.flatMap_append]
theorem RtOk.root (h:TabOk N es lab b tl l) {s:RtX} (hs:RtOk N tl s) (hv:lab[s.v]? =some (s.v:Int)):∃T tl2,s.tl2=(s.v,T)::tl2:=by
 have hvN:s.v<N:=by rw[←h.tlo.len];exact(List.getElem?_eq_some_iff.1 hv).1
 obtain⟨y,hy,he⟩:=h.tlo.all s.v hvN
 rw[hv] at he
 have hyv:y.1=s.v:=by have:=Option.some.inj he;omega
 rw[hs.spl,List.mem_append] at hy
 have hup:=h.tlo.up
 rw[hs.spl,List.pairwise_append] at hup
 rcases hy with hy|hy
 ·have:=hs.lo y hy;omega
 ·match ht:s.tl2,hy with
  |z::t2,hy=>
   rw[ht] at hup
   rcases List.mem_cons.1 hy with rfl|hy
   ·exact⟨y.2,t2,by rw[←hyv]⟩
   ·have h1:=List.rel_of_pairwise_cons hup.2.1 hy
    have h2:=hs.hi z (by rw[ht];exact List.mem_cons_self)
    omega
theorem RtOk.skip (h:TabOk N es lab b tl l) {s:RtX} (hs:RtOk N tl s) (hlt:s.v<N) {x:Int} (hx:lab[s.v]? =some x) (hne:x≠(s.v:Int)):RtOk N tl ⟨s.v+1,s.n,s.tl1,s.tl2,s.o⟩:=by
 refine⟨hlt,hs.spl,fun y hy=>Nat.lt_succ_of_lt (hs.lo y hy),fun y hy=> ?_,hs.w,hs.n⟩
 have h1:=hs.hi y hy
 have h2:=(h.tlo.tree y (by rw[hs.spl];exact List.mem_append_right _ hy)).root
 rcases Nat.eq_or_lt_of_le h1 with h3|h3
 ·rw[←h3,hx] at h2
  exact(hne (Option.some.inj h2)).elim
 ·exact h3
theorem RtOk.tell (h:TabOk N es lab b tl l) (hN:N≤1000000) {s:RtX} (hs:RtOk N tl s) {T:Fo} {t2:List (Nat×Fo)} (ht:s.tl2=(s.v,T)::t2):
  cntM (vsT s.tl1)<N∧cntM (vsT s.tl1++[rootV (s.v,T)])=cntM (vsT s.tl1)+1∧
  Wrt N (tabL tl) (cntM (vsT s.tl1)+1) (s.o.set s.v ⟨(s.v:Int),-1,(cntM (vsT s.tl1):Int),0,0⟩):=by
 have e1:vsT tl=vsT s.tl1++rootV (s.v,T)::(trv s.v 0 s.v T++vsT t2):=by
  rw[hs.spl,vsT_app,ht,vsT_cons];rfl
 obtain⟨h1,e,h2,h3,h4⟩:=cntM_down (P:=vsT s.tl1) (Q:=trv s.v 0 s.v T++vsT t2) (v:=rootV (s.v,T)) (by show(s.v:Int)≠-1;omega)
 rw[←e1,h.all_is hN] at h2
 obtain⟨k1,k2,w,_,k3,_,k4⟩:=h.entry h2
 have k5:e.c4=0:=by
  rcases k4 with k4|⟨j,e',_,g1,g2,_⟩
  ·exact k4.2
  ·obtain⟨_,_,w',_,g3,_⟩:=h.entry g1
   have:e.c1= -1:=h4
   omega
 have hw:=h.wstep hs.w h2
 have he0:e.c0=(s.v:Int):=h3
 have he1:e.c1= -1:=h4
 have e2:({e with c3:=0}:T5)=⟨(s.v:Int),-1,(cntM (vsT s.tl1):Int),0,0⟩:=by
  cases e;simp_all
 rw[e2,he0,Int.toNat_natCast] at hw
 exact⟨k1,h1,hw⟩
theorem RtOk.tell2 (hP:PartsOk N es lab fl r b) (hf:∀e∈es,inE N e) (h:TabOk N es lab b tl l) (hN:N≤1000000) {s:RtX} (hs:RtOk N tl s) {T:Fo} {t2:List (Nat×Fo)} (ht:s.tl2=(s.v,T)::t2) {i:Nat} {t:T5} (hi:b[i]? =some t) (hc3:t.c3=(s.v:Int)):
  let k:=cntM (vsT s.tl1++rootV (s.v,T)::visU b s.v i)
  ((metB b i=true∨t.c2=(s.v:Int))∧cntM (vsT s.tl1++rootV (s.v,T)::visU b s.v (i+1))=k)∨
  (metB b i=false∧t.c2≠(s.v:Int)∧cntM (vsT s.tl1++rootV (s.v,T)::visU b s.v (i+1))=k+1∧k<N∧∀o,Wrt N (tabL tl) k o→
   ∃to from_:Nat,∃d:Int,to<N∧from_<N∧t.c2=(to:Int)∧t.c1=(from_:Int)∧(at5 o from_).c4=d∧0≤d∧d+1<N∧Wrt N (tabL tl) (k+1) (o.set to ⟨(to:Int),(from_:Int),(k:Int),0,d+1⟩)):=by
 intro k
 have hT:=h.tlo.tree (s.v,T) (by rw[hs.spl,ht];exact List.mem_append_right _ List.mem_cons_self)
 have hvis:=hT.vis
 dsimp only at hvis
 have e1:vsT tl=(vsT s.tl1++rootV (s.v,T)::visU b s.v i)++visT b t::((ofLab (b.drop (i+1)) s.v).map (visT b)++vsT t2):=by
  rw[hs.spl,vsT_app,ht,vsT_cons,←hvis,visU_rest hi hc3]
  simp[rootV]
 have e2:vsT s.tl1++rootV (s.v,T)::visU b s.v (i+1)=(vsT s.tl1++rootV (s.v,T)::visU b s.v i)++[visT b t]:=by
  rw[visU_step hi hc3];simp
 rcases hP.vis_seen hf hi with⟨h1,h2⟩|⟨h1,h2,h3,h4,h5⟩
 ·left
  rw[hc3] at h2
  exact⟨h2,by rw[e2];exact cntM_up h1⟩
 ·right
  rw[hc3] at h4
  obtain⟨g1,e,g2,g3,g4⟩:=cntM_down (P:=vsT s.tl1++rootV (s.v,T)::visU b s.v i) (Q:=(ofLab (b.drop (i+1)) s.v).map (visT b)++vsT t2) (v:=visT b t) (by rw[h1];exact h5)
  rw[←e1,h.all_is hN] at g2
  obtain⟨k1,k2,w,hw,k3,k3b,k4⟩:=h.entry g2
  refine⟨h3,h4,by rw[e2];exact g1,k1,fun o ho=> ?_⟩
  rw[h1] at g3
  rw[h2] at g4
  obtain⟨j,e',hj,q1,q2,q3⟩:∃j e',j<k∧(tabL tl)[j]? =some e'∧e'.c0=e.c1∧e.c4=e'.c4+1:=by
   rcases k4 with k4|k4
   ·exfalso
    obtain⟨i',n',hi',hr',_,rfl⟩:=hP.b_arc (List.mem_of_getElem? hi)
    obtain⟨_,_,c1,_⟩:=hP.arc_g hf (itF_lt (f:=sigF r) sigF_lt hi' n')
    have:(arcAt r i' n').c1=(at5 r (itF (sigF r) n' i')).c1:=rfl
    omega
   ·exact k4
  obtain⟨_,_,u,hu,q4,q5,_⟩:=h.entry q1
  have hb1:=h.bnd hu
  rw[q5] at hb1
  have hb2:=h.bnd hw
  rw[k3b] at hb2
  have q6:=ho.got j e' hj q1
  rw[q4,Int.toNat_natCast] at q6
  have q7:(at5 o u).c4=e'.c4:=by
   have:=at5get (r:=o) (k:=u) (by rw[ho.len];exact hu)
   rw[q6] at this
   rw[←Option.some.inj this]
  refine⟨w,u,e'.c4,hw,hu,by omega,by omega,q7,by omega,by omega,?_⟩
  have hst:=h.wstep ho g2
  have e3:({e with c3:=0}:T5)=⟨(w:Int),(u:Int),(k:Int),0,e'.c4+1⟩:=by
   show(⟨e.c0,e.c1,e.c2,0,e.c4⟩:T5)=_
   rw[k3,k2,q3,←q2,q4]
  rw[e3,k3,Int.toNat_natCast] at hst
  exact hst
theorem RtOk.done (h:TabOk N es lab b tl l) {s:RtX} (hs:RtOk N tl s) (hlt:s.v<N) {T:Fo} {t2:List (Nat×Fo)} (ht:s.tl2=(s.v,T)::t2) {o:List T5} {m:Nat} (hm:b.length≤m) (ho:Wrt N (tabL tl) (cntM (vsT s.tl1++rootV (s.v,T)::visU b s.v m)) o):RtOk N tl ⟨s.v+1,cntM (vsT s.tl1++rootV (s.v,T)::visU b s.v m),s.tl1++[(s.v,T)],t2,o⟩:=by
 have hT:=h.tlo.tree (s.v,T) (by rw[hs.spl,ht];exact List.mem_append_right _ List.mem_cons_self)
 have hup:=h.tlo.up
 rw[hs.spl,ht,List.pairwise_append,List.pairwise_cons] at hup
 have e1:vsT (s.tl1++[(s.v,T)])=vsT s.tl1++rootV (s.v,T)::visU b s.v m:=by
  have hvis:=hT.vis
  dsimp only at hvis
  unfold visU
  rw[List.take_of_length_le hm,vsT_app,vsT_cons,hvis]
  simp[rootV,vsT]
 refine⟨hlt,by rw[hs.spl,ht,List.append_assoc];rfl,fun y hy=> ?_,fun y hy=>hup.2.1.1 y hy,?_,by rw[e1]⟩
 ·rcases List.mem_append.1 hy with h1|h1
  ·exact Nat.lt_succ_of_lt (hs.lo y h1)
  ·rw[List.mem_singleton.1 h1];exact Nat.lt_succ_self _
 ·show Wrt N (tabL tl) (cntM (vsT (s.tl1++[(s.v,T)]))) o
  rw[e1]
  exact ho
theorem RtOk.end_ (h:TabOk N es lab b tl l) (hN:N≤1000000) {s:RtX} (hs:RtOk N tl s) (hv:s.v=N):s.o=TabOk.outC N l []:=by
 have h0:s.tl2=[]:=by
  cases ht:s.tl2 with
  |nil=>rfl
  |cons y t2=>
   exfalso
   have hy:y∈s.tl2:=by rw[ht];exact List.mem_cons_self
   have h1:=hs.hi y hy
   have h2:=(h.tlo.tree y (by rw[hs.spl];exact List.mem_append_right _ hy)).root
   have h3:=(List.getElem?_eq_some_iff.1 h2).1
   rw[h.tlo.len] at h3
   omega
 have h1:=hs.spl
 rw[h0,List.append_nil] at h1
 have hw:=hs.w
 rw[←h1,h.cnt_all hN] at hw
 exact h.wend hw
end
theorem Trees17ct (N:Nat) (es:List IE) (lab:List Int) (fl:List Bool) (r b:List T5) (tl:List (Nat×Fo)) (l:List T5) (hP:PartsOk N es lab fl r b) (hf:∀e∈es,inE N e) (h:TabOk N es lab b tl l) (hN:N≤1000)
  (pa:Option Addr) (capa:Nat) (ca:Chunk) (hva:RV pa N (labT lab) ca) (pb:Option Addr) (m capb:Nat) (cb:Chunk) (hvb:RV pb m b cb) (hm:m≤1000000):
  Ct Tryz.prog 35 [.slice pa N capa,.slice pb m capb] [ca,cb] fun v H'=>∃bo,v= .slice (some ⟨bo,0,none⟩) N N∧H'=[ca,cb,[(bo,row (l.flatMap tcells) 47)]]:=by
 have hbl:b.length=m:=hvb.1
 have hll:=h.tlo.len
 refine Ct.intro Tryz.func35 rfl Tryz.ntmps35 (nle rfl) fun w0=> ?_;dsimp only[argSlots,Nat.reduceAdd]
 repeat(first|(refine st ?_;intros)|refine G.draw [] (h:= ?_)|(refine cq hMe ?_))
 rename_i bo
 rw[zrep_t5]
 refine G.loop (X:=RtX) (fun s=>RtOk N tl s) (fun s=>[(7,.int .i64 (s.v:Int)),(6,.int .i64 (s.n:Int)),(5,.slice (some ⟨bo,0,none⟩) N N),(0,.slice pa N capa),(1,.slice pb m capb)])
  (fun s=>[[(bo,row (s.o.flatMap tcells) 47)],ca,cb]) (fun s=>N-s.v) ⟨0,0,[],tl,List.replicate N T5.zero⟩ ⟨Nat.zero_le _,rfl,by simp,fun y _=>Nat.zero_le _,TabOk.wstart N tl,rfl⟩ (body:= ?_)
 rintro⟨v,n,tl1,tl2,o⟩ hs
 have hv:=hs.v
 have hol:=hs.w.len
 dsimp only at hv hol⊢
 by_cases hlt:v<N
 ·have hlv:lab[v]? =some lab[v]:=List.getElem?_eq_getElem (by omega)
  have hskip:=fun hne=>hs.skip h hlt hlv hne
  have hroot:=hs.root h
  obtain⟨b0,off,cs,T0,fz,rfl,rfl,_,hget⟩:=(RV.rw hva).pos tcells_len (by omega)
  have q1:cs[off+v*5+1]? =some (.int .i64 (at5 (labT lab) v).c1):=hget v 1 _ _ (at5get (by rw[labT_len];omega)) rfl
  rw[labT_at hlv] at q1
  dsimp only at hskip hroot
  rw[hlv] at hroot
  generalize lab[v]=x at*
  by_cases hx:x=(v:Int)
  rotate_left
  ·repeat(first|(refine st ?_;intros)|refine G.draw [] (h:= ?_)|(refine cq hMe ?_))
   refine Dn.round ⟨v+1,n,tl1,tl2,o⟩ (hskip hx) (by dsimp only;omega)
  obtain⟨T,t2,rfl⟩:=hroot (by rw[hx])
  obtain⟨hk1,hk2,hw1⟩:=hs.tell h (by omega) rfl
  have hn:=hs.n
  dsimp only at hk1 hk2 hw1 hn
  rw[←hn] at hk1 hk2 hw1
  have hset:=tset o v ⟨(v:Int),-1,(n:Int),0,0⟩ (by omega)
  have hcl:=fm_len tcells_len o
  have hcl2:(v+1)*5≤o.length*5:=Nat.mul_le_mul_right _ (by omega)
  dsimp only at hset
  have e1:IntKind.wrap .i64 ((n:Int)+1)=((n+1:Nat):Int):=wrap_i64 (by omega)
  repeat(first|(refine st ?_;intros)|refine G.draw [] (h:= ?_)|(refine cq hMe ?_))
  refine G.loop (X:=RuX) (fun q=>q.i≤m∧q.n=cntM (vsT tl1++rootV (v,T)::visU b v q.i)∧Wrt N (tabL tl) q.n q.o)
   (fun q=>[(8,.int .i64 (q.i:Int)),(7,.int .i64 (v:Int)),(6,.int .i64 (q.n:Int)),(5,.slice (some ⟨bo,0,none⟩) N N),(0,.slice (some ⟨b0,off,none⟩) N capa),(1,.slice pb m capb)])
   (fun q=>[[(bo,row (q.o.flatMap tcells) 47)],[(b0,rowf cs T0 fz)],cb]) (fun q=>m-q.i) ⟨0,n+1,o.set v ⟨(v:Int),-1,(n:Int),0,0⟩⟩ ⟨Nat.zero_le _,hk2.symm,hw1⟩ (body:= ?_)
  rintro⟨i,n2,o2⟩ ⟨hi,hn2,hw2⟩
  dsimp only at hi hn2 hw2⊢
  have hol2:=hw2.len
  by_cases hlt2:i<m
  ·have hti:b[i]? =some (at5 b i):=at5get (by omega)
   have hMe:=met17ct pb m capb b cb hvb hm i hlt2
   have htell:=fun hc3=>hs.tell2 hP hf h (by omega) rfl hti hc3
   have hskp:=fun hne=>visU_skip (x:=v) hti hne
   obtain⟨b2,off2,cs2,T2,fz2,rfl,rfl,_,hget2⟩:=(RV.rw hvb).pos tcells_len (by omega)
   have r1:cs2[off2+i*5+1]? =some (.int .i64 (at5 b i).c1):=hget2 i 1 _ _ hti rfl
   have r2:cs2[off2+i*5+2]? =some (.int .i64 (at5 b i).c2):=hget2 i 2 _ _ hti rfl
   have r3:cs2[off2+i*5+3]? =some (.int .i64 (at5 b i).c3):=hget2 i 3 _ _ hti rfl
   dsimp only at htell
   rw[←hn2] at htell
   by_cases hc3:(at5 b i).c3=(v:Int)
   ·replace htell:=htell hc3
    generalize (at5 b i).c1=z1 at*
    generalize (at5 b i).c2=z2 at*
    generalize (at5 b i).c3=z3 at*
    rcases htell with⟨h1,h2⟩|⟨h1,h2,h3,h4,h5⟩
    ·cases hmb:metB b i with
     |true=>
      rw[hmb] at hMe
      repeat(first|(refine st ?_;intros)|refine G.draw [] (h:= ?_)|(refine cq hMe ?_))
      refine Dn.round ⟨i+1,n2,o2⟩ ⟨hlt2,h2.symm,hw2⟩ (by dsimp only;omega)
     |false=>
      rw[hmb] at hMe h1
      have h6:z2=(v:Int):=by simpa using h1
      repeat(first|(refine st ?_;intros)|refine G.draw [] (h:= ?_)|(refine cq hMe ?_))
      refine Dn.round ⟨i+1,n2,o2⟩ ⟨hlt2,h2.symm,hw2⟩ (by dsimp only;omega)
    ·rw[h1] at hMe
     obtain⟨to,fr,d,g1,g2,rfl,rfl,g5,g6,g7,g8⟩:=h5 o2 hw2
     have hset2:=tset o2 to ⟨(to:Int),(fr:Int),(n2:Int),0,d+1⟩ (by omega)
     have hcl3:=fm_len tcells_len o2
     have hcl4:(to+1)*5≤o2.length*5:=Nat.mul_le_mul_right _ (by omega)
     have hgf:(o2.flatMap tcells)[fr*5+4]? =some (.int .i64 (at5 o2 fr).c4):=tget (at5get (by omega)) rfl
     rw[g5] at hgf
     dsimp only at hset2
     have e2:IntKind.wrap .i64 ((n2:Int)+1)=((n2+1:Nat):Int):=wrap_i64 (by omega)
     have e3:IntKind.wrap .i64 (d+1)=d+1:=wrap_i64 (by omega)
     repeat(first|(refine st ?_;intros)|refine G.draw [] (h:= ?_)|(refine cq hMe ?_))
     refine Dn.round ⟨i+1,n2+1,o2.set to ⟨(to:Int),(fr:Int),(n2:Int),0,d+1⟩⟩ ⟨hlt2,h3.symm,g8⟩ (by dsimp only;omega)
   ·have h6:=hskp hc3
    generalize (at5 b i).c1=z1 at*
    generalize (at5 b i).c2=z2 at*
    generalize (at5 b i).c3=z3 at*
    repeat(first|(refine st ?_;intros)|refine G.draw [] (h:= ?_)|(refine cq hMe ?_))
    refine Dn.round ⟨i+1,n2,o2⟩ ⟨hlt2,by rw[h6];exact hn2,hw2⟩ (by dsimp only;omega)
  ·obtain rfl:i=m:=by omega
   have hd:=hs.done h hlt rfl (o:=o2) (m:=i) (by omega) (by rw[←hn2];exact hw2)
   dsimp only at hd
   rw[←hn2] at hd
   repeat(first|(refine st ?_;intros)|refine G.draw [] (h:= ?_)|(refine cq hMe ?_))
   refine Dn.round ⟨v+1,n2,tl1++[(v,T)],t2,o2⟩ hd (by dsimp only;omega)
 obtain rfl:v=N:=by omega
 obtain rfl:=hs.end_ h (by omega) rfl
 clear hs hol hlt
 repeat(first|(refine st ?_;intros)|refine G.draw [] (h:= ?_)|(refine cq hMe ?_))
 refine G.loop (X:=RwX) (fun s=>s.u≤v∧s.dn.Perm ((List.range s.u).flatMap (TabOk.wayF tl))) (fun s=>[(11,.int .i64 (s.u:Int)),(5,.slice (some ⟨bo,0,none⟩) v v)])
  (fun s=>[[(bo,row ((TabOk.outC v l s.dn).flatMap tcells) 47)],ca,cb]) (fun s=>v-s.u) ⟨0,[]⟩ ⟨Nat.zero_le _,.refl _⟩ (body:= ?_)
 rintro⟨u,dn⟩ ⟨hu,hdn⟩
 dsimp only at hu hdn⊢
 by_cases hul:u<v
 rotate_left
 ·obtain rfl:u=v:=by omega
  rw[h.outC_end hdn]
  repeat(first|(refine st ?_;intros)|refine G.draw [] (h:= ?_)|(refine cq hMe ?_))
  (refine Dn.post (Hr:=[ca,cb,[(bo,row (l.flatMap tcells) 47)]]) Tryz.results35 (hR:= ?_);exact⟨bo,rfl,rfl⟩)
 obtain⟨hw,hwl,hwlt,_⟩:=h.way_is hul
 have hfl:=TabOk.flat_le (TabOk.wayF tl) v (u+1) fun w hw=>(h.way_is (show w<v by omega)).2.1
 have hfl2:(u+1)*v≤1000*1000:=Nat.mul_le_mul (by omega) (by omega)
 repeat(first|(refine st ?_;intros)|refine G.draw [] (h:= ?_)|(refine cq hMe ?_))
 refine G.loop (X:=RkX) (fun q=>Way (fun x=>(at5 l x.toNat).c1) q.k q.rest∧(∀w∈q.rest,w<(v:Int))∧(q.rest++q.dn).Perm ((List.range (u+1)).flatMap (TabOk.wayF tl)))
  (fun q=>[(12,.int .i64 q.k),(11,.int .i64 (u:Int)),(5,.slice (some ⟨bo,0,none⟩) v v)]) (fun q=>[[(bo,row ((TabOk.outC v l q.dn).flatMap tcells) 47)],ca,cb]) (fun q=>q.rest.length) ⟨u,TabOk.wayF tl u,dn⟩
  ⟨hw,hwlt,by
   rw[List.range_succ,List.flatMap_append]
   simp only[List.flatMap_cons,List.flatMap_nil,List.append_nil]
   exact(List.perm_append_comm).trans (hdn.append_right _)⟩ (body:= ?_)
 clear hw hwlt hwl hdn
 rintro⟨k,rest,dn⟩ ⟨hw,hwlt,hp⟩
 dsimp only at hw hwlt hp⊢
 cases hw with
 |top hneg=>
  have hn0:¬0≤k:=by omega
  repeat(first|(refine st ?_;intros)|refine G.draw [] (h:= ?_)|(refine cq hMe ?_))
  refine Dn.round ⟨u+1,dn⟩ ⟨hul,by simpa using hp⟩ (by dsimp only;omega)
 | @up _ ch hpos hw=>
  have hkv:=hwlt k List.mem_cons_self
  obtain⟨q,rfl⟩:∃q:Nat,k=(q:Int):=⟨k.toNat,by omega⟩
  have hq:q<v:=by omega
  have hlen:=hp.length_eq
  have hcle:=List.count_le_length (a:=(q:Int)) (l:=dn)
  rw[List.length_append,List.length_cons] at hlen
  have g0:=TabOk.outC_get (l:=l) (dn:=dn) hq
  have r3:=tget (j:=3) g0 rfl
  have hset:=(tset3 g0 (((dn.count (q:Int):Nat):Int)+1)).trans (congrArg (List.flatMap tcells) (TabOk.outC_set (l:=l) (dn:=dn) hq rfl))
  have g1:=TabOk.outC_get (l:=l) (dn:=(q:Int)::dn) hq
  have r1:=tget (j:=1) g1 rfl
  have hcl:=fm_len tcells_len (TabOk.outC v l dn)
  have hol:(TabOk.outC v l dn).length=v:=by unfold TabOk.outC;simp
  have hcl2:(q+1)*5≤v*5:=Nat.mul_le_mul_right _ (by omega)
  have hpn:(ch++(q:Int)::dn).Perm ((List.range (u+1)).flatMap (TabOk.wayF tl)):=List.perm_middle.trans hp
  rw[Int.toNat_natCast] at hw
  rw[hol] at hcl
  generalize hcs:(TabOk.outC v l dn).flatMap tcells=cs at*
  generalize hcs2:(TabOk.outC v l ((q:Int)::dn)).flatMap tcells=cs2 at*
  generalize dn.count (q:Int)=cn at*
  have e1:IntKind.wrap .i64 ((cn:Int)+1)=(cn:Int)+1:=wrap_i64 (by omega)
  generalize hz:(at5 l q).c1=z1 at*
  repeat(first|(refine st ?_;intros)|refine G.draw [] (h:= ?_)|(refine cq hMe ?_))
  rw[←hcs2]
  refine Dn.round ⟨z1,ch,(q:Int)::dn⟩ ⟨hw,fun w hw=>hwlt w (List.mem_cons_of_mem _ hw),hpn⟩ (by dsimp only[List.length_cons];omega)
end Go.Proofs.YtlnehgklibbjiaaGreat
