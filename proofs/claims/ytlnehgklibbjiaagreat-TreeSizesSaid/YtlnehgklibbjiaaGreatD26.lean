/-
  Parts of the proof, put together: PartsO, Laid17, LawP, Clean17, Tw, Fo, TourC, Vs. No condition.
-/
import Derived.Test.YtlnehgklibbjiaaGreatD25
set_option linter.unusedVariables false
set_option linter.unusedSimpArgs false
set_option linter.unnecessarySimpa false
set_option maxHeartbeats 4000000
namespace Go.Proofs.YtlnehgklibbjiaaGreat
open Go.SL Go.Spc Go.Tup Go.Srt Go.Gr
theorem tours_mem {r:List T5} {t:T5} (h:t∈toursF r):∃i n,i<r.length∧n<perA r i∧t=arcAt r i n:=by
 unfold toursF toursTo at h
 obtain⟨i,hi,hx⟩:=List.mem_flatMap.1 h
 split at hx
 ·unfold tourL at hx
  obtain⟨n,hn,rfl⟩:=List.mem_map.1 hx
  exact⟨i,n,List.mem_range.1 hi,List.mem_range.1 hn,rfl⟩
 ·simp at hx
theorem labT_len (lab:List Int):(labT lab).length=lab.length:=by unfold labT;simp
theorem in_nat {x:Int} (h0:0≤x) (h:x≤1000000):inI64 x:=⟨by omega,by omega⟩
namespace PartsOk
variable {N:Nat} {es:List IE} {lab:List Int} {fl:List Bool} {r b:List T5}
theorem lab_ok (h:PartsOk N es lab fl r b) (hN:N≤1000000):∀t∈labT lab,okT 2 t:=by
 intro t ht
 unfold labT at ht
 obtain⟨v,hv,rfl⟩:=List.mem_map.1 ht
 have hv:=List.mem_range.1 hv
 have hl:=h.labs.len
 obtain⟨x,hx,hxv,_⟩:=h.labs.root (v:=v) (by omega)
 have:lab.getD v 0=(x:Int):=by rw[List.getD_eq_getElem?_getD,hx];rfl
 rw[this]
 exact okT2 (in_nat (by omega) (by omega)) (in_nat (by omega) (by omega))
theorem arc_of (h:PartsOk N es lab fl r b) (hf:∀e∈es,inE N e) {k:Nat} (hk:k<r.length):∃(i:Nat) (d:IE) (x:Nat),es[i]? =some d∧fl[i]? =some true∧x<N∧lab[d.1.toNat]? =some (x:Int)∧
  (at5 r k=⟨2*(i:Int),d.1,d.2,(x:Int),0⟩∨at5 r k=⟨2*(i:Int)+1,d.2,d.1,(x:Int),0⟩):=by
 obtain⟨e,he,hx⟩:=h.arcs.edge hk
 obtain⟨i,d,hd,hfl,rfl⟩:=h.edge he
 have h1:=hf d (List.mem_of_getElem? hd)
 unfold inE at h1
 obtain⟨x,hx1,hx2,_⟩:=h.labs.root (v:=d.1.toNat) (by omega)
 refine⟨i,d,x,hd,hfl,by omega,hx1,?_⟩
 rw[labT_at hx1] at hx
 exact hx
theorem tour_ok (h:PartsOk N es lab fl r b) (hf:∀e∈es,inE N e) (hN:N≤1000) (hm:es.length≤1000):∀t∈b,okT 5 t:=by
 intro t ht
 rw[h.tours] at ht
 obtain⟨i,n,hi,hn,rfl⟩:=tours_mem ht
 have hp:=(h.arcs.per hi).2.1
 have hrl:=h.len
 have hfl:=forT_len (edT es) fl
 rw[edT_len] at hfl
 have hk:=itF_lt (f:=sigF r) sigF_lt hi n
 unfold arcAt
 obtain⟨j,d,x,hd,_,hxN,_,hx⟩:=h.arc_of hf hk
 have hj:=(List.getElem?_eq_some_iff.1 hd).1
 have h1:=hf d (List.mem_of_getElem? hd)
 unfold inE at h1
 rcases hx with hx|hx<;>rw[hx]<;>exact okT5 (in_nat (by dsimp only;omega) (by dsimp only;omega)) (in_nat (by dsimp only;omega) (by dsimp only;omega)) (in_nat (by dsimp only;omega) (by dsimp only;omega)) (in_nat (by dsimp only;omega) (by dsimp only;omega)) (in_nat (by omega) (by omega))
theorem b_len (h:PartsOk N es lab fl r b) (hf:∀e∈es,inE N e) (hN:N≤1000000):b.length≤2*N:=by
 have h1:=h.tours_len hf
 have h2:=h.roots_for hf hN
 omega
end PartsOk
structure LaidOk (ro N:Nat) (es:List IE) (W:Wk) (f h:Fl) (lab:List Int) (fl:List Bool) (r b:List T5):Prop where
 parts:PartsOk N es lab fl r b
 inF:FileIn W (f,labT lab)
 inH:FileIn W (h,b)
 fw:f.width=2
 hw:h.width=5
 fc:f.count=N
 hc:h.count=b.length
 size:W.δ.size=10
 room:W.α.room=ro
 used:W.α.used=0
 fault:W.δ.fault= -1
 acts:W.δ.acts≤3*N
 big:9000≤big W.σ.free+3*N
 n:W.σ.n=9000
 live:W.live.Perm (addF h (addF f []))
 sum:f.blocks+h.blocks≤3*N
theorem laid17ct (bw bd ba bs:Nat) (ro:Nat) (hR:10≤ro) (cd ca cs:Chunk) (hW:Wc bd ba bs (wk0 10 9000 ro) cd ca cs) (N:Nat) (hN:N≤1000) (p:Option Addr) (m cap:Nat) (es:List IE) (c:Chunk) (hv:Rw ecl 2 p m es c) (hm:m≤1000) (hf:∀e∈es,inE N e):
  Ct Tryz.prog 20 [pv bw,gv N p m cap] [wrow bw bd ba bs,cd,ca,cs,c] fun v H'=>∃cd' ca' cs' W f h lab fl r b,v= .tuple #[flv f,flv h,.bool true]∧H'=[wrow bw bd ba bs,cd',ca',cs',c]∧Wc bd ba bs W cd' ca' cs'∧LaidOk ro N es W f h lab fl r b:=by
 have hflv:∀f:Fl,flv f= .agg #[.int .i64 (f.first:Int),.int .i64 (f.blocks:Int),.int .i64 (f.width:Int),.int .i64 (f.count:Int)]:=fun _=>rfl
 have hP:=parts17ct N hN p m cap es c hv hm hf
 unfold gv at hP⊢
 refine Ct.intro Tryz.func20 rfl Tryz.ntmps20 (nle rfl) fun w0=> ?_;dsimp only[argSlots,Nat.reduceAdd]
 repeat(first|(refine st ?_;intros)|refine G.draw (id:=4) [(8,.eff [1])] (h:= ?_))
 refine R.call (hct:=hP) (h:= ?_)
 rintro _ _ ⟨pa,na,ka,ca0,pb,nb,kb,cb,lab,fl,r,b,rfl,rfl,hva,hvb,hpa⟩
 try dsimp only[List.cons_append,List.nil_append]
 have hna:na=N:=by
  have h1:=hva.1
  rw[labT_len,hpa.labs.len] at h1
  exact h1.symm
 subst hna
 have hnb:b.length=nb:=hvb.1
 have hbl:=hpa.b_len hf (by omega)
 have hn1:nblocks 10 2 na≤na:=nblocks_le (holds_pos (by omega) (by omega) (by omega))
 have hn2:nblocks 10 5 nb≤nb:=nblocks_le (holds_pos (by omega) (by omega) (by omega))
 have hLy:=Lay_k bw bd ba bs _ cd ca cs hW 2 (by omega) (by omega) pa na ka _ ca0 hva (by omega) (hpa.lab_ok (by omega)) (by show 10≤ro-0;omega) rfl (Nat.zero_le _) (by rw[big0];show nblocks 10 2 na≤_;omega)
 rw[show(wk0 10 9000 ro).δ.size=10 from rfl] at hLy
 repeat(first|(refine st ?_;intros)|refine G.draw (id:=4) [(8,.eff [1])] (h:= ?_))
 refine R.call (hct:=hLy) (h:= ?_)
 rintro _ _ ⟨cd1,ca1,cs1,W1,f,rfl,rfl,hW1,hE1,hK1,hg1,hl1,hf1,hc1,hb1,hfo1⟩
 try dsimp only[List.cons_append,List.nil_append]
 have hsz1:W1.δ.size=10:=hE1.size
 have hrm1:W1.α.room=ro:=hE1.room
 have hus1:W1.α.used=0:=used_eq hW hW1 hg1
 have hbg1:=hE1.big
 have hac1:=hE1.acts.2
 rw[big0] at hbg1
 rw[show(wk0 10 9000 ro).δ.acts=0 from rfl] at hac1
 have hLy2:=Lay_k bw bd ba bs W1 cd1 ca1 cs1 hW1 5 (by omega) (by omega) pb nb kb b cb hvb (by omega) (hpa.tour_ok hf (by omega) (by have:=hv.1;omega)) (by omega) (hE1.fault rfl) (by omega) (by rw[hsz1];omega)
 rw[hsz1] at hLy2
 rw[hflv]
 repeat(first|(refine st ?_;intros)|refine G.draw (id:=4) [(8,.eff [1])] (h:= ?_))
 refine R.call (hct:=hLy2) (h:= ?_)
 rintro _ _ ⟨cd2,ca2,cs2,W2,h,rfl,rfl,hW2,hE2,hK2,hg2,hl2,hf2,hc2,hb2,hfo2⟩
 try dsimp only[List.cons_append,List.nil_append]
 have hbg2:=hE2.big
 have hac2:=hE2.acts.2
 rw[hflv]
 repeat(first|(refine st ?_;intros)|refine G.draw (id:=4) [(8,.eff [1])] (h:= ?_))
 (refine Dn.post (Hr:=[wrow bw bd ba bs,cd2,ca2,cs2,c]) Tryz.results20 (hR:= ?_);exact⟨cd2,ca2,cs2,W2,f,h,lab,fl,r,b,by rw[dec_true rfl];rfl,rfl,hW2,
  {parts:=hpa,inF:=(FileIn.new (by exact hfo1) hsz1 hl1).stay hE2.size hK2 (mem_addF hl2),inH:=FileIn.new hfo2 (hE2.size.trans hsz1) hl2,fw:=hf1,hw:=hf2,fc:=hc1,hc:=by omega,size:=hE2.size.trans hsz1,room:=hE2.room.trans hrm1,used:=(used_eq hW1 hW2 hg2).trans hus1,fault:=hE2.fault (hE1.fault rfl),acts:=by omega,big:=by omega,n:=hE2.n.trans hE1.n,live:=hl2.trans (addF_perm hl1),sum:=by omega}⟩)
end Go.Proofs.YtlnehgklibbjiaaGreat
namespace Go.Proofs.YtlnehgklibbjiaaGreat
open Go.SL Go.Spc Go.Tup Go.Srt
theorem fl4len (f:Fl):(fl4 f).length=4:=rfl
def sumB (fs:List Fl):Nat:=(fs.map (·.blocks)).sum
theorem sumB_take {fs:List Fl} {i:Nat} {f:Fl} (h:fs[i]? =some f):sumB (fs.take (i+1))=sumB (fs.take i)+f.blocks:=by
 unfold sumB;rw[List.take_add_one,h];simp
theorem sumB_le (fs:List Fl) (i:Nat):sumB (fs.take i)≤sumB fs:=by
 have h:=congrArg sumB (List.take_append_drop i fs)
 unfold sumB at h⊢
 rw[List.map_append,List.sum_append] at h
 omega
theorem ar_peak {ba:Nat} {α:Ar} {c:Chunk} (h:IsAr ba α c):α.peak≤α.room:=by
 obtain⟨c0,⟨bm,ck,_,h1⟩,_⟩:=h
 omega
def Wk.flt (W:Wk) (n:Int):Wk:={W with δ:={W.δ with fault:=n}}
theorem Wc.flt {bd ba bs:Nat} {W:Wk} {cd ca cs cd':Chunk} {n:Int} (h:Wc bd ba bs W cd ca cs) (hd:IsDev bd {W.δ with fault:=n} cd'):Wc bd ba bs (W.flt n) cd' ca cs:=⟨hd,h.ar,h.sp,h.nn,h.live⟩
theorem formed_in {n:Int} {es:List IE} (h:formedB n es=true):0≤n∧∀e∈es,inE n e:=by
 unfold formedB at h
 rw[Bool.and_eq_true,decide_eq_true_iff,List.all_eq_true] at h
 exact⟨h.1.1,fun e he=>of_decide_eq_true (h.2 e he)⟩
theorem free_sum {bd ba bs:Nat} {W:Wk} {cd ca cs:Chunk} (h:Wc bd ba bs W cd ca cs) {fs:List Fl} (hl:W.live.Perm (addFs fs [])) (hn:W.σ.n=9000):total W.σ.free+sumB fs=9000:=by
 have h1:=free_is h hl
 rw[total_addFs] at h1
 unfold sumB
 rw[show total []=0 from rfl] at h1
 omega
end Go.Proofs.YtlnehgklibbjiaaGreat
namespace Go.Proofs.YtlnehgklibbjiaaGreat
open Go.SL Go.Spc Go.Tup Go.Srt Go.Gr
theorem clean17ct (bw bd ba bs:Nat) (W:Wk) (ca cs:Chunk) (har:IsAr ba W.α ca) (hsp:IsSpace bs W.σ cs) (p:Option Addr) (n cap:Nat) (fs:List Fl) (c:Chunk) (hv:Rw fl4 4 p n fs c) (hn:n≤100) (hu:W.α.used=0) (ht:total W.σ.free+sumB fs=9000):
  CtQ Tryz.prog 26 [pv bw,.slice p n cap] [wrow bw bd ba bs,ca,cs,c] (.bool true):=by
 have hl:=hv.1
 have hWA:=WArena_ct bw bd ba bs
 have hWS:=WSpace_ct bw bd ba bs
 have hUs:=aUsed ba W.α ca har
 have hPk:=aPeak ba W.α ca har
 have hRm:=aRoom ba W.α ca har
 have hFr:=SFree_ct bs W.σ cs hsp
 have hpk:=ar_peak har
 rw[hu] at hUs
 refine Ct.intro Tryz.func26 rfl Tryz.ntmps26 (nle rfl) fun w0=> ?_;dsimp only[argSlots,Nat.reduceAdd]
 repeat(first|(refine st ?_;intros)|(refine cq hWA ?_)|(refine cq hWS ?_)|(refine cq hUs ?_)|(refine cq hFr ?_)|(refine cq hPk ?_)|(refine cq hRm ?_))
 refine G.loop (X:=Nat) (fun i=>i≤n) (fun i=>[(6,.int .i64 (i:Int)),(5,.int .i64 (sumB (fs.take i):Int)),(1,.slice p n cap),(0,pv bw)])
  (fun _=>[wrow bw bd ba bs,ca,cs,c]) (fun i=>n-i) 0 (Nat.zero_le _) (body:= ?_)
 intro i hi
 have hsl:=sumB_le fs i
 by_cases hlt:i<n
 ·obtain⟨b,off,cc,T,fz,rfl,rfl,_,hget⟩:=hv.pos fl4len (by omega)
  have hit:fs[i]? =some fs[i]:=List.getElem?_eq_getElem (by omega)
  have q1:=hget i 1 _ _ hit rfl
  have hst:=sumB_take hit
  have hsl2:=sumB_le fs (i+1)
  generalize fs[i]=f at*
  have e1:IntKind.wrap .i64 ((sumB (fs.take i):Int)+(f.blocks:Int))=((sumB (fs.take (i+1)):Nat):Int):=by rw[wrap_i64 (by omega)];omega
  repeat(first|(refine st ?_;intros)|(refine cq hWA ?_)|(refine cq hWS ?_)|(refine cq hUs ?_)|(refine cq hFr ?_)|(refine cq hPk ?_)|(refine cq hRm ?_))
  refine Dn.round (i+1) (by omega) (by omega)
 ·obtain rfl:i=n:=by omega
  rw[List.take_of_length_le (by omega)]
  have e1:IntKind.wrap .i64 ((9000:Int)-(sumB fs:Int))=(total W.σ.free:Int):=by rw[wrap_i64 (by omega)];omega
  repeat(first|(refine st ?_;intros)|(refine cq hWA ?_)|(refine cq hWS ?_)|(refine cq hUs ?_)|(refine cq hFr ?_)|(refine cq hPk ?_)|(refine cq hRm ?_))
  (refine Dn.post (Hr:=[wrow bw bd ba bs,ca,cs,c]) Tryz.results26 (hR:= ?_);exact⟨congrArg Value.bool (dec_true (by omega)),rfl⟩)
end Go.Proofs.YtlnehgklibbjiaaGreat
namespace Go.Proofs.YtlnehgklibbjiaaGreat
open Go.Gr
inductive Fo where
 |nil
 |node (v:Nat) (s r:Fo)
def Fo.sz:Fo→Nat
 | .nil=>0
 | .node _ s r=>s.sz+1+r.sz
def Fo.vs:Fo→List Nat
 | .nil=>[]
 | .node v s r=>v::(s.vs++r.vs)
theorem Fo.vs_len:∀T:Fo,T.vs.length=T.sz
 | .nil=>rfl
 | .node v s r=>by simp only[Fo.vs,Fo.sz,List.length_cons,List.length_append,s.vs_len,r.vs_len];omega
structure Tw (g:Nat→Ed) (F:Nat→Prop) (P:Nat) (vt ed bro:Nat→Nat):Prop where
 mem:∀k,k<P→F (ed k)
 ends:∀k,k<P→((g (ed k)).1=vt k∧(g (ed k)).2=vt (k+1)∨(g (ed k)).1=vt (k+1)∧(g (ed k)).2=vt k)
 round:vt P=vt 0
 bro_lt:∀k,k<P→bro k<P
 bro_ne:∀k,k<P→bro k≠k
 bro_bro:∀k,k<P→bro (bro k)=k
 bro_from:∀k,k<P→vt (bro k)=vt (k+1)
 bro_to:∀k,k<P→vt (bro k+1)=vt k
 uniq:∀j k,j<P→k<P→ed j=ed k→j=k∨j=bro k
 bridge:∀i,F i→¬Cn g (fun j=>F j∧j≠i) (g i).1 (g i).2
namespace Tw
variable {g:Nat→Ed} {F:Nat→Prop} {P:Nat} {vt ed bro:Nat→Nat}
theorem join (h:Tw g F P vt ed bro) {k:Nat} (hk:k<P) {e:Nat} (hne:ed k≠e):Cn g (fun j=>F j∧j≠e) (vt k) (vt (k+1)):= .one ⟨ed k,⟨h.mem k hk,hne⟩,h.ends k hk⟩
theorem walk (h:Tw g F P vt ed bro) {e j:Nat}:∀{k:Nat},j≤k→k≤P→(∀n,j≤n→n<k→ed n≠e)→Cn g (fun i=>F i∧i≠e) (vt j) (vt k)
 |0,hj,_,_=>by
  obtain rfl:j=0:=by omega
  exact .refl _
 |k+1,hj,hk,hn=>by
  rcases Nat.eq_or_lt_of_le hj with rfl|hlt
  ·exact .refl _
  ·exact(h.walk (k:=k) (by omega) (by omega) fun n h1 h2=>hn n h1 (by omega)).trans (h.join (by omega) (hn k (by omega) (by omega)))
theorem apart (h:Tw g F P vt ed bro) {k:Nat} (hk:k<P):¬Cn g (fun j=>F j∧j≠ed k) (vt k) (vt (k+1)):=by
 intro hc
 rcases h.ends k hk with⟨h1,h2⟩|⟨h1,h2⟩
 ·exact h.bridge _ (h.mem k hk) (by rw[h1,h2];exact hc)
 ·exact h.bridge _ (h.mem k hk) (by rw[h1,h2];exact hc.symm)
theorem first (h:Tw g F P vt ed bro) {p j:Nat} (hp:p<P) (hd:p<bro p) (hj:j≤p):vt j≠vt (p+1):=by
 intro he
 refine h.apart hp ?_
 rw[←he]
 refine(h.walk hj (by omega) ?_).symm
 intro n h1 h2 hq
 rcases h.uniq n p (by omega) hp hq with h3|h3<;>omega
theorem again (h:Tw g F P vt ed bro) {p:Nat} (hp:p<P) (hu:¬p<bro p):∃j,j≤p∧vt j=vt (p+1):=⟨bro p,by omega,h.bro_from p hp⟩
theorem down_inj (h:Tw g F P vt ed bro) {p q:Nat} (hp:p<P) (hq:q<P) (hdp:p<bro p) (hdq:q<bro q) (he:vt (p+1)=vt (q+1)):p=q:=by
 rcases Nat.lt_trichotomy p q with h1|h1|h1
 ·exact(h.first hq hdq (show p+1≤q by omega) he).elim
 ·exact h1
 ·exact(h.first hp hdp (show q+1≤p by omega) he.symm).elim
theorem down_of (h:Tw g F P vt ed bro):∀{j:Nat},j≤P→vt j≠vt 0→∃p,p<j∧p<bro p∧vt (p+1)=vt j:=by
 intro j
 induction j using Nat.strongRecOn with
 |ind j ih=>
  intro hj hne
  match j,hne with
  |0,hne=>exact(hne rfl).elim
  |j+1,hne=>
   by_cases hd:j<bro j
   ·exact⟨j,by omega,hd,rfl⟩
   ·have h1:=h.bro_ne j (by omega)
    have h2:=h.bro_from j (by omega)
    obtain⟨p,p1,p2,p3⟩:=ih (bro j) (by omega) (by omega) (by rw[h2];exact hne)
    exact⟨p,by omega,p2,by rw[p3,h2]⟩
theorem nocross (h:Tw g F P vt ed bro) {p a:Nat} (hp:p<P) (h1:p<a) (h2:a<bro p):p<bro a∧bro a<bro p:=by
 have hb:=h.bro_lt p hp
 have ha:a<P:=by omega
 have hne:∀n,n<P→n≠p→n≠bro p→ed n≠ed p:=fun n hn e1 e2 hq=>by
  rcases h.uniq n p hn hp hq with h3|h3
  ·exact e1 h3
  ·exact e2 h3
 have hab:bro a≠p:=fun hq=>by have:=h.bro_bro a ha;rw[hq] at this;omega
 have hab2:bro a≠bro p:=fun hq=>by have:=h.bro_bro a ha;rw[hq,h.bro_bro p hp] at this;omega
 have hV:Cn g (fun i=>F i∧i≠ed p) (vt (p+1)) (vt a):=h.walk (by omega) (by omega) fun n h3 h4=>hne n (by omega) (by omega) (by omega)
 have hba:=h.bro_lt a ha
 rcases Nat.lt_trichotomy (bro a) p with h3|h3|h3
 ·exfalso
  refine h.apart hp (Cn.symm (hV.trans ?_))
  rw[←h.bro_to a ha]
  exact h.walk (by omega) (by omega) fun n h4 h5=>hne n (by omega) (by omega) (by omega)
 ·exact(hab h3).elim
 rcases Nat.lt_trichotomy (bro a) (bro p) with h4|h4|h4
 ·exact⟨h3,h4⟩
 ·exact(hab2 h4).elim
 ·exfalso
  refine h.apart hp (Cn.symm ((hV.trans (h.join ha (hne a ha (by omega) (by omega)))).trans ?_))
  rw[←h.bro_from a ha]
  have e1:Cn g (fun i=>F i∧i≠ed p) (vt (bro a)) (vt P):=h.walk (by omega) (by omega) fun n h5 h6=>hne n (by omega) (by omega) (by omega)
  rw[h.round] at e1
  exact e1.trans (h.walk (by omega) (by omega) fun n h5 h6=>hne n (by omega) (by omega) (by omega))
end Tw
def IsFo (P:Nat) (vt bro:Nat→Nat):Fo→Nat→Nat→Prop
 | .nil,p,q=>p=q
 | .node v s r,p,q=>p<P∧p<bro p∧bro p<P∧vt (p+1)=v∧bro (bro p)=p∧vt (bro p+1)=vt p∧IsFo P vt bro s (p+1) (bro p)∧IsFo P vt bro r (bro p+1) q
theorem Tw.build {g:Nat→Ed} {F:Nat→Prop} {P:Nat} {vt ed bro:Nat→Nat} (h:Tw g F P vt ed bro):∀(m p q:Nat),q=p+m→q≤P→(∀n,p≤n→n<q→p≤bro n∧bro n<q)→∃T,IsFo P vt bro T p q:=by
 intro m
 induction m using Nat.strongRecOn with
 |ind m ih=>
  intro p q hq hP hc
  match m,ih with
  |0,_=>exact⟨.nil,by simpa[IsFo] using hq.symm⟩
  |m+1,ih=>
   have hp:p<P:=by omega
   have h1:=hc p (by omega) (by omega)
   have h2:=h.bro_ne p hp
   obtain⟨s,hs⟩:=ih (bro p-(p+1)) (by omega) (p+1) (bro p) (by omega) (by omega) (fun n h3 h4=>by
    have:=h.nocross hp (show p<n by omega) h4
    omega)
   obtain⟨r,hr⟩:=ih (q-(bro p+1)) (by omega) (bro p+1) q (by omega) (by omega) (fun n h3 h4=>by
    have h5:=hc n (by omega) h4
    have hn:n<P:=by omega
    refine⟨?_,h5.2⟩
    rcases Nat.lt_or_ge (bro p) (bro n) with h6|h6
    ·omega
    ·exfalso
     have e1:=h.bro_bro n hn
     by_cases h7:bro n=p
     ·rw[h7] at e1;omega
     ·by_cases h8:bro n=bro p
      ·rw[h8,h.bro_bro p hp] at e1;omega
      ·have:=h.nocross hp (a:=bro n) (by omega) (by omega)
       omega)
   exact⟨.node (vt (p+1)) s r,hp,by omega,h.bro_lt p hp,rfl,h.bro_bro p hp,h.bro_to p hp,hs,hr⟩
theorem Tw.trees {g:Nat→Ed} {F:Nat→Prop} {P:Nat} {vt ed bro:Nat→Nat} (h:Tw g F P vt ed bro):∃T,IsFo P vt bro T 0 P:=h.build P 0 P (by omega) (Nat.le_refl _) fun n _ hn=>⟨by omega,h.bro_lt n hn⟩
theorem IsFo.len {P:Nat} {vt bro:Nat→Nat}:∀{T:Fo} {p q:Nat},IsFo P vt bro T p q→q=p+2*T.sz
 | .nil,p,q,h=>by simp only[IsFo] at h;simp[Fo.sz,h]
 | .node v s r,p,q,h=>by
  obtain⟨_,_,_,_,_,_,h1,h2⟩:=h
  have e1:=h1.len
  have e2:=h2.len
  simp only[Fo.sz];omega
theorem IsFo.vs_mem {P:Nat} {vt bro:Nat→Nat}:∀{T:Fo} {p q:Nat},IsFo P vt bro T p q→∀x,x∈T.vs↔∃k,p≤k∧k<q∧k<bro k∧vt (k+1)=x
 | .nil,p,q,h,x=>by
  simp only[IsFo] at h
  simp only[Fo.vs,List.not_mem_nil,false_iff]
  rintro⟨k,h1,h2,_⟩;omega
 | .node v s r,p,q,h,x=>by
  obtain⟨hp,hd,hbP,hv,hbb,_,h1,h2⟩:=h
  have e1:=h1.len
  have e2:=h2.len
  simp only[Fo.vs,List.mem_cons,List.mem_append,h1.vs_mem x,h2.vs_mem x]
  constructor
  ·rintro(rfl|⟨k,k1,k2,k3,k4⟩|⟨k,k1,k2,k3,k4⟩)
   ·exact⟨p,by omega,by omega,hd,hv⟩
   ·exact⟨k,by omega,by omega,k3,k4⟩
   ·exact⟨k,by omega,by omega,k3,k4⟩
  ·rintro⟨k,k1,k2,k3,k4⟩
   by_cases h3:k=p
   ·subst h3;exact .inl (k4.symm.trans hv)
   ·by_cases h4:k<bro p
    ·exact .inr (.inl ⟨k,by omega,h4,k3,k4⟩)
    ·by_cases h5:k=bro p
     ·subst h5;rw[hbb] at k3;omega
     ·exact .inr (.inr ⟨k,by omega,k2,k3,k4⟩)
theorem Tw.vs_nodup {g:Nat→Ed} {F:Nat→Prop} {P:Nat} {vt ed bro:Nat→Nat} (hT:Tw g F P vt ed bro):∀{T:Fo} {p q:Nat},q≤P→IsFo P vt bro T p q→T.vs.Nodup
 | .nil,_,_,_,_=>by simp[Fo.vs]
 | .node v s r,p,q,hq,h=>by
  obtain⟨hp,hd,hbP,hv,hbb,_,h1,h2⟩:=h
  have e1:=h1.len
  have e2:=h2.len
  simp only[Fo.vs,List.nodup_cons,List.mem_append,List.nodup_append]
  refine⟨?_,hT.vs_nodup (by omega) h1,hT.vs_nodup hq h2,?_⟩
  ·rw[h1.vs_mem,h2.vs_mem]
   rintro(⟨k,k1,k2,k3,k4⟩|⟨k,k1,k2,k3,k4⟩)
   ·have:=hT.down_inj hp (by omega) hd k3 (hv.trans k4.symm);omega
   ·have:=hT.down_inj hp (by omega) hd k3 (hv.trans k4.symm);omega
  ·intro x hx y hy hxy
   subst hxy
   obtain⟨k,k1,k2,k3,k4⟩:=(h1.vs_mem x).1 hx
   obtain⟨j,j1,j2,j3,j4⟩:=(h2.vs_mem x).1 hy
   have:=hT.down_inj (by omega) (by omega) k3 j3 (k4.trans j4.symm);omega
def Fo.Jo (J:Int→Nat→Prop):Int→Fo→Prop
 |_,.nil=>True
 |u,.node v s r=>J u v∧s.Jo J (v:Int)∧r.Jo J u
theorem IsFo.jo {P:Nat} {vt bro:Nat→Nat} {J:Int→Nat→Prop} (hJ:∀k,k<P→J (vt k:Int) (vt (k+1))):∀{T:Fo} {p q:Nat},IsFo P vt bro T p q→T.Jo J (vt p)
 | .nil,_,_,_=>trivial
 | .node v s r,p,q,h=>by
  obtain⟨hp,hd,hbP,rfl,hbb,hbt,h1,h2⟩:=h
  refine⟨hJ p hp,h1.jo hJ,?_⟩
  have:=h2.jo hJ
  rwa[hbt] at this
end Go.Proofs.YtlnehgklibbjiaaGreat
namespace Go.Proofs.YtlnehgklibbjiaaGreat
open Go.Tup Go.Gr
def trv (x:Int):Nat→Int→Fo→List T5
 |_,_,.nil=>[]
 |p,u,.node v s r=>⟨x,(p:Int),(v:Int),u,((s.sz+1:Nat):Int)⟩::(trv x (p+1) v s++⟨x,((p+1+2*s.sz:Nat):Int),-1,-1,0⟩::trv x (p+2+2*s.sz) u r)
def outF:Int→Int→Nat→Fo→List T5
 |_,_,_,.nil=>[]
 |u,d,n,.node v s r=>⟨(v:Int),u,(n:Int),((s.sz+1:Nat):Int),d+1⟩::(outF v (d+1) (n+1) s++outF u d (n+1+s.sz) r)
theorem outF_c0:∀(T:Fo) (u d:Int) (n:Nat),(outF u d n T).map (·.c0)=T.vs.map fun (v:Nat)=>(v:Int)
 | .nil,_,_,_=>rfl
 | .node v s r,u,d,n=>by simp only[outF,Fo.vs,List.map_cons,List.map_append,outF_c0 s,outF_c0 r]
theorem outF_len (T:Fo) (u d:Int) (n:Nat):(outF u d n T).length=T.sz:=by
 rw[←T.vs_len,←List.length_map (f:=fun t:T5=>t.c0),outF_c0,List.length_map]
theorem outF_c2:∀(T:Fo) (u d:Int) (n:Nat),(outF u d n T).map (·.c2)=(List.range' n T.sz).map fun (v:Nat)=>(v:Int)
 | .nil,_,_,_=>rfl
 | .node v s r,u,d,n=>by
  simp only[outF,Fo.sz,List.map_cons,List.map_append,outF_c2 s,outF_c2 r]
  rw[←List.map_append,List.range'_append_1,show s.sz+1+r.sz=(s.sz+r.sz)+1 by omega,List.range'_succ,List.map_cons]
theorem outF_b:∀{T:Fo} {u d:Int} {n:Nat} {e:T5},e∈outF u d n T→(n:Int)≤e.c2∧1≤e.c3∧e.c2+e.c3≤((n+T.sz:Nat):Int)∧d+1≤e.c4∧e.c4≤d+(T.sz:Int)
 | .nil,_,_,_,_,h=>by simp[outF] at h
 | .node v s r,u,d,n,e,h=>by
  simp only[outF,List.mem_cons,List.mem_append] at h
  simp only[Fo.sz]
  rcases h with rfl|h|h
  ·dsimp only;omega
  ·have:=outF_b h;omega
  ·have:=outF_b h;omega
theorem outF_v {T:Fo} {u d:Int} {n:Nat} {e:T5} (h:e∈outF u d n T):∃v:Nat,v∈T.vs∧e.c0=v:=by
 have h1:=List.mem_map_of_mem (f:=fun t:T5=>t.c0) h
 rw[outF_c0] at h1
 obtain⟨v,hv,he⟩:=List.mem_map.1 h1
 exact⟨v,hv,he.symm⟩
theorem outF_par:∀{T:Fo} {u d:Int} {n:Nat} {e:T5},e∈outF u d n T→(e.c1=u∧e.c4=d+1)∨∃e'∈outF u d n T,e'.c0=e.c1∧e.c4=e'.c4+1∧e'.c2<e.c2∧e.c2+e.c3≤e'.c2+e'.c3
 | .nil,_,_,_,_,h=>by simp[outF] at h
 | .node v s r,u,d,n,e,h=>by
  simp only[outF,List.mem_cons,List.mem_append] at h⊢
  rcases h with rfl|h|h
  ·exact .inl ⟨rfl,rfl⟩
  ·right
   have hb:=outF_b h
   rcases outF_par h with⟨h1,h2⟩|⟨e',h1,h2⟩
   ·exact⟨_,.inl rfl,h1.symm,h2,by dsimp only;omega,by dsimp only;omega⟩
   ·exact⟨e',.inr (.inl h1),h2⟩
  ·rcases outF_par h with h1|⟨e',h1,h2⟩
   ·exact .inl h1
   ·exact .inr ⟨e',.inr (.inr h1),h2⟩
theorem outF_jo {J:Int→Nat→Prop}:∀{T:Fo} {u d:Int} {n:Nat} {e:T5},T.Jo J u→e∈outF u d n T→J e.c1 e.c0.toNat
 | .nil,_,_,_,_,_,h=>by simp[outF] at h
 | .node v s r,u,d,n,e,hj,h=>by
  obtain⟨h1,h2,h3⟩:=hj
  simp only[outF,List.mem_cons,List.mem_append] at h
  rcases h with rfl|h|h
  ·dsimp only;rw[Int.toNat_natCast];exact h1
  ·exact outF_jo h2 h
  ·exact outF_jo h3 h
def sumW (p:T5→Bool) (f:T5→Int) (l:List T5):Int:=((l.filter p).map f).sum
theorem sumW_nil (p:T5→Bool) (f:T5→Int):sumW p f []=0:=rfl
theorem sumW_cons (p:T5→Bool) (f:T5→Int) (e:T5) (l:List T5):sumW p f (e::l)=(if p e then f e else 0)+sumW p f l:=by
 unfold sumW
 rw[List.filter_cons]
 split<;>simp
theorem sumW_append (p:T5→Bool) (f:T5→Int) (a b:List T5):sumW p f (a++b)=sumW p f a+sumW p f b:=by
 unfold sumW;rw[List.filter_append,List.map_append,List.sum_append]
theorem sumW_perm (p:T5→Bool) (f:T5→Int) {a b:List T5} (h:a.Perm b):sumW p f a=sumW p f b:=by
 induction h with
 |nil=>rfl
 |cons x _ ih=>rw[sumW_cons,sumW_cons,ih]
 |swap x y l=>rw[sumW_cons,sumW_cons,sumW_cons,sumW_cons];omega
 |trans _ _ h1 h2=>rw[h1,h2]
theorem sumW_zero (p:T5→Bool) (f:T5→Int) {l:List T5} (h:∀e∈l,p e=false):sumW p f l=0:=by
 unfold sumW
 rw[List.filter_eq_nil_iff.2 (fun e he=>by rw[h e he];decide)]
 rfl
theorem outF_sum (w:Int):∀(T:Fo) (u d:Int) (n:Nat),sumW (fun e=>decide (e.c1=w)) (·.c3) (outF u d n T)=(if u=w then(T.sz:Int) else 0)+sumW (fun e=>decide (e.c0=w)) (fun e=>e.c3-1) (outF u d n T)
 | .nil,u,d,n=>by simp[outF,Fo.sz,sumW_nil]
 | .node v s r,u,d,n=>by
  have h1:=outF_sum w s v (d+1) (n+1)
  have h2:=outF_sum w r u d (n+1+s.sz)
  simp only[outF,sumW_cons,sumW_append,h1,h2,decide_eq_true_eq,Fo.sz]
  split<;>split<;>omega
def chF:Int→List Int→Int→Nat→Fo→List (T5×List Int)
 |_,_,_,_,.nil=>[]
 |u,up,d,n,.node v s r=>(⟨(v:Int),u,(n:Int),((s.sz+1:Nat):Int),d+1⟩,(v:Int)::up)::(chF v ((v:Int)::up) (d+1) (n+1) s++chF u up d (n+1+s.sz) r)
theorem chF_fst:∀(T:Fo) (u:Int) (up:List Int) (d:Int) (n:Nat),(chF u up d n T).map (·.1)=outF u d n T
 | .nil,_,_,_,_=>rfl
 | .node v s r,u,up,d,n=>by simp only[chF,outF,List.map_cons,List.map_append,chF_fst s,chF_fst r]
theorem chF_out {T:Fo} {u:Int} {up:List Int} {d:Int} {n:Nat} {x:T5×List Int} (h:x∈chF u up d n T):x.1∈outF u d n T:=by
 rw[←chF_fst T u up d n];exact List.mem_map_of_mem h
theorem chF_of {T:Fo} {u:Int} (up:List Int) {d:Int} {n:Nat} {e:T5} (h:e∈outF u d n T):∃c,(e,c)∈chF u up d n T:=by
 rw[←chF_fst T u up d n] at h
 obtain⟨⟨e',c⟩,hx,rfl⟩:=List.mem_map.1 h
 exact⟨c,hx⟩
inductive Way (par:Int→Int):Int→List Int→Prop
 |top {v:Int}:v<0→Way par v []
 |up {v:Int} {c:List Int}:0≤v→Way par (par v) c→Way par v (v::c)
theorem chF_way {par:Int→Int}:∀{T:Fo} {u:Int} {up:List Int} {d:Int} {n:Nat},(∀e∈outF u d n T,par e.c0=e.c1)→Way par u up→∀x∈chF u up d n T,Way par x.1.c0 x.2
 | .nil,_,_,_,_,_,_,x,h=>by simp[chF] at h
 | .node v s r,u,up,d,n,hp,hu,x,h=>by
  simp only[outF,List.mem_cons,List.mem_append] at hp
  simp only[chF,List.mem_cons,List.mem_append] at h
  have hv:Way par v ((v:Int)::up):= .up (by omega) (by rw[hp _ (.inl rfl)];exact hu)
  rcases h with rfl|h|h
  ·exact hv
  ·exact chF_way (fun e he=>hp e (.inr (.inl he))) hv x h
  ·exact chF_way (fun e he=>hp e (.inr (.inr he))) hu x h
theorem chF_up:∀{T:Fo} {u:Int} {up:List Int} {d:Int} {n:Nat} {x:T5×List Int},x∈chF u up d n T→(∀w∈up,w∈x.2)∧(∀w∈x.2,w∈up∨∃v∈T.vs,w=(v:Int))∧(x.2.length:Int)+d=x.1.c4+up.length
 | .nil,_,_,_,_,x,h=>by simp[chF] at h
 | .node v s r,u,up,d,n,x,h=>by
  simp only[chF,List.mem_cons,List.mem_append] at h
  simp only[Fo.vs,List.mem_cons,List.mem_append]
  rcases h with rfl|h|h
  ·dsimp only
   refine⟨fun w hw=>List.mem_cons_of_mem _ hw,fun w hw=> ?_,?_⟩
   ·rcases List.mem_cons.1 hw with rfl|hw
    ·exact .inr ⟨v,.inl rfl,rfl⟩
    ·exact .inl hw
   ·simp only[List.length_cons];omega
  ·obtain⟨h1,h2,h3⟩:=chF_up h
   refine⟨fun w hw=>h1 w (List.mem_cons_of_mem _ hw),fun w hw=> ?_,by simp only[List.length_cons] at h3;omega⟩
   rcases h2 w hw with h4|⟨y,h4,h5⟩
   ·rcases List.mem_cons.1 h4 with rfl|h4
    ·exact .inr ⟨v,.inl rfl,rfl⟩
    ·exact .inl h4
   ·exact .inr ⟨y,.inr (.inl h4),h5⟩
  ·obtain⟨h1,h2,h3⟩:=chF_up h
   refine⟨h1,fun w hw=> ?_,h3⟩
   rcases h2 w hw with h4|⟨y,h4,h5⟩
   ·exact .inl h4
   ·exact .inr ⟨y,.inr (.inr h4),h5⟩
theorem chF_in:∀{T:Fo} {u:Int} {up:List Int} {d:Int} {n:Nat},T.vs.Nodup→(∀v∈T.vs,(v:Int)∉up)→∀x∈chF u up d n T,∀e∈outF u d n T,(e.c0∈x.2↔e.c2≤x.1.c2∧x.1.c2<e.c2+e.c3)
 | .nil,_,_,_,_,_,_,x,h=>by simp[chF] at h
 | .node v s r,u,up,d,n,hn,hu,x,h=>by
  intro e he
  simp only[Fo.vs,List.nodup_cons,List.mem_append,List.nodup_append,not_or] at hn
  obtain⟨⟨hvs,hvr⟩,hns,hnr,hsr⟩:=hn
  simp only[Fo.vs,List.mem_cons,List.mem_append] at hu
  simp only[chF,List.mem_cons,List.mem_append] at h
  simp only[outF,List.mem_cons,List.mem_append] at he
  have hus:∀y∈s.vs,(y:Int)∉(v:Int)::up:=fun y hy hq=>by
   rcases List.mem_cons.1 hq with h1|h1
   ·exact hvs (by rw[show v=y by omega];exact hy)
   ·exact hu y (.inr (.inl hy)) h1
  have hur:∀y∈r.vs,(y:Int)∉up:=fun y hy=>hu y (.inr (.inr hy))
  rcases h with rfl|h|h
  ·
   dsimp only
   rcases he with rfl|he|he
   ·dsimp only;simp;omega
   ·obtain⟨y,hy,hye⟩:=outF_v he
    have hb:=outF_b he
    rw[hye]
    refine⟨fun hq=>(hus y hy hq).elim,fun hq=>by omega⟩
   ·obtain⟨y,hy,hye⟩:=outF_v he
    have hb:=outF_b he
    rw[hye]
    refine⟨fun hq=> ?_,fun hq=>by omega⟩
    rcases List.mem_cons.1 hq with h1|h1
    ·exact(hvr (by rw[show v=y by omega];exact hy)).elim
    ·exact(hur y hy h1).elim
  ·have hx:=outF_b (chF_out h)
   obtain⟨u1,u2,_⟩:=chF_up h
   rcases he with rfl|he|he
   ·dsimp only
    exact⟨fun _=>by omega,fun _=>u1 _ List.mem_cons_self⟩
   ·exact chF_in hns hus x h e he
   ·obtain⟨y,hy,hye⟩:=outF_v he
    have hb:=outF_b he
    rw[hye]
    refine⟨fun hq=> ?_,fun hq=>by omega⟩
    rcases u2 _ hq with h1|⟨z,hz,h1⟩
    ·rcases List.mem_cons.1 h1 with h1|h1
     ·exact(hvr (by rw[show v=y by omega];exact hy)).elim
     ·exact(hur y hy h1).elim
    ·exact(hsr z hz y hy (by omega)).elim
  ·have hx:=outF_b (chF_out h)
   obtain⟨u1,u2,_⟩:=chF_up h
   rcases he with rfl|he|he
   ·dsimp only
    refine⟨fun hq=> ?_,fun hq=>by omega⟩
    rcases u2 _ hq with h1|⟨z,hz,h1⟩
    ·exact(hu v (.inl rfl) h1).elim
    ·exact(hvr (by rw[show v=z by omega];exact hz)).elim
   ·obtain⟨y,hy,hye⟩:=outF_v he
    have hb:=outF_b he
    rw[hye]
    refine⟨fun hq=> ?_,fun hq=>by omega⟩
    rcases u2 _ hq with h1|⟨z,hz,h1⟩
    ·exact(hu y (.inr (.inl hy)) h1).elim
    ·exact(hsr y hy z hz (by omega)).elim
   ·exact chF_in hnr hur x h e he
theorem chF_cnt (w:Int):∀{T:Fo} {u:Int} {up:List Int} {d:Int} {n:Nat},T.vs.Nodup→(((chF u up d n T).countP fun x=>decide (w∈x.2):Nat):Int)=if w∈up then(T.sz:Int) else sumW (fun e=>decide (e.c0=w)) (·.c3) (outF u d n T)
 | .nil,_,_,_,_,_=>by simp[chF,outF,Fo.sz,sumW_nil]
 | .node v s r,u,up,d,n,hn=>by
  simp only[Fo.vs,List.nodup_cons,List.mem_append,List.nodup_append,not_or] at hn
  obtain⟨⟨hvs,hvr⟩,hns,hnr,_⟩:=hn
  have h1:=chF_cnt w (T:=s) (u:=v) (up:=(v:Int)::up) (d:=d+1) (n:=n+1) hns
  have h2:=chF_cnt w (T:=r) (u:=u) (up:=up) (d:=d) (n:=n+1+s.sz) hnr
  simp only[chF,outF,List.countP_cons,List.countP_append,sumW_cons,sumW_append,Fo.sz,decide_eq_true_eq,List.mem_cons] at h1 h2⊢
  by_cases hu:w∈up
  ·simp only[hu,or_true,if_true] at h1 h2⊢
   omega
  ·by_cases hv:w=(v:Int)
   ·have hz:sumW (fun e=>decide (e.c0=w)) (·.c3) (outF (v:Int) (d+1) (n+1) s)=0:=sumW_zero _ _ fun e he=>by
     obtain⟨y,hy,hye⟩:=outF_v he
     refine decide_eq_false fun hq=>hvs ?_
     rw[show v=y by omega];exact hy
    simp only[hu,or_false,if_false] at h1 h2⊢
    rw[if_pos hv] at h1
    rw[if_pos hv,if_pos hv.symm,hz]
    omega
   ·have hv':¬((v:Int)=w):=fun hq=>hv hq.symm
    simp only[hu,hv,hv',or_self,if_false] at h1 h2⊢
    omega
end Go.Proofs.YtlnehgklibbjiaaGreat
namespace Go.Proofs.YtlnehgklibbjiaaGreat
open Go.SL Go.Tup Go.Gr
def edx (r:List T5) (k:Nat):Nat:=((at5 r k).c0/2).toNat
def Fs (fl:List Bool) (i:Nat):Prop:=fl[i]? =some true
def Rch (r:List T5) (j k:Nat):Prop:=∃n,itF (sigF r) n j=k
theorem Rch.trans {r:List T5} {a b c:Nat} (h1:Rch r a b) (h2:Rch r b c):Rch r a c:=by
 obtain⟨n,rfl⟩:=h1
 obtain⟨m,rfl⟩:=h2
 exact⟨m+n,itF_add ..⟩
theorem itF_round {f:Nat→Nat} {P i:Nat} (h:itF f P i=i):∀n,itF f (n*P) i=i
 |0=>by rw[Nat.zero_mul];rfl
 |n+1=>by rw[Nat.succ_mul,itF_add,h,itF_round h n]
theorem forT_in {es:List IE} {fl:List Bool} {i:Nat} {d:IE} (hd:es[i]? =some d) (hf:fl[i]? =some true):(⟨(i:Int),d.1,d.2,0,0⟩:T5)∈forT (edT es) fl:=by
 unfold forT
 refine List.mem_filterMap.2 ⟨(⟨(i:Int),d.1,d.2,0,0⟩,true),?_,rfl⟩
 exact List.mem_of_getElem? (List.getElem?_zip_eq_some.2 ⟨edT_get hd,hf⟩)
namespace Arcs
variable {a f r:List T5}
theorem pos0 (A:Arcs a f r) {k:Nat} (h:k<r.length):0≤(at5 r k).c0:=by
 obtain⟨e,he,hk⟩:=A.edge h
 have:=A.pos e he
 rcases hk with hk|hk<;>rw[hk]<;>dsimp only<;>omega
theorem bro_bro (A:Arcs a f r) {k:Nat} (h:k<r.length):brotherF r (brotherF r k)=k:=by
 have h0:=A.pos0 h
 refine A.num (brotherF_lt (brotherF_lt h)) h ?_
 rw[A.bro (brotherF_lt h),A.bro h]
 dsimp only
 unfold flipF
 split<;>split<;>omega
theorem bro_ne (A:Arcs a f r) {k:Nat} (h:k<r.length):brotherF r k≠k:=by
 intro hq
 have h1:=congrArg T5.c0 (A.bro h)
 rw[hq] at h1
 dsimp only at h1
 unfold flipF at h1
 split at h1<;>omega
theorem edx_eq (A:Arcs a f r) {j k:Nat} (hj:j<r.length) (hk:k<r.length) (h:edx r j=edx r k):j=k∨j=brotherF r k:=by
 have h1:=A.pos0 hj
 have h2:=A.pos0 hk
 unfold edx at h
 by_cases he:(at5 r j).c0=(at5 r k).c0
 ·exact .inl (A.num hj hk he)
 ·refine .inr (A.num hj (brotherF_lt hk) ?_)
  rw[A.bro hk];dsimp only
  unfold flipF;split<;>omega
theorem symm (A:Arcs a f r) {j k:Nat} (hj:j<r.length) (h:Rch r j k):Rch r k j:=by
 obtain⟨n,rfl⟩:=h
 obtain⟨P0,_,P2,_⟩:=A.per hj
 refine⟨n*perA r j-n,?_⟩
 rw[←itF_add,Nat.sub_add_cancel (Nat.le_mul_of_pos_right n P0),itF_round P2]
theorem pos_of (A:Arcs a f r) {i k:Nat} (hi:i<r.length) (h:Rch r i k):∃n,n<perA r i∧itF (sigF r) n i=k:=by
 obtain⟨n,hn⟩:=h
 obtain⟨m,_,h2,h3⟩:=least_of (p:=fun n=>itF (sigF r) n i=k) hn
 obtain⟨P0,_,P2,_⟩:=A.per hi
 refine⟨m,?_,h2⟩
 rcases Nat.lt_or_ge m (perA r i) with h|h
 ·exact h
 ·refine(h3 (m-perA r i) (by omega) ?_).elim
  rw[←h2]
  conv=>rhs;rw[show m=(m-perA r i)+perA r i by omega,itF_add,P2]
theorem pos_inj (A:Arcs a f r) {i m n:Nat} (hi:i<r.length) (hm:m<perA r i) (hn:n<perA r i) (h:itF (sigF r) m i=itF (sigF r) n i):m=n:=by
 obtain⟨_,_,_,P3⟩:=A.per hi
 have key:∀{x y:Nat},x<y→y<perA r i→itF (sigF r) x i≠itF (sigF r) y i:=by
  intro x y h1 h2 h3
  rw[show y=x+(y-x) by omega,itF_add] at h3
  have:=itF_inj (f:=sigF r) sigF_lt A.sig_inj hi (itF_lt sigF_lt hi _) x h3
  exact P3 (y-x) (by omega) (by omega) this.symm
 rcases Nat.lt_trichotomy m n with h1|h1|h1
 ·exact(key h1 hn h).elim
 ·exact h1
 ·exact(key h1 hm h.symm).elim
end Arcs
namespace PartsOk
variable {N:Nat} {es:List IE} {lab:List Int} {fl:List Bool} {r b:List T5}
theorem bridge (h:PartsOk N es lab fl r b) (i:Nat) (hi:Fs fl i):¬Cn (gE es) (fun j=>Fs fl j∧j≠i) (gE es i).1 (gE es i).2:=by
 intro hc
 have hk:=(h.fors.2 i true hi).1 rfl
 exact hk.bridge (hc.mono fun j hj=>⟨(h.fors.2 j true hj.1).1 rfl,hj.2⟩)
theorem arc_g (h:PartsOk N es lab fl r b) (hf:∀e∈es,inE N e) {k:Nat} (hk:k<r.length):Fs fl (edx r k)∧
  ((gE es (edx r k)).1=(at5 r k).c1.toNat∧(gE es (edx r k)).2=(at5 r k).c2.toNat∨(gE es (edx r k)).1=(at5 r k).c2.toNat∧(gE es (edx r k)).2=(at5 r k).c1.toNat)∧
  0≤(at5 r k).c1∧(at5 r k).c1<N∧0≤(at5 r k).c2∧(at5 r k).c2<N:=by
 obtain⟨i,d,x,hd,hfl,_,_,hx⟩:=h.arc_of hf hk
 have h1:=hf d (List.mem_of_getElem? hd)
 unfold inE at h1
 have hg:gE es i=(d.1.toNat,d.2.toNat):=by unfold gE;rw[hd]
 unfold edx
 rcases hx with hx|hx
 ·have e1:((at5 r k).c0/2).toNat=i:=by rw[hx];dsimp only;omega
  rw[e1,hg,hx];dsimp only
  exact⟨hfl,.inl ⟨rfl,rfl⟩,by omega,by omega,by omega,by omega⟩
 ·have e1:((at5 r k).c0/2).toNat=i:=by rw[hx];dsimp only;omega
  rw[e1,hg,hx];dsimp only
  exact⟨hfl,.inr ⟨rfl,rfl⟩,by omega,by omega,by omega,by omega⟩
theorem rch_bro (h:PartsOk N es lab fl r b) (hf:∀e∈es,inE N e) {k:Nat} (hk:k<r.length):Rch r k (brotherF r k):=by
 refine Classical.byContradiction fun hno=> ?_
 obtain⟨P0,_,P2,P3⟩:=h.arcs.per hk
 have hw:∀n,n<perA r k→Cn (gE es) (fun j=>Fs fl j∧j≠edx r k) (at5 r k).c2.toNat (at5 r (itF (sigF r) (n+1) k)).c1.toNat:=by
  intro n
  induction n with
  |zero=>
   intro _
   show Cn _ _ _ (at5 r (sigF r k)).c1.toNat
   rw[h.arcs.sig_from hk];exact .refl _
  |succ n ih=>
   intro hn
   have hkn:itF (sigF r) (n+1) k<r.length:=itF_lt sigF_lt hk _
   refine(ih (by omega)).trans ?_
   show Cn _ _ _ (at5 r (sigF r (itF (sigF r) (n+1) k))).c1.toNat
   rw[h.arcs.sig_from hkn]
   obtain⟨g1,g2,_⟩:=h.arc_g hf hkn
   refine .one ⟨edx r (itF (sigF r) (n+1) k),⟨g1,fun hq=> ?_⟩,g2⟩
   rcases h.arcs.edx_eq hkn hk hq with h1|h1
   ·exact P3 (n+1) (by omega) (by omega) h1
   ·exact hno ⟨n+1,h1⟩
 have h1:=hw (perA r k-1) (by omega)
 rw[show perA r k-1+1=perA r k by omega,P2] at h1
 obtain⟨g1,g2,_⟩:=h.arc_g hf hk
 rcases g2 with⟨g2,g3⟩|⟨g2,g3⟩
 ·exact h.bridge _ g1 (by rw[g2,g3];exact h1.symm)
 ·exact h.bridge _ g1 (by rw[g2,g3];exact h1)
theorem rch_behind (h:PartsOk N es lab fl r b) (hf:∀e∈es,inE N e) {k:Nat} (hk:k<r.length):Rch r k (behindF r k):=by
 refine(h.rch_bro hf hk).trans ⟨1,?_⟩
 show behindF r (brotherF r (brotherF r k))=_
 rw[h.arcs.bro_bro hk]
theorem rch_to (h:PartsOk N es lab fl r b) (hf:∀e∈es,inE N e) {k:Nat} (hk:k<r.length):∀m,k+m<r.length→(at5 r k).c1=(at5 r (k+m)).c1→Rch r k (k+m)
 |0,_,_=>⟨0,rfl⟩
 |m+1,hm,hc=>by
  have e1:=at5le h.arcs.sa (show k≤k+m by omega) (by omega)
  have e2:=at5le h.arcs.sa (show k+m≤k+(m+1) by omega) hm
  refine(h.rch_to hf hk m (by omega) (by omega)).trans ?_
  have hb:=h.rch_behind hf (k:=k+m) (by omega)
  have e3:behindF r (k+m)=k+m+1:=by unfold behindF;rw[if_pos ⟨by omega,by rw[show k+m+1=k+(m+1) by omega];omega⟩]
  rw[e3] at hb
  exact hb
theorem rch_same (h:PartsOk N es lab fl r b) (hf:∀e∈es,inE N e) {j k:Nat} (hj:j<r.length) (hk:k<r.length) (hc:(at5 r j).c1=(at5 r k).c1):Rch r j k:=by
 rcases Nat.le_total j k with h1|h1
 ·have:=h.rch_to hf hj (k-j) (by omega) (by rw[show j+(k-j)=k by omega];exact hc)
  rwa[show j+(k-j)=k by omega] at this
 ·have:=h.rch_to hf hk (j-k) (by omega) (by rw[show k+(j-k)=j by omega];exact hc.symm)
  rw[show k+(j-k)=j by omega] at this
  exact h.arcs.symm hk this
theorem arc_at (h:PartsOk N es lab fl r b) (hf:∀e∈es,inE N e) {x y:Nat} (hj:Jn (gE es) (Fs fl) x y):∃k,k<r.length∧(at5 r k).c1=x∧(at5 r k).c2=y:=by
 obtain⟨i,hi,he⟩:=hj
 have hil:i<es.length:=by
  have:=(List.getElem?_eq_some_iff.1 hi).1
  rw[←h.fors.1];exact this
 have hd:es[i]? =some es[i]:=List.getElem?_eq_getElem hil
 have h1:=hf _ (List.mem_of_getElem? hd)
 unfold inE at h1
 have hg:gE es i=(es[i].1.toNat,es[i].2.toNat):=by unfold gE;rw[hd]
 rw[hg] at he
 have hm:=forT_in hd hi
 rcases he with⟨e1,e2⟩|⟨e1,e2⟩
 ·obtain⟨k,hk,hq⟩:=h.arcs.arc hm (t:=⟨2*(i:Int),es[i].1,es[i].2,(at5 (labT lab) es[i].1.toNat).c1,0⟩) (by simp[arcs2])
  exact⟨k,hk,by rw[hq];dsimp only at e1⊢;omega,by rw[hq];dsimp only at e2⊢;omega⟩
 ·obtain⟨k,hk,hq⟩:=h.arcs.arc hm (t:=⟨2*(i:Int)+1,es[i].2,es[i].1,(at5 (labT lab) es[i].1.toNat).c1,0⟩) (by simp[arcs2])
  exact⟨k,hk,by rw[hq];dsimp only at e2⊢;omega,by rw[hq];dsimp only at e1⊢;omega⟩
theorem rch_cn (h:PartsOk N es lab fl r b) (hf:∀e∈es,inE N e) {u x:Nat} (hc:Cn (gE es) (Fs fl) u x):∀{j k:Nat},j<r.length→k<r.length→(at5 r j).c1=u→(at5 r k).c1=x→Rch r j k:=by
 induction hc with
 |refl=>intro j k hj hk e1 e2;exact h.rch_same hf hj hk (e1.trans e2.symm)
 |step _ hjn ih=>
  intro j k hj hk e1 e2
  obtain⟨m,hm,m1,m2⟩:=h.arc_at hf hjn
  refine((ih hj hm e1 m1).trans (h.rch_bro hf hm)).trans (h.rch_same hf (brotherF_lt hm) hk ?_)
  rw[h.arcs.bro hm,e2];exact m2
theorem cn_f (h:PartsOk N es lab fl r b) {u x:Nat}:Cn (gE es) (fun i=>i<es.length) u x↔Cn (gE es) (Fs fl) u x:=by
 rw[Kr.conn]
 refine Cn.congr fun i=>⟨fun hk=> ?_,fun hk=>(h.fors.2 i true hk).1 rfl⟩
 have hi:i<fl.length:=by rw[h.fors.1];exact hk.1
 have:=(h.fors.2 i fl[i] (List.getElem?_eq_getElem hi)).2 hk
 unfold Fs
 rw[List.getElem?_eq_getElem hi,this]
theorem lab_at (h:PartsOk N es lab fl r b) (hf:∀e∈es,inE N e) {k:Nat} (hk:k<r.length):∃x:Nat,(at5 r k).c3=x∧x<N∧lab[(at5 r k).c1.toNat]? =some (x:Int)∧Cn (gE es) (Fs fl) (at5 r k).c1.toNat x∧lab[x]? =some (x:Int):=by
 obtain⟨_,_,c1,c2,_,_⟩:=h.arc_g hf hk
 obtain⟨x,h1,h2,h3,h4⟩:=h.labs.root (v:=(at5 r k).c1.toNat) (by omega)
 have hxN:x<N:=by omega
 refine⟨x,?_,hxN,h1,h.cn_f.1 h3,?_⟩
 ·rw[h.arcs.lab (h.hl hf) hk,labT_at h1]
 ·rw[←h1];exact h.labs.same hxN (by omega) h3.symm
theorem root_of (h:PartsOk N es lab fl r b) (hf:∀e∈es,inE N e) {k:Nat} (hk:k<r.length):∃i,i<r.length∧rootB r i=true∧(at5 r i).c3=(at5 r k).c3∧Rch r i k:=by
 obtain⟨x,h1,h2,h3,h4,h5⟩:=h.lab_at hf hk
 obtain⟨_,_,c1,c2,_,_⟩:=h.arc_g hf hk
 have hex:∃k0,k0<r.length∧(at5 r k0).c1=x:=by
  generalize hu:(at5 r k).c1.toNat=u at h4
  cases h4 with
  |refl=>exact⟨k,hk,by omega⟩
  |step _ hj=>
   obtain⟨m,hm,m1,m2⟩:=h.arc_at hf hj.symm
   exact⟨m,hm,m1⟩
 obtain⟨k0,hk0,hk1⟩:=hex
 obtain⟨i,i1,⟨i2,i3⟩,i4⟩:=least_of (p:=fun i=>i<r.length∧(at5 r i).c1=x) ⟨hk0,hk1⟩
 have hc3:(at5 r i).c3=x:=by
  rw[h.arcs.lab (h.hl hf) i2,i3]
  exact labT_at h5
 refine⟨i,i2,?_,by rw[hc3,h1],h.rch_cn hf h4.symm i2 hk i3 (by omega)⟩
 unfold rootB
 refine decide_eq_true ⟨by rw[i3,hc3],fun h0 hq=>i4 (i-1) (by omega) ⟨by omega,by rw[hq,i3]⟩⟩
end PartsOk
def posF (r:List T5) (i k:Nat):Nat:=((List.range (perA r i)).find? fun n=>itF (sigF r) n i==k).getD 0
theorem PartsOk.posF_spec {N:Nat} {es:List IE} {lab:List Int} {fl:List Bool} {r b:List T5} (h:PartsOk N es lab fl r b) {i k:Nat} (hi:i<r.length) (hR:Rch r i k):posF r i k<perA r i∧itF (sigF r) (posF r i k) i=k:=by
 obtain⟨n,hn,he⟩:=h.arcs.pos_of hi hR
 unfold posF
 cases hf:(List.range (perA r i)).find? fun n=>itF (sigF r) n i==k with
 |none=>
  rw[List.find?_eq_none] at hf
  exact(hf n (List.mem_range.2 hn) (by simp[he])).elim
 |some q=>
  have h1:=List.find?_some hf
  have h2:=List.mem_range.1 (List.mem_of_find?_eq_some hf)
  exact⟨h2,by simpa using h1⟩
def vtA (r:List T5) (i n:Nat):Nat:=(at5 r (itF (sigF r) n i)).c1.toNat
def edA (r:List T5) (i n:Nat):Nat:=edx r (itF (sigF r) n i)
def broA (r:List T5) (i n:Nat):Nat:=posF r i (brotherF r (itF (sigF r) n i))
theorem PartsOk.bro_at {N:Nat} {es:List IE} {lab:List Int} {fl:List Bool} {r b:List T5} (h:PartsOk N es lab fl r b) (hf:∀e∈es,inE N e) {i n:Nat} (hi:i<r.length):broA r i n<perA r i∧itF (sigF r) (broA r i n) i=brotherF r (itF (sigF r) n i):=
 h.posF_spec hi (Rch.trans ⟨n,rfl⟩ (h.rch_bro hf (itF_lt sigF_lt hi n)))
theorem PartsOk.vt_succ {N:Nat} {es:List IE} {lab:List Int} {fl:List Bool} {r b:List T5} (h:PartsOk N es lab fl r b) {i n:Nat} (hi:i<r.length):vtA r i (n+1)=(at5 r (itF (sigF r) n i)).c2.toNat:=by
 show(at5 r (sigF r (itF (sigF r) n i))).c1.toNat=_
 rw[h.arcs.sig_from (itF_lt sigF_lt hi n)]
theorem PartsOk.tw {N:Nat} {es:List IE} {lab:List Int} {fl:List Bool} {r b:List T5} (h:PartsOk N es lab fl r b) (hf:∀e∈es,inE N e) {i:Nat} (hi:i<r.length):Tw (gE es) (Fs fl) (perA r i) (vtA r i) (edA r i) (broA r i) where
 mem k hk:=(h.arc_g hf (itF_lt sigF_lt hi k)).1
 ends k hk:=by rw[h.vt_succ hi];exact(h.arc_g hf (itF_lt sigF_lt hi k)).2.1
 round:=by unfold vtA;rw[(h.arcs.per hi).2.2.1];rfl
 bro_lt k _:=(h.bro_at hf hi).1
 bro_ne k _ hq:=by
  have h1:=(h.bro_at hf (n:=k) hi).2
  rw[hq] at h1
  exact h.arcs.bro_ne (itF_lt sigF_lt hi k) h1.symm
 bro_bro k hk:=by
  have h1:=(h.bro_at hf (n:=k) hi)
  have h2:=(h.bro_at hf (n:=broA r i k) hi)
  refine h.arcs.pos_inj hi h2.1 hk ?_
  rw[h2.2,h1.2,h.arcs.bro_bro (itF_lt sigF_lt hi k)]
 bro_from k _:=by
  rw[h.vt_succ hi]
  unfold vtA
  rw[(h.bro_at hf hi).2,h.arcs.bro (itF_lt sigF_lt hi k)]
 bro_to k _:=by
  rw[h.vt_succ hi,(h.bro_at hf hi).2,h.arcs.bro (itF_lt sigF_lt hi k)];rfl
 uniq j k hj hk he:=by
  rcases h.arcs.edx_eq (itF_lt sigF_lt hi j) (itF_lt sigF_lt hi k) he with h1|h1
  ·exact .inl (h.arcs.pos_inj hi hj hk h1)
  ·refine .inr (h.arcs.pos_inj hi hj (h.bro_at hf hi).1 ?_)
   rw[h1,(h.bro_at hf hi).2]
 bridge:=h.bridge
end Go.Proofs.YtlnehgklibbjiaaGreat
namespace Go.Proofs.YtlnehgklibbjiaaGreat
open Go.SL Go.Tup Go.Gr Go.Srt
theorem nodup_inj {α β:Type} {f:α→β}:∀{l:List α},(l.map f).Nodup→∀{x y:α},x∈l→y∈l→f x=f y→x=y
 |[],_,_,_,h,_,_=>by simp at h
 |a::l,hn,x,y,hx,hy,h=>by
  rw[List.map_cons,List.nodup_cons] at hn
  rcases List.mem_cons.1 hx with rfl|hx1
  ·rcases List.mem_cons.1 hy with rfl|hy1
   ·rfl
   ·exact(hn.1 (h▸List.mem_map_of_mem hy1)).elim
  ·rcases List.mem_cons.1 hy with rfl|hy1
   ·exact(hn.1 (h▸List.mem_map_of_mem hx1)).elim
   ·exact nodup_inj hn.2 hx1 hy1 h
theorem srt_is {o:T5} {l A:List T5} (hp:A.Perm l) (hs:A.Pairwise fun a b=>ltO o a b=true):srt (ltO o) false l=A:=by
 have hir:∀a,ltO o a a=false:=fun a=>by
  cases h:ltO o a a with
  |false=>rfl
  |true=>have:=(ltO_swo o).asym a a h;rw[h] at this;simp at this
 refine List.Perm.eq_of_pairwise (le:=fun a b=>ltO o b a=false) ?_ ((sd_srt (ltO_swo o) false l).imp fun {a b} h=>by simpa using h) (hs.imp fun {a b} h=>(ltO_swo o).asym a b h) ((perm_srt l).trans hp.symm)
 intro a b ha hb h1 h2
 have ha':a∈A:=hp.mem_iff.2 (srt_sub ha)
 refine Classical.byContradiction fun hne=> ?_
 have key:ltO o a b=true∨ltO o b a=true:=by
  obtain⟨i,hi,rfl⟩:=List.mem_iff_getElem.1 ha'
  obtain⟨j,hj,rfl⟩:=List.mem_iff_getElem.1 hb
  rcases Nat.lt_trichotomy i j with h3|h3|h3
  ·exact .inl (List.pairwise_iff_getElem.1 hs i j hi hj h3)
  ·subst h3;exact(hne rfl).elim
  ·exact .inr (List.pairwise_iff_getElem.1 hs j i hj hi h3)
 rcases key with h3|h3
 ·rw[h2] at h3;cases h3
 ·rw[h1] at h3;cases h3
theorem map_tours (r:List T5):∀n,(toursTo r n).map (·.c0)=(idxTo r n).map fun k=>(at5 r k).c0
 |0=>rfl
 |n+1=>by
  rw[toursTo_succ,idxTo_succ,List.map_append,List.map_append,map_tours r n]
  congr 1
  split
  ·unfold tourL arcAt;rw[List.map_map,List.map_map];rfl
  ·rfl
theorem range_at5 (r:List T5):(List.range r.length).map (at5 r)=r:=by
 apply List.ext_getElem
 ·simp
 ·intro i h1 h2
  rw[List.getElem_map,List.getElem_range]
  unfold at5
  rw[List.getD_eq_getElem?_getD,List.getElem?_eq_getElem h2];rfl
def lookB (b:List T5) (x:Int):T5:=(b.find? fun t=>t.c0==x).getD T5.zero
theorem look_of {b:List T5} (hn:(b.map (·.c0)).Nodup) {t:T5} (ht:t∈b):lookB b t.c0=t:=by
 unfold lookB
 cases hf:b.find? fun u=>u.c0==t.c0 with
 |none=>
  rw[List.find?_eq_none] at hf
  exact(hf t ht (by simp)).elim
 |some q=>
  have h1:=List.find?_some hf
  exact nodup_inj hn (List.mem_of_find?_eq_some hf) ht (by simpa using h1)
def visT (b:List T5) (t:T5):T5:=
 if t.c4<(lookB b (flipF t.c0)).c4 then⟨t.c3,t.c4,t.c2,t.c1,((lookB b (flipF t.c0)).c4-t.c4+1)/2⟩ else⟨t.c3,t.c4,-1,-1,0⟩
def pairL (b f:List T5):List T5:=f.flatMap fun e=>[lookB b (2*e.c0),lookB b (2*e.c0+1)]
theorem pairL_eq (b:List T5) (f:List T5):pairL b f=(f.flatMap fun e=>[2*e.c0,2*e.c0+1]).map (lookB b):=by
 unfold pairL;rw[List.map_flatMap];rfl
theorem tdiv2 {x y:Int} (hx:0≤x) (hxy:x<y) (hy:y≤1000000000):IntKind.wrap .i64 ((IntKind.wrap .i64 (IntKind.wrap .i64 (y-x)+1)).tdiv 2)=(y-x+1)/2:=by
 rw[wrap_i64 (n:=y-x) (by omega),wrap_i64 (n:=y-x+1) (by omega),Int.tdiv_eq_ediv_of_nonneg (by omega),wrap_i64 (by omega)]
theorem turns_pairs (b:List T5):∀(f:List T5) (d:T5),(∀e∈f,0≤e.c0∧(lookB b (2*e.c0)).c0=2*e.c0∧(lookB b (2*e.c0+1)).c0=2*e.c0+1∧0≤(lookB b (2*e.c0)).c4∧(lookB b (2*e.c0)).c4≤1000000000∧0≤(lookB b (2*e.c0+1)).c4∧(lookB b (2*e.c0+1)).c4≤1000000000∧(lookB b (2*e.c0)).c4≠(lookB b (2*e.c0+1)).c4)→
  ((turnM 0 0).all (false,d) (pairL b f)).Perm ((pairL b f).map (visT b))
 |[],_,_=> .refl _
 |e::f,d,h=>by
  obtain⟨h0,h1,h2,h3,h4,h5,h6,h7⟩:=h e List.mem_cons_self
  have ih:=fun d=>turns_pairs b f d fun e he=>h e (List.mem_cons_of_mem _ he)
  have e1:pairL b (e::f)=lookB b (2*e.c0)::lookB b (2*e.c0+1)::pairL b f:=by unfold pairL;rw[List.flatMap_cons];rfl
  have f1:flipF (lookB b (2*e.c0)).c0=2*e.c0+1:=by rw[h1];unfold flipF;rw[if_pos (by omega)]
  have f2:flipF (lookB b (2*e.c0+1)).c0=2*e.c0:=by rw[h2];unfold flipF;rw[if_neg (by omega)];omega
  generalize hu:lookB b (2*e.c0)=u at*
  generalize ht:lookB b (2*e.c0+1)=t at*
  rw[e1]
  show((turnM 0 0).all (false,d) (u::t::pairL b f)).Perm (visT b u::visT b t::(pairL b f).map (visT b))
  have e2:(turnM 0 0).all (false,d) (u::t::pairL b f)=(turnM 0 0).outs (true,u) t++(turnM 0 0).all (false,if t.c4<u.c4 then t else u) (pairL b f):=by
   simp only[Maker.all];rfl
  rw[e2]
  have hvu:visT b u=if u.c4<t.c4 then⟨u.c3,u.c4,u.c2,u.c1,(t.c4-u.c4+1)/2⟩ else⟨u.c3,u.c4,-1,-1,0⟩:=by unfold visT;rw[f1,ht]
  have hvt:visT b t=if t.c4<u.c4 then⟨t.c3,t.c4,t.c2,t.c1,(u.c4-t.c4+1)/2⟩ else⟨t.c3,t.c4,-1,-1,0⟩:=by unfold visT;rw[f2,hu]
  have ho:(turnM 0 0).outs (true,u) t=if t.c4<u.c4 then[visT b t,visT b u] else[visT b u,visT b t]:=by
   unfold turnM
   dsimp only
   rw[if_pos rfl,hvu,hvt]
   by_cases hc:t.c4<u.c4
   ·rw[if_pos hc,if_pos hc,if_pos hc,if_pos hc,if_neg (by omega),tdiv2 h5 hc h4]
   ·rw[if_neg hc,if_neg hc,if_neg hc,if_neg hc,if_pos (by omega),tdiv2 h3 (by omega) h6]
  rw[ho]
  split
  ·exact(List.Perm.swap _ _ _).trans (((ih _).cons _).cons _)
  ·exact((ih _).cons _).cons _
namespace PartsOk
variable {N:Nat} {es:List IE} {lab:List Int} {fl:List Bool} {r b:List T5}
theorem idx_perm (h:PartsOk N es lab fl r b) (hf:∀e∈es,inE N e):(idxTo r r.length).Perm (List.range r.length):=by
 rw[List.perm_ext_iff_of_nodup (h.arcs.idx_nodup (h.hl hf) (Nat.le_refl _)) List.nodup_range]
 intro k
 rw[List.mem_range]
 constructor
 ·intro hk
  obtain⟨i,hi,_,n,_,rfl⟩:=idxTo_mem hk
  exact itF_lt sigF_lt hi n
 ·intro hk
  obtain⟨i,hi,hr,_,hR⟩:=h.root_of hf hk
  obtain⟨n,hn,he⟩:=h.arcs.pos_of hi hR
  unfold idxTo
  refine List.mem_flatMap.2 ⟨i,List.mem_range.2 hi,?_⟩
  rw[if_pos hr]
  exact List.mem_map.2 ⟨n,List.mem_range.2 hn,he⟩
theorem nums (h:PartsOk N es lab fl r b) (hf:∀e∈es,inE N e):(b.map (·.c0)).Perm ((forT (edT es) fl).flatMap fun e=>[2*e.c0,2*e.c0+1]):=by
 have h1:(b.map (·.c0)).Perm (r.map (·.c0)):=by
  rw[h.tours]
  unfold toursF
  rw[map_tours]
  conv=>rhs;rw[←range_at5 r,List.map_map]
  exact(h.idx_perm hf).map _
 refine h1.trans ((h.arcs.perm.map _).trans (List.Perm.of_eq ?_))
 unfold arcsL
 rw[List.map_flatMap];rfl
theorem nums_nodup (h:PartsOk N es lab fl r b) (hf:∀e∈es,inE N e):(b.map (·.c0)).Nodup:=by
 refine(h.nums hf).nodup_iff.2 ?_
 have:=nodup_two h.arcs.nd (labT lab)
 unfold arcsL at this
 rw[List.map_flatMap] at this
 exact this
theorem pair_perm (h:PartsOk N es lab fl r b) (hf:∀e∈es,inE N e):(pairL b (forT (edT es) fl)).Perm b:=by
 rw[pairL_eq]
 refine(((h.nums hf).map (lookB b)).symm).trans (List.Perm.of_eq ?_)
 rw[List.map_map]
 conv=>rhs;rw[←List.map_id b]
 exact List.map_congr_left fun t ht=>look_of (h.nums_nodup hf) ht
theorem arc_b (h:PartsOk N es lab fl r b) {i n:Nat} (hi:i<r.length) (hr:rootB r i=true) (hn:n<perA r i):arcAt r i n∈b:=by
 rw[h.tours]
 unfold toursF toursTo
 refine List.mem_flatMap.2 ⟨i,List.mem_range.2 hi,?_⟩
 rw[if_pos hr]
 exact List.mem_map_of_mem (List.mem_range.2 hn)
theorem b_arc (h:PartsOk N es lab fl r b) {t:T5} (ht:t∈b):∃i n,i<r.length∧rootB r i=true∧n<perA r i∧t=arcAt r i n:=by
 rw[h.tours] at ht
 unfold toursF toursTo at ht
 obtain⟨i,hi,hx⟩:=List.mem_flatMap.1 ht
 split at hx
 next hr=>
  obtain⟨n,hn,rfl⟩:=List.mem_map.1 hx
  exact⟨i,n,List.mem_range.1 hi,hr,List.mem_range.1 hn,rfl⟩
 next=>simp at hx
theorem num_b (h:PartsOk N es lab fl r b) (hf:∀e∈es,inE N e) {e:T5} (he:e∈forT (edT es) fl) {x:Int} (hx:x=2*e.c0∨x=2*e.c0+1):∃t∈b,t.c0=x:=by
 have:=(h.nums hf).mem_iff (a:=x)
 obtain⟨t,ht,hq⟩:=List.mem_map.1 (this.2 (List.mem_flatMap.2 ⟨e,he,by simpa using hx⟩))
 exact⟨t,ht,hq⟩
theorem look_flip (h:PartsOk N es lab fl r b) (hf:∀e∈es,inE N e) {i n:Nat} (hi:i<r.length) (hr:rootB r i=true):lookB b (flipF (arcAt r i n).c0)=arcAt r i (broA r i n):=by
 obtain⟨h1,h2⟩:=h.bro_at hf (n:=n) hi
 have h3:(arcAt r i (broA r i n)).c0=flipF (arcAt r i n).c0:=by
  unfold arcAt;dsimp only
  rw[h2,h.arcs.bro (itF_lt sigF_lt hi n)]
 rw[←h3]
 exact look_of (h.nums_nodup hf) (h.arc_b hi hr h1)
theorem vis_at (h:PartsOk N es lab fl r b) (hf:∀e∈es,inE N e) {i n:Nat} (hi:i<r.length) (hr:rootB r i=true):visT b (arcAt r i n)=
  if n<broA r i n then⟨(at5 r i).c3,(n:Int),(vtA r i (n+1):Int),(vtA r i n:Int),((broA r i n:Int)-n+1)/2⟩ else⟨(at5 r i).c3,(n:Int),-1,-1,0⟩:=by
 obtain⟨_,_,c1,_,c2,_⟩:=h.arc_g hf (itF_lt sigF_lt hi n)
 have e1:((arcAt r i n).c4)=(n:Int):=rfl
 have e2:(arcAt r i n).c3=(at5 r i).c3:=h.arcs.it_lab (h.hl hf) hi n
 have e3:(arcAt r i n).c2=(vtA r i (n+1):Int):=by rw[h.vt_succ hi];show(at5 r (itF (sigF r) n i)).c2=_;omega
 have e4:(arcAt r i n).c1=(vtA r i n:Int):=by unfold vtA;show(at5 r (itF (sigF r) n i)).c1=_;omega
 unfold visT
 rw[h.look_flip hf hi hr,e1,e2,e3,e4]
 show(if(n:Int)<(broA r i n:Int) then _ else _)=_
 by_cases hc:n<broA r i n
 ·rw[if_pos hc,if_pos (by omega)];rfl
 ·rw[if_neg hc,if_neg (by omega)]
theorem pairs_sorted (h:PartsOk N es lab fl r b) (hf:∀e∈es,inE N e):(pairL b (forT (edT es) fl)).Pairwise fun x y=>ltO o1 x y=true:=by
 have h1:(forT (edT es) fl).Pairwise fun a b=>a.c0<b.c0:=by
  have:=List.Pairwise.sublist (R:=fun x y:Int=>x<y) (forT_sub (edT es) fl) (by rw[List.pairwise_map];exact edT_lt es)
  rwa[List.pairwise_map] at this
 have hlk:∀e∈forT (edT es) fl,(lookB b (2*e.c0)).c0=2*e.c0∧(lookB b (2*e.c0+1)).c0=2*e.c0+1:=fun e he=>by
  obtain⟨t,ht,hq⟩:=h.num_b hf he (.inl rfl)
  obtain⟨u,hu,hq2⟩:=h.num_b hf he (.inr rfl)
  rw[←hq2,look_of (h.nums_nodup hf) hu,←hq,look_of (h.nums_nodup hf) ht]
  exact⟨rfl,rfl⟩
 unfold pairL
 rw[List.pairwise_flatMap]
 refine⟨fun e he=> ?_,List.Pairwise.imp_of_mem (fun {a c} ha hc hac=> ?_) h1⟩
 ·obtain⟨l1,l2⟩:=hlk e he
  simp only[List.pairwise_cons,List.mem_singleton,List.not_mem_nil,false_implies,implies_true,List.Pairwise.nil,and_true,forall_eq]
  rw[ltO_o1];omega
 ·obtain⟨a1,a2⟩:=hlk a ha
  obtain⟨c1,c2⟩:=hlk c hc
  intro x hx y hy
  rw[ltO_o1]
  simp only[List.mem_cons,List.not_mem_nil,or_false] at hx hy
  rcases hx with rfl|rfl<;>rcases hy with rfl|rfl<;>omega
theorem turns_perm (h:PartsOk N es lab fl r b) (hf:∀e∈es,inE N e) (hN:N≤1000000):(turnsF b).Perm (b.map (visT b)):=by
 unfold turnsF
 rw[srt_is (h.pair_perm hf) (h.pairs_sorted hf)]
 refine(turns_pairs b _ _ ?_).trans ((h.pair_perm hf).map _)
 intro e he
 obtain⟨j,d,_,_,rfl⟩:=h.edge he
 obtain⟨t,ht,hq⟩:=h.num_b hf he (.inl rfl)
 obtain⟨u,hu,hq2⟩:=h.num_b hf he (.inr rfl)
 rw[←hq2,look_of (h.nums_nodup hf) hu,←hq,look_of (h.nums_nodup hf) ht]
 dsimp only at hq hq2
 obtain⟨i,n,hi,hr,hn,rfl⟩:=h.b_arc ht
 have hub:u=arcAt r i (broA r i n):=by
  rw[←h.look_flip hf hi hr,hq,show flipF (2*(j:Int))=2*j+1 by unfold flipF;rw[if_pos (by omega)],←hq2,look_of (h.nums_nodup hf) hu]
 obtain⟨hb1,_⟩:=h.bro_at hf (n:=n) hi
 have hbn:=(h.tw hf hi).bro_ne n hn
 have hp:=(h.arcs.per hi).2.1
 have hrl:=h.len
 have hrf:=h.roots_for hf hN
 refine⟨by dsimp only;omega,rfl,rfl,?_,?_,?_,?_,?_⟩
 ·show 0≤((n:Nat):Int);omega
 ·show((n:Nat):Int)≤_;omega
 ·rw[hub];show 0≤((broA r i n:Nat):Int);omega
 ·rw[hub];show((broA r i n:Nat):Int)≤_;omega
 ·rw[hub];show((n:Nat):Int)≠((broA r i n:Nat):Int);omega
end PartsOk
theorem IsFo.vis {P:Nat} {vt bro:Nat→Nat} {x:Int} {f:Nat→T5} (hf:∀n,n<P→f n=if n<bro n then⟨x,(n:Int),(vt (n+1):Int),(vt n:Int),((bro n:Int)-n+1)/2⟩ else⟨x,(n:Int),-1,-1,0⟩):
  ∀{T:Fo} {p q:Nat},IsFo P vt bro T p q→(List.range' p (2*T.sz)).map f=trv x p (vt p) T
 | .nil,p,q,h=>rfl
 | .node v s r,p,q,h=>by
  obtain⟨hp,hd,hbP,rfl,hbb,hbt,h1,h2⟩:=h
  have e1:=h1.len
  have i1:=h1.vis hf
  have i2:=h2.vis hf
  have e2:2*(Fo.node (vt (p+1)) s r).sz=(2*s.sz+(2*r.sz+1))+1:=by simp only[Fo.sz];omega
  rw[e2,List.range'_succ,←List.range'_append_1,List.range'_succ,List.map_cons,List.map_append,List.map_cons,i1]
  have hbro:bro p=p+1+2*s.sz:=e1
  rw[hbt,hbro] at i2
  rw[show p+1+2*s.sz+1=p+2+2*s.sz by omega] at i2⊢
  rw[i2]
  simp only[trv]
  congr 1
  ·rw[hf p hp,if_pos hd,hbro]
   congr 1;omega
  ·congr 2
   rw[hf _ (by omega),if_neg (by rw[←hbro,hbb];omega)]
theorem flat_one {α:Type} (L:List α) (i:Nat) {p:Nat→Bool}:∀{n:Nat},(∀j,j<n→p j=true→j=i)→(List.range n).flatMap (fun j=>if p j then(if j=i then L else[]) else[])=if i<n∧p i=true then L else[]
 |0,_=>by simp
 |n+1,h=>by
  rw[List.range_succ,List.flatMap_append,flat_one L i (n:=n) fun j hj=>h j (by omega),List.flatMap_cons,List.flatMap_nil,List.append_nil]
  by_cases hp:p n=true
  ·have:=h n (by omega) hp
   subst this
   rw[if_pos hp,if_pos rfl,if_neg (by omega),if_pos ⟨by omega,hp⟩,List.nil_append]
  ·rw[if_neg hp,List.append_nil]
   by_cases hi:i<n∧p i=true
   ·rw[if_pos hi,if_pos ⟨by omega,hi.2⟩]
   ·rw[if_neg hi,if_neg]
    rintro⟨h1,h2⟩
    have h4:i<n:=by
     rcases Nat.eq_or_lt_of_le (Nat.lt_succ_iff.1 h1) with rfl|h3
     ·exact(hp h2).elim
     ·exact h3
    exact hi ⟨h4,h2⟩
end Go.Proofs.YtlnehgklibbjiaaGreat
