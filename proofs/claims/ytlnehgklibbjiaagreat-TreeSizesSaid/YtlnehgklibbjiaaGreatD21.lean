/-
  Parts of the proof, put together: JobR, JobB, JobM, OverPut. No condition.
-/
import Derived.Test.YtlnehgklibbjiaaGreatD20
set_option linter.unusedVariables false
set_option linter.unusedSimpArgs false
set_option linter.unnecessarySimpa false
set_option maxHeartbeats 4000000
namespace Go.Proofs.YtlnehgklibbjiaaGreat
open Go.SL Go.Spc Go.Tup Go.Srt
theorem JFree (p:Jp) (hp:p.Ok) (J:Jb) (C:Chunk) (hJ:JobC p J C) (fs:List Fl) (fts G':List (Fl×List T5)) (hG:J.e=0→J.G.Perm (fts++G')∧fs=fts.map (·.1)) (hfl:fs.length≤1000) (pa:Option Addr) (cap:Nat) (cf:Chunk) (hVf:Vec 27 4 pa fs.length cap (fcells fs) cf):
  Ct Tryz.prog 83 [pv p.bj,.slice pa fs.length cap] [C,cf] fun v H'=>∃C',v= .tuple #[]∧H'=[C',cf]∧JobC p ⟨J.e,J.er,G',J.acts,J.took⟩ C':=by
 obtain⟨W,cd,ca,cs,held,ph,capj,ch,rfl,hW,hV,hJW⟩:=hJ
 refine Ct.convP (Ct.wide (JFree_mem p hp J held W cd ca cs hW hJW ph capj ch hV fs fts G' hG hfl pa cap cf hVf) [cd,ca]) (by unfold jobC;refine permC fun z=> ?_;simp only[List.flatten_cons,List.flatten_nil,List.append_nil,List.flatten_append,List.count_append];omega) ?_
 rintro v H' ⟨H1,⟨held',ph',cap',ch',cs',W',rfl,rfl,hW',hV',hJ'⟩,rfl⟩
 refine⟨[jobC p J.e cd ca cs' ph' held'.length cap' ch',cf],⟨_,rfl,rfl,W',cd,ca,cs',held',ph',cap',ch',rfl,hW',hV',hJ'⟩,?_⟩
 unfold jobC;refine permC fun z=> ?_;simp only[List.flatten_cons,List.flatten_nil,List.append_nil,List.flatten_append,List.count_append];omega
def StepPost (p:Jp) (W:Wk) (A T:Nat) (er:Option Nat) (ts:List T5) (R:Fl→Int→Hp→Prop) (jr:Chunk) (v:Value) (H':Hp):Prop:=∃f e cd' ca' cs' W' Hx',v= .tuple #[flv f,.int .i64 e]∧
 H'=jr::wrow p.bw p.bd p.ba p.bs::cd'::ca'::cs'::Hx'∧Wc p.bd p.ba p.bs W' cd' ca' cs'∧Stepped p W W' A T er ts f e∧R f e Hx'
def StepCt (p:Jp) (J:Jb) (mk:Nat) (us:List Value) (Hx:Hp) (A T:Nat) (er:Option Nat) (ts:List T5) (R:Fl→Int→Hp→Prop):Prop:=
 ∀W cd ca cs held ph cap,Wc p.bd p.ba p.bs W cd ca cs→JobW p J held W→
  Ct Tryz.prog mk us (jrow p.bj p.bw 0 ph held.length cap::wrow p.bw p.bd p.ba p.bs::cd::ca::cs::Hx) (StepPost p W A T er ts R (jrow p.bj p.bw 0 ph held.length cap))
theorem JRun (p:Jp) (hp:p.Ok) (J:Jb) (C:Chunk) (hJ:JobC p J C) (mk:Nat) (hcal:Callable Tryz.prog mk) (us:List Value) (Hx:Hp) (A T:Nat) (er:Option Nat) (ts:List T5) (R:Fl→Int→Hp→Prop) (hst:J.e=0→StepCt p J mk us Hx A T er ts R) (hGl:J.G.length≤1000):
  Ct Tryz.prog 57 [pv p.bj,.func (.func mk) #[] us.toArray] (C::Hx) fun v H'=>∃f C' e' Hx',v=flv f∧H'=C'::Hx'∧JobC p ⟨e',J.er.or er,(f,ts)::J.G,J.acts+A,J.took+T⟩ C'∧
   ((J.e=0∧R f e' Hx')∨(J.e≠0∧e'=J.e∧f=⟨0,0,0,0⟩∧Hx'=Hx)):=by
 obtain⟨W,cd,ca,cs,held,ph,capj,ch,rfl,hW,hVj,hJW⟩:=hJ
 by_cases he:J.e=0
 ·have hG:=hJW.ok he
  have hS:=hst he W cd ca cs held ph capj hW hJW
  have hS2:Ct Tryz.prog mk us [jrow p.bj p.bw 0 ph held.length capj,([wrow p.bw p.bd p.ba p.bs,cd,ca,cs]++Hx).flatten] (StepR (jrow p.bj p.bw 0 ph held.length capj) fun f e Hc'=>∃cd' ca' cs' W' Hx',Hc'=([wrow p.bw p.bd p.ba p.bs,cd',ca',cs']++Hx').flatten∧
    Wc p.bd p.ba p.bs W' cd' ca' cs'∧Stepped p W W' A T er ts f e∧R f e Hx'):=by
   refine Ct.convP hS (by simp) ?_
   rintro v H' ⟨f,e,cd',ca',cs',W',Hx',rfl,rfl,hW',hSt,hR⟩
   exact⟨[jrow p.bj p.bw 0 ph held.length capj,([wrow p.bw p.bd p.ba p.bs,cd',ca',cs']++Hx').flatten],⟨f,e,_,rfl,rfl,cd',ca',cs',W',Hx',rfl,hW',hSt,hR⟩,by simp⟩
  have hM2:=Run_yes p.bj p.bw ph held.length capj _ ch hVj (by have:=hJW.len;omega) mk hcal us _ _ hS2
  refine Ct.convP hM2 (by rw[he];unfold jobC;refine permC fun z=> ?_;simp only[List.flatten_cons,List.flatten_nil,List.append_nil,List.flatten_append,List.count_append];omega) ?_
  rintro v H' ⟨f,e,Hc',rfl,⟨cd',ca',cs',W',Hx',rfl,hW',hSt,hR⟩,hc⟩
  have hlh:held.length<100000:=by have h2:=hG.1.length_eq;omega
  have hJ':=hJW.step he hSt hlh
  rcases hc with⟨rfl,p',cap',ch',rfl,hV'⟩|⟨hne,rfl⟩
  ·refine⟨jobC p 0 cd' ca' cs' p' (held.length+1) cap' ch'::Hx',⟨f,_,0,Hx',rfl,rfl,⟨W',cd',ca',cs',held++[(f,ts)],p',cap',ch',by simp,hW',?_,by simpa using hJ'⟩,.inl ⟨he,hR⟩⟩,?_⟩
   ·simpa using hV'
   ·unfold jobC;refine permC fun z=> ?_;simp only[List.flatten_cons,List.flatten_nil,List.append_nil,List.flatten_append,List.count_append];omega
  ·refine⟨jobC p e cd' ca' cs' ph held.length capj ch::Hx',⟨f,_,e,Hx',rfl,rfl,⟨W',cd',ca',cs',held,ph,capj,ch,rfl,hW',hVj,by simpa[hne] using hJ'⟩,.inl ⟨he,hR⟩⟩,?_⟩
   unfold jobC;refine permC fun z=> ?_;simp only[List.flatten_cons,List.flatten_nil,List.append_nil,List.flatten_append,List.count_append];omega
 ·have hM2:=Ct.wide (Run_no p.bj p.bw J.e he ph held.length capj (.func (.func mk) #[] us.toArray)) ([wrow p.bw p.bd p.ba p.bs,cd,ca,cs,ch]++Hx)
  refine Ct.convP hM2 (by unfold jobC;refine permC fun z=> ?_;simp only[List.flatten_cons,List.flatten_nil,List.append_nil,List.flatten_append,List.count_append];omega) ?_
  rintro v H' ⟨H1,⟨rfl,rfl⟩,rfl⟩
  refine⟨jobC p J.e cd ca cs ph held.length capj ch::Hx,⟨⟨0,0,0,0⟩,_,J.e,Hx,rfl,rfl,⟨W,cd,ca,cs,held,ph,capj,ch,rfl,hW,hVj,hJW.idle he _ _ _ _⟩,.inr ⟨he,rfl,rfl,rfl⟩⟩,?_⟩
  unfold jobC;refine permC fun z=> ?_;simp only[List.flatten_cons,List.flatten_nil,List.append_nil,List.flatten_append,List.count_append];omega
structure DoneW (p:Jp) (J:Jb) (rs:List Fl) (W:Wk):Prop where
 gs:W.α.gs.Perm p.gs
 room:W.α.room=p.room
 size:W.δ.size=p.size
 n:W.σ.n=p.n
 keep:∀x,inF p.L0 x→W.δ.disk x=p.D0 x
 flt:¬p.fl→W.δ.fault= -1
 acts:W.δ.acts≤J.acts
 tk:p.b0≤big W.σ.free+J.took
 good:J.e=0→∀G1 G2,J.G.Perm (G1++G2)→rs=G1.map (·.1)→W.live.Perm (addFs rs p.L0)∧(∀x∈G1,FileOk W.δ.disk p.size [x.1.ext] x.1 x.2)∧J.er=none
 bad:J.e≠0→W.live.Perm p.L0∧((J.e=6∧p.fl)∨∃m:Nat,J.er=some m∧J.e=(m:Int))
structure ResX where
 k:Nat
 cs:Chunk
 W:Wk
def staysB (e:Int) (rs:List Fl) (x:Fl×List T5):Bool:=decide (e=0)&&rs.contains x.1
theorem addFs_zero:∀(fs:List Fl) (L:List Ext),(∀f∈fs,f.blocks=0)→addFs fs L=L
 |[],_,_=>rfl
 |f::fs,L,h=>by
  have h1:addFs (f::fs) L=addFs fs (addF f L):=rfl
  rw[h1]
  have h2:addF f L=L:=by unfold addF;rw[if_pos (h f List.mem_cons_self)]
  rw[h2]
  exact addFs_zero fs L fun g hg=>h g (List.mem_cons_of_mem _ hg)
theorem addFs_two (a b:List Fl) (L:List Ext):addFs (a++b) L=addFs b (addFs a L):=by simp[addFs]
theorem take_filter {α:Type} {q:α→Bool} {l:List α} {k:Nat} {x:α} (h:l[k]? =some x):(l.take (k+1)).filter q=(l.take k).filter q++(if q x then[x] else[]):=by
 rw[List.take_add_one,h,List.filter_append]
 simp only[Option.toList_some,List.filter_cons,List.filter_nil]
theorem JResult_mem (p:Jp) (hp:p.Ok) (J:Jb) (held:List (Fl×List T5)) (W0:Wk) (cd ca cs0:Chunk) (hW0:Wc p.bd p.ba p.bs W0 cd ca cs0) (hJ0:JobW p J held W0) (ph:Option Addr) (hcap:Nat) (ch:Chunk) (hV:Vec 27 4 ph held.length hcap (fcells (held.map (·.1))) ch)
  (rs:List Fl) (hfl:rs.length≤1000) (pa:Option Addr) (cap:Nat) (cf:Chunk) (hVf:Vec 27 4 pa rs.length cap (fcells rs) cf):
  Ct Tryz.prog 49 [pv p.bj,.slice pa rs.length cap] [jrow p.bj p.bw J.e ph held.length hcap,ch,wrow p.bw p.bd p.ba p.bs,cs0,cf] fun v H'=>
   ∃cs W,v= .int .i64 J.e∧H'=[wrow p.bw p.bd p.ba p.bs,cs,cf]∧Wc p.bd p.ba p.bs W cd ca cs∧DoneW p J rs W:=by
 unfold jrow
 have hlen:=hJ0.len
 refine Ct.intro Tryz.func49 rfl Tryz.ntmps49 (nle rfl) fun w0=> ?_;dsimp only[argSlots,Nat.reduceAdd]
 repeat(first|(refine st ?_;intros)|refine G.draw [] (h:= ?_))
 refine G.loop (X:=ResX) (fun x=>x.k≤held.length∧Wc p.bd p.ba p.bs x.W cd ca x.cs∧x.W.δ=W0.δ∧x.W.α=W0.α∧x.W.σ.n=W0.σ.n∧big W0.σ.free≤big x.W.σ.free∧x.W.live.Perm (addFs (((held.take x.k).filter (staysB J.e rs)++held.drop x.k).map (·.1)) p.L0))
  (fun x=>[(15,.int .i64 (x.k:Int)),(14,.int .i64 (held.length:Int)),(13,.slice ph held.length hcap),(1,.slice pa rs.length cap),(0,pv p.bj)])
  (fun x=>[[(p.bj,row [pv p.bw,.int .i64 J.e,.slice ph held.length hcap] 108)],ch,wrow p.bw p.bd p.ba p.bs,x.cs,cf]) (fun x=>held.length-x.k) ⟨0,cs0,W0⟩
  ⟨Nat.zero_le _,hW0,rfl,rfl,rfl,Nat.le_refl _,by simpa using hJ0.live⟩ (body:= ?_)
 rintro⟨k,cs,W⟩ ⟨hk,hW,hδ,hα,hσ,hbg,hl⟩
 dsimp only at hk hW hδ hα hσ hbg hl⊢
 by_cases hlt:k<held.length
 ·obtain⟨vb,rest,rfl,rfl,hvl,hmc,hcm⟩:∃b rest,ph=some ⟨b,0,none⟩∧ch=[(b,row (fcells (held.map (·.1))++rest) 27)]∧hcap*4≤(fcells (held.map (·.1))).length+rest.length∧held.length≤hcap∧hcap≤maxLen:=by
   rcases hV.2 with⟨_,e,_⟩|hh
   ·omega
   ·exact hh
  have hlk:held[k]? =some held[k]:=List.getElem?_eq_getElem hlt
  have hget:=fc_get (rest:=rest) hlk
  have htf:=take_filter (q:=staysB J.e rs) hlk
  have hdr:=List.drop_eq_getElem_cons hlt
  generalize hc2:fcells (held.map (·.1))++rest=cells at*
  generalize hx:held[k]=x at*
  obtain⟨⟨x1,x2,x3,x4⟩,us⟩:=x
  dsimp only at hget
  have hfree:staysB J.e rs (⟨x1,x2,x3,x4⟩,us)=false→W.live.Perm (addF ⟨x1,x2,x3,x4⟩ (addFs (((held.take (k+1)).filter (staysB J.e rs)++held.drop (k+1)).map (·.1)) p.L0)):=by
   intro hs
   rw[hs] at htf
   simp only[Bool.false_eq_true,if_false,List.append_nil] at htf
   rw[hdr] at hl
   refine hl.trans ((addFs_perm (b:=⟨x1,x2,x3,x4⟩::(((held.take (k+1)).filter (staysB J.e rs)++held.drop (k+1)).map (·.1))) ?_ _).trans (addFs_cons _ _ _))
   rw[htf]
   simp only[List.map_append,List.map_cons]
   exact List.perm_middle
  have hstay:staysB J.e rs (⟨x1,x2,x3,x4⟩,us)=true→W.live.Perm (addFs (((held.take (k+1)).filter (staysB J.e rs)++held.drop (k+1)).map (·.1)) p.L0):=by
   intro hs
   rw[hs] at htf
   simp only[if_true] at htf
   rw[hdr] at hl
   rw[htf,List.append_assoc,List.singleton_append]
   exact hl
  have hF:=fun Lv hl=>Free_u p.bw p.bd p.ba p.bs W cd ca cs hW ⟨x1,x2,x3,x4⟩ Lv hl
  have hflv:flv ⟨x1,x2,x3,x4⟩= .agg #[.int .i64 (x1:Int),.int .i64 (x2:Int),.int .i64 (x3:Int),.int .i64 (x4:Int)]:=rfl
  rw[hflv] at hF
  repeat(first|(refine st ?_;intros)|refine G.draw [] (h:= ?_))
  rename_i b6
  refine G.loop (X:=Nat×Bool) (fun y=>y.1≤rs.length∧y.2=dec ((⟨x1,x2,x3,x4⟩:Fl)∈rs.take y.1))
   (fun y=>[(21,.int .i64 (y.1:Int)),(20,.int .i64 (rs.length:Int)),(19,.slice pa rs.length cap),(7,.bool y.2),(6,pv b6),(15,.int .i64 (k:Int)),(14,.int .i64 (held.length:Int)),(13,.slice (some ⟨vb,0,none⟩) held.length hcap),(1,.slice pa rs.length cap),(0,pv p.bj)])
   (fun _=>[[(b6,row [.int .i64 (x1:Int),.int .i64 (x2:Int),.int .i64 (x3:Int),.int .i64 (x4:Int)] 27)],[(p.bj,row [pv p.bw,.int .i64 J.e,.slice (some ⟨vb,0,none⟩) held.length hcap] 108)],[(vb,row cells 27)],wrow p.bw p.bd p.ba p.bs,cs,cf]) (fun y=>rs.length-y.1) (0,false) ⟨Nat.zero_le _,(dec_false (by simp)).symm⟩ (body:= ?_)
  rintro⟨m,b⟩ ⟨hm,hb⟩
  dsimp only at hm hb⊢
  by_cases hlt2:m<rs.length
  ·obtain⟨fb,frest,rfl,rfl,hfr,hfc,hfm⟩:∃b rest,pa=some ⟨b,0,none⟩∧cf=[(b,row (fcells rs++rest) 27)]∧cap*4≤(fcells rs).length+rest.length∧rs.length≤cap∧cap≤maxLen:=by
    rcases hVf.2 with⟨_,e,_⟩|hh
    ·omega
    ·exact hh
   have hfk:rs[m]? =some rs[m]:=List.getElem?_eq_getElem hlt2
   have hgf:=fc_get (rs:=rs.map fun f=>(f,[])) (rest:=frest) (j:=m) (r:=(rs[m],[])) (by simp[hfk])
   rw[List.map_map] at hgf
   have hid:(rs.map ((fun x:Fl×List T5=>x.1)∘fun f=>(f,[])))=rs:=by simp[Function.comp_def]
   rw[hid] at hgf
   have hb1:(⟨x1,x2,x3,x4⟩:Fl)∈rs.take (m+1)↔(⟨x1,x2,x3,x4⟩:Fl)∈rs.take m∨(⟨x1,x2,x3,x4⟩:Fl)=rs[m]:=by
    rw[List.take_add_one,hfk,List.mem_append];simp
   generalize hf:rs[m]=f at*
   generalize hfcells:fcells rs++frest=fcs at*
   obtain⟨f1,f2,f3,f4⟩:=f
   dsimp only at hgf
   cases b with
   |true=>
    repeat(first|(refine st ?_;intros)|refine G.draw [] (h:= ?_))
    refine Dn.round (m+1,true) ⟨hlt2,(dec_true (hb1.2 (.inl (dec_iff.1 hb.symm)))).symm⟩ (by dsimp only;omega)
   |false=>
    have hnm:¬(⟨x1,x2,x3,x4⟩:Fl)∈rs.take m:=fun h=>by rw[dec_true h] at hb;cases hb
    repeat(first|(refine st ?_;intros)|refine G.draw [] (h:= ?_))
    refine Dn.round (m+1,dec ((f1:Int)=(x1:Int)∧(f2:Int)=(x2:Int)∧(f3:Int)=(x3:Int)∧(f4:Int)=(x4:Int))) ⟨hlt2,dec_congr ?_⟩ (by dsimp only;omega)
    rw[hb1,Fl.mk.injEq]
    constructor
    ·intro h;exact .inr (by omega)
    ·rintro(h|h)
     ·exact absurd h hnm
     ·omega
  ·obtain rfl:m=rs.length:=by omega
   rw[List.take_length] at hb
   have hsb:staysB J.e rs (⟨x1,x2,x3,x4⟩,us)=(decide (J.e=0)&&b):=by
    unfold staysB
    rw[hb,dec_eq]
    congr 1
    rw[Bool.eq_iff_iff];simp
   cases b with
   |true=>
    by_cases he:J.e=0
    ·have hs:=hstay (by rw[hsb,decide_eq_true he];rfl)
     repeat(first|(refine st ?_;intros)|refine G.draw [] (h:= ?_))
     refine Dn.round ⟨k+1,cs,W⟩ ⟨hlt,hW,hδ,hα,hσ,hbg,hs⟩ (by dsimp only;omega)
    ·have hs:=hF _ (LvOf.add (hfree (by rw[hsb,decide_eq_false he];rfl)))
     repeat(first|(refine st ?_;intros)|refine G.draw [] (h:= ?_))
     refine R.call (hct:=hs) (h:= ?_)
     rintro _ _ ⟨cs',W',rfl,rfl,hW',hE',hδ',hα',hl'⟩
     try dsimp only[List.cons_append,List.nil_append]
     repeat(first|(refine st ?_;intros)|refine G.draw [] (h:= ?_))
     refine Dn.round ⟨k+1,cs',W'⟩ ⟨hlt,hW',hδ'.trans hδ,hα'.trans hα,hE'.n.trans hσ,Nat.le_trans hbg hE'.big,by rw[hl']⟩ (by dsimp only;omega)
   |false=>
    have hs:=hF _ (LvOf.add (hfree (by rw[hsb,Bool.and_false])))
    repeat(first|(refine st ?_;intros)|refine G.draw [] (h:= ?_))
    refine R.call (hct:=hs) (h:= ?_)
    rintro _ _ ⟨cs',W',rfl,rfl,hW',hE',hδ',hα',hl'⟩
    try dsimp only[List.cons_append,List.nil_append]
    repeat(first|(refine st ?_;intros)|refine G.draw [] (h:= ?_))
    refine Dn.round ⟨k+1,cs',W'⟩ ⟨hlt,hW',hδ'.trans hδ,hα'.trans hα,hE'.n.trans hσ,Nat.le_trans hbg hE'.big,by rw[hl']⟩ (by dsimp only;omega)
 ·obtain rfl:k=held.length:=by omega
  rw[List.take_length,List.drop_length,List.append_nil] at hl
  repeat(first|(refine st ?_;intros)|refine G.draw [] (h:= ?_))
  (refine Dn.post (Hr:=[wrow p.bw p.bd p.ba p.bs,cs,cf]) Tryz.results49 (hR:= ?_);refine⟨cs,W,rfl,rfl,hW,?_⟩)
  refine⟨by rw[hα];exact hJ0.gs,by rw[hα];exact hJ0.room,by rw[hδ];exact hJ0.size,hσ.trans hJ0.n,by rw[hδ];exact hJ0.keep,by rw[hδ];exact hJ0.flt,by rw[hδ];exact hJ0.acts,Nat.le_trans hJ0.tk (Nat.add_le_add_right hbg _),?_,?_⟩
  ·rintro e0 G1 G2 hG rfl
   obtain⟨g1,g2⟩:=hJ0.ok e0
   have hp2:=g1.trans hG
   refine⟨?_,fun x hx=>by rw[hδ];exact hJ0.files x (hp2.mem_iff.2 (List.mem_append_left _ hx)),g2⟩
   refine hl.trans ((addFs_perm ((hp2.filter _).map _) _).trans ?_)
   have h1:G1.filter (staysB J.e (G1.map (·.1)))=G1:=List.filter_eq_self.2 fun x hx=>by
    unfold staysB
    rw[decide_eq_true e0,Bool.true_and]
    simp only[List.contains_iff_mem]
    exact List.mem_map.2 ⟨x,hx,rfl⟩
   rw[List.filter_append,h1,List.map_append,addFs_two,addFs_zero]
   intro f hf
   obtain⟨y,hy,rfl⟩:=List.mem_map.1 hf
   obtain⟨hy1,hy2⟩:=List.mem_filter.1 hy
   unfold staysB at hy2
   rw[decide_eq_true e0,Bool.true_and,List.contains_iff_mem] at hy2
   obtain⟨x,hx1,hx2⟩:=List.mem_map.1 hy2
   by_cases hb:y.1.blocks=0
   ·exact hb
   ·exfalso
    obtain⟨a,b,rfl⟩:=List.append_of_mem hy1
    have h3:W0.live.Perm (y.1.ext::addFs ((G1++(a++b)).map (·.1)) p.L0):=by
     refine hJ0.live.trans ((addFs_perm (b:=y.1::(G1++(a++b)).map (·.1)) ?_ _).trans ((addFs_cons _ _ _).trans ?_))
     ·refine(hp2.map _).trans ?_
      rw[←List.append_assoc]
      refine(List.perm_middle.map _).trans ?_
      rw[List.append_assoc];exact .refl _
     ·unfold addF;rw[if_neg hb]
    have h5:=hW0.live.perm h3
    have h6:y.1.ext∈addFs ((G1++(a++b)).map (·.1)) p.L0:=addFs_ext (List.mem_map.2 ⟨x,List.mem_append_left _ hx1,hx2⟩) hb
    have h7:=List.rel_of_pairwise_cons h5.apart h6
    have h8:y.1.ext.2=y.1.blocks:=rfl
    omega
  ·intro e0
   refine⟨?_,hJ0.why e0⟩
   have h1:held.filter (staysB J.e rs)=[]:=List.filter_eq_nil_iff.2 fun x _=>by
    unfold staysB;rw[decide_eq_false e0];simp
   rw[h1] at hl
   exact hl
theorem JResult (p:Jp) (hp:p.Ok) (J:Jb) (C:Chunk) (hJ:JobC p J C) (rs:List Fl) (hfl:rs.length≤1000) (pa:Option Addr) (cap:Nat) (cf:Chunk) (hVf:Vec 27 4 pa rs.length cap (fcells rs) cf):
  Ct Tryz.prog 49 [pv p.bj,.slice pa rs.length cap] [C,cf] fun v H'=>∃cd ca cs W,v= .int .i64 J.e∧H'=[wrow p.bw p.bd p.ba p.bs,cd,ca,cs,cf]∧Wc p.bd p.ba p.bs W cd ca cs∧DoneW p J rs W:=by
 obtain⟨W,cd,ca,cs,held,ph,capj,ch,rfl,hW,hV,hJW⟩:=hJ
 refine Ct.convP (Ct.wide (JResult_mem p hp J held W cd ca cs hW hJW ph capj ch hV rs hfl pa cap cf hVf) [cd,ca]) (by unfold jobC;refine permC fun z=> ?_;simp only[List.flatten_cons,List.flatten_nil,List.append_nil,List.flatten_append,List.count_append];omega) ?_
 rintro v H' ⟨H1,⟨cs',W',rfl,rfl,hW',hD⟩,rfl⟩
 refine⟨[wrow p.bw p.bd p.ba p.bs,cd,ca,cs',cf],⟨cd,ca,cs',W',rfl,rfl,hW',hD⟩,?_⟩
 refine permC fun z=> ?_;simp only[List.flatten_cons,List.flatten_nil,List.append_nil,List.flatten_append,List.count_append];omega
structure BegX where
 k:Nat
 ca:Chunk
 α:Ar
theorem fcells_get {fs:List Fl} {rest:List Value} {j:Nat} {f:Fl} (h:fs[j]? =some f):
  ((fcells fs++rest).drop (j*4)).take 4=[.int .i64 (f.first:Int),.int .i64 (f.blocks:Int),.int .i64 (f.width:Int),.int .i64 (f.count:Int)]:=by
 have hgf:=fc_get (rs:=fs.map fun f=>(f,[])) (rest:=rest) (j:=j) (r:=(f,[])) (by simp[h])
 rw[List.map_map] at hgf
 have hid:(fs.map ((fun x:Fl×List T5=>x.1)∘fun f=>(f,[])))=fs:=by simp[Function.comp_def]
 rw[hid] at hgf
 exact hgf
theorem vecpos {E sz:Nat} {p:Option Addr} {m cap:Nat} {xs:List Value} {c:Chunk} (h:Vec E sz p m cap xs c) (hm:0<m):∃b rest,p=some ⟨b,0,none⟩∧c=[(b,row (xs++rest) E)]∧cap*sz≤xs.length+rest.length∧m≤cap∧cap≤maxLen:=by
 rcases h.2 with⟨_,e,_⟩|hh
 ·omega
 ·exact hh
theorem Begin_ct (bw bd ba bs:Nat) (W:Wk) (cd ca cs:Chunk) (h:Wc bd ba bs W cd ca cs) (l:List (Fl×List T5)) (hl:∀x∈l,FileIn W x) (hll:l.length≤1000) (pa:Option Addr) (cap:Nat) (cf:Chunk) (hVf:Vec 27 4 pa l.length cap (fcells (l.map (·.1))) cf):
  Ct Tryz.prog 44 [pv bw,.slice pa l.length cap] [wrow bw bd ba bs,cd,ca,cs,cf] fun v H'=>∃ca' α',Wc bd ba bs {W with α:=α'} cd ca' cs∧α'.gs.Perm W.α.gs∧α'.room=W.α.room∧
   ((8*W.δ.size≤W.α.room-W.α.used∧∃bj,v= .tuple #[pv bj,.int .i64 0]∧H'=[jrow bj bw 0 none 0 0,wrow bw bd ba bs,cd,ca',cs,cf])∨
    (W.α.room-W.α.used<8*W.δ.size∧v= .tuple #[.pointer none,.int .i64 7]∧H'=[wrow bw bd ba bs,cd,ca',cs,cf])):=by
 have hWA:=WArena_ct bw bd ba bs
 have hWD:=WDevice_ct bw bd ba bs
 have hSz:=Size_ct bd W.δ cd h.dev
 obtain⟨⟨hs1,hs2⟩,_⟩:=h.dev.num
 have hmul:IntKind.wrap .i64 ((8:Int)*(W.δ.size:Int))=((8*W.δ.size:Nat):Int):=by rw[wrap_i64 (by omega)];omega
 unfold jrow
 refine Ct.intro Tryz.func44 rfl Tryz.ntmps44 (nle rfl) fun w0=> ?_;dsimp only[argSlots,Nat.reduceAdd]
 repeat(first|(refine st ?_;intros)|(refine cq hWA ?_)|(refine cq hWD ?_)|(refine cq hLf ?_)|(refine cq hSz ?_))
 refine G.loop (X:=BegX) (fun x=>x.k≤l.length∧Wc bd ba bs {W with α:=x.α} cd x.ca cs∧x.α.gs.Perm W.α.gs∧x.α.room=W.α.room)
  (fun x=>[(14,.int .i64 (x.k:Int)),(13,.int .i64 (l.length:Int)),(12,.slice pa l.length cap),(0,pv bw)])
  (fun x=>[wrow bw bd ba bs,cd,x.ca,cs,cf]) (fun x=>l.length-x.k) ⟨0,ca,W.α⟩ ⟨Nat.zero_le _,h,.refl _,rfl⟩ (body:= ?_)
 rintro⟨k,ca1,α1⟩ ⟨hk,hW,hg,hrm⟩
 dsimp only at hk hW hg hrm⊢
 have hus:α1.used=W.α.used:=used_eq h hW hg
 have hnum:=hW.ar.num
 dsimp only at hnum
 by_cases hlt:k<l.length
 ·obtain⟨fb,frest,rfl,rfl,hfr,hfc,hfm⟩:=vecpos hVf (by omega)
  have hfk:(l.map (·.1))[k]? =some (l[k]).1:=by simp[hlt]
  have hgf:=fcells_get (rest:=frest) hfk
  obtain⟨Lv,hfo,_⟩:=hl _ (List.getElem_mem hlt)
  have hRd:=Read_u bw bd ba bs {W with α:=α1} cd ca1 cs hW (l[k]).1 (l[k]).2 Lv hfo
  have hRm:=Read_room bw bd ba bs {W with α:=α1} cd ca1 cs hW (l[k]).1 hfo.w1 hfo.w2 hfo.cnt hfo.blk
  generalize (l[k]).2=ts at*
  generalize (l[k]).1=f at*
  generalize fcells (l.map (·.1))++frest=fcs at*
  obtain⟨f1,f2,f3,f4⟩:=f
  have hflv:flv ⟨f1,f2,f3,f4⟩= .agg #[.int .i64 (f1:Int),.int .i64 (f2:Int),.int .i64 (f3:Int),.int .i64 (f4:Int)]:=rfl
  rw[hflv] at hRd hRm
  dsimp only at hgf hRd hRm
  repeat(first|(refine st ?_;intros)|(refine cq hWA ?_)|(refine cq hWD ?_)|(refine cq hLf ?_)|(refine cq hSz ?_))
  by_cases hr:W.δ.size≤α1.room-α1.used
  ·have hRd2:=hRd hr
   refine R.call (hct:=hRd2) (h:= ?_)
   rintro _ _ ⟨bx,g,ca2,α2,cx,cb,rfl,rfl,hW2,hE2,hg2,hgn,hr2⟩
   try dsimp only[List.cons_append,List.nil_append]
   have hRc:=RClose_u bw bd ba bs {W with α:=α2} cd ca2 cs hW2 bx ⟨f1,f2,f3,f4⟩ ts g _ hg2 0 cx cb hr2
   repeat(first|(refine st ?_;intros)|(refine cq hWA ?_)|(refine cq hWD ?_)|(refine cq hLf ?_)|(refine cq hSz ?_))
   refine R.call (hct:=hRc) (h:= ?_)
   rintro _ _ ⟨ca5,α5,cx5,rfl,rfl,hW5,hE5,hg6,hx5⟩
   try dsimp only[List.cons_append,List.nil_append]
   repeat(first|(refine st ?_;intros)|(refine cq hWA ?_)|(refine cq hWD ?_)|(refine cq hLf ?_)|(refine cq hSz ?_))
   refine Dn.round ⟨k+1,ca5,α5⟩ ⟨hlt,hW5,hg6.trans hg,(hE5.room.trans hE2.room).trans hrm⟩ (by dsimp only;omega)
  ·have hR2:=hRm (by omega)
   refine R.call (hct:=hR2) (h:= ?_)
   rintro _ _ ⟨rfl,rfl⟩
   try dsimp only[List.cons_append,List.nil_append]
   repeat(first|(refine st ?_;intros)|(refine cq hWA ?_)|(refine cq hWD ?_)|(refine cq hLf ?_)|(refine cq hSz ?_))
   refine R.call (hct:=RClose_nil) (h:= ?_)
   rintro _ _ ⟨rfl,rfl⟩
   try dsimp only[List.cons_append,List.nil_append]
   repeat(first|(refine st ?_;intros)|(refine cq hWA ?_)|(refine cq hWD ?_)|(refine cq hLf ?_)|(refine cq hSz ?_))
   refine Dn.round ⟨k+1,ca1,α1⟩ ⟨hlt,hW,hg,hrm⟩ (by dsimp only;omega)
 ·obtain rfl:k=l.length:=by omega
  have hLf:=aLeft ba α1 ca1 hW.ar
  by_cases hr:8*W.δ.size≤W.α.room-W.α.used
  ·repeat(first|(refine st ?_;intros)|(refine cq hWA ?_)|(refine cq hWD ?_)|(refine cq hLf ?_)|(refine cq hSz ?_))
   rename_i bj
   (refine Dn.post (Hr:=[[(bj,row [pv bw,.int .i64 0,.slice none 0 0] 108)],wrow bw bd ba bs,cd,ca1,cs,cf]) Tryz.results44 (hR:= ?_);exact⟨ca1,α1,hW,hg,hrm,.inl ⟨hr,bj,rfl,rfl⟩⟩)
  ·repeat(first|(refine st ?_;intros)|(refine cq hWA ?_)|(refine cq hWD ?_)|(refine cq hLf ?_)|(refine cq hSz ?_))
   (refine Dn.post (Hr:=[wrow bw bd ba bs,cd,ca1,cs,cf]) Tryz.results44 (hR:= ?_);exact⟨ca1,α1,hW,hg,hrm,.inr ⟨by omega,rfl,rfl⟩⟩)
def begP (bw bd ba bs bj:Nat) (W:Wk):Jp:=⟨bw,bd,ba,bs,bj,W.δ.size,W.α.room,W.σ.n,W.α.gs,W.live,W.δ.disk,W.δ.fault≠-1,big W.σ.free⟩
theorem begun_job {bw bd ba bs bj:Nat} {W:Wk} {cd ca cs ca':Chunk} {α':Ar} (h:Wc bd ba bs W cd ca cs) (hW:Wc bd ba bs {W with α:=α'} cd ca' cs) (hg:α'.gs.Perm W.α.gs) (hr:α'.room=W.α.room) (hroom:8*W.δ.size≤W.α.room-W.α.used):
  (begP bw bd ba bs bj W).Ok∧JobC (begP bw bd ba bs bj W) ⟨0,none,[],W.δ.acts,0⟩ (jobC (begP bw bd ba bs bj W) 0 cd ca' cs none 0 0 []):=by
 obtain⟨⟨hs1,hs2⟩,_⟩:=h.dev.num
 have h1:=h.ar.num.2.2.2
 have h2:=h.ar.num.1
 refine⟨⟨⟨hs1,hs2⟩,by show(W.α.gs.map (·.n)).sum+8*W.δ.size≤W.α.room;omega⟩,{W with α:=α'},cd,ca',cs,[],none,0,[],rfl,hW,Vec.nil _ _,?_⟩
 exact⟨hg,hr,rfl,rfl,.refl _,by simp,Nat.zero_le _,fun _ _=>rfl,fun hf=>by simpa[begP] using hf,Nat.le_refl _,Nat.le_refl _,fun _=>⟨.refl _,rfl⟩,fun h0=>absurd rfl h0⟩
theorem begun_in0 {bw bd ba bs bj:Nat} {W:Wk} {x:Fl×List T5} (h:FileIn W x):In0 (begP bw bd ba bs bj W) x:=h
namespace Maker
variable {K:Type} {M:Maker K}
theorem bad_none (h:∀k t,M.err k t=none):∀(ts:List T5) (k:K),M.bad k ts=none
 |[],_=>rfl
 |t::ts,k=>by simp only[bad,h];exact bad_none h ts _
theorem oks_of {ok:K→T5→Prop} {I:K→Prop} {Q:T5→Prop} (h:∀k t,I k→Q t→ok k t∧I (M.next k t)):∀(ts:List T5) (k:K),I k→(∀t∈ts,Q t)→M.oks ok k ts
 |[],_,_,_=>trivial
 |t::ts,k,hI,hQ=>by
  obtain⟨h1,h2⟩:=h k t hI (hQ t List.mem_cons_self)
  exact⟨h1,fun _=>oks_of h ts _ h2 fun u hu=>hQ u (List.mem_cons_of_mem _ hu)⟩
end Maker
def mMap (g:T5→T5):Maker Unit:=⟨fun _=>[],fun _ t=>[g t],fun _ _=>(),fun _ _=>none⟩
theorem mMap_all (g:T5→T5):∀(ts:List T5) (k:Unit),(mMap g).all k ts=ts.map g
 |[],_=>rfl
 |t::ts,k=>by simp only[Maker.all,mMap_all g ts];rfl
def TailR (R:Value→Chunk→Prop) (v:Value) (H':Hp):Prop:=∃X',H'=[X']∧R v X'
def PutC (bx:Nat) (t:T5) (X:Chunk) (R:Value→Chunk→Prop):Prop:=Ct Tryz.prog 72 [pv bx,tv t] [X] (TailR R)
theorem MakeU.tail {g:T5→T5} {kk mk:Nat} {okt:T5→Prop} (hmk:∀bx t X R,PutC bx (g t) X R→Ct Tryz.prog mk [tv t,putV bx] [X] (TailR R)) (hok:∀t,okt t→okT kk (g t)):MakeU (mMap g) kk (fun _ t=>okt t) mk [] []:=by
 intro bx Pst Br bnd hP ps X k t hX hk hb
 refine(hmk bx t X _ (hP ps X (g t) hX (hok t hk) (by simp[mMap] at hb;omega))).mono ?_
 rintro v H' ⟨X',rfl,hR⟩
 rcases hR with⟨rfl,hX'⟩|⟨rfl,hB⟩
 ·exact⟨X',(),rfl,.inl ⟨rfl,rfl,rfl,hX'⟩⟩
 ·exact⟨X',(),rfl,.inr (.inl ⟨rfl,hB⟩)⟩
theorem in_m1:inI64 (-1):=⟨by decide,by decide⟩
theorem in_0:inI64 0:=⟨by decide,by decide⟩
theorem wrap_in (x:Int):inI64 (IntKind.wrap .i64 x):=by
 have h1:(9223372036854775808:Int)=2^(64-1):=by decide
 unfold inI64
 simp only[IntKind.wrap,IntKind.bits,IntKind.signed,Bool.true_and,decide_eq_true_eq,←h1]
 split<;>omega
theorem okT_cols {k:Nat} {t:T5} (h:okT k t):inI64 t.c0∧inI64 t.c1∧inI64 t.c2∧inI64 t.c3∧inI64 t.c4:=
 ⟨h.1 _ (by simp[T5.toList]),h.1 _ (by simp[T5.toList]),h.1 _ (by simp[T5.toList]),h.1 _ (by simp[T5.toList]),h.1 _ (by simp[T5.toList])⟩
theorem okTk {k:Nat} {a b c d e:Int} (ha:inI64 a) (hb:inI64 b) (hc:inI64 c) (hd:inI64 d) (he:inI64 e) (h0:k≤0→a=0) (h1:k≤1→b=0) (h2:k≤2→c=0) (h3:k≤3→d=0) (h4:k≤4→e=0):okT k ⟨a,b,c,d,e⟩:=by
 refine⟨fun x hx=> ?_,fun i hi=> ?_⟩
 ·simp only[T5.toList,List.mem_cons,List.not_mem_nil,or_false] at hx
  rcases hx with rfl|rfl|rfl|rfl|rfl<;>assumption
 ·match i with
  |0=>exact h0 hi
  |1=>exact h1 hi
  |2=>exact h2 hi
  |3=>exact h3 hi
  |4=>exact h4 hi
  |n+5=>rfl
theorem okT5 {a b c d e:Int} (ha:inI64 a) (hb:inI64 b) (hc:inI64 c) (hd:inI64 d) (he:inI64 e):okT 5 ⟨a,b,c,d,e⟩:=
 okTk ha hb hc hd he (by omega) (by omega) (by omega) (by omega) (by omega)
theorem okT1 {a:Int} (ha:inI64 a):okT 1 ⟨a,0,0,0,0⟩:=okTk ha in_0 in_0 in_0 in_0 (by omega) (by simp) (by simp) (by simp) (by simp)
theorem okT2 {a b:Int} (ha:inI64 a) (hb:inI64 b):okT 2 ⟨a,b,0,0,0⟩:=okTk ha hb in_0 in_0 in_0 (by omega) (by omega) (by simp) (by simp) (by simp)
theorem cat_one (x:Fl×List T5):cat [x]=x.2:=by simp[cat]
theorem cat_two (x y:Fl×List T5):cat [x,y]=x.2++y.2:=by simp[cat]
theorem JMake0 (p:Jp) (hp:p.Ok) (J:Jb) (C:Chunk) (hJ:JobC p J C) {K:Type} (M:Maker K) (k0:K) (hne:∀k t,M.err k t=none) (width bound κ A T:Nat) (hwd:1≤width) (hwd2:width≤5) (hbn:bound≤100000000)
  (mk:Nat) (hcal:Callable Tryz.prog mk) (fs us:List Value) (ok:K→T5→Prop) (hM:MakeU M width ok mk fs us) (hκ:∀k t,ok k t→(M.outs k t).length≤κ) (hκb:κ≤10000)
  (l:List (Fl×List T5)) (hl:∀x∈l,(x∈J.G∨In0 p x)) (hcn:∀x∈l,x.1.count≤1000000) (pa:Option Addr) (cap:Nat) (cf:Chunk) (hV:Vec 27 4 pa l.length cap (fcells (l.map (·.1))) cf)
  (hok:M.oks ok k0 (cat l)) (hbd:J.e=0→(M.all k0 (cat l)).length≤bound) (hT:nblocks p.size width bound≤T) (hroom:J.e=0→Fits p J T) (hA:actsOf κ l+1≤A) (hac:J.acts+A≤10000000000) (hGl:J.G.length≤1000):
  Ct Tryz.prog 45 [pv p.bj,.int .i64 (width:Int),.int .i64 (bound:Int),.func (.func mk) fs.toArray us.toArray,.slice pa l.length cap] (C::cf::M.C k0) fun v H'=>
   ∃f C' e' k',v=flv f∧H'=C'::cf::M.C k'∧JobC p ⟨e',J.er,(f,M.all k0 (cat l))::J.G,J.acts+A,J.took+T⟩ C'∧
    (e'=0→J.e=0∧k'=M.st k0 (cat l)∧f.width=width∧f.count=(M.all k0 (cat l)).length)∧f.count≤bound∧f.blocks≤nblocks p.size width bound:=by
 refine(JMake p hp J C hJ M k0 width bound κ A T hwd hwd2 hbn mk hcal fs us ok hM hκ hκb l hl hcn pa cap cf hV hok hbd hT hroom hA hac hGl).mono ?_
 rintro v H' ⟨f,C',e',k',h1,h2,h3,h4,h5⟩
 rw[Maker.bad_none hne] at h3
 have h6:J.er.or none=J.er:=by cases J.er<;>rfl
 rw[h6] at h3
 exact⟨f,C',e',k',h1,h2,h3,fun h=>let ⟨a,b,c,d,_⟩:=h4 h;⟨a,b,c,d⟩,h5⟩
theorem vec1 (b:Nat) (f:Fl):Vec 27 4 (some ⟨b,0,none⟩) [f].length 1 (fcells [f]) [(b,row (fl4 f) 27)]:=
 ⟨rfl,.inr ⟨b,[],rfl,by simp[fcells,fl4],by simp[fcells],by simp,by decide⟩⟩
theorem vec2 (b:Nat) (f g:Fl):Vec 27 4 (some ⟨b,0,none⟩) [f,g].length 2 (fcells [f,g]) [(b,row (fl4 f++fl4 g) 27)]:=
 ⟨rfl,.inr ⟨b,[],rfl,by simp[fcells,fl4],by simp[fcells],by simp,by decide⟩⟩
theorem JFree1 (p:Jp) (hp:p.Ok) (J:Jb) (C:Chunk) (hJ:JobC p J C) (f:Fl) (ts:List T5) (G':List (Fl×List T5)) (hG:J.e=0→J.G.Perm ((f,ts)::G')) (b:Nat):
  Ct Tryz.prog 83 [pv p.bj,.slice (some ⟨b,0,none⟩) 1 1] [C,[(b,row (fl4 f) 27)]] fun v H'=>∃C',v= .tuple #[]∧H'=[C',[(b,row (fl4 f) 27)]]∧JobC p ⟨J.e,J.er,G',J.acts,J.took⟩ C':=
 JFree p hp J C hJ [f] [(f,ts)] G' (fun e=>⟨hG e,rfl⟩) (by simp) _ 1 _ (vec1 b f)
theorem JFree2 (p:Jp) (hp:p.Ok) (J:Jb) (C:Chunk) (hJ:JobC p J C) (f g:Fl) (ts us:List T5) (G':List (Fl×List T5)) (hG:J.e=0→J.G.Perm ((f,ts)::(g,us)::G')) (b:Nat):
  Ct Tryz.prog 83 [pv p.bj,.slice (some ⟨b,0,none⟩) 2 2] [C,[(b,row (fl4 f++fl4 g) 27)]] fun v H'=>∃C',v= .tuple #[]∧H'=[C',[(b,row (fl4 f++fl4 g) 27)]]∧JobC p ⟨J.e,J.er,G',J.acts,J.took⟩ C':=
 JFree p hp J C hJ [f,g] [(f,ts),(g,us)] G' (fun e=>⟨hG e,rfl⟩) (by simp) _ 2 _ (vec2 b f g)
theorem perm_two {α:Type} (l:List α) (x y:α) (G:List α):(l++x::y::G).Perm (y::x::(l++G)):=List.perm_middle.trans ((List.perm_middle.cons x).trans (.swap _ _ _))
theorem or_none' (x:Option Nat):x.or none=x:=by cases x<;>rfl
theorem JRunK (p:Jp) (hp:p.Ok) (J:Jb) (C:Chunk) (hJ:JobC p J C) (mk:Nat) (hcal:Callable Tryz.prog mk) (us:List Value) (Hx:Hp) (A T:Nat) (er:Option Nat) (ts:List T5) (R:Fl→Int→Prop) (hst:J.e=0→StepCt p J mk us Hx A T er ts fun f e Hx'=>Hx'=Hx∧R f e) (hGl:J.G.length≤1000):
  Ct Tryz.prog 57 [pv p.bj,.func (.func mk) #[] us.toArray] (C::Hx) fun v H'=>∃f C' e',v=flv f∧H'=C'::Hx∧JobC p ⟨e',J.er.or er,(f,ts)::J.G,J.acts+A,J.took+T⟩ C'∧
   ((J.e=0∧R f e')∨(J.e≠0∧e'=J.e∧f=⟨0,0,0,0⟩)):=by
 refine(JRun p hp J C hJ mk hcal us Hx A T er ts _ hst hGl).mono ?_
 rintro v H' ⟨f,C',e',Hx',h1,rfl,h3,⟨h4,rfl,h5⟩|⟨h4,h5,h6,rfl⟩⟩
 ·exact⟨f,C',e',h1,rfl,h3,.inl ⟨h4,h5⟩⟩
 ·exact⟨f,C',e',h1,rfl,h3,.inr ⟨h4,h5,h6⟩⟩
theorem JMake1 (p:Jp) (hp:p.Ok) (J:Jb) (C:Chunk) (hJ:JobC p J C) {K:Type} (M:Maker K) (k0:K) (hne:∀k t,M.err k t=none) (width bound κ A T:Nat) (hwd:1≤width) (hwd2:width≤5) (hbn:bound≤100000000)
  (mk:Nat) (hcal:Callable Tryz.prog mk) (us:List Value) (ok:K→T5→Prop) (hM:MakeU M width ok mk [] us) (hκ:∀k t,ok k t→(M.outs k t).length≤κ) (hκb:κ≤10000)
  (f0:Fl) (ts:List T5) (hl:(f0,ts)∈J.G∨In0 p (f0,ts)) (hcn:f0.count≤1000000)
  (hok:M.oks ok k0 ts) (hbd:J.e=0→(M.all k0 ts).length≤bound) (hT:nblocks p.size width bound≤T) (hroom:J.e=0→Fits p J T) (hA:f0.blocks+f0.count*κ+1≤A) (hac:J.acts+A≤10000000000) (hGl:J.G.length≤1000) (b:Nat):
  Ct Tryz.prog 45 [pv p.bj,.int .i64 (width:Int),.int .i64 (bound:Int),.func (.func mk) #[] us.toArray,.slice (some ⟨b,0,none⟩) 1 1] (C::[(b,row (fl4 f0) 27)]::M.C k0) fun v H'=>
   ∃f C' e' k',v=flv f∧H'=C'::[(b,row (fl4 f0) 27)]::M.C k'∧JobC p ⟨e',J.er,(f,M.all k0 ts)::J.G,J.acts+A,J.took+T⟩ C'∧
    (e'=0→J.e=0∧k'=M.st k0 ts∧f.width=width∧f.count=(M.all k0 ts).length)∧f.count≤bound∧f.blocks≤nblocks p.size width bound:=by
 have h:=JMake0 p hp J C hJ M k0 hne width bound κ A T hwd hwd2 hbn mk hcal [] us ok hM hκ hκb [(f0,ts)] (by simpa using hl) (by simpa using hcn) _ 1 _ (vec1 b f0)
 rw[cat_one] at h
 exact h hok hbd hT hroom (by simpa[actsOf] using hA) hac hGl
theorem JMap1 (p:Jp) (hp:p.Ok) (J:Jb) (C:Chunk) (hJ:JobC p J C) (g:T5→T5) (width bound A T:Nat) (hwd:1≤width) (hwd2:width≤5) (hbn:bound≤100000000)
  (mk:Nat) (hcal:Callable Tryz.prog mk) (okt:T5→Prop) (hmk:∀bx t X R,PutC bx (g t) X R→Ct Tryz.prog mk [tv t,putV bx] [X] (TailR R)) (hokt:∀t,okt t→okT width (g t))
  (f0:Fl) (ts:List T5) (hl:(f0,ts)∈J.G∨In0 p (f0,ts)) (hcn:f0.count≤1000000)
  (hok:∀t∈ts,okt t) (hbd:J.e=0→ts.length≤bound) (hT:nblocks p.size width bound≤T) (hroom:J.e=0→Fits p J T) (hA:f0.blocks+f0.count+1≤A) (hac:J.acts+A≤10000000000) (hGl:J.G.length≤1000) (b:Nat):
  Ct Tryz.prog 45 [pv p.bj,.int .i64 (width:Int),.int .i64 (bound:Int),.func (.func mk) #[] #[],.slice (some ⟨b,0,none⟩) 1 1] [C,[(b,row (fl4 f0) 27)]] fun v H'=>
   ∃f C' e',v=flv f∧H'=[C',[(b,row (fl4 f0) 27)]]∧JobC p ⟨e',J.er,(f,ts.map g)::J.G,J.acts+A,J.took+T⟩ C'∧
    (e'=0→J.e=0∧f.width=width∧f.count=ts.length)∧f.count≤bound∧f.blocks≤nblocks p.size width bound:=by
 have h:=JMake1 p hp J C hJ (mMap g) () (fun _ _=>rfl) width bound 1 A T hwd hwd2 hbn mk hcal [] _ (MakeU.tail hmk hokt) (fun _ _ _=>Nat.le_refl _) (by omega) f0 ts hl hcn
  (Maker.oks_of (M:=mMap g) (I:=fun _=>True) (Q:=okt) (fun _ t _ h=>⟨h,trivial⟩) ts () trivial hok) (by rw[mMap_all,List.length_map];exact hbd) hT hroom (by omega) hac hGl b
 refine h.mono ?_
 rintro v H' ⟨f,C',e',k',h1,h2,h3,h4,h5⟩
 rw[mMap_all] at h3 h4
 rw[List.length_map] at h4
 exact⟨f,C',e',h1,h2,h3,fun h=>let ⟨a,_,c,d⟩:=h4 h;⟨a,c,d⟩,h5⟩
theorem JMap2 (p:Jp) (hp:p.Ok) (J:Jb) (C:Chunk) (hJ:JobC p J C) (g:T5→T5) (width bound A T:Nat) (hwd:1≤width) (hwd2:width≤5) (hbn:bound≤100000000)
  (mk:Nat) (hcal:Callable Tryz.prog mk) (okt:T5→Prop) (hmk:∀bx t X R,PutC bx (g t) X R→Ct Tryz.prog mk [tv t,putV bx] [X] (TailR R)) (hokt:∀t,okt t→okT width (g t))
  (f0 f1:Fl) (ts us:List T5) (hl:(f0,ts)∈J.G∨In0 p (f0,ts)) (hl1:(f1,us)∈J.G∨In0 p (f1,us)) (hcn:f0.count≤1000000) (hcn1:f1.count≤1000000)
  (hok:∀t∈ts++us,okt t) (hbd:J.e=0→(ts++us).length≤bound) (hT:nblocks p.size width bound≤T) (hroom:J.e=0→Fits p J T) (hA:f0.blocks+f0.count+(f1.blocks+f1.count)+1≤A) (hac:J.acts+A≤10000000000) (hGl:J.G.length≤1000) (b:Nat):
  Ct Tryz.prog 45 [pv p.bj,.int .i64 (width:Int),.int .i64 (bound:Int),.func (.func mk) #[] #[],.slice (some ⟨b,0,none⟩) 2 2] [C,[(b,row (fl4 f0++fl4 f1) 27)]] fun v H'=>
   ∃f C' e',v=flv f∧H'=[C',[(b,row (fl4 f0++fl4 f1) 27)]]∧JobC p ⟨e',J.er,(f,(ts++us).map g)::J.G,J.acts+A,J.took+T⟩ C'∧
    (e'=0→J.e=0∧f.width=width∧f.count=(ts++us).length)∧f.count≤bound∧f.blocks≤nblocks p.size width bound:=by
 have h:=JMake0 p hp J C hJ (mMap g) () (fun _ _=>rfl) width bound 1 A T hwd hwd2 hbn mk hcal [] [] _ (MakeU.tail hmk hokt) (fun _ _ _=>Nat.le_refl _) (by omega) [(f0,ts),(f1,us)] (by simpa using⟨hl,hl1⟩) (by simpa using⟨hcn,hcn1⟩) _ 2 _ (vec2 b f0 f1)
 rw[cat_two] at h
 have h:=h (Maker.oks_of (M:=mMap g) (I:=fun _=>True) (Q:=okt) (fun _ t _ h=>⟨h,trivial⟩) (ts++us) () trivial hok) (by rw[mMap_all,List.length_map];exact hbd) hT hroom (by simp[actsOf];omega) hac hGl
 refine h.mono ?_
 rintro v H' ⟨f,C',e',k',h1,h2,h3,h4,h5⟩
 rw[mMap_all] at h3 h4
 rw[List.length_map] at h4
 exact⟨f,C',e',h1,h2,h3,fun h=>let ⟨a,_,c,d⟩:=h4 h;⟨a,c,d⟩,h5⟩
def WSt (bw bx first nb k bound:Nat) (g:Gr) (base:List Gr) (Lv:List Ext) (W:Wk) (cx cb:Chunk):Prop:=
 (W.α.gs.Perm (g::base)∧LvOf first nb Lv W.live∧∃ps,IsWr bw bx W first nb k bound g ps cx cb)∨(W.α.gs.Perm base∧W.live.Perm Lv∧ClosedWr bx cx)
theorem map_id_t (ts:List T5):ts.map (fun t=>t)=ts:=by simp
theorem putZ_see (W0:Wk) (ps0 ts:List T5) (bw bd ba bs bx first width bound size room:Nat) (g:Gr) (Lv:List Ext) (f:Fl) (hfit:∀t∈ts,okT width t) (hbd:ps0.length+ts.length≤bound) (hh:1≤holds size width):
  SeeCt bw bd ba bs (eachZ (mMap fun t=>t) W0 () ps0 ts bw bx first width bound size 1 g Lv []) size room f ts 72 [pv bx] []:=by
 rintro base W cd ca cs ⟨rk,rps,rcx,rcb,rop⟩ i t hW hg hrm hsz ⟨hop,hwr,hl,hK,hflt,hk,hps,hbad⟩ ht hac
 dsimp only at hop hwr hl hK hk hps hbad
 have hlt:i<ts.length:=(List.getElem?_eq_some_iff.1 ht).1
 have hlen:rps.length+1≤bound:=by
  rw[hps,List.length_append,mMap_all,List.length_map,List.length_take];omega
 subst hop
 simp only[eachZ,if_true,List.singleton_append] at hg
 have hP:=putter bw bd ba bs bx first width bound g base Lv W rps.length 1 (by rw[hsz];exact hh) hlen (by omega)
 rw[hsz] at hP
 have hC:=hP rps ([wrow bw bd ba bs,cd,ca,cs,rcx,rcb].flatten) t ⟨cd,ca,cs,rcx,rcb,W,rfl,hW,hg,hwr,hl,Keep.refl _ _,Nat.le_refl _,by omega,by simpa using Ev.refl W⟩ (hfit t (List.mem_of_getElem? ht)) (by omega)
 refine Ct.convP hC (by simp[eachZ,mMap]) ?_
 rintro v H' ⟨X',rfl,hc⟩
 rcases hc with⟨rfl,cd',ca',cs',cx',cb',W',rfl,hW',hg',hw',hl',hK',h1,h2,hE'⟩|⟨rfl,cd',ca',cs',cx',cb',W',rfl,hW',hg',hl',hx',hK',hE',hf'⟩
 ·refine⟨_,⟨cd',ca',cs',W',⟨(),rps++[t],cx',cb',true⟩,0,rfl,rfl,hW',hE'.weak (by simp[eachZ]) (Nat.le_refl _),hg',fun _=>⟨rfl,hw',hl',hK.trans hK',fun e=>hE'.fault (hflt e),rfl,?_,Maker.bad_none (fun _ _=>rfl) _ _⟩,fun h=>absurd rfl h⟩,by simp[eachZ,mMap]⟩
  show rps++[t]=ps0++(mMap fun t=>t).all () (ts.take (i+1))
  rw[hps,Maker.take_succ ht,Maker.all_app,List.append_assoc];rfl
 ·exact⟨_,⟨cd',ca',cs',W',⟨(),[],cx',cb',false⟩,6,rfl,rfl,hW',hE'.weak (Nat.le_refl _) (Nat.le_refl _),hg',fun h=>by omega,fun _=>⟨hK.trans hK',.inr ⟨rfl,hx',hl'⟩,.inl ⟨rfl,fun e=>hf' (hflt e)⟩⟩⟩,by simp[eachZ,mMap]⟩
theorem OverPut_ct (bw bd ba bs:Nat) (ps0:List T5) (W:Wk) (cd ca cs:Chunk) (h:Wc bd ba bs W cd ca cs) (bx first width bound:Nat) (g:Gr) (base:List Gr) (Lv:List Ext) (cx cb:Chunk) (hg:W.α.gs.Perm (g::base))
  (hw:IsWr bw bx W first (nblocks W.δ.size width bound) width bound g ps0 cx cb) (hl:LvOf first (nblocks W.δ.size width bound) Lv W.live) (f:Fl) (ts:List T5) (LvF:List Ext) (hfo:FileOk W.δ.disk W.δ.size LvF f ts) (hsub:∀e∈LvF,e∈Lv)
  (hfit:∀t∈ts,okT width t) (hbd:ps0.length+ts.length≤bound) (hwd:1≤width) (hwd2:width≤5) (hr:W.δ.size≤W.α.room-W.α.used) (hac:W.δ.acts≤10000000000) (hcn:f.count≤1000000):
  Ct Tryz.prog 109 [pv bw,flv f,.func (.func 72) #[pv bx] #[]] [wrow bw bd ba bs,cd,ca,cs,cx,cb] fun v H'=>
   ∃cd' ca' cs' W' cx' cb' e,v= .int .i64 e∧H'=[wrow bw bd ba bs,cd',ca',cs',cx',cb']∧Wc bd ba bs W' cd' ca' cs'∧Ev W W' (f.blocks+f.count) 0∧Keep Lv W W'∧
    ((e=0∧W'.α.gs.Perm (g::base)∧LvOf first (nblocks W.δ.size width bound) Lv W'.live∧IsWr bw bx W' first (nblocks W.δ.size width bound) width bound g (ps0++ts) cx' cb')∨
     (e=6∧W.δ.fault≠-1∧WSt bw bx first (nblocks W.δ.size width bound) width bound g base Lv W' cx' cb')):=by
 obtain⟨⟨hs1,hs2⟩,_⟩:=h.dev.num
 have hh:=holds_pos hs1 hwd hwd2
 have hnb:=nblocks_le (n:=f.count) (holds_pos hs1 hfo.w1 hfo.w2)
 have hO:=Over_ct bw bd ba bs (eachZ (mMap fun t=>t) W () ps0 ts bw bx first width bound W.δ.size 1 g Lv []) (eachZ_ok _ W () ps0 ts bw bx first width bound W.δ.size 1 g Lv _) f ts Lv 72 inferInstance [pv bx] [] W.δ.size W.α.room
  (putZ_see W ps0 ts bw bd ba bs bx first width bound W.δ.size W.α.room g Lv f hfit hbd hh) W cd ca cs h ⟨(),ps0,cx,cb,true⟩ base hg rfl rfl
  ⟨rfl,hw,hl,Keep.refl _ _,id,rfl,by simp[Maker.all],by simp[Maker.bad]⟩ (fun W' r i hJ=>⟨(hfo.sub hsub).keep (fun x hx=>hJ.2.2.2.1 x hx),fun e he=>hJ.2.2.1.mem he⟩) hr (by show _+_+_*1≤_;omega) hcn
 refine Ct.convP hO (by simp[eachZ,mMap]) ?_
 rintro v H' ⟨cd',ca',cs',W',⟨rk,rps,rcx,rcb,rop⟩,e,rfl,rfl,hW',hE',hg',hJ,hB⟩
 refine⟨[wrow bw bd ba bs,cd',ca',cs',rcx,rcb],⟨cd',ca',cs',W',rcx,rcb,e,rfl,rfl,hW',?_,?_⟩,by simp[eachZ,mMap]⟩
 ·rw[hfo.blk];simpa[eachZ] using hE'
 by_cases he:e=0
 ·obtain⟨h0,h1,h2,h3,_,h5,h6,h7⟩:=hJ he
  dsimp only at h0 h1 h2 h3 h6
  subst h0
  have htk:ts.take f.count=ts:=by rw[←hfo.len,List.take_length]
  rw[htk,mMap_all,map_id_t] at h6
  simp only[eachZ,if_true,List.singleton_append] at hg'
  exact⟨h3,.inl ⟨he,hg',h2,by rw[←h6];exact h1⟩⟩
 ·obtain⟨h1,h2,h3⟩:=hB he
  rcases h3 with⟨rfl,hf⟩|⟨n,h3,_⟩
  ·refine⟨h1,.inr ⟨rfl,hf,?_⟩⟩
   rcases h2 with⟨a,b,c⟩|⟨a,b,c⟩
   ·dsimp only at a;subst a
    simp only[eachZ,if_true,List.singleton_append] at hg'
    exact .inl ⟨hg',b,c⟩
   ·dsimp only at a;subst a
    simp only[eachZ,Bool.false_eq_true,if_false,List.nil_append] at hg'
    exact .inr ⟨hg',c,b⟩
  ·rw[Maker.bad_none (fun _ _=>rfl)] at h3;cases h3
theorem Cd.wide {P:Program} {f:FuncId} {args:List Value} {Hf:Hp} {R:Value→Hp→Prop} (h:Cd P f args Hf R) (F:Hp):Cd P f args (Hf++F) fun v H'=>∃H1,R v H1∧H'=H1++F:=by
 unfold Cd at h⊢
 intro u w hw
 refine(h u w hw.self).mono ?_
 rintro e u' w' ⟨hu,v,H',h3,h4,h5⟩
 exact⟨hu,v,H'++F,h3,⟨H',h4,rfl⟩,hw.framed h5⟩
theorem DropAny (bw bd ba bs:Nat) (W:Wk) (cd ca cs:Chunk) (h:Wc bd ba bs W cd ca cs) (bx first nb k bound:Nat) (g:Gr) (base:List Gr) (Lv:List Ext) (cx cb:Chunk) (hw:WSt bw bx first nb k bound g base Lv W cx cb):
  Cd Tryz.prog 73 [pv bx] [wrow bw bd ba bs,cd,ca,cs,cx,cb] fun v H'=>
   ∃cd' ca' cs' W' cx' cb',H'=[wrow bw bd ba bs,cd',ca',cs',cx',cb']∧Wc bd ba bs W' cd' ca' cs'∧Ev W W' 0 0∧W'.δ=W.δ∧W'.α.gs.Perm base∧W'.live.Perm Lv:=by
 rcases hw with⟨h1,h2,ps,h3⟩|⟨h1,h2,h3⟩
 ·refine Cd.conv (Drop_uB bw bd ba bs W cd ca cs h bx first nb k bound g ps cx cb h3 base h1 Lv h2).2 (.refl _) ?_
  rintro v H' ⟨cd',ca',cs',W',cx',cb',_,rfl,a1,a2,a3,a4,a5,_⟩
  exact⟨_,⟨cd',ca',cs',W',cx',cb',rfl,a1,a2,a3,a4,a5⟩,.refl _⟩
 ·refine Cd.conv (Cd.wide (Dropped_uB bx cx h3).2 [wrow bw bd ba bs,cd,ca,cs,cb]) (permC fun z=>by simp only[List.flatten_cons,List.flatten_nil,List.append_nil,List.flatten_append,List.count_append];omega) ?_
  rintro v H' ⟨H1,⟨_,rfl⟩,rfl⟩
  exact⟨_,⟨cd,ca,cs,W,cx,cb,rfl,h,Ev.refl W,rfl,h1,h2⟩,permC fun z=>by simp only[List.flatten_cons,List.flatten_nil,List.append_nil,List.flatten_append,List.count_append];omega⟩
theorem Put_w (bw bd ba bs:Nat) (W:Wk) (cd ca cs:Chunk) (h:Wc bd ba bs W cd ca cs) (bx first nb k bound:Nat) (g:Gr) (ps:List T5) (cx cb:Chunk) (hw:IsWr bw bx W first nb k bound g ps cx cb) (Gs:List Gr) (hg:W.α.gs.Perm (g::Gs))
  (Lv:List Ext) (hl:LvOf first nb Lv W.live) (hlt:ps.length<bound) (t:T5) (ht:okT k t) (hac:W.δ.acts≤1000000000000) (hh:1≤holds W.δ.size k):
  Ct Tryz.prog 72 [pv bx,tv t] [wrow bw bd ba bs,cd,ca,cs,cx,cb] fun v H'=>
   ∃cd' ca' cs' W' cx' cb' e,v= .int .i64 e∧H'=[wrow bw bd ba bs,cd',ca',cs',cx',cb']∧Wc bd ba bs W' cd' ca' cs'∧Ev W W' 1 0∧Keep Lv W W'∧
    ((e=0∧W'.α.gs.Perm (g::Gs)∧LvOf first nb Lv W'.live∧IsWr bw bx W' first nb k bound g (ps++[t]) cx' cb')∨(e=6∧W.δ.fault≠-1∧WSt bw bx first nb k bound g Gs Lv W' cx' cb')):=by
 refine(Put_u bw bd ba bs W cd ca cs h bx first nb k bound g ps cx cb hw Gs hg Lv hl hlt t ht hac).mono ?_
 rintro v H' ⟨cd',ca',cs',W',cx',cb',rfl,hW',hE',hK',hc⟩
 have hE1:Ev W W' 1 0:=hE'.weak (by
  have h2:(ps.length+1)/holds W.δ.size k≤ps.length/holds W.δ.size k+1:=by
   calc (ps.length+1)/holds W.δ.size k≤(ps.length+holds W.δ.size k)/holds W.δ.size k:=Nat.div_le_div_right (by omega)
    _=ps.length/holds W.δ.size k+1:=Nat.add_div_right _ (by omega)
  omega) (Nat.le_refl _)
 rcases hc with⟨rfl,e1,e2,e3,e4⟩|⟨rfl,e1,e2,e3,e4,e5⟩
 ·exact⟨cd',ca',cs',W',cx',cb',0,rfl,rfl,hW',hE1,hK',.inl ⟨rfl,by rw[e1];exact hg,by rw[e3];exact hl,e4⟩⟩
 ·exact⟨cd',ca',cs',W',cx',cb',6,rfl,rfl,hW',hE1,hK',.inr ⟨rfl,by omega,.inr ⟨e3,e4,e5⟩⟩⟩
theorem Close_w (bw bd ba bs:Nat) (W:Wk) (cd ca cs:Chunk) (h:Wc bd ba bs W cd ca cs) (bx first nb k bound:Nat) (g:Gr) (ps:List T5) (cx cb:Chunk) (hw:IsWr bw bx W first nb k bound g ps cx cb) (Gs:List Gr) (hg:W.α.gs.Perm (g::Gs))
  (Lv:List Ext) (hl:LvOf first nb Lv W.live) (hac:W.δ.acts≤1000000000000) (hh:1≤holds W.δ.size k):
  Ct Tryz.prog 74 [pv bx] [wrow bw bd ba bs,cd,ca,cs,cx,cb] fun v H'=>
   ∃cd' ca' cs' W' cx' cb' f e,v= .tuple #[flv f,.int .i64 e]∧H'=[wrow bw bd ba bs,cd',ca',cs',cx',cb']∧Wc bd ba bs W' cd' ca' cs'∧Ev W W' 1 0∧Keep Lv W W'∧W'.α.gs.Perm Gs∧ClosedWr bx cx'∧
    ((e=0∧W'.live.Perm (addF f Lv)∧f.width=k∧f.count=ps.length∧FileOk W'.δ.disk W.δ.size [f.ext] f ps)∨(e=6∧f=⟨0,0,0,0⟩∧W.δ.fault≠-1∧W'.live.Perm Lv)):=by
 refine(Close_u bw bd ba bs W cd ca cs h bx first nb k bound g ps cx cb hw Gs hg Lv hl hac).mono ?_
 rintro v H' ⟨cd',ca',cs',W',cx',cb',rfl,hW',hE',hK',hg',hx',hc⟩
 have hE1:Ev W W' 1 0:=hE'.weak (by
  unfold nblocks
  have h1:(ps.length+holds W.δ.size k-1)/holds W.δ.size k≤(ps.length+holds W.δ.size k)/holds W.δ.size k:=Nat.div_le_div_right (by omega)
  rw[Nat.add_div_right _ (by omega)] at h1
  omega) (Nat.le_refl _)
 rcases hc with⟨f,rfl,e1,e2,e3,e4⟩|⟨rfl,e1,e2,e3⟩
 ·exact⟨cd',ca',cs',W',cx',cb',f,0,rfl,rfl,hW',hE1,hK',hg',hx',.inl ⟨rfl,by rw[e1];exact .refl _,e2,e3,e4⟩⟩
 ·exact⟨cd',ca',cs',W',cx',cb',⟨0,0,0,0⟩,6,rfl,rfl,hW',hE1,hK',hg',hx',.inr ⟨rfl,rfl,by omega,e3⟩⟩
end Go.Proofs.YtlnehgklibbjiaaGreat
