/-
  Parts of the proof, put together: MakeN, Ord, OrdM, It, CompF, Ref03, Gr. No condition.
-/
import Derived.Test.YtpckicjfigmjkaaGreatJ22
set_option linter.unusedVariables false
set_option linter.unusedSimpArgs false
set_option linter.unnecessarySimpa false
set_option maxHeartbeats 4000000
namespace Go.Proofs.YtpckicjfigmjkaaGreat
open Go.SL Go.Spc Go.Tup Go.Srt
structure EachN where
 i:Nat
theorem Each_nil (bw bd ba bs:Nat) (W:Wk) (cd ca cs:Chunk) (h:Wc bd ba bs W cd ca cs) (width bound:Nat) (hwd:1≤width) (hwd2:width≤5) (hbn:bound≤100000000) (hr:2*W.δ.size≤W.α.room-W.α.used) (hac:W.δ.acts≤10000000000):
  Ct Tryz.prog 89 [pv bw,.int .i64 (width:Int),.int .i64 (bound:Int),.nilFunc,.slice none 0 0] [wrow bw bd ba bs,cd,ca,cs] fun v H'=>
   ∃cd' ca' cs' W',H'=[wrow bw bd ba bs,cd',ca',cs']∧Wc bd ba bs W' cd' ca' cs'∧Ev W W' 1 (nblocks W.δ.size width bound)∧W'.α.gs.Perm W.α.gs∧Keep W.live W W'∧
    ((∃f,v= .tuple #[flv f,.int .i64 0]∧W'.live.Perm (addF f W.live)∧f.width=width∧f.count=0∧FileOk W'.δ.disk W.δ.size [f.ext] f [])∨
     (∃e:Int,v= .tuple #[flv ⟨0,0,0,0⟩,.int .i64 e]∧e≠0∧W'.live.Perm W.live∧((e=6∧W.δ.fault≠-1)∨(e=5∧big W.σ.free<nblocks W.δ.size width bound)))):=by
 obtain⟨⟨hs1,hs2⟩,_⟩:=h.dev.num
 have hh:=holds_pos hs1 hwd hwd2
 have hWr:=Write_u bw bd ba bs W cd ca cs h width bound hwd hwd2 hbn (by omega)
 have hz:flv ⟨0,0,0,0⟩= .agg #[.int .i64 0,.int .i64 0,.int .i64 0,.int .i64 0]:=rfl
 refine Ct.introD Tryz.func89 rfl Tryz.ntmps89 (nle rfl) fun w0=> ?_;dsimp only[argSlots,Nat.reduceAdd]
 repeat(refine st ?_;intros)
 apply R.call
 ·exact rfl
 ·exact hWr
 ·exact(by repeat(first|exact Split.nil|(apply Split.cons;·(repeat(first|exact Take.here|apply Take.there|exact Take.nil)))))
 ·exact rfl
 ·exact nle rfl
 rintro _ _ (⟨hfit,bx,first,g,cd',ca',cs',W1,cx,cb,rfl,rfl,hW1,hE1,e1,e2,e3,e4,e5⟩|⟨hfull,rfl,cd',ca',cs',W1,rfl,hW1,hE1,e1,e2,e3⟩)
 ·repeat(refine st ?_;intros)
  rename_i b8 b10 b12
  refine G.loop (X:=EachN) (fun x=>x.i=0)
   (fun x=>[(31,.int .i64 (x.i:Int)),(30,.int .i64 0),(29,.slice none 0 0),(12,pv b12),(10,pv b10),(8,pv b8),(0,pv bw)])
   (fun x=>[[(b8,row [.nilFunc] 98)],[(b12,row [pv bx] 113)],[(b10,row [.int .i64 0,.int .i64 0,.int .i64 0,.int .i64 0] 26)],wrow bw bd ba bs,cd',ca',cs',cx,cb]) (fun x=>0) ⟨0⟩ rfl (body:= ?_)
  rintro⟨i⟩ hi
  dsimp only at hi⊢
  subst hi
  have hsz1:W1.δ.size=W.δ.size:=hE1.size
  have hac1:=hE1.acts.2
  have hCl:=Close_u bw bd ba bs W1 cd' ca' cs' hW1 bx first (nblocks W.δ.size width bound) width bound g [] cx cb e5 W.α.gs e2 W.live e4 (by omega)
  rw[hsz1] at hCl
  have hn0:nblocks W.δ.size width ([]:List T5).length-([]:List T5).length/holds W.δ.size width≤1:=Nat.le_trans (Nat.sub_le _ _) (Nat.le_trans (nblocks_le hh) (Nat.zero_le _))
  repeat(refine st ?_;intros)
  refine R.call (hct:=hCl) (h:= ?_)
  rintro _ _ ⟨cd3,ca3,cs3,W3,cx3,cb3,rfl,hW3,hE3,hK3,hg3,hx3,hc⟩
  try dsimp only[List.cons_append,List.nil_append]
  have hDp:=Dropped_uB bx cx3 hx3
  have hE23:=(hE1.trans hE3).weak (k':=1) (m':=nblocks W.δ.size width bound) (by omega) (Nat.le_refl _)
  have hK13:Keep W.live W W3:=fun x hx=>by rw[hK3 x hx,e1]
  rcases hc with⟨f,rfl,hlv,hfw,hfc,hfo⟩|⟨rfl,hf,hδ,hlv⟩
  ·have hflv:flv f= .agg #[.int .i64 (f.first:Int),.int .i64 (f.blocks:Int),.int .i64 (f.width:Int),.int .i64 (f.count:Int)]:=rfl
   rw[hflv]
   repeat(refine st ?_;intros)
   refine Go.SL.Lv.call (hc:=hDp.2) (h:= ?_)
   rintro _ _ ⟨rfl,rfl⟩
   try dsimp only[List.cons_append,List.nil_append]
   (refine Go.SL.Lv.nil (Hr:=[wrow bw bd ba bs,cd3,ca3,cs3]) Tryz.results89 (hR:= ?_);exact⟨cd3,ca3,cs3,W3,rfl,hW3,hE23,hg3,hK13,.inl ⟨f,rfl,by rw[hlv];exact .refl _,hfw,hfc,hfo⟩⟩)
  ·rw[hz]
   repeat(refine st ?_;intros)
   refine Go.SL.Lv.call (hc:=hDp.2) (h:= ?_)
   rintro _ _ ⟨rfl,rfl⟩
   try dsimp only[List.cons_append,List.nil_append]
   (refine Go.SL.Lv.nil (Hr:=[wrow bw bd ba bs,cd3,ca3,cs3]) Tryz.results89 (hR:= ?_);exact⟨cd3,ca3,cs3,W3,rfl,hW3,hE23,hg3,hK13,.inr ⟨6,rfl,by omega,hlv,.inl ⟨rfl,fun e=>by have:=hE1.fault e;omega⟩⟩⟩)
 ·repeat(refine st ?_;intros)
  (refine Go.SL.Lv.nil (Hr:=[wrow bw bd ba bs,cd',ca',cs']) Tryz.results89 (hR:= ?_);exact⟨cd',ca',cs',W1,rfl,hW1,hE1.weak (Nat.zero_le _) (Nat.zero_le _),e3,fun x _=>by rw[e1],.inr ⟨5,rfl,by omega,by rw[e2],.inr ⟨rfl,hfull⟩⟩⟩)
theorem JMakeN (p:Jp) (hp:p.Ok) (J:Jb) (C:Chunk) (hJ:JobC p J C) (width bound A T:Nat) (hwd:1≤width) (hwd2:width≤5) (hbn:bound≤100000000) (hT:nblocks p.size width bound≤T) (hroom:J.e=0→Fits p J T) (hA:1≤A) (hac:J.acts+A≤10000000000) (hGl:J.G.length≤1000):
  Ct Tryz.prog 45 [pv p.bj,.int .i64 (width:Int),.int .i64 (bound:Int),.nilFunc,.slice none 0 0] [C] fun v H'=>
   ∃f C' e',v=flv f∧H'=[C']∧JobC p ⟨e',J.er,(f,[])::J.G,J.acts+A,J.took+T⟩ C'∧(e'=0→J.e=0∧f.width=width∧f.count=0)∧f.count=0∧f.blocks=0:=by
 obtain⟨W,cd,ca,cs,held,ph,capj,ch,rfl,hW,hVj,hJW⟩:=hJ
 by_cases he:J.e=0
 ·have hus:=hJW.used hp hW
  have hT':nblocks W.δ.size width bound≤T:=by rw[hJW.size];exact hT
  have hG:=hJW.ok he
  have hEach:=Each_nil p.bw p.bd p.ba p.bs W cd ca cs hW width bound hwd hwd2 hbn (by omega) (by have:=hJW.acts;omega)
  have hE2:Ct Tryz.prog 89 [pv p.bw,.int .i64 (width:Int),.int .i64 (bound:Int),.nilFunc,.slice none 0 0] [[wrow p.bw p.bd p.ba p.bs,cd,ca,cs].flatten]
    fun v H'=>∃f e Hc',v= .tuple #[flv f,.int .i64 e]∧H'=[Hc']∧∃cd' ca' cs' W',Hc'=[wrow p.bw p.bd p.ba p.bs,cd',ca',cs'].flatten∧Wc p.bd p.ba p.bs W' cd' ca' cs'∧Stepped p W W' A T none [] f e∧
     (e=0→f.width=width∧f.count=0):=by
   refine Ct.convP hEach (by simp) ?_
   rintro v H' ⟨cd',ca',cs',W',rfl,hW',hE',hg',hK',hc⟩
   have hStep:∀f e,_→Stepped p W W' A T none [] f e:=fun f e hr=>⟨hg',hE'.room,hE'.size,hE'.n,by have:=hE'.acts.2;omega,by have:=hE'.big;omega,hE'.fault,hK',hr⟩
   rcases hc with⟨f,rfl,h3,h4,h5,h6⟩|⟨e,rfl,h1,h2,h3⟩
   ·exact⟨[[wrow p.bw p.bd p.ba p.bs,cd',ca',cs'].flatten],⟨f,0,_,rfl,rfl,cd',ca',cs',W',rfl,hW',hStep f 0 (.inl ⟨rfl,rfl,h3,h6⟩),fun _=>⟨h4,h5⟩⟩,by simp⟩
   ·refine⟨[[wrow p.bw p.bd p.ba p.bs,cd',ca',cs'].flatten],⟨⟨0,0,0,0⟩,e,_,rfl,rfl,cd',ca',cs',W',rfl,hW',hStep _ e (.inr ⟨h1,rfl,h2,?_⟩),fun h0=>absurd h0 h1⟩,by simp⟩
    rcases h3 with h3|⟨_,h3⟩
    ·exact .inl h3
    ·have:=hJW.big hW he (hroom he);omega
  have hM2:=Make_yes p.bj p.bw ph held.length capj _ ch hVj (by have:=hJW.len;omega) _ _ _ _ _ _ hE2
  refine Ct.convP hM2 (by rw[he];unfold jobC;refine permC fun z=> ?_;simp only[List.flatten_cons,List.flatten_nil,List.append_nil,List.count_append];omega) ?_
  rintro v H' ⟨f,e,Hc',rfl,⟨cd',ca',cs',W',rfl,hW',hS,hz⟩,hc⟩
  have hbl:f.count=0∧f.blocks=0:=by
   rcases hS.res with⟨r0,r1,r2,r3⟩|⟨r0,rfl,r2,r3⟩
   ·obtain⟨h2,h3⟩:=hz r0
    refine⟨h3,?_⟩
    have hp0:=holds_pos hW.dev.num.1.1 hwd hwd2
    have:=nblocks_le (n:=0) hp0
    rw[r3.blk,h2,h3]
    omega
   ·exact⟨rfl,rfl⟩
  have hlh:held.length<100000:=by
   have h2:=hG.1.length_eq
   omega
  have hJ':=hJW.step he hS hlh
  rw[or_none'] at hJ'
  rcases hc with⟨rfl,p',cap',ch',rfl,hV'⟩|⟨hne,rfl⟩
  ·refine⟨[jobC p 0 cd' ca' cs' p' (held.length+1) cap' ch'],⟨f,_,0,rfl,rfl,⟨W',cd',ca',cs',held++[(f,[])],p',cap',ch',by simp,hW',?_,by simpa using hJ'⟩,fun _=>⟨he,(hz rfl).1,(hz rfl).2⟩,hbl⟩,?_⟩
   ·simpa using hV'
   ·unfold jobC;refine permC fun z=> ?_;simp only[List.flatten_cons,List.flatten_nil,List.append_nil,List.count_append];omega
  ·refine⟨[jobC p e cd' ca' cs' ph held.length capj ch],⟨f,_,e,rfl,rfl,⟨W',cd',ca',cs',held,ph,capj,ch,rfl,hW',hVj,by simpa[hne] using hJ'⟩,fun h0=>absurd h0 hne,hbl⟩,?_⟩
   unfold jobC;refine permC fun z=> ?_;simp only[List.flatten_cons,List.flatten_nil,List.append_nil,List.count_append];omega
 ·refine Ct.convP (Ct.wide (Make_no p.bj p.bw J.e he ph held.length capj (.int .i64 (width:Int)) (.int .i64 (bound:Int)) .nilFunc (.slice none 0 0)) [wrow p.bw p.bd p.ba p.bs,cd,ca,cs,ch]) (by unfold jobC;refine permC fun z=> ?_;simp only[List.flatten_cons,List.flatten_nil,List.append_nil,List.flatten_append,List.count_append];omega) ?_
  rintro v H' ⟨H1,⟨rfl,rfl⟩,rfl⟩
  have hid:=hJW.idle he none ((⟨0,0,0,0⟩,[])::J.G) A T
  rw[or_none'] at hid
  refine⟨[jobC p J.e cd ca cs ph held.length capj ch],⟨⟨0,0,0,0⟩,_,J.e,rfl,rfl,⟨W,cd,ca,cs,held,ph,capj,ch,rfl,hW,hVj,hid⟩,fun h0=>absurd h0 he,rfl,rfl⟩,?_⟩
  unfold jobC;refine permC fun z=> ?_;simp only[List.flatten_cons,List.flatten_nil,List.append_nil,List.flatten_append,List.count_append];omega
def CtE (P:Program) (f:FuncId) (args:List Value) (H:Hp) (Pr:Chunk→Prop):Prop:=Ct P f args H fun v H'=>∃C',v=flv ⟨0,0,0,0⟩∧H'=[C']∧Pr C'
theorem SMakeN {p:Jp} {B m k a s0:Nat} {e:Int} {er:Option Nat} {Gf:List (Fl×List T5)} {C:Chunk} (hR:Rm p B m k a) (hJ:JobS p B k a s0 e er Gf C) (width bound c:Nat) (hwd:1≤width∧width≤5) (hc:bound≤c) (hcB:c≤B) (hl:Gf.length+1≤k) (hst:s0≤10000):
  Ct Tryz.prog 45 [pv p.bj,.int .i64 (width:Int),.int .i64 (bound:Int),.nilFunc,.slice none 0 0] [C] fun v H'=>
   ∃f C' e',v=flv f∧H'=[C']∧JobS p B k a (s0+1) e' er ((f,[])::Gf) C'∧FB 0 0 width 0 e' f∧(e'=0→e=0):=by
 have hB:=hR.bs
 have hkk:=hR.kk
 have hac:=hR.acts
 have hm:=hR.le
 have hlen:=hJ.len
 have hnb:=nbS (s:=p.size) (w:=width) (n:=bound) (c:=c) hR.ok.size.1 hwd.1 hwd.2 (.inl hc)
 have h2:s0*30000≤10000*30000:=Nat.mul_le_mul hst (Nat.le_refl _)
 refine(JMakeN p hR.ok _ C hJ.job width bound 1 c hwd.1 hwd.2 (by omega) hnb (fun _=>hR.fits hJ.len hJ.blk (by omega) _ _ _ _) (by omega) (by dsimp only;omega) (by dsimp only;omega)).mono ?_
 rintro v H' ⟨f,C',e',rfl,rfl,h3,h4,h5,h6⟩
 exact⟨f,C',e',rfl,rfl,hJ.push hl 1 h3 (by omega) (by omega) (by omega),⟨by omega,by omega,fun h=>⟨(h4 h).2.1,h5⟩⟩,fun h=>(h4 h).1⟩
theorem SMake_no {p:Jp} {B k a s0:Nat} {e:Int} {er:Option Nat} {Gf:List (Fl×List T5)} {C:Chunk} (hJ:JobS p B k a s0 e er Gf C) (he:e≠0) (ts:List T5) (hl:Gf.length+1≤k) (x1 x2 x3 x4:Value):
  CtE Tryz.prog 45 [pv p.bj,x1,x2,x3,x4] [C] (JobS p B k a (s0+1) e er ((⟨0,0,0,0⟩,ts)::Gf)):=by
 obtain⟨⟨W,cd,ca,cs,held,ph,cap,ch,rfl,hW,hV,hJW⟩,hln,hb⟩:=hJ
 have e1:(s0+1)*30000=s0*30000+1*30000:=Nat.add_mul _ _ _
 refine Ct.convP (Ct.wide (Make_no p.bj p.bw e he ph held.length cap x1 x2 x3 x4) [wrow p.bw p.bd p.ba p.bs,cd,ca,cs,ch]) (by unfold jobC;refine permC fun z=> ?_;simp only[List.flatten_cons,List.flatten_nil,List.append_nil,List.flatten_append,List.count_append];omega) ?_
 rintro v H' ⟨H1,⟨rfl,rfl⟩,rfl⟩
 have hid:=hJW.idle he none ((⟨0,0,0,0⟩,ts)::Gf) (1*30000) (1*30000)
 rw[or_none'] at hid
 refine⟨[jobC p e cd ca cs ph held.length cap ch],⟨_,rfl,rfl,⟨⟨W,cd,ca,cs,held,ph,cap,ch,rfl,hW,hV,?_⟩,by simpa using hl,fun x hx=> ?_⟩⟩,?_⟩
 ·rw[e1,←Nat.add_assoc];exact hid
 ·rcases List.mem_cons.1 hx with rfl|hx
  ·exact Nat.zero_le _
  ·exact hb x hx
 ·unfold jobC;refine permC fun z=> ?_;simp only[List.flatten_cons,List.flatten_nil,List.append_nil,List.flatten_append,List.count_append];omega
end Go.Proofs.YtpckicjfigmjkaaGreat
namespace Go.Proofs.YtpckicjfigmjkaaGreat
open Go.SL Go.Tup Go.Srt
theorem cmp3lt (x y:Int):(if cmp3 x y≠0 then cmp3 x y else 0)<0↔x<y:=by unfold cmp3;split<;>(repeat' split)<;>omega
theorem ltO_o1 (a b:T5):ltO o1 a b=true↔a.c0<b.c0:=by
 have hf:formed o1=true:=by decide
 unfold ltO cmpT
 rw[decide_eq_true_iff,if_pos hf]
 exact cmp3lt a.c0 b.c0
theorem cmp33lt (x y z w:Int):(if cmp3 x y≠0 then cmp3 x y else if cmp3 z w≠0 then cmp3 z w else 0)<0↔x<y∨x=y∧z<w:=by unfold cmp3;(repeat' split)<;>omega
theorem ltO_o12 (a b:T5):ltO o12 a b=true↔a.c0<b.c0∨a.c0=b.c0∧a.c1<b.c1:=by
 have hf:formed o12=true:=by decide
 unfold ltO cmpT
 rw[decide_eq_true_iff,if_pos hf]
 exact cmp33lt a.c0 b.c0 a.c1 b.c1
theorem srt_o12 (once:Bool) (l:List T5):(srt (ltO o12) once l).Pairwise fun a c=>a.c0<c.c0∨a.c0=c.c0∧(if once then a.c1<c.c1 else a.c1≤c.c1):=by
 refine(sd_srt (ltO_swo o12) once l).imp fun {a b} h=> ?_
 cases once with
 |true=>
  simp only[if_true] at h⊢
  exact(ltO_o12 a b).1 h
 |false=>
  simp only[Bool.false_eq_true,if_false] at h⊢
  have h1:¬ltO o12 b a=true:=by rw[h];decide
  rw[ltO_o12] at h1
  omega
theorem srt_o1 (l:List T5):(srt (ltO o1) false l).Pairwise fun a c=>a.c0≤c.c0:=by
 refine(sd_srt (ltO_swo o1) false l).imp fun {a b} h=> ?_
 have h1:¬ltO o1 b a=true:=by
  intro h2
  simp only[Bool.false_eq_true,if_false] at h
  rw[h] at h2;cases h2
 rw[ltO_o1] at h1
 omega
theorem srt_has {o:T5} {once:Bool} {l:List T5} {z:T5} (h:z∈l):∃w∈srt (ltO o) once l,eqv (ltO o) z w=true:=by
 have h1:=sp_srt (ltO_swo o) once l z
 have hz:eqv (ltO o) z z=true:=by
  rw[eqv_iff]
  have:ltO o z z=false:=by
   cases h2:ltO o z z with
   |false=>rfl
   |true=>have:=(ltO_swo o).asym z z h2;rw[h2] at this;cases this
  exact⟨this,this⟩
 have h2:z∈l.filter (eqv (ltO o) z):=List.mem_filter.2 ⟨h,hz⟩
 cases h3:(srt (ltO o) once l).filter (eqv (ltO o) z) with
 |nil=>
  exfalso
  rw[h3] at h1
  cases h4:l.filter (eqv (ltO o) z) with
  |nil=>rw[h4] at h2;cases h2
  |cons a b=>
   rw[h4] at h1
   cases once<;>simp[keepC] at h1
 |cons a b=>
  have h4:a∈(srt (ltO o) once l).filter (eqv (ltO o) z):=by rw[h3];exact List.mem_cons_self
  obtain⟨h5,h6⟩:=List.mem_filter.1 h4
  exact⟨a,h5,h6⟩
theorem eqv_o1 {a b:T5}:eqv (ltO o1) a b=true↔a.c0=b.c0:=by
 have h1:ltO o1 a b=false↔¬a.c0<b.c0:=by rw[←ltO_o1];simp
 have h2:ltO o1 b a=false↔¬b.c0<a.c0:=by rw[←ltO_o1];simp
 rw[eqv_iff,h1,h2];omega
theorem eqv_o1d (a:T5):eqv (ltO o1) a=fun b=>decide (a.c0=b.c0):=by
 funext b
 cases h:eqv (ltO o1) a b with
 |true=>exact(decide_eq_true (eqv_o1.1 h)).symm
 |false=>
  refine(decide_eq_false fun h2=> ?_).symm
  rw[eqv_o1.2 h2] at h;cases h
theorem srt_o1t (l:List T5):(srt (ltO o1) true l).Pairwise fun a c=>a.c0<c.c0:=
 (sd_srt (ltO_swo o1) true l).imp fun {a b} h=>(ltO_o1 a b).1 (by simpa using h)
theorem once_mem {l:List T5} {z:T5}:z∈srt (ltO o1) true l↔(l.filter fun b=>decide (z.c0=b.c0)).head? =some z:=by
 have hp:=sp_srt (ltO_swo o1) true l z
 have hs:=srt_o1t l
 rw[eqv_o1d] at hp
 simp only[keepC,if_true] at hp
 have hh:∀m:List T5,m.head? =some z↔m.take 1=[z]:=by
  intro m;cases m<;>simp
 rw[hh,hp]
 constructor
 ·intro hz
  have hm:z∈(srt (ltO o1) true l).filter fun b=>decide (z.c0=b.c0):=List.mem_filter.2 ⟨hz,by simp⟩
  have hpw:((srt (ltO o1) true l).filter fun b=>decide (z.c0=b.c0)).Pairwise fun a c=>a.c0<c.c0:=hs.sublist List.filter_sublist
  have hal:∀y∈(srt (ltO o1) true l).filter fun b=>decide (z.c0=b.c0),z.c0=y.c0:=fun y hy=>by simpa using(List.mem_filter.1 hy).2
  generalize (srt (ltO o1) true l).filter (fun b=>decide (z.c0=b.c0))=m at*
  match m,hm,hpw,hal with
  |[a],hm,_,_=>simp only[List.mem_singleton] at hm;subst hm;rfl
  |a::b::m,_,hpw,hal=>
   have h1:=List.rel_of_pairwise_cons hpw (List.mem_cons_self (a:=b) (l:=m))
   have h2:=hal a (by simp)
   have h3:=hal b (by simp)
   omega
 ·intro h
  have h1:z∈((srt (ltO o1) true l).filter fun b=>decide (z.c0=b.c0)).take 1:=by rw[h];exact List.mem_singleton.2 rfl
  exact(List.mem_filter.1 (List.mem_of_mem_take h1)).1
theorem okT2eq {a b:T5} (ha:okT 2 a) (hb:okT 2 b) (h0:a.c0=b.c0) (h1:a.c1=b.c1):a=b:=by
 have e2:a.c2=b.c2:=by have x:=ha.2 2 (by omega);have y:=hb.2 2 (by omega);exact x.trans y.symm
 have e3:a.c3=b.c3:=by have x:=ha.2 3 (by omega);have y:=hb.2 3 (by omega);exact x.trans y.symm
 have e4:a.c4=b.c4:=by have x:=ha.2 4 (by omega);have y:=hb.2 4 (by omega);exact x.trans y.symm
 cases a;cases b
 simp only[T5.mk.injEq]
 exact⟨h0,h1,e2,e3,e4⟩
theorem least_mem {m:List T5} (hm:∀t∈m,okT 2 t) {z:T5}:z∈srt (ltO o1) true (srt (ltO o12) false m)↔z∈m∧∀y∈m,y.c0=z.c0→z.c1≤y.c1:=by
 rw[once_mem]
 have hs:((srt (ltO o12) false m).filter fun b=>decide (z.c0=b.c0)).Pairwise fun a c=>a.c0<c.c0∨a.c0=c.c0∧a.c1≤c.c1:=((srt_o12 false m).imp fun h=>by simpa using h).sublist List.filter_sublist
 have hmem:∀y,y∈(srt (ltO o12) false m).filter (fun b=>decide (z.c0=b.c0))↔y∈m∧y.c0=z.c0:=fun y=>by
  rw[List.mem_filter,(perm_srt m).mem_iff];simp[eq_comm]
 generalize (srt (ltO o12) false m).filter (fun b=>decide (z.c0=b.c0))=s at*
 constructor
 ·intro h
  match s,h with
  |a::s,h=>
   simp only[List.head?_cons,Option.some.injEq] at h
   subst h
   refine⟨((hmem a).1 List.mem_cons_self).1,fun y hy hq=> ?_⟩
   rcases List.mem_cons.1 ((hmem y).2 ⟨hy,hq⟩) with rfl|h2
   ·omega
   ·have:=List.rel_of_pairwise_cons hs h2;omega
 ·rintro⟨hz,hle⟩
  have h1:=(hmem z).2 ⟨hz,rfl⟩
  match s,h1 with
  |a::s,h1=>
   simp only[List.head?_cons,Option.some.injEq]
   obtain⟨ha,hq⟩:=(hmem a).1 List.mem_cons_self
   rcases List.mem_cons.1 h1 with rfl|h2
   ·rfl
   ·have h3:=List.rel_of_pairwise_cons hs h2
    have h4:=hle a ha hq
    exact okT2eq (hm a ha) (hm z hz) hq (by omega)
theorem len_ins {lt:T5→T5→Bool} (h:Swo lt) {x:T5}:∀{s:List T5},Sd lt true s→((∃y∈s,eqv lt x y=true)→(insO lt true x s).length=s.length)∧((∀y∈s,eqv lt x y=false)→(insO lt true x s).length=s.length+1)
 |[],_=>⟨fun ⟨_,h,_⟩=>(nomatch h),fun _=>rfl⟩
 |y::s,hs=>by
  obtain⟨h1,h2⟩:=List.pairwise_cons.1 hs
  obtain⟨i1,i2⟩:=len_ins h (x:=x) (s:=s) h2
  unfold insO
  cases hyx:lt y x with
  |true=>
   have hny:eqv lt x y=false:=by simp[eqv,hyx]
   simp only[if_true,List.length_cons]
   refine⟨?_,fun ha=>by rw[i2 fun z hz=>ha z (List.mem_cons_of_mem _ hz)]⟩
   rintro⟨z,hz,he⟩
   rcases List.mem_cons.1 hz with rfl|hz
   ·rw[hny] at he;cases he
   ·rw[i1 ⟨z,hz,he⟩]
  |false=>
   simp only[Bool.false_eq_true,if_false]
   cases hxy:lt x y with
   |true=>
    simp only[Bool.not_true,Bool.and_false,Bool.false_eq_true,if_false,List.length_cons,and_true]
    refine⟨?_,fun _=>trivial⟩
    rintro⟨z,hz,he⟩
    exfalso
    rcases List.mem_cons.1 hz with rfl|hz
    ·simp[eqv,hxy] at he
    ·have h3:=h1 z hz
     simp only[if_true] at h3
     obtain⟨a,b⟩:=eqv_iff.1 he
     have:=h.ntrans x z y a (h.asym _ _ h3)
     rw[hxy] at this;cases this
   |false=>
    simp only[Bool.not_false,Bool.and_true,if_true,List.length_cons]
    refine⟨fun _=>trivial,fun ha=> ?_⟩
    have:=ha y List.mem_cons_self
    simp[eqv,hxy,hyx] at this
theorem once_len:∀(l:List T5),(srt (ltO o1) true l).length=l.length↔l.Pairwise fun a c=>a.c0≠c.c0
 |[]=>by simp[srt]
 |x::l=>by
  have ih:=once_len l
  have hle:=len_srt (lt:=ltO o1) (once:=true) l
  obtain⟨h1,h2⟩:=len_ins (ltO_swo o1) (x:=x) (sd_srt (ltO_swo o1) true l)
  rw[List.pairwise_cons]
  simp only[srt,List.length_cons]
  by_cases hx:∀y∈srt (ltO o1) true l,eqv (ltO o1) x y=false
  ·rw[h2 hx]
   have h3:∀y∈l,x.c0≠y.c0:=by
    intro y hy hq
    obtain⟨w,hw,he⟩:=srt_has (o:=o1) (once:=true) hy
    have h4:=hx w hw
    have h5:=eqv_o1.1 he
    rw[eqv_o1.2 (hq.trans h5)] at h4;cases h4
   constructor
   ·intro h;exact⟨h3,ih.1 (by omega)⟩
   ·rintro⟨_,h⟩;rw[ih.2 h]
  ·have hx2:∃y∈srt (ltO o1) true l,eqv (ltO o1) x y=true:=by
    simp only[Classical.not_forall,Bool.not_eq_false] at hx
    obtain⟨y,hy,he⟩:=hx
    exact⟨y,hy,he⟩
   rw[h1 hx2]
   obtain⟨y,hy,he⟩:=hx2
   constructor
   ·intro h;omega
   ·rintro⟨h3,_⟩
    exact absurd (eqv_o1.1 he) (h3 y (srt_sub hy))
end Go.Proofs.YtpckicjfigmjkaaGreat
namespace Go.Proofs.YtpckicjfigmjkaaGreat
def itA (p:Int→Int):Nat→Int→Int
 |0,x=>x
 |k+1,x=>itA p k (p x)
theorem itA_add (p:Int→Int):∀(a b:Nat) (x:Int),itA p (a+b) x=itA p b (itA p a x)
 |0,b,x=>by rw[Nat.zero_add];rfl
 |a+1,b,x=>by
  rw[Nat.add_right_comm]
  exact itA_add p a b (p x)
theorem itA_succ (p:Int→Int) (m:Nat) (x:Int):itA p (m+1) x=p (itA p m x):=by
 rw[itA_add];rfl
end Go.Proofs.YtpckicjfigmjkaaGreat
namespace Go.Proofs.YtpckicjfigmjkaaGreat
open Go.SL Go.Tup Go.Srt
abbrev oB:T5:=⟨2,0,0,0,0⟩
abbrev oAC:T5:=⟨1,3,0,0,0⟩
theorem ltO_oB (a b:T5):ltO oB a b=true↔a.c1<b.c1:=by
 have hf:formed oB=true:=by decide
 unfold ltO cmpT
 rw[decide_eq_true_iff,if_pos hf]
 exact cmp3lt a.c1 b.c1
theorem ltO_oAC (a b:T5):ltO oAC a b=true↔a.c0<b.c0∨a.c0=b.c0∧a.c2<b.c2:=by
 have hf:formed oAC=true:=by decide
 unfold ltO cmpT
 rw[decide_eq_true_iff,if_pos hf]
 exact cmp33lt a.c0 b.c0 a.c2 b.c2
theorem srt_oB (l:List T5):(srt (ltO oB) false l).Pairwise fun a c=>a.c1≤c.c1:=by
 refine(sd_srt (ltO_swo oB) false l).imp fun {a b} h=> ?_
 have h1:¬ltO oB b a=true:=by
  intro h2
  simp only[Bool.false_eq_true,if_false] at h
  rw[h] at h2;cases h2
 rw[ltO_oB] at h1
 omega
theorem srt_oAC (l:List T5):(srt (ltO oAC) false l).Pairwise fun a c=>a.c0<c.c0∨a.c0=c.c0∧a.c2≤c.c2:=by
 refine(sd_srt (ltO_swo oAC) false l).imp fun {a b} h=> ?_
 have h1:¬ltO oAC b a=true:=by
  intro h2
  simp only[Bool.false_eq_true,if_false] at h
  rw[h] at h2;cases h2
 rw[ltO_oAC] at h1
 omega
theorem srtStrict {m:List T5} (h:m.Pairwise fun a c=>a.c0≠c.c0):(srt (ltO o1) false m).Pairwise fun a c=>a.c0<c.c0:=by
 have h1:((srt (ltO o1) false m).map fun t:T5=>t.c0).Nodup:=((perm_srt m).map fun t:T5=>t.c0).nodup_iff.2 (List.pairwise_map.2 h)
 have h2:(srt (ltO o1) false m).Pairwise fun x y=>x.c0≠y.c0:=List.pairwise_map.1 h1
 exact((srt_o1 m).and h2).imp fun {x y} ⟨h3,h4⟩=>by omega
theorem srtIs {m E:List T5} (hp:m.Perm E) (hE:E.Pairwise fun a c=>a.c0<c.c0):srt (ltO o1) false m=E:=by
 have h1:(srt (ltO o1) false m).Perm E:=(perm_srt m).trans hp
 refine h1.eq_of_pairwise (le:=fun x y=>x.c0<y.c0) (fun x y _ _ h1 h2=>absurd h1 (by omega)) (srtStrict ?_) hE
 exact(hp.pairwise_iff (R:=fun a c:T5=>a.c0≠c.c0) (fun hh=>fun e=>hh e.symm)).2 (hE.imp fun {x y} hh=>by omega)
def revT (t:T5):T5:=⟨t.c1,t.c0,t.c2,0,0⟩
def bothL (E:List T5):List T5:=E.flatMap fun t=>[t,revT t]
def fstL:Int→List T5→List T5
 |_,[]=>[]
 |k,t::l=>if t.c0=k then fstL k l else t::fstL t.c0 l
def choL (E:List T5):List T5:=fstL (-1) (srt (ltO oAC) false (bothL E))
def hngO (t:T5):T5:=if t.c2=t.c3∧t.c0<t.c1 then⟨t.c0,t.c0,0,0,0⟩ else⟨t.c0,t.c1,0,0,0⟩
def othL (E:List T5):List T5:=(srt (ltO oB) false (choL E)).map (lookF (choL E) 1 2 3)
def hngL (E:List T5):List T5:=srt (ltO o1) false ((othL E).map hngO)
def farL (h:List T5):List T5:=(srt (ltO oB) false h).map (lookF h 1 1 2)
def nxtL (h:List T5):List T5:=srt (ltO o1) false ((farL h).map fun t=>⟨t.c0,t.c2,0,0,0⟩)
def trnB (h:List T5):Bool:=(farL h).any fun t=>decide (t.c1≠t.c2)
def jmpL (h:List T5):Nat→List T5
 |0=>h
 |j+1=>nxtL (jmpL h j)
theorem bothL_mem {E:List T5} {z:T5}:z∈bothL E↔∃t∈E,z=t∨z=revT t:=by
 unfold bothL
 rw[List.mem_flatMap]
 simp
theorem bothL_len (E:List T5):(bothL E).length=2*E.length:=by
 unfold bothL
 induction E with
 |nil=>rfl
 |cons t E ih=>rw[List.flatMap_cons,List.length_append,ih];simp;omega
theorem fstL_sub:∀{k:Int} {l:List T5} {z:T5},z∈fstL k l→z∈l
 |_,[],_,h=>by simp[fstL] at h
 |k,t::l,z,h=>by
  unfold fstL at h
  split at h
  ·exact List.mem_cons_of_mem _ (fstL_sub h)
  ·rcases List.mem_cons.1 h with rfl|h
   ·exact List.mem_cons_self
   ·exact List.mem_cons_of_mem _ (fstL_sub h)
theorem fstL_len:∀(k:Int) (l:List T5),(fstL k l).length≤l.length
 |_,[]=>Nat.le_refl _
 |k,t::l=>by
  unfold fstL
  split
  ·have:=fstL_len k l;simp only[List.length_cons];omega
  ·have:=fstL_len t.c0 l;simp only[List.length_cons];omega
theorem fstL_is:∀{k:Int} {l:List T5},(l.Pairwise fun a c=>a.c0<c.c0∨a.c0=c.c0∧a.c2≤c.c2)→(∀t∈l,k≤t.c0)→
  ((fstL k l).Pairwise fun a c=>a.c0<c.c0)∧(∀z∈fstL k l,k<z.c0∧∀y∈l,y.c0=z.c0→z.c2≤y.c2)∧∀y∈l,y.c0≠k→∃z∈fstL k l,z.c0=y.c0
 |k,[],_,_=>⟨List.Pairwise.nil,by simp[fstL],by simp⟩
 |k,t::l,hs,hk=>by
  obtain⟨h1,h2⟩:=List.pairwise_cons.1 hs
  have ht:=hk t List.mem_cons_self
  unfold fstL
  by_cases he:t.c0=k
  ·rw[if_pos he]
   obtain⟨a,b,c⟩:=fstL_is (k:=k) h2 fun y hy=>hk y (List.mem_cons_of_mem _ hy)
   refine⟨a,fun z hz=>⟨(b z hz).1,fun y hy hq=> ?_⟩,fun y hy hn=> ?_⟩
   ·rcases List.mem_cons.1 hy with rfl|hy
    ·have:=(b z hz).1;omega
    ·exact(b z hz).2 y hy hq
   ·rcases List.mem_cons.1 hy with rfl|hy
    ·exact absurd he hn
    ·exact c y hy hn
  ·rw[if_neg he]
   obtain⟨a,b,c⟩:=fstL_is (k:=t.c0) h2 fun y hy=>by have:=h1 y hy;omega
   refine⟨List.pairwise_cons.2 ⟨fun z hz=>(b z hz).1,a⟩,fun z hz=> ?_,fun y hy hn=> ?_⟩
   ·rcases List.mem_cons.1 hz with rfl|hz
    ·refine⟨by omega,fun y hy hq=> ?_⟩
     rcases List.mem_cons.1 hy with rfl|hy
     ·omega
     ·have:=h1 y hy;omega
    ·have h3:=b z hz
     refine⟨by omega,fun y hy hq=> ?_⟩
     rcases List.mem_cons.1 hy with rfl|hy
     ·omega
     ·exact h3.2 y hy hq
   ·rcases List.mem_cons.1 hy with rfl|hy
    ·exact⟨y,List.mem_cons_self,rfl⟩
    ·by_cases hq:y.c0=t.c0
     ·exact⟨t,List.mem_cons_self,hq.symm⟩
     ·obtain⟨z,hz,he⟩:=c y hy hq
      exact⟨z,List.mem_cons_of_mem _ hz,he⟩
structure EOk (E:List T5):Prop where
 c0:∀t∈E,0≤t.c0∧0≤t.c1∧t.c0≠t.c1
 ok:∀t∈E,okT 3 t
 nd:E.Pairwise fun a c=>a.c2≠c.c2
theorem rev_rev {t:T5} (h:okT 3 t):revT (revT t)=t:=by
 have h3:=h.2 3 (by omega)
 have h4:=h.2 4 (by omega)
 obtain⟨a,b,c,d,e⟩:=t
 have e3:d=0:=h3
 have e4:e=0:=h4
 subst e3 e4;rfl
theorem choL_sub {E:List T5} {z:T5} (h:z∈choL E):∃t∈E,z=t∨z=revT t:=bothL_mem.1 ((perm_srt _).mem_iff.1 (fstL_sub h))
theorem EOk.cho {E:List T5} (h:EOk E):((choL E).Pairwise fun a c=>a.c0<c.c0)∧(∀z∈choL E,∀y∈bothL E,y.c0=z.c0→z.c2≤y.c2)∧∀y∈bothL E,∃z∈choL E,z.c0=y.c0:=by
 have hpos:∀y∈bothL E,0≤y.c0:=fun y hy=>by
  obtain⟨t,ht,rfl|rfl⟩:=bothL_mem.1 hy
  ·exact(h.c0 _ ht).1
  ·exact(h.c0 _ ht).2.1
 obtain⟨a,b,c⟩:=fstL_is (k:= -1) (srt_oAC (bothL E)) (fun t ht=>by have:=hpos t ((perm_srt _).mem_iff.1 ht);omega)
 refine⟨a,fun z hz y hy=>(b z hz).2 y ((perm_srt _).mem_iff.2 hy),fun y hy=>c y ((perm_srt _).mem_iff.2 hy) ?_⟩
 have:=hpos y hy;omega
def chT' (E:List T5) (u:Int):Option T5:=(choL E).find? fun t=>decide (t.c0=u)
def pC (E:List T5) (u:Int):Int:=match chT' E u with
 |some t=>if lkV (choL E) t.c1 2=t.c2∧t.c0<t.c1 then t.c0 else t.c1
 |none=>u
theorem chT_some {E:List T5} (h:EOk E) {t:T5} (ht:t∈choL E):chT' E t.c0=some t:=by
 unfold chT'
 cases hf:(choL E).find? fun u=>decide (u.c0=t.c0) with
 |none=>rw[List.find?_eq_none] at hf;exact absurd (decide_eq_true rfl) (hf t ht)
 |some u=>
  have h1:u.c0=t.c0:=by simpa using List.find?_some hf
  have h2:=List.mem_of_find?_eq_some hf
  obtain⟨i,hi,rfl⟩:=List.mem_iff_getElem.1 ht
  obtain⟨j,hj,rfl⟩:=List.mem_iff_getElem.1 h2
  rcases Nat.lt_trichotomy i j with h3|h3|h3
  ·have:=List.pairwise_iff_getElem.1 h.cho.1 i j hi hj h3;omega
  ·subst h3;rfl
  ·have:=List.pairwise_iff_getElem.1 h.cho.1 j i hj hi h3;omega
theorem pC_of {E:List T5} (h:EOk E) {t:T5} (ht:t∈choL E):pC E t.c0=if lkV (choL E) t.c1 2=t.c2∧t.c0<t.c1 then t.c0 else t.c1:=by
 unfold pC;rw[chT_some h ht]
theorem EOk.other {E:List T5} (h:EOk E) {t:T5} (ht:t∈choL E):∃u∈choL E,u.c0=t.c1∧u.c2≤t.c2∧(u.c2=t.c2→u=revT t):=by
 obtain⟨s,hs,hts⟩:=choL_sub ht
 have hrv:revT t∈bothL E∧revT (revT t)=t∧t∈bothL E:=by
  rcases hts with rfl|rfl
  ·exact⟨bothL_mem.2 ⟨_,hs,.inr rfl⟩,rev_rev (h.ok _ hs),bothL_mem.2 ⟨_,hs,.inl rfl⟩⟩
  ·rw[rev_rev (h.ok _ hs)]
   exact⟨bothL_mem.2 ⟨_,hs,.inl rfl⟩,rfl,bothL_mem.2 ⟨_,hs,.inr rfl⟩⟩
 obtain⟨u,hu,he⟩:=h.cho.2.2 _ hrv.1
 have he:u.c0=t.c1:=he
 have hle:u.c2≤(revT t).c2:=h.cho.2.1 u hu _ hrv.1 he.symm
 refine⟨u,hu,he,hle,fun h2=> ?_⟩
 obtain⟨v,hv,huv⟩:=choL_sub hu
 have e1:v.c2=u.c2:=by rcases huv with rfl|rfl<;>rfl
 have e2:s.c2=t.c2:=by rcases hts with rfl|rfl<;>rfl
 have hvs:v=s:=by
  obtain⟨i,hi,rfl⟩:=List.mem_iff_getElem.1 hv
  obtain⟨j,hj,rfl⟩:=List.mem_iff_getElem.1 hs
  rcases Nat.lt_trichotomy i j with h3|h3|h3
  ·have:=List.pairwise_iff_getElem.1 h.nd i j hi hj h3;omega
  ·subst h3;rfl
  ·have:=List.pairwise_iff_getElem.1 h.nd j i hj hi h3;omega
 subst hvs
 have hne:=(h.c0 _ hv).2.2
 rcases hts with rfl|rfl<;>rcases huv with rfl|rfl
 ·exact absurd he hne
 ·rfl
 ·exact(rev_rev (h.ok _ hs)).symm
 ·have he:v.c1=v.c0:=he
  exact absurd he.symm hne
theorem pC_dom {E:List T5} (h:EOk E) {u:Int} (hu:∃t∈choL E,t.c0=u):∃t∈choL E,t.c0=pC E u:=by
 obtain⟨t,ht,rfl⟩:=hu
 rw[pC_of h ht]
 split
 ·exact⟨t,ht,rfl⟩
 ·obtain⟨v,hv,he,_⟩:=h.other ht
  exact⟨v,hv,he⟩
theorem itA_dom {E:List T5} (h:EOk E):∀(m:Nat) {u:Int},(∃t∈choL E,t.c0=u)→∃t∈choL E,t.c0=itA (pC E) m u
 |0,_,hu=>hu
 |m+1,_,hu=>itA_dom h m (pC_dom h hu)
theorem hngL_is {E:List T5} (h:EOk E):hngL E=(choL E).map fun t=>⟨t.c0,pC E t.c0,0,0,0⟩:=by
 unfold hngL othL
 refine srtIs ?_ (List.pairwise_map.2 (h.cho.1.imp fun hh=>hh))
 rw[List.map_map]
 refine((perm_srt _).map _).trans (List.Perm.of_eq (List.map_congr_left fun t ht=> ?_))
 rw[pC_of h ht]
 show hngO (setc t 3 (lkV (choL E) t.c1 2))=_
 unfold hngO setc
 by_cases h1:lkV (choL E) t.c1 2=t.c2∧t.c0<t.c1
 ·rw[if_pos h1,if_pos ⟨h1.1.symm,h1.2⟩];rfl
 ·rw[if_neg h1,if_neg fun h2=>h1 ⟨h2.1.symm,h2.2⟩];rfl
def ptL (E:List T5) (q:Int→Int):List T5:=(choL E).map fun t=>⟨t.c0,q t.c0,0,0,0⟩
theorem ptL_strict {E:List T5} (h:EOk E) (q:Int→Int):(ptL E q).Pairwise fun a c=>a.c0<c.c0:=List.pairwise_map.2 (h.cho.1.imp fun hh=>hh)
theorem ptL_lk {E:List T5} (h:EOk E) (q:Int→Int) {u:Int} (hu:∃t∈choL E,t.c0=u):lkV (ptL E q) u 1=q u:=by
 obtain⟨t,ht,rfl⟩:=hu
 have hm:(⟨t.c0,q t.c0,0,0,0⟩:T5)∈ptL E q:=List.mem_map.2 ⟨t,ht,rfl⟩
 exact lkV_some (v:=1) (ptL_strict h q) hm rfl
theorem ptL_no {E:List T5} (q:Int→Int) {u:Int} (hu:¬∃t∈choL E,t.c0=u):lkV (ptL E q) u 1= -1:=by
 refine lkV_none fun z hz he=> ?_
 obtain⟨t,ht,rfl⟩:=List.mem_map.1 hz
 exact hu ⟨t,ht,he⟩
theorem farL_is {E:List T5} (h:EOk E) {q:Int→Int} (hq:∀u,(∃t∈choL E,t.c0=u)→∃t∈choL E,t.c0=q u):(farL (ptL E q)).Perm ((choL E).map fun t=>⟨t.c0,q t.c0,q (q t.c0),0,0⟩):=by
 unfold farL
 refine((perm_srt _).map _).trans ?_
 unfold ptL
 rw[List.map_map]
 refine List.Perm.of_eq (List.map_congr_left fun t ht=> ?_)
 have:=ptL_lk h q (hq t.c0 ⟨t,ht,rfl⟩)
 unfold ptL at this
 show setc _ 2 (lkV _ (q t.c0) 1)=_
 rw[this];rfl
theorem nxtL_is {E:List T5} (h:EOk E) {q:Int→Int} (hq:∀u,(∃t∈choL E,t.c0=u)→∃t∈choL E,t.c0=q u):nxtL (ptL E q)=ptL E fun u=>q (q u):=by
 unfold nxtL
 refine srtIs ?_ (ptL_strict h _)
 refine((farL_is h hq).map _).trans ?_
 rw[List.map_map]
 exact .refl _
theorem trnB_is {E:List T5} (h:EOk E) {q:Int→Int} (hq:∀u,(∃t∈choL E,t.c0=u)→∃t∈choL E,t.c0=q u):trnB (ptL E q)=false↔∀t∈choL E,q (q t.c0)=q t.c0:=by
 unfold trnB
 rw[List.any_eq_false]
 have hm:∀z,z∈farL (ptL E q)↔∃t∈choL E,z=⟨t.c0,q t.c0,q (q t.c0),0,0⟩:=fun z=>by
  rw[(farL_is h hq).mem_iff,List.mem_map]
  exact⟨fun ⟨t,a,b⟩=>⟨t,a,b.symm⟩,fun ⟨t,a,b⟩=>⟨t,a,b.symm⟩⟩
 constructor
 ·intro h1 t ht
  have h2:=h1 _ ((hm _).2 ⟨t,ht,rfl⟩)
  refine Classical.byContradiction fun hc=>h2 (decide_eq_true fun e=>hc e.symm)
 ·intro h1 z hz hd
  obtain⟨t,ht,rfl⟩:=(hm z).1 hz
  exact of_decide_eq_true hd (h1 t ht).symm
theorem jmpL_is {E:List T5} (h:EOk E):∀j,jmpL (hngL E) j=ptL E (itA (pC E) (2^j))
 |0=>by
  show hngL E=_
  rw[hngL_is h];rfl
 |j+1=>by
  show nxtL (jmpL (hngL E) j)=_
  rw[jmpL_is h j,nxtL_is h fun u hu=>itA_dom h _ hu]
  unfold ptL
  refine List.map_congr_left fun t _=> ?_
  rw[show 2^(j+1)=2^j+2^j by rw[Nat.pow_succ];omega,itA_add]
theorem pC_falls {E:List T5} (h:EOk E) {φ:Int→Nat} (hφ:∀t∈choL E,∀u∈choL E,(u.c2<t.c2→φ u.c0<φ t.c0)∧(u=revT t→u.c0<t.c0→φ u.c0<φ t.c0)) {u:Int} (hu:∃t∈choL E,t.c0=u) (hp:pC E u≠u):φ (pC E u)<φ u:=by
 obtain⟨t,ht,rfl⟩:=hu
 rw[pC_of h ht] at hp⊢
 split
 ·rename_i hc;rw[if_pos hc] at hp;exact absurd rfl hp
 ·rename_i hc
  obtain⟨v,hv,he,hle,hrev⟩:=h.other ht
  rw[←he]
  by_cases h2:v.c2=t.c2
  ·refine(hφ t ht v hv).2 (hrev h2) ?_
   have h3:lkV (choL E) t.c1 2=t.c2:=by rw[lkV_some (v:=2) h.cho.1 hv he];exact h2
   have h4:¬t.c0<t.c1:=fun h5=>hc ⟨h3,h5⟩
   have h5:t.c0≠t.c1:=by
    obtain⟨s,hs,rfl|rfl⟩:=choL_sub ht
    ·exact(h.c0 _ hs).2.2
    ·exact fun e=>(h.c0 _ hs).2.2 e.symm
   omega
  ·exact(hφ t ht v hv).1 (by omega)
theorem it_falls {E:List T5} (h:EOk E) {φ:Int→Nat} (hφ:∀t∈choL E,∀u∈choL E,(u.c2<t.c2→φ u.c0<φ t.c0)∧(u=revT t→u.c0<t.c0→φ u.c0<φ t.c0)):∀(m:Nat) {u:Int},(∃t∈choL E,t.c0=u)→φ (itA (pC E) m u)≤φ u
 |0,_,_=>Nat.le_refl _
 |m+1,u,hu=>by
  show φ (itA (pC E) m (pC E u))≤φ u
  have h1:=it_falls h hφ m (pC_dom h hu)
  by_cases hp:pC E u=u
  ·rw[hp] at h1⊢;exact h1
  ·have:=pC_falls h hφ hu hp;omega
theorem it_fix (E:List T5) {u:Int} (hp:pC E u=u):∀m,itA (pC E) m u=u
 |0=>rfl
 |m+1=>by show itA (pC E) m (pC E u)=u;rw[hp];exact it_fix E hp m
theorem it_end {E:List T5} (h:EOk E) {φ:Int→Nat} (hφ:∀t∈choL E,∀u∈choL E,(u.c2<t.c2→φ u.c0<φ t.c0)∧(u=revT t→u.c0<t.c0→φ u.c0<φ t.c0)):∀(m:Nat) {u:Int},(∃t∈choL E,t.c0=u)→φ u≤m→pC E (itA (pC E) m u)=itA (pC E) m u
 |0,u,hu,hm=>by
  show pC E u=u
  refine Classical.byContradiction fun hp=> ?_
  have:=pC_falls h hφ hu hp
  omega
 |m+1,u,hu,hm=>by
  show pC E (itA (pC E) m (pC E u))=itA (pC E) m (pC E u)
  by_cases hp:pC E u=u
  ·rw[hp,it_fix E hp m];exact hp
  ·have:=pC_falls h hφ hu hp
   exact it_end h hφ m (pC_dom h hu) (by omega)
theorem it_back {E:List T5} (h:EOk E) {φ:Int→Nat} (hφ:∀t∈choL E,∀u∈choL E,(u.c2<t.c2→φ u.c0<φ t.c0)∧(u=revT t→u.c0<t.c0→φ u.c0<φ t.c0)) {m:Nat} {u:Int} (hu:∃t∈choL E,t.c0=u) (hb:itA (pC E) (m+1) u=u):pC E u=u:=by
 refine Classical.byContradiction fun hp=> ?_
 have h1:=pC_falls h hφ hu hp
 have h2:=it_falls h hφ m (pC_dom h hu)
 have h3:itA (pC E) m (pC E u)=u:=hb
 rw[h3] at h2
 omega
end Go.Proofs.YtpckicjfigmjkaaGreat
namespace Go.Proofs.YtpckicjfigmjkaaGreat
open Go.SL Go.Tup
def gv (n:Int) (p:Option Addr) (m cap:Nat):Value:= .agg #[.int .i64 n,.slice p m cap]
def inE (n:Int) (e:IE):Prop:=0≤e.1∧e.1<n∧0≤e.2∧e.2<n
instance (n:Int) (e:IE):Decidable (inE n e):=by unfold inE;infer_instance
def formedB (n:Int) (es:List IE):Bool:=decide (0≤n∧n≤1073741824∧es.length≤1073741824)&&es.all fun e=>decide (inE n e)
theorem Formed03ct (n:Int) (p:Option Addr) (m cap:Nat) (es:List IE) (c:Chunk) (hv:Rw ecl 2 p m es c) (hm:m≤maxLen):
  CtQ Tryz.prog 22 [gv n p m cap] [c] (.bool (formedB n es)):=by
 have hl:=hv.1
 simp only[maxLen] at hm
 have hbad:∀i e,es[i]? =some e→¬inE n e→formedB n es=false:=fun i e hi he=>by
  unfold formedB
  rw[Bool.and_eq_false_iff]
  exact .inr (by simp only[List.all_eq_false,decide_eq_true_eq];exact⟨e,List.mem_of_getElem? hi,he⟩)
 unfold gv
 by_cases h1:n<0
 ·have hb:formedB n es=false:=by unfold formedB;rw[decide_eq_false (by omega)];rfl
  rw[hb]
  refine Ct.intro Tryz.func22 rfl Tryz.ntmps22 (nle rfl) fun w0=> ?_;dsimp only[argSlots,Nat.reduceAdd]
  repeat(refine st ?_;intros)
  (refine Dn.post (Hr:=[c]) Tryz.results22 (hR:= ?_);exact⟨rfl,rfl⟩)
 by_cases h2:1073741824<n
 ·have hb:formedB n es=false:=by unfold formedB;rw[decide_eq_false (by omega)];rfl
  rw[hb]
  refine Ct.intro Tryz.func22 rfl Tryz.ntmps22 (nle rfl) fun w0=> ?_;dsimp only[argSlots,Nat.reduceAdd]
  repeat(refine st ?_;intros)
  (refine Dn.post (Hr:=[c]) Tryz.results22 (hR:= ?_);exact⟨rfl,rfl⟩)
 by_cases h3:1073741824<m
 ·have hb:formedB n es=false:=by unfold formedB;rw[decide_eq_false (by omega)];rfl
  rw[hb]
  refine Ct.intro Tryz.func22 rfl Tryz.ntmps22 (nle rfl) fun w0=> ?_;dsimp only[argSlots,Nat.reduceAdd]
  repeat(refine st ?_;intros)
  (refine Dn.post (Hr:=[c]) Tryz.results22 (hR:= ?_);exact⟨rfl,rfl⟩)
 refine Ct.intro Tryz.func22 rfl Tryz.ntmps22 (nle rfl) fun w0=> ?_;dsimp only[argSlots,Nat.reduceAdd]
 repeat(refine st ?_;intros)
 rename_i b1
 refine G.loop (X:=Nat) (fun i=>i≤m∧∀j e,j<i→es[j]? =some e→inE n e)
  (fun i=>[(3,.int .i64 (i:Int)),(1,pv b1)])
  (fun _=>[[(b1,row [.int .i64 n,.slice p m cap] 40)],c]) (fun i=>m-i) 0 ⟨Nat.zero_le _,fun j e h=>by omega⟩ (body:= ?_)
 rintro i ⟨hi,hin⟩
 by_cases hlt:i<m
 ·obtain⟨b,off,cs,T,fz,rfl,rfl,hcut,hget⟩:=hv.pos ecl_len (by omega)
  have hie:es[i]? =some es[i]:=List.getElem?_eq_getElem (by omega)
  have hc:=hcut i _ hie
  have hno:=hbad i _ hie
  generalize he:es[i]=e at*
  obtain⟨u,v⟩:=e
  have hc':(cs.drop (off+i*2)).take 2=[.int .i64 u,.int .i64 v]:=hc
  by_cases g1:u<0
  ·rw[hno (by unfold inE;dsimp only;omega)]
   repeat(refine st ?_;intros)
   (refine Dn.post (Hr:=[[(b,rowf cs T fz)]]) Tryz.results22 (hR:= ?_);exact⟨rfl,rfl⟩)
  by_cases g2:n≤u
  ·rw[hno (by unfold inE;dsimp only;omega)]
   repeat(refine st ?_;intros)
   (refine Dn.post (Hr:=[[(b,rowf cs T fz)]]) Tryz.results22 (hR:= ?_);exact⟨rfl,rfl⟩)
  by_cases g3:v<0
  ·rw[hno (by unfold inE;dsimp only;omega)]
   repeat(refine st ?_;intros)
   (refine Dn.post (Hr:=[[(b,rowf cs T fz)]]) Tryz.results22 (hR:= ?_);exact⟨rfl,rfl⟩)
  by_cases g4:n≤v
  ·rw[hno (by unfold inE;dsimp only;omega)]
   repeat(refine st ?_;intros)
   (refine Dn.post (Hr:=[[(b,rowf cs T fz)]]) Tryz.results22 (hR:= ?_);exact⟨rfl,rfl⟩)
  repeat(refine st ?_;intros)
  refine Dn.round (i+1) ⟨by omega,fun j e hj hje=> ?_⟩ (by omega)
  by_cases hji:j=i
  ·subst hji
   rw[hie] at hje
   simp only[Option.some.injEq] at hje
   subst hje
   exact⟨by dsimp only;omega,by dsimp only;omega,by dsimp only;omega,by dsimp only;omega⟩
  ·exact hin j e (by omega) hje
 ·obtain rfl:i=m:=by omega
  have hb:formedB n es=true:=by
   unfold formedB
   rw[decide_eq_true (by omega),Bool.true_and,List.all_eq_true]
   intro e he
   obtain⟨j,hj,rfl⟩:=List.getElem_of_mem he
   exact decide_eq_true (hin j _ (by omega) (List.getElem?_eq_getElem hj))
  rw[hb]
  repeat(refine st ?_;intros)
  (refine Dn.post (Hr:=[c]) Tryz.results22 (hR:= ?_);exact⟨rfl,rfl⟩)
theorem Few03ct (n:Int) (p:Option Addr) (m cap:Nat) (a b:Int) (hm:m≤maxLen):CtQ Tryz.prog 23 [gv n p m cap,.int .i64 a,.int .i64 b] [] (.bool (dec (n≤a∧(m:Int)≤b))):=by
 simp only[maxLen] at hm
 unfold gv
 by_cases h1:n≤a
 ·by_cases h2:(m:Int)≤b
  ·rw[dec_true ⟨h1,h2⟩]
   refine Ct.intro Tryz.func23 rfl Tryz.ntmps23 (nle rfl) fun w0=> ?_;dsimp only[argSlots,Nat.reduceAdd]
   repeat(refine st ?_;intros)
   (refine Dn.post (Hr:=[]) Tryz.results23 (hR:= ?_);exact⟨congrArg Value.bool (dec_true h2),rfl⟩)
  ·rw[dec_false (by omega)]
   refine Ct.intro Tryz.func23 rfl Tryz.ntmps23 (nle rfl) fun w0=> ?_;dsimp only[argSlots,Nat.reduceAdd]
   repeat(refine st ?_;intros)
   (refine Dn.post (Hr:=[]) Tryz.results23 (hR:= ?_);exact⟨congrArg Value.bool (dec_false h2),rfl⟩)
 ·rw[dec_false (by omega)]
  refine Ct.intro Tryz.func23 rfl Tryz.ntmps23 (nle rfl) fun w0=> ?_;dsimp only[argSlots,Nat.reduceAdd]
  repeat(refine st ?_;intros)
  (refine Dn.post (Hr:=[]) Tryz.results23 (hR:= ?_);exact⟨rfl,rfl⟩)
end Go.Proofs.YtpckicjfigmjkaaGreat
namespace Go.Gr
abbrev Ed:=Nat×Nat
def Jn (g:Nat→Ed) (S:Nat→Prop) (x y:Nat):Prop:=∃i,S i∧((g i).1=x∧(g i).2=y∨(g i).1=y∧(g i).2=x)
inductive Cn (g:Nat→Ed) (S:Nat→Prop):Nat→Nat→Prop
 |refl (a:Nat):Cn g S a a
 |step {a b c:Nat}:Cn g S a b→Jn g S b c→Cn g S a c
variable {g:Nat→Ed} {S S':Nat→Prop}
theorem Jn.symm {x y:Nat} (h:Jn g S x y):Jn g S y x:=let ⟨i,h1,h2⟩:=h;⟨i,h1,h2.symm⟩
theorem Jn.mono {x y:Nat} (h:Jn g S x y) (hs:∀i,S i→S' i):Jn g S' x y:=let ⟨i,h1,h2⟩:=h;⟨i,hs i h1,h2⟩
theorem Cn.one {x y:Nat} (h:Jn g S x y):Cn g S x y:= .step (.refl x) h
theorem Cn.trans {a b c:Nat} (h:Cn g S a b) (h2:Cn g S b c):Cn g S a c:=by
 induction h2 with
 |refl=>exact h
 |step _ hj ih=>exact .step ih hj
theorem Cn.symm {a b:Nat} (h:Cn g S a b):Cn g S b a:=by
 induction h with
 |refl=>exact .refl _
 |step _ hj ih=>exact(Cn.one hj.symm).trans ih
theorem Cn.mono {a b:Nat} (h:Cn g S a b) (hs:∀i,S i→S' i):Cn g S' a b:=by
 induction h with
 |refl=>exact .refl _
 |step _ hj ih=>exact .step ih (hj.mono hs)
theorem Cn.edge {i:Nat} (h:S i):Cn g S (g i).1 (g i).2:= .one ⟨i,h,.inl ⟨rfl,rfl⟩⟩
theorem Cn.sub {a b:Nat} (h:Cn g S a b) (hs:∀i,S i→Cn g S' (g i).1 (g i).2):Cn g S' a b:=by
 induction h with
 |refl=>exact .refl _
 |step _ hj ih=>
  obtain⟨i,h1,⟨rfl,rfl⟩|⟨rfl,rfl⟩⟩:=hj
  ·exact ih.trans (hs i h1)
  ·exact ih.trans (hs i h1).symm
theorem Cn.congr {a b:Nat} (hs:∀i,S i↔S' i):Cn g S a b↔Cn g S' a b:=⟨fun h=>h.mono fun i=>(hs i).1,fun h=>h.mono fun i=>(hs i).2⟩
theorem Cn.stay {a b:Nat} (h:Cn g S a b) {X:Nat→Prop} (ha:X a) (hx:∀i,S i→(X (g i).1↔X (g i).2)):X b:=by
 induction h with
 |refl=>exact ha
 |step _ hj ih=>
  obtain⟨i,h1,⟨rfl,rfl⟩|⟨rfl,rfl⟩⟩:=hj
  ·exact(hx i h1).1 ih
  ·exact(hx i h1).2 ih
theorem Cn.add {i a b:Nat} (h:Cn g (fun j=>S j∨j=i) a b):Cn g S a b∨(Cn g S a (g i).1∧Cn g S (g i).2 b)∨(Cn g S a (g i).2∧Cn g S (g i).1 b):=by
 induction h with
 |refl=>exact .inl (.refl _)
 |step _ hj ih=>
  obtain⟨j,h1|rfl,h2⟩:=hj
  ·have hj:Cn g S _ _:= .one ⟨j,h1,h2⟩
   rcases ih with ih|⟨i1,i2⟩|⟨i1,i2⟩
   ·exact .inl (ih.trans hj)
   ·exact .inr (.inl ⟨i1,i2.trans hj⟩)
   ·exact .inr (.inr ⟨i1,i2.trans hj⟩)
  ·rcases h2 with⟨rfl,rfl⟩|⟨rfl,rfl⟩
   ·rcases ih with ih|⟨i1,i2⟩|⟨i1,i2⟩
    ·exact .inr (.inl ⟨ih,.refl _⟩)
    ·exact .inr (.inl ⟨i1,.refl _⟩)
    ·exact .inl i1
   ·rcases ih with ih|⟨i1,i2⟩|⟨i1,i2⟩
    ·exact .inr (.inr ⟨ih,.refl _⟩)
    ·exact .inl i1
    ·exact .inr (.inr ⟨i1,.refl _⟩)
theorem Cn.bound {a b:Nat} (h:Cn g S a b):∃n,Cn g (fun j=>S j∧j<n) a b:=by
 induction h with
 |refl=>exact⟨0,.refl _⟩
 |step _ hj ih=>
  obtain⟨n,ih⟩:=ih
  obtain⟨i,h1,h2⟩:=hj
  exact⟨max n (i+1),.step (ih.mono fun j ⟨a,b⟩=>⟨a,by omega⟩) ⟨i,⟨h1,by omega⟩,h2⟩⟩
def Kr (g:Nat→Ed) (S:Nat→Prop) (i:Nat):Prop:=S i∧¬Cn g (fun j=>S j∧j<i) (g i).1 (g i).2
theorem Kr.conn_lt:∀(n:Nat) {a b:Nat},Cn g (fun j=>S j∧j<n) a b↔Cn g (fun j=>Kr g S j∧j<n) a b
 |0,a,b=>Cn.congr fun i=>by simp
 |n+1,a,b=>by
  refine⟨fun h=> ?_,fun h=>h.mono fun i ⟨h1,h2⟩=>⟨h1.1,h2⟩⟩
  refine h.sub fun i ⟨h1,h2⟩=> ?_
  by_cases hk:Kr g S i
  ·exact Cn.edge ⟨hk,h2⟩
  ·have h3:Cn g (fun j=>S j∧j<i) (g i).1 (g i).2:=by
    by_cases h4:Cn g (fun j=>S j∧j<i) (g i).1 (g i).2
    ·exact h4
    ·exact absurd ⟨h1,h4⟩ hk
   have h5:Cn g (fun j=>S j∧j<n) (g i).1 (g i).2:=h3.mono fun j ⟨a,b⟩=>⟨a,by omega⟩
   exact((Kr.conn_lt n).1 h5).mono fun j ⟨a,b⟩=>⟨a,by omega⟩
theorem Kr.conn {a b:Nat}:Cn g S a b↔Cn g (Kr g S) a b:=by
 refine⟨fun h=> ?_,fun h=>h.mono fun i h=>h.1⟩
 obtain⟨n,h⟩:=h.bound
 exact((Kr.conn_lt n).1 h).mono fun i h=>h.1
theorem Kr.bridge_lt:∀(n i:Nat),i<n→Kr g S i→¬Cn g (fun j=>Kr g S j∧j<n∧j≠i) (g i).1 (g i).2
 |0,_,h,_=>by omega
 |n+1,i,h,hk=>by
  intro hc
  by_cases hin:i=n
  ·subst hin
   exact hk.2 (hc.mono fun j ⟨h1,h2,h3⟩=>⟨h1.1,by omega⟩)
  ·have hi:i<n:=by omega
   by_cases hkn:Kr g S n
   ·have hc2:Cn g (fun j=>(Kr g S j∧j<n∧j≠i)∨j=n) (g i).1 (g i).2:=hc.mono fun j ⟨h1,h2,h3⟩=>by
     by_cases hj:j=n
     ·exact .inr hj
     ·exact .inl ⟨h1,by omega,h3⟩
    have hlt:∀{x y:Nat},Cn g (fun j=>Kr g S j∧j<n∧j≠i) x y→Cn g (fun j=>S j∧j<n) x y:=fun h=>h.mono fun j ⟨h1,h2,_⟩=>⟨h1.1,h2⟩
    have hii:Cn g (fun j=>S j∧j<n) (g i).1 (g i).2:=Cn.edge ⟨hk.1,hi⟩
    rcases hc2.add with h1|⟨h1,h2⟩|⟨h1,h2⟩
    ·exact Kr.bridge_lt n i hi hk h1
    ·exact hkn.2 (((hlt h1).symm.trans hii).trans (hlt h2).symm)
    ·exact hkn.2 (((hlt h2).trans hii.symm).trans (hlt h1))
   ·refine Kr.bridge_lt n i hi hk (hc.mono fun j ⟨h1,h2,h3⟩=>⟨h1,?_,h3⟩)
    have:j≠n:=fun e=>hkn (e▸h1)
    omega
theorem Kr.bridge {i:Nat} (hk:Kr g S i):¬Cn g (fun j=>Kr g S j∧j≠i) (g i).1 (g i).2:=by
 intro h
 obtain⟨n,h⟩:=h.bound
 exact Kr.bridge_lt (max n (i+1)) i (by omega) hk (h.mono fun j ⟨⟨a,b⟩,c⟩=>⟨a,by omega,b⟩)
theorem tree_all {F C:Nat→Prop} (hb:∀i,F i→¬Cn g (fun j=>F j∧j≠i) (g i).1 (g i).2) (hc:∀i,C i→F i) (hj:∀i,F i→Cn g C (g i).1 (g i).2) (i:Nat) (h:F i):C i:=by
 cases Classical.propDecidable (C i) with
 |isTrue h=>exact h
 |isFalse hn=>exact absurd ((hj i h).mono fun j hj=>⟨hc j hj,fun e=>hn (e▸hj)⟩) (hb i h)
theorem Kr.cut {X:Nat→Prop} {i:Nat} (hs:S i) (hx:¬(X (g i).1↔X (g i).2)) (hm:∀j,S j→j<i→(X (g j).1↔X (g j).2)):Kr g S i:=by
 refine⟨hs,fun h=>hx ⟨fun h1=> ?_,fun h1=> ?_⟩⟩
 ·exact h.stay h1 fun j hj=>hm j hj.1 hj.2
 ·exact h.symm.stay h1 fun j hj=>hm j hj.1 hj.2
end Go.Gr
