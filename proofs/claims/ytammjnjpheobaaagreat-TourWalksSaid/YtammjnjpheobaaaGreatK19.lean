/-
  Parts of the proof, put together: Make, Big, Srt, Job, JobC, JobSort, JobS. No condition.
-/
import Derived.Test.YtammjnjpheobaaaGreatK18
set_option linter.unusedVariables false
set_option linter.unusedSimpArgs false
set_option linter.unnecessarySimpa false
set_option maxHeartbeats 4000000
namespace Go.Proofs.YtammjnjpheobaaaGreat
open Go.SL Go.Spc Go.Tup
structure EachX (K:Type) where
 i:Nat
 cd:Chunk
 ca:Chunk
 cs:Chunk
 cx:Chunk
 cb:Chunk
 W:Wk
 k:K
def cat (l:List (Fl×List T5)):List T5:=l.flatMap (·.2)
def actsOf (κ:Nat) (l:List (Fl×List T5)):Nat:=(l.map fun x=>x.1.blocks+x.1.count*κ).sum
theorem cat_take {l:List (Fl×List T5)} {i:Nat} {x:Fl×List T5} (h:l[i]? =some x):cat (l.take (i+1))=cat (l.take i)++x.2:=by
 unfold cat;rw[List.take_add_one,h];simp
theorem acts_take {κ:Nat} {l:List (Fl×List T5)} {i:Nat} {x:Fl×List T5} (h:l[i]? =some x):actsOf κ (l.take (i+1))=actsOf κ (l.take i)+(x.1.blocks+x.1.count*κ):=by
 unfold actsOf;rw[List.take_add_one,h];simp
theorem acts_le {κ:Nat} (l:List (Fl×List T5)) (i:Nat):actsOf κ (l.take i)≤actsOf κ l:=by
 have:actsOf κ l=actsOf κ (l.take i)+actsOf κ (l.drop i):=by unfold actsOf;rw[←List.sum_append_nat,←List.map_append,List.take_append_drop]
 omega
theorem cat_split (l:List (Fl×List T5)) (i:Nat):cat l=cat (l.take i)++cat (l.drop i):=by unfold cat;rw[←List.flatMap_append,List.take_append_drop]
theorem Each_ct (bw bd ba bs:Nat) {K:Type} (M:Maker K) (k0:K) (W:Wk) (cd ca cs:Chunk) (h:Wc bd ba bs W cd ca cs) (width bound κ:Nat) (hwd:1≤width) (hwd2:width≤5) (hbn:bound≤100000000)
  (mk:Nat) (hcal:Callable Tryz.prog mk) (fs us:List Value) (ok:K→T5→Prop) (hM:MakeU M width ok mk fs us) (hκ:∀k t,ok k t→(M.outs k t).length≤κ) (hκb:κ≤10000)
  (l:List (Fl×List T5)) (hl:∀x∈l,FileIn W x∧x.1.count≤1000000) (p:Option Addr) (cap:Nat) (cf:Chunk) (hV:Vec 27 4 p l.length cap (fcells (l.map (·.1))) cf)
  (hok:M.oks ok k0 (cat l)) (hbd:(M.all k0 (cat l)).length≤bound) (hr:2*W.δ.size≤W.α.room-W.α.used) (hac:W.δ.acts+actsOf κ l≤10000000000):
  Ct Tryz.prog 82 [pv bw,.int .i64 (width:Int),.int .i64 (bound:Int),.func (.func mk) fs.toArray us.toArray,.slice p l.length cap] [wrow bw bd ba bs,cd,ca,cs,cf,(M.C k0).flatten] fun v H'=>
   ∃cd' ca' cs' W' k',H'=[wrow bw bd ba bs,cd',ca',cs',cf,(M.C k').flatten]∧Wc bd ba bs W' cd' ca' cs'∧Ev W W' (actsOf κ l+1) (nblocks W.δ.size width bound)∧W'.α.gs.Perm W.α.gs∧Keep W.live W W'∧
    ((∃f,v= .tuple #[flv f,.int .i64 0]∧M.bad k0 (cat l)=none∧k'=M.st k0 (cat l)∧W'.live.Perm (addF f W.live)∧f.width=width∧f.count=(M.all k0 (cat l)).length∧FileOk W'.δ.disk W.δ.size [f.ext] f (M.all k0 (cat l)))∨
     (∃e:Int,v= .tuple #[flv ⟨0,0,0,0⟩,.int .i64 e]∧e≠0∧W'.live.Perm W.live∧((e=6∧W.δ.fault≠-1)∨(e=5∧big W.σ.free<nblocks W.δ.size width bound)∨∃n:Nat,M.bad k0 (cat l)=some n∧e=(n:Int)))):=by
 obtain⟨⟨hs1,hs2⟩,_⟩:=h.dev.num
 have hh:=holds_pos hs1 hwd hwd2
 have hWr:=Write_u bw bd ba bs W cd ca cs h width bound hwd hwd2 hbn (by omega)
 have hVl:=hV.1
 have hlm:l.length≤maxLen:=by
  rcases hV.2 with⟨_,e,_⟩|⟨_,_,_,_,_,h1,h2⟩
  ·omega
  ·omega
 simp only[maxLen] at hlm
 have hz:flv ⟨0,0,0,0⟩= .agg #[.int .i64 0,.int .i64 0,.int .i64 0,.int .i64 0]:=rfl
 refine Ct.introD Tryz.func82 rfl Tryz.ntmps82 (nle rfl) fun w0=> ?_;dsimp only[argSlots,Nat.reduceAdd]
 repeat(refine st ?_;intros)
 apply R.call
 ·exact rfl
 ·exact hWr
 ·exact(by repeat(first|exact Split.nil|(apply Split.cons;·(repeat(first|exact Take.here|apply Take.there|exact Take.nil)))))
 ·exact rfl
 ·exact nle rfl
 rintro _ _ (⟨hfit,bx,first,g,cd',ca',cs',W1,cx,cb,rfl,rfl,hW1,hE1,e1,e2,e3,e4,e5⟩|⟨hfull,rfl,cd',ca',cs',W1,rfl,hW1,hE1,e1,e2,e3⟩)
 ·repeat(refine st ?_;intros)
  rename_i b8 b10 b12
  have hus1:W1.α.used=W.α.used+W.δ.size:=by
   rw[hW1.ar.num.2.2.2,(e2.map (·.n)).sum_nat,h.ar.num.2.2.2];simp[e3];omega
  have hrm1:W1.α.room=W.α.room:=hE1.room
  have hsz1:W1.δ.size=W.δ.size:=hE1.size
  refine G.loop (X:=EachX K) (fun x=>x.i≤l.length∧Wc bd ba bs x.W x.cd x.ca x.cs∧Ev W x.W (actsOf κ (l.take x.i)) (nblocks W.δ.size width bound)∧Keep W.live W x.W∧x.W.α.gs.Perm (g::W.α.gs)∧LvOf first (nblocks W.δ.size width bound) W.live x.W.live∧
    IsWr bw bx x.W first (nblocks W.δ.size width bound) width bound g (M.all k0 (cat (l.take x.i))) x.cx x.cb∧x.k=M.st k0 (cat (l.take x.i))∧M.bad k0 (cat (l.take x.i))=none)
   (fun x=>[(31,.int .i64 (x.i:Int)),(30,.int .i64 (l.length:Int)),(29,.slice p l.length cap),(12,pv b12),(10,pv b10),(8,pv b8),(0,pv bw)])
   (fun x=>[[(b8,row [.func (.func mk) fs.toArray us.toArray] 88)],[(b12,row [pv bx] 120)],[(b10,row [.int .i64 0,.int .i64 0,.int .i64 0,.int .i64 0] 27)],wrow bw bd ba bs,x.cd,x.ca,x.cs,x.cx,x.cb,cf,(M.C x.k).flatten]) (fun x=>l.length-x.i) ⟨0,cd',ca',cs',cx,cb,W1,k0⟩
   ⟨Nat.zero_le _,hW1,by simpa[actsOf] using hE1,fun x _=>by rw[e1],e2,e4,by simpa[cat,Maker.all] using e5,by simp[cat,Maker.st],by simp[cat,Maker.bad]⟩ (body:= ?_)
  rintro⟨i,cd1,ca1,cs1,cx1,cb1,W2,k2⟩ ⟨hi,hW2,hE2,hK2,hg2,hl2,hw2,hk2,hb2⟩
  dsimp only at hi hW2 hE2 hK2 hg2 hl2 hw2 hk2 hb2⊢
  have hsz2:W2.δ.size=W.δ.size:=hE2.size
  have hrm2:W2.α.room=W.α.room:=hE2.room
  have hus2:W2.α.used=W.α.used+W.δ.size:=by
   rw[hW2.ar.num.2.2.2,(hg2.map (·.n)).sum_nat,h.ar.num.2.2.2];simp[e3];omega
  have hac2:=hE2.acts.2
  have hai:=acts_le (κ:=κ) l i
  have hai1:=acts_le (κ:=κ) l (i+1)
  by_cases hlt:i<l.length
  ·have hli:l[i]? =some l[i]:=List.getElem?_eq_getElem hlt
   obtain⟨⟨LvF,hfo,hsub⟩,hcn⟩:=hl _ (List.getElem_mem hlt)
   have hcs:=cat_split l (i+1)
   rw[cat_take hli] at hcs
   have hokl:M.oks ok k2 l[i].2:=by
    rw[hcs] at hok
    rw[hk2]
    exact((Maker.oks_app (Maker.oks_app hok).1).2 hb2)
   have hbdl:(M.all k0 (cat (l.take i))).length+(M.all k2 l[i].2).length≤bound:=by
    rw[hcs,Maker.all_app,Maker.all_app,List.length_append,List.length_append,←hk2] at hbd
    omega
   have hOv:=EachOver_ct bw bd ba bs M k2 (M.all k0 (cat (l.take i))) W2 cd1 ca1 cs1 hW2 bx b8 b12 first width bound κ g W.α.gs W.live cx1 cb1 hg2 (by rw[hsz2];exact hw2) (by rw[hsz2];exact hl2) l[i].1 l[i].2 LvF (by rw[hsz2];exact hfo.keep (fun x ⟨e,he,h2⟩=>hK2 x ⟨e,hsub e he,h2⟩)) hsub
    mk hcal fs us ok hM hκ hκb hokl hbdl hwd hwd2 (by omega) (by omega) hcn
   rw[hsz2] at hOv
   obtain⟨vb,rest,rfl,rfl,hvl,hmc,hcm⟩:∃b rest,p=some ⟨b,0,none⟩∧cf=[(b,row (fcells (l.map (·.1))++rest) 27)]∧cap*4≤(fcells (l.map (·.1))).length+rest.length∧l.length≤cap∧cap≤maxLen:=by
    rcases hV.2 with⟨_,e,_⟩|hh
    ·omega
    ·exact hh
   have hget:((fcells (l.map (·.1))++rest).drop (i*4)).take 4=_:=fc_get hli
   have hact:=acts_take (κ:=κ) hli
   have hctk:=cat_take hli
   have hflv:flv l[i].1= .agg #[.int .i64 (l[i].1.first:Int),.int .i64 (l[i].1.blocks:Int),.int .i64 (l[i].1.width:Int),.int .i64 (l[i].1.count:Int)]:=rfl
   rw[hflv] at hOv
   generalize hx:l[i]=x at*
   generalize hcells:fcells (l.map (·.1))++rest=cells at*
   repeat(refine st ?_;intros)
   refine R.call (hct:=hOv) (h:= ?_)
   rintro _ _ ⟨cd3,ca3,cs3,W3,k3,cx3,cb3,e,rfl,rfl,hW3,hE3,hK3,hc⟩
   try dsimp only[List.cons_append,List.nil_append]
   have hE23:=hE2.trans hE3
   rcases hc with⟨rfl,hg3,hl3,hw3,hk3,hb3⟩|⟨he,hgl,hwhy⟩
   ·repeat(refine st ?_;intros)
    refine Dn.round ⟨i+1,cd3,ca3,cs3,cx3,cb3,W3,k3⟩ ⟨hlt,hW3,by rw[hact];exact hE23,hK2.trans hK3,hg3,hl3,?_,?_,?_⟩ (by dsimp only;omega)
    ·rw[hctk,Maker.all_app,←hk2];exact hw3
    ·rw[hctk,Maker.st_app,←hk2];exact hk3
    ·rw[hctk,Maker.bad_app,hb2,←hk2];exact hb3
   ·have hwhy2:(e=6∧W.δ.fault≠-1)∨∃n:Nat,M.bad k0 (cat l)=some n∧e=(n:Int):=by
     rcases hwhy with⟨a,b⟩|⟨n,a,b⟩
     ·exact .inl ⟨a,fault_keep hE2 b⟩
     ·refine .inr ⟨n,?_,b⟩
      rw[hcs,Maker.bad_app,Maker.bad_app,hb2,←hk2];dsimp only;rw[a]
    rcases hgl with⟨hg3,hl3,ps,hw3⟩|⟨hg3,hl3,hx3⟩
    ·have hsz3:W3.δ.size=W.δ.size:=hE23.size
     have hDp:=Drop_uB bw bd ba bs W3 cd3 ca3 cs3 hW3 bx first _ width bound g ps cx3 cb3 hw3 W.α.gs hg3 W.live hl3
     repeat(refine st ?_;intros)
     refine Go.SL.Lv.call (hc:=hDp.2) (h:= ?_)
     rintro _ _ ⟨cd5,ca5,cs5,W5,cx5,cb5,rfl,rfl,hW5,hE5,hd5,hg5,hl5,hx5⟩
     try dsimp only[List.cons_append,List.nil_append]
     (refine Go.SL.Lv.nil (Hr:=[wrow bw bd ba bs,cd5,ca5,cs5,[(vb,row cells 27)],(M.C k3).flatten]) Tryz.results82 (hR:= ?_);exact⟨cd5,ca5,cs5,W5,k3,rfl,hW5,(hE23.trans hE5).weak (by omega) (Nat.le_refl _),hg5,fun x hx=>by rw[hd5];exact(hK2.trans hK3) x hx,.inr ⟨e,rfl,he,hl5,by rcases hwhy2 with h|h;exact .inl h;exact .inr (.inr h)⟩⟩)
    ·have hDp:=Dropped_uB bx cx3 hx3
     repeat(refine st ?_;intros)
     refine Go.SL.Lv.call (hc:=hDp.2) (h:= ?_)
     rintro _ _ ⟨rfl,rfl⟩
     try dsimp only[List.cons_append,List.nil_append]
     (refine Go.SL.Lv.nil (Hr:=[wrow bw bd ba bs,cd3,ca3,cs3,[(vb,row cells 27)],(M.C k3).flatten]) Tryz.results82 (hR:= ?_);exact⟨cd3,ca3,cs3,W3,k3,rfl,hW3,hE23.weak (by omega) (Nat.le_refl _),hg3,hK2.trans hK3,.inr ⟨e,rfl,he,hl3,by rcases hwhy2 with h|h;exact .inl h;exact .inr (.inr h)⟩⟩)
  ·obtain rfl:i=l.length:=by omega
   rw[List.take_length] at hw2 hk2 hb2 hE2
   have hnc:nblocks W.δ.size width (M.all k0 (cat l)).length-(M.all k0 (cat l)).length/holds W.δ.size width≤1:=by
    unfold nblocks
    have h1:((M.all k0 (cat l)).length+holds W.δ.size width-1)/holds W.δ.size width≤((M.all k0 (cat l)).length+holds W.δ.size width)/holds W.δ.size width:=Nat.div_le_div_right (by omega)
    rw[Nat.add_div_right _ (by omega)] at h1
    omega
   have hCl:=Close_u bw bd ba bs W2 cd1 ca1 cs1 hW2 bx first _ width bound g _ cx1 cb1 hw2 W.α.gs hg2 W.live hl2 (by omega)
   rw[hsz2] at hCl
   repeat(refine st ?_;intros)
   refine R.call (hct:=hCl) (h:= ?_)
   rintro _ _ ⟨cd3,ca3,cs3,W3,cx3,cb3,rfl,hW3,hE3,hK3,hg3,hx3,hc⟩
   try dsimp only[List.cons_append,List.nil_append]
   have hDp:=Dropped_uB bx cx3 hx3
   have hE23:=(hE2.trans hE3).weak (k':=actsOf κ l+1) (m':=nblocks W.δ.size width bound) (by omega) (Nat.le_refl _)
   rcases hc with⟨f,rfl,hlv,hfw,hfc,hfo⟩|⟨rfl,hf,hδ,hlv⟩
   ·have hflv:flv f= .agg #[.int .i64 (f.first:Int),.int .i64 (f.blocks:Int),.int .i64 (f.width:Int),.int .i64 (f.count:Int)]:=rfl
    rw[hflv]
    repeat(refine st ?_;intros)
    refine Go.SL.Lv.call (hc:=hDp.2) (h:= ?_)
    rintro _ _ ⟨rfl,rfl⟩
    try dsimp only[List.cons_append,List.nil_append]
    (refine Go.SL.Lv.nil (Hr:=[wrow bw bd ba bs,cd3,ca3,cs3,cf,(M.C k2).flatten]) Tryz.results82 (hR:= ?_);exact⟨cd3,ca3,cs3,W3,k2,rfl,hW3,hE23,hg3,hK2.trans hK3,.inl ⟨f,rfl,hb2,hk2,by rw[hlv];exact .refl _,hfw,hfc,hfo⟩⟩)
   ·rw[hz]
    repeat(refine st ?_;intros)
    refine Go.SL.Lv.call (hc:=hDp.2) (h:= ?_)
    rintro _ _ ⟨rfl,rfl⟩
    try dsimp only[List.cons_append,List.nil_append]
    (refine Go.SL.Lv.nil (Hr:=[wrow bw bd ba bs,cd3,ca3,cs3,cf,(M.C k2).flatten]) Tryz.results82 (hR:= ?_);exact⟨cd3,ca3,cs3,W3,k2,rfl,hW3,hE23,hg3,hK2.trans hK3,.inr ⟨6,rfl,by omega,hlv,.inl ⟨rfl,fun e=>by have:=hE2.fault e;omega⟩⟩⟩)
 ·repeat(refine st ?_;intros)
  (refine Go.SL.Lv.nil (Hr:=[wrow bw bd ba bs,cd',ca',cs',cf,(M.C k0).flatten]) Tryz.results82 (hR:= ?_);exact⟨cd',ca',cs',W1,k0,rfl,hW1,hE1.weak (Nat.zero_le _) (Nat.zero_le _),e3,fun x _=>by rw[e1],.inr ⟨5,rfl,by omega,by rw[e2],.inr (.inl ⟨rfl,hfull⟩)⟩⟩)
theorem points_le:∀(pts:List Nat) (live:List Ext),(∀x∈pts,inF live x)→pts.Pairwise (fun x y=>∃z,x<z∧z<y∧¬inF live z)→pts.length≤live.length
 |[],_,_,_=>Nat.zero_le _
 |x::pts,live,h,hp=>by
  obtain⟨e,he,h1,h2⟩:=h x List.mem_cons_self
  obtain⟨l1,l2,rfl⟩:=List.append_of_mem he
  have hsub:∀z,¬inF (l1++e::l2) z→¬inF (l1++l2) z:=by
   rintro z hz ⟨y,hy,h3⟩
   exact hz ⟨y,by simp at hy⊢;rcases hy with h|h;exact .inl h;exact .inr (.inr h),h3⟩
  obtain⟨hx,hr⟩:=List.pairwise_cons.1 hp
  have:=points_le pts (l1++l2) (fun y hy=> ?_) (hr.imp fun ⟨z,a,b,c⟩=>⟨z,a,b,hsub z c⟩)
  ·simp only[List.length_append,List.length_cons] at this⊢;omega
  ·obtain⟨e2,he2,h3,h4⟩:=h y (List.mem_cons_of_mem _ hy)
   obtain⟨z,hz1,hz2,hz3⟩:=hx y hy
   simp only[List.mem_append,List.mem_cons] at he2
   rcases he2 with he2|rfl|he2
   ·exact⟨e2,List.mem_append_left _ he2,h3,h4⟩
   ·exact absurd ⟨e2,he,by omega,by omega⟩ hz3
   ·exact⟨e2,List.mem_append_right _ he2,h3,h4⟩
theorem total_big:∀(l:List Ext),total l≤l.length*big l
 |[]=>Nat.zero_le _
 |e::l=>by
  have h1:=total_big l
  have h2:e.2≤big (e::l):=le_big List.mem_cons_self
  have h3:big l≤big (e::l):=by rw[show e::l=[e]++l from rfl,big_app];omega
  have h4:=Nat.mul_le_mul_left l.length h3
  simp only[total,List.map_cons,List.sum_cons,List.length_cons,Nat.succ_mul] at h1⊢
  omega
theorem free_len {σ:Sp} {live:List Ext} (h:Live σ live) (hf:fok σ.n σ.free):σ.free.length≤live.length+1:=by
 cases hfr:σ.free.reverse with
 |nil=>
      have:σ.free=[]:=by simpa using hfr
      rw[this];simp
 |cons e r=>
  have he:σ.free=r.reverse++[e]:=by rw[←List.reverse_reverse σ.free,hfr];simp
  have hf2:=hf
  rw[he,fok_app] at hf2
  obtain⟨h1,h2,h3⟩:=hf2
  have:=points_le (r.reverse.map fun a=>a.1+a.2) live ?_ ?_
  ·rw[he];simp at this⊢;omega
  ·intro x hx
   obtain⟨a,ha,rfl⟩:=List.mem_map.1 hx
   have h4:=h3 a ha e List.mem_cons_self
   have h5:=h2.1 e List.mem_cons_self
   have h6:a.1+a.2<σ.n:=by omega
   cases hc:Classical.propDecidable (inF live (a.1+a.2)) with
   |isTrue h=>exact h
   |isFalse hn=>
    exfalso
    obtain⟨b,hb,h7,h8⟩:=(h.free _ h6).2 hn
    rw[he] at hb
    rcases List.mem_append.1 hb with hb|hb
    ·have hpw:=h1.2
     have hsym:a=b∨a.1+a.2<b.1∨b.1+b.2<a.1:=by
      by_cases hab:a=b
      ·exact .inl hab
      ·right
       obtain⟨i,hi,rfl⟩:=List.getElem_of_mem ha
       obtain⟨j,hj,rfl⟩:=List.getElem_of_mem hb
       rcases Nat.lt_trichotomy i j with hij|hij|hij
       ·exact .inl (List.pairwise_iff_getElem.1 hpw i j hi hj hij)
       ·subst hij;exact absurd rfl hab
       ·exact .inr (List.pairwise_iff_getElem.1 hpw j i hj hi hij)
     rcases hsym with rfl|h9|h9<;>omega
    ·simp only[List.mem_singleton] at hb;subst hb;omega
  ·rw[List.pairwise_map]
   refine(h1.2.and (List.pairwise_of_forall_mem_list (fun a ha b hb=>(⟨ha,hb⟩:a∈r.reverse∧b∈r.reverse)))).imp ?_
   rintro a b ⟨hab,ha,hb⟩
   have hb1:=h1.1 b hb
   have hbm:b∈σ.free:=by rw[he];exact List.mem_append_left _ hb
   exact⟨b.1,hab,by omega,(h.free b.1 (by have:=hf.1 b hbm;omega)).1 ⟨b,hbm,Nat.le_refl _,by omega⟩⟩
theorem big_room {σ:Sp} {live:List Ext} (h:Live σ live) (hf:fok σ.n σ.free) {m:Nat} (hm:m*(live.length+1)+total live≤σ.n):m≤big σ.free:=by
 have h1:=total_big σ.free
 have h2:=free_len h hf
 have h3:=h.sum
 by_cases hlt:m≤big σ.free
 ·exact hlt
 ·exfalso
  have h4:σ.free.length*big σ.free≤(live.length+1)*big σ.free:=Nat.mul_le_mul_right _ h2
  have h5:(live.length+1)*(big σ.free+1)≤(live.length+1)*m:=Nat.mul_le_mul_left _ (by omega)
  rw[Nat.mul_succ] at h5
  rw[Nat.mul_comm m] at hm
  omega
end Go.Proofs.YtammjnjpheobaaaGreat
namespace Go.Srt
set_option linter.unusedSectionVars false
variable {α:Type} {lt:α→α→Bool}
def insO (lt:α→α→Bool) (once:Bool) (x:α):List α→List α
 |[]=>[x]
 |y::l=>if lt y x then y::insO lt once x l else if once&& !lt x y then x::l else x::y::l
def srt (lt:α→α→Bool) (once:Bool):List α→List α
 |[]=>[]
 |x::l=>insO lt once x (srt lt once l)
theorem mem_insO {once:Bool} {x z:α}:∀{l:List α},z∈insO lt once x l→z=x∨z∈l
 |[],h=>by simpa[insO] using h
 |y::l,h=>by
  unfold insO at h
  split at h
  ·rcases List.mem_cons.1 h with rfl|h
   ·exact .inr List.mem_cons_self
   ·exact(mem_insO h).imp id (List.mem_cons_of_mem _)
  ·split at h
   ·rcases List.mem_cons.1 h with rfl|h
    ·exact .inl rfl
    ·exact .inr (List.mem_cons_of_mem _ h)
   ·rcases List.mem_cons.1 h with rfl|h
    ·exact .inl rfl
    ·exact .inr h
theorem lt_of_eqv (h:Swo lt) {a b c:α} (h1:lt b a=false) (h2:lt b c=true):lt a c=true:=by
 cases h3:lt a c with
 |true=>rfl
 |false=>have:=h.ntrans b a c h1 h3;rw[this] at h2;cases h2
theorem sd_insO (h:Swo lt) {once:Bool} {x:α}:∀{l:List α},Sd lt once l→Sd lt once (insO lt once x l)
 |[],_=>by simp[insO,Sd]
 |y::l,hs=>by
  obtain⟨h1,h2⟩:=List.pairwise_cons.1 hs
  have hs2:Sd lt once l:=h2
  unfold insO
  split
  ·rename_i hyx
   refine List.pairwise_cons.2 ⟨fun z hz=> ?_,sd_insO h hs2⟩
   rcases mem_insO hz with rfl|hz
   ·cases once with
    |true=>exact hyx
    |false=>exact h.asym _ _ hyx
   ·exact h1 z hz
  ·rename_i hyx
   have hyx:lt y x=false:=by simpa using hyx
   split
   ·rename_i ho
    simp only[Bool.and_eq_true,Bool.not_eq_true'] at ho
    refine List.pairwise_cons.2 ⟨fun z hz=> ?_,hs2⟩
    have:=h1 z hz
    rw[ho.1] at this⊢
    simp only[if_true] at this⊢
    exact lt_of_eqv h hyx this
   ·rename_i ho
    refine List.pairwise_cons.2 ⟨fun z hz=> ?_,hs⟩
    cases once with
    |false=>
     rcases List.mem_cons.1 hz with rfl|hz
     ·exact hyx
     ·exact h.ntrans _ _ _ (h1 z hz) hyx
    |true=>
     have hxy:lt x y=true:=by simpa using ho
     rcases List.mem_cons.1 hz with rfl|hz
     ·exact hxy
     ·have:=h1 z hz
      simp only[if_true] at this⊢
      exact lt_of_eqv h (h.asym _ _ hxy) this
theorem sp_insO (h:Swo lt) {once:Bool} {x:α}:∀(l:List α),Sp lt once (x::l) (insO lt once x l)
 |[]=>Sp.refl _ _
 |y::l=>by
  unfold insO
  split
  ·rename_i hyx
   have e1:Sp lt once ([x]++[y]++l) ([y]++[x]++l):=Sp.app (Sp.swap h (by simpa using hyx)) (Sp.refl _ _)
   exact Sp.trans e1 (Sp.app (a:=[y]) (b:=[y]) (Sp.refl _ _) (sp_insO h l))
  ·rename_i hyx
   have hyx:lt y x=false:=by simpa using hyx
   split
   ·rename_i ho
    simp only[Bool.and_eq_true,Bool.not_eq_true'] at ho
    obtain⟨rfl,hxy⟩:=ho
    intro c
    have he:eqv lt x y=true:=eqv_iff.2 ⟨hxy,hyx⟩
    simp only[List.filter_cons]
    cases hc:eqv lt c x with
    |true=>simp[keepC]
    |false=>
     cases hc2:eqv lt c y with
     |true=>have:=eqv_trans h hc2 (eqv_symm he);rw[this] at hc;cases hc
     |false=>simp
   ·exact Sp.refl _ _
theorem sd_srt (h:Swo lt) (once:Bool):∀(l:List α),Sd lt once (srt lt once l)
 |[]=>List.Pairwise.nil
 |_::l=>sd_insO h (sd_srt h once l)
theorem sp_srt (h:Swo lt) (once:Bool):∀(l:List α),Sp lt once l (srt lt once l)
 |[]=>Sp.refl _ _
 |x::l=>Sp.trans (Sp.app (a:=[x]) (b:=[x]) (Sp.refl _ _) (sp_srt h once l)) (sp_insO h _)
theorem srt_is (h:Swo lt) {once:Bool} {l a:List α} (h1:Sd lt once a) (h2:Sp lt once l a):a=srt lt once l:=
 unique1 h h1 (sd_srt h once l) (h2.symm.trans (sp_srt h once l))
theorem perm_insO {x:α}:∀(l:List α),(insO lt false x l).Perm (x::l)
 |[]=> .refl _
 |y::l=>by
  unfold insO
  split
  ·exact((perm_insO l).cons y).trans (.swap _ _ _)
  ·simp
theorem perm_srt:∀(l:List α),(srt lt false l).Perm l
 |[]=> .refl _
 |x::l=>(perm_insO _).trans ((perm_srt l).cons x)
theorem srt_sub {once:Bool}:∀{l:List α} {z:α},z∈srt lt once l→z∈l
 |[],_,h=>h
 |x::l,z,h=>by
  rcases mem_insO h with rfl|h
  ·exact List.mem_cons_self
  ·exact List.mem_cons_of_mem _ (srt_sub h)
end Go.Srt
namespace Go.Proofs.YtammjnjpheobaaaGreat
open Go.SL Go.Spc Go.Tup Go.Srt
def jrow (bj bw:Nat) (e:Int) (p:Option Addr) (n cap:Nat):Chunk:=[(bj,row [pv bw,.int .i64 e,.slice p n cap] 95)]
theorem keep_ct (bj bw:Nat) (e0 e:Int) (p:Option Addr) (n cap:Nat) (fs:List Fl) (ch:Chunk) (hV:Vec 27 4 p n cap (fcells fs) ch) (hn:n≤1000000) (f:Fl):
  Ct Tryz.prog 81 [pv bj,flv f,.int .i64 e] [jrow bj bw e0 p n cap,ch] fun v H'=>v=flv f∧
   ((e=0∧∃p' cap' ch',H'=[jrow bj bw 0 p' (n+1) cap',ch']∧Vec 27 4 p' (n+1) cap' (fcells (fs++[f])) ch')∨(e≠0∧H'=[jrow bj bw e p n cap,ch])):=by
 have hflv:flv f= .agg #[.int .i64 (f.first:Int),.int .i64 (f.blocks:Int),.int .i64 (f.width:Int),.int .i64 (f.count:Int)]:=rfl
 rw[hflv]
 unfold jrow
 by_cases he:e=0
 ·subst he
  refine Ct.intro Tryz.func81 rfl Tryz.ntmps81 (nle rfl) fun w0=> ?_;dsimp only[argSlots,Nat.reduceAdd]
  repeat(first|(refine st ?_;intros)|refine G.draw [] (h:= ?_))
  rename_i p' cap' ch' hV'
  (refine Dn.post (Hr:=[[(bj,row [pv bw,.int .i64 0,.slice p' (n+1) cap'] 95)],ch']) Tryz.results81 (hR:= ?_);exact⟨rfl,.inl ⟨rfl,p',cap',ch',rfl,by rw[fcells_app];exact hV'⟩⟩)
 ·refine Ct.intro Tryz.func81 rfl Tryz.ntmps81 (nle rfl) fun w0=> ?_;dsimp only[argSlots,Nat.reduceAdd]
  repeat(first|(refine st ?_;intros)|refine G.draw [] (h:= ?_))
  (refine Dn.post (Hr:=[[(bj,row [pv bw,.int .i64 e,.slice p n cap] 95)],ch]) Tryz.results81 (hR:= ?_);exact⟨rfl,.inr ⟨he,rfl⟩⟩)
theorem Make_no (bj bw:Nat) (e:Int) (he:e≠0) (p:Option Addr) (n cap:Nat) (x1 x2 x3 x4:Value):
  CtQ Tryz.prog 42 [pv bj,x1,x2,x3,x4] [jrow bj bw e p n cap] (flv ⟨0,0,0,0⟩):=by
 have hflv:flv ⟨0,0,0,0⟩= .agg #[.int .i64 0,.int .i64 0,.int .i64 0,.int .i64 0]:=rfl
 rw[hflv]
 unfold jrow
 refine Ct.intro Tryz.func42 rfl Tryz.ntmps42 (nle rfl) fun w0=> ?_;dsimp only[argSlots,Nat.reduceAdd]
 repeat(refine st ?_;intros)
 (refine Dn.post (Hr:=[[(bj,row [pv bw,.int .i64 e,.slice p n cap] 95)]]) Tryz.results42 (hR:= ?_);exact⟨rfl,rfl⟩)
def StepR (J:Chunk) (Q:Fl→Int→Chunk→Prop) (v:Value) (H':Hp):Prop:=∃f e Hc',v= .tuple #[flv f,.int .i64 e]∧H'=[J,Hc']∧Q f e Hc'
def KeptR (bj bw:Nat) (p:Option Addr) (n cap:Nat) (fs:List Fl) (ch:Chunk) (Q:Fl→Int→Chunk→Prop) (v:Value) (H':Hp):Prop:=∃f e Hc',v=flv f∧Q f e Hc'∧
 ((e=0∧∃p' cap' ch',H'=[jrow bj bw 0 p' (n+1) cap',ch',Hc']∧Vec 27 4 p' (n+1) cap' (fcells (fs++[f])) ch')∨(e≠0∧H'=[jrow bj bw e p n cap,ch,Hc']))
theorem Make_yes (bj bw:Nat) (p:Option Addr) (n cap:Nat) (fs:List Fl) (ch:Chunk) (hV:Vec 27 4 p n cap (fcells fs) ch) (hn:n≤1000000) (x1 x2 x3 x4:Value) (Hc:Chunk) (Q:Fl→Int→Chunk→Prop)
  (hE:Ct Tryz.prog 82 [pv bw,x1,x2,x3,x4] [Hc] fun v H'=>∃f e Hc',v= .tuple #[flv f,.int .i64 e]∧H'=[Hc']∧Q f e Hc'):
  Ct Tryz.prog 42 [pv bj,x1,x2,x3,x4] [jrow bj bw 0 p n cap,ch,Hc] (KeptR bj bw p n cap fs ch Q):=by
 have hK:=fun f e=>keep_ct bj bw 0 e p n cap fs ch hV hn f
 unfold jrow at hK⊢
 refine Ct.intro Tryz.func42 rfl Tryz.ntmps42 (nle rfl) fun w0=> ?_;dsimp only[argSlots,Nat.reduceAdd]
 repeat(refine st ?_;intros)
 refine R.call (hct:=hE) (h:= ?_)
 rintro _ _ ⟨f,e,Hc',rfl,rfl,hQ⟩
 try dsimp only[List.cons_append,List.nil_append]
 have hflv:flv f= .agg #[.int .i64 (f.first:Int),.int .i64 (f.blocks:Int),.int .i64 (f.width:Int),.int .i64 (f.count:Int)]:=rfl
 have hK1:=hK f e
 rw[hflv] at hK1⊢
 repeat(refine st ?_;intros)
 refine R.call (hct:=hK1) (h:= ?_)
 rintro _ _ ⟨rfl,⟨rfl,p',cap',ch',rfl,hV'⟩|⟨he,rfl⟩⟩
 try dsimp only[List.cons_append,List.nil_append]
 ·repeat(refine st ?_;intros)
  (refine Dn.post (Hr:=[[(bj,row [pv bw,.int .i64 0,.slice p' (n+1) cap'] 95)],ch',Hc']) Tryz.results42 (hR:= ?_);exact⟨f,0,Hc',rfl,hQ,.inl ⟨rfl,p',cap',ch',rfl,hV'⟩⟩)
 ·repeat(refine st ?_;intros)
  (refine Dn.post (Hr:=[[(bj,row [pv bw,.int .i64 e,.slice p n cap] 95)],ch,Hc']) Tryz.results42 (hR:= ?_);exact⟨f,e,Hc',rfl,hQ,.inr ⟨he,rfl⟩⟩)
theorem Run_no (bj bw:Nat) (e:Int) (he:e≠0) (p:Option Addr) (n cap:Nat) (x1:Value):
  CtQ Tryz.prog 45 [pv bj,x1] [jrow bj bw e p n cap] (flv ⟨0,0,0,0⟩):=by
 have hflv:flv ⟨0,0,0,0⟩= .agg #[.int .i64 0,.int .i64 0,.int .i64 0,.int .i64 0]:=rfl
 rw[hflv]
 unfold jrow
 refine Ct.intro Tryz.func45 rfl Tryz.ntmps45 (nle rfl) fun w0=> ?_;dsimp only[argSlots,Nat.reduceAdd]
 repeat(refine st ?_;intros)
 (refine Dn.post (Hr:=[[(bj,row [pv bw,.int .i64 e,.slice p n cap] 95)]]) Tryz.results45 (hR:= ?_);exact⟨rfl,rfl⟩)
theorem Run_yes (bj bw:Nat) (p:Option Addr) (n cap:Nat) (fs:List Fl) (ch:Chunk) (hV:Vec 27 4 p n cap (fcells fs) ch) (hn:n≤1000000) (mk:Nat) (hcal:Callable Tryz.prog mk) (us:List Value) (Hc:Chunk) (Q:Fl→Int→Chunk→Prop)
  (hE:Ct Tryz.prog mk us [jrow bj bw 0 p n cap,Hc] (StepR (jrow bj bw 0 p n cap) Q)):
  Ct Tryz.prog 45 [pv bj,.func (.func mk) #[] us.toArray] [jrow bj bw 0 p n cap,ch,Hc] (KeptR bj bw p n cap fs ch Q):=by
 have hK:=fun f e=>keep_ct bj bw 0 e p n cap fs ch hV hn f
 unfold jrow at hK hE⊢
 refine Ct.intro Tryz.func45 rfl Tryz.ntmps45 (nle rfl) fun w0=> ?_;dsimp only[argSlots,Nat.reduceAdd]
 repeat(refine st ?_;intros)
 refine R.callV (fs:=[]) (vs:=[]) (hf:=hcal) (hct:=hE) (h:= ?_)
 rintro _ _ ⟨f,e,Hc',rfl,rfl,hQ⟩
 dsimp only[List.cons_append,List.nil_append]
 have hflv:flv f= .agg #[.int .i64 (f.first:Int),.int .i64 (f.blocks:Int),.int .i64 (f.width:Int),.int .i64 (f.count:Int)]:=rfl
 have hK1:=hK f e
 rw[hflv] at hK1⊢
 repeat(refine st ?_;intros)
 refine R.call (hct:=hK1) (h:= ?_)
 rintro _ _ ⟨rfl,⟨rfl,p',cap',ch',rfl,hV'⟩|⟨he,rfl⟩⟩
 try dsimp only[List.cons_append,List.nil_append]
 ·repeat(refine st ?_;intros)
  (refine Dn.post (Hr:=[[(bj,row [pv bw,.int .i64 0,.slice p' (n+1) cap'] 95)],ch',Hc']) Tryz.results45 (hR:= ?_);exact⟨f,0,Hc',rfl,hQ,.inl ⟨rfl,p',cap',ch',rfl,hV'⟩⟩)
 ·repeat(refine st ?_;intros)
  (refine Dn.post (Hr:=[[(bj,row [pv bw,.int .i64 e,.slice p n cap] 95)],ch,Hc']) Tryz.results45 (hR:= ?_);exact⟨f,e,Hc',rfl,hQ,.inr ⟨he,rfl⟩⟩)
end Go.Proofs.YtammjnjpheobaaaGreat
namespace Go.Proofs.YtammjnjpheobaaaGreat
open Go.SL Go.Spc Go.Tup Go.Srt
theorem Ct.wide {P:Program} {f:FuncId} {args:List Value} {Hf:Hp} {R:Value→Hp→Prop} (h:Ct P f args Hf R) (F:Hp):Ct P f args (Hf++F) fun v H'=>∃H1,R v H1∧H'=H1++F:=by
 have h2:= @Ct.frame P f args Hf F R h
 unfold Ct
 exact fun w hw=>(h2 hw).mono fun e w' ⟨v,H',h3,h4,h5⟩=>⟨v,H'++F,h3,⟨H',h4,rfl⟩,h5⟩
open Classical in
theorem permC {a b:Chunk} (h:∀z,List.count z a=List.count z b):a.Perm b:=List.perm_iff_count.2 h
structure Jp where
 bw:Nat
 bd:Nat
 ba:Nat
 bs:Nat
 bj:Nat
 size:Nat
 room:Nat
 n:Nat
 gs:List Gr
 L0:List Ext
 D0:Nat→Option (List Int)
 fl:Prop
 b0:Nat
structure Jp.Ok (p:Jp):Prop where
 size:8≤p.size∧p.size≤256
 left:(p.gs.map (·.n)).sum+8*p.size≤p.room
structure Jb where
 e:Int
 er:Option Nat
 G:List (Fl×List T5)
 acts:Nat
 took:Nat
structure JobW (p:Jp) (J:Jb) (held:List (Fl×List T5)) (W:Wk):Prop where
 gs:W.α.gs.Perm p.gs
 room:W.α.room=p.room
 size:W.δ.size=p.size
 n:W.σ.n=p.n
 live:W.live.Perm (addFs (held.map (·.1)) p.L0)
 files:∀x∈held,FileOk W.δ.disk p.size [x.1.ext] x.1 x.2
 len:held.length≤100000
 keep:∀x,inF p.L0 x→W.δ.disk x=p.D0 x
 flt:¬p.fl→W.δ.fault= -1
 acts:W.δ.acts≤J.acts
 tk:p.b0≤big W.σ.free+J.took
 ok:J.e=0→held.Perm J.G∧J.er=none
 why:J.e≠0→(J.e=6∧p.fl)∨∃m:Nat,J.er=some m∧J.e=(m:Int)
def jobC (p:Jp) (e:Int) (cd ca cs:Chunk) (ph:Option Addr) (n cap:Nat) (ch:Chunk):Chunk:=[wrow p.bw p.bd p.ba p.bs,cd,ca,cs,jrow p.bj p.bw e ph n cap,ch].flatten
def JobC (p:Jp) (J:Jb) (C:Chunk):Prop:=∃W cd ca cs held ph cap ch,C=jobC p J.e cd ca cs ph held.length cap ch∧
 Wc p.bd p.ba p.bs W cd ca cs∧Vec 27 4 ph held.length cap (fcells (held.map (·.1))) ch∧JobW p J held W
def In0 (p:Jp) (x:Fl×List T5):Prop:=∃Lv,FileOk p.D0 p.size Lv x.1 x.2∧∀e∈Lv,e∈p.L0
def roomy (p:Jp) (G:List (Fl×List T5)) (m:Nat):Prop:=m*(G.length+p.L0.length+1)+((G.map (·.1.blocks)).sum+total p.L0)≤p.n
def Fits (p:Jp) (J:Jb) (m:Nat):Prop:=roomy p J.G m∨J.took+m≤p.b0
theorem mem_addFs {f:Fl} (hb:f.blocks≠0):∀{fs:List Fl} {L:List Ext},(f∈fs∨f.ext∈L)→f.ext∈addFs fs L
 |[],L,h=>by simpa[addFs] using h
 |g::fs,L,h=>by
  simp only[addFs,List.foldl_cons]
  refine mem_addFs hb (fs:=fs) (L:=addF g L) ?_
  rcases h with h|h
  ·rcases List.mem_cons.1 h with rfl|h
   ·right;unfold addF;rw[if_neg hb];exact List.mem_cons_self
   ·exact .inl h
  ·right;unfold addF;split
   ·exact h
   ·exact List.mem_cons_of_mem _ h
theorem sub_addFs {e:Ext}:∀{fs:List Fl} {L:List Ext},e∈L→e∈addFs fs L
 |[],_,h=>h
 |g::fs,L,h=>by
  simp only[addFs,List.foldl_cons]
  refine sub_addFs (fs:=fs) (L:=addF g L) ?_
  unfold addF;split
  ·exact h
  ·exact List.mem_cons_of_mem _ h
theorem total_addFs:∀(fs:List Fl) (L:List Ext),total (addFs fs L)=(fs.map (·.blocks)).sum+total L
 |[],L=>by simp[addFs]
 |f::fs,L=>by
  have h1:addFs (f::fs) L=addFs fs (addF f L):=rfl
  rw[h1,total_addFs fs,total_addF];simp;omega
theorem length_addFs:∀(fs:List Fl) (L:List Ext),(addFs fs L).length≤fs.length+L.length
 |[],L=>by simp[addFs]
 |f::fs,L=>by
  have h1:addFs (f::fs) L=addFs fs (addF f L):=rfl
  have h2:=length_addFs fs (addF f L)
  have h3:(addF f L).length≤L.length+1:=by unfold addF;split<;>simp
  rw[h1,List.length_cons];omega
theorem JobW.file {p:Jp} {J:Jb} {held:List (Fl×List T5)} {W:Wk} (h:JobW p J held W) {x:Fl×List T5} (hx:x∈held∨In0 p x):FileIn W x:=by
 rcases hx with hx|⟨Lv,hf,hs⟩
 ·have hf:=h.files x hx
  rw[←h.size] at hf
  by_cases hb:x.1.blocks=0
  ·exact⟨[],{hf with live:=fun e=>absurd hb e},by simp⟩
  ·refine⟨[x.1.ext],hf,fun e he=> ?_⟩
   simp only[List.mem_singleton] at he;subst he
   exact h.live.mem_iff.2 (mem_addFs hb (.inl (List.mem_map.2 ⟨x,hx,rfl⟩)))
 ·refine⟨Lv,?_,fun e he=>h.live.mem_iff.2 (sub_addFs (hs e he))⟩
  rw[h.size]
  exact hf.keep fun y ⟨e,he,h2⟩=>h.keep y ⟨e,hs e he,h2⟩
theorem JobW.big {p:Jp} {J:Jb} {held:List (Fl×List T5)} {W:Wk} {cd ca cs:Chunk} (h:JobW p J held W) (hW:Wc p.bd p.ba p.bs W cd ca cs) (he:J.e=0) {m:Nat} (hr:Fits p J m):m≤big W.σ.free:=by
 have htk:=h.tk
 rcases hr with hr|hr
 rotate_left
 ·omega
 obtain⟨hp,_⟩:=h.ok he
 obtain⟨_,_,_,_,_,hfk,_⟩:=hW.sp
 refine big_room hW.live hfk ?_
 have h1:=h.live.length_eq
 have h2:=length_addFs (held.map (·.1)) p.L0
 have h3:total W.live=_:=(total_perm h.live).trans (total_addFs _ _)
 have h4:=hp.length_eq
 have h5:(held.map (·.1)).map (·.blocks)=held.map (·.1.blocks):=by simp
 have h6:=(hp.map (·.1.blocks)).sum_nat
 rw[List.length_map] at h2
 rw[h3,h5,h6,h.n]
 unfold roomy at hr
 have h7:m*(W.live.length+1)≤m*(J.G.length+p.L0.length+1):=Nat.mul_le_mul_left _ (by omega)
 omega
theorem JobW.used {p:Jp} {J:Jb} {held:List (Fl×List T5)} {W:Wk} {cd ca cs:Chunk} (hp:p.Ok) (h:JobW p J held W) (hW:Wc p.bd p.ba p.bs W cd ca cs):8*W.δ.size≤W.α.room-W.α.used:=by
 have h1:=hW.ar.num.2.2.2
 rw[(h.gs.map (·.n)).sum_nat] at h1
 have:=hp.left
 rw[h.size,h.room];omega
structure Stepped (p:Jp) (W W':Wk) (A T:Nat) (er:Option Nat) (ts:List T5) (f:Fl) (e:Int):Prop where
 gs:W'.α.gs.Perm W.α.gs
 room:W'.α.room=W.α.room
 size:W'.δ.size=W.δ.size
 n:W'.σ.n=W.σ.n
 acts:W'.δ.acts≤W.δ.acts+A
 big:big W.σ.free≤big W'.σ.free+T
 fault:W.δ.fault= -1→W'.δ.fault= -1
 keep:Keep W.live W W'
 res:(e=0∧er=none∧W'.live.Perm (addF f W.live)∧FileOk W'.δ.disk W.δ.size [f.ext] f ts)∨(e≠0∧f=⟨0,0,0,0⟩∧W'.live.Perm W.live∧((e=6∧W.δ.fault≠-1)∨∃m:Nat,er=some m∧e=(m:Int)))
theorem orNone {α:Type} (x:Option α):(none.or x)=x:=by cases x<;>rfl
theorem JobW.step {p:Jp} {J:Jb} {held:List (Fl×List T5)} {W W':Wk} (h:JobW p J held W) (he:J.e=0) {A T:Nat} {er:Option Nat} {ts:List T5} {f:Fl} {e:Int} (hs:Stepped p W W' A T er ts f e) (hl:held.length<100000):
  JobW p ⟨e,J.er.or er,(f,ts)::J.G,J.acts+A,J.took+T⟩ (if e=0 then held++[(f,ts)] else held) W':=by
 have hG:=h.ok he
 have htk:p.b0≤Go.Spc.big W'.σ.free+(J.took+T):=by have:=h.tk;have:=hs.big;omega
 have hkeep:∀x∈held,FileOk W'.δ.disk p.size [x.1.ext] x.1 x.2:=by
  intro x hx
  obtain⟨Lv,h1,h2⟩:=h.file (.inl hx)
  have h3:=h1.keep (d':=W'.δ.disk) fun y ⟨e,he,h4⟩=>hs.keep y ⟨e,h2 e he,h4⟩
  rw[h.size] at h3
  exact{h3 with live:=fun _=>List.mem_singleton.2 rfl}
 have hk0:∀x,inF p.L0 x→W'.δ.disk x=p.D0 x:=fun x hx=>by
  rw[hs.keep x,h.keep x hx]
  obtain⟨e,he,h2⟩:=hx
  exact⟨e,h.live.mem_iff.2 (sub_addFs he),h2⟩
 rcases hs.res with⟨rfl,r1,r2,r3⟩|⟨r0,rfl,r2,r3⟩
 ·refine⟨hs.gs.trans h.gs,hs.room.trans h.room,hs.size.trans h.size,hs.n.trans h.n,?_,?_,?_,hk0,fun hf=>hs.fault (h.flt hf),Nat.le_trans hs.acts (Nat.add_le_add_right h.acts _),htk,fun _=>⟨?_,?_⟩,fun h0=>absurd rfl h0⟩
  ·simp only[if_true,List.map_append,List.map_cons,List.map_nil]
   rw[addFs_app]
   exact r2.trans (addF_perm h.live)
  ·simp only[if_true,List.mem_append,List.mem_singleton]
   rintro x (hx|rfl)
   ·exact hkeep x hx
   ·rw[←h.size];exact r3
  ·simp only[if_true,List.length_append,List.length_cons,List.length_nil];omega
  ·simp only[if_true]
   exact List.perm_append_comm.trans (hG.1.cons _)
  ·simp only[hG.2,r1];rfl
 ·simp only[if_neg r0]
  refine⟨hs.gs.trans h.gs,hs.room.trans h.room,hs.size.trans h.size,hs.n.trans h.n,r2.trans h.live,hkeep,h.len,hk0,fun hf=>hs.fault (h.flt hf),Nat.le_trans hs.acts (Nat.add_le_add_right h.acts _),htk,fun h0=>absurd h0 r0,fun _=> ?_⟩
  rcases r3 with⟨a,b⟩|⟨m,a,b⟩
  ·refine .inl ⟨a,?_⟩
   by_cases hf:p.fl
   ·exact hf
   ·exact absurd (h.flt hf) b
  ·exact .inr ⟨m,by simp only[hG.2,a];rfl,b⟩
theorem JobW.idle {p:Jp} {J:Jb} {held:List (Fl×List T5)} {W:Wk} (h:JobW p J held W) (he:J.e≠0) (er:Option Nat) (G:List (Fl×List T5)) (A T:Nat):JobW p ⟨J.e,J.er.or er,G,J.acts+A,J.took+T⟩ held W:=
 {h with
  acts:=Nat.le_trans h.acts (Nat.le_add_right _ _)
  tk:=Nat.le_trans h.tk (by dsimp only;omega)
  ok:=fun h0=>absurd h0 he
  why:=fun _=>(h.why he).imp id fun ⟨m,a,b⟩=>⟨m,by simp only[a];rfl,b⟩}
theorem nb_le {s k n:Nat} (hs:8≤s) (h1:1≤k) (h2:k≤5):nblocks s k n≤n:=nblocks_le (holds_pos hs h1 h2)
theorem JMake (p:Jp) (hp:p.Ok) (J:Jb) (C:Chunk) (hJ:JobC p J C) {K:Type} (M:Maker K) (k0:K) (width bound κ A T:Nat) (hwd:1≤width) (hwd2:width≤5) (hbn:bound≤100000000)
  (mk:Nat) (hcal:Callable Tryz.prog mk) (fs us:List Value) (ok:K→T5→Prop) (hM:MakeU M width ok mk fs us) (hκ:∀k t,ok k t→(M.outs k t).length≤κ) (hκb:κ≤10000)
  (l:List (Fl×List T5)) (hl:∀x∈l,(x∈J.G∨In0 p x)) (hcn:∀x∈l,x.1.count≤1000000) (pa:Option Addr) (cap:Nat) (cf:Chunk) (hV:Vec 27 4 pa l.length cap (fcells (l.map (·.1))) cf)
  (hok:J.e=0→M.oks ok k0 (cat l)) (hbd:J.e=0→(M.all k0 (cat l)).length≤bound) (hT:nblocks p.size width bound≤T) (hroom:J.e=0→Fits p J T) (hA:actsOf κ l+1≤A) (hac:J.acts+A≤10000000000) (hGl:J.G.length≤1000):
  Ct Tryz.prog 42 [pv p.bj,.int .i64 (width:Int),.int .i64 (bound:Int),.func (.func mk) fs.toArray us.toArray,.slice pa l.length cap] (C::cf::M.C k0) fun v H'=>
   ∃f C' e' k',v=flv f∧H'=C'::cf::M.C k'∧JobC p ⟨e',J.er.or (M.bad k0 (cat l)),(f,M.all k0 (cat l))::J.G,J.acts+A,J.took+T⟩ C'∧
    (e'=0→J.e=0∧k'=M.st k0 (cat l)∧f.width=width∧f.count=(M.all k0 (cat l)).length∧M.bad k0 (cat l)=none)∧f.count≤bound∧f.blocks≤nblocks p.size width bound:=by
 obtain⟨W,cd,ca,cs,held,ph,capj,ch,rfl,hW,hVj,hJW⟩:=hJ
 by_cases he:J.e=0
 ·have hus:=hJW.used hp hW
  have hT':nblocks W.δ.size width bound≤T:=by rw[hJW.size];exact hT
  have hG:=hJW.ok he
  have hEach:=Each_ct p.bw p.bd p.ba p.bs M k0 W cd ca cs hW width bound κ hwd hwd2 hbn mk hcal fs us ok hM hκ hκb l
   (fun x hx=>⟨hJW.file ((hl x hx).imp (fun h=>hG.1.mem_iff.2 h) id),hcn x hx⟩) pa cap cf hV (hok he) (hbd he) (by omega) (by have:=hJW.acts;omega)
  have hE2:Ct Tryz.prog 82 [pv p.bw,.int .i64 (width:Int),.int .i64 (bound:Int),.func (.func mk) fs.toArray us.toArray,.slice pa l.length cap] [[wrow p.bw p.bd p.ba p.bs,cd,ca,cs,cf,(M.C k0).flatten].flatten]
    fun v H'=>∃f e Hc',v= .tuple #[flv f,.int .i64 e]∧H'=[Hc']∧∃cd' ca' cs' W' k',Hc'=[wrow p.bw p.bd p.ba p.bs,cd',ca',cs',cf,(M.C k').flatten].flatten∧Wc p.bd p.ba p.bs W' cd' ca' cs'∧Stepped p W W' A T (M.bad k0 (cat l)) (M.all k0 (cat l)) f e∧
     (e=0→k'=M.st k0 (cat l)∧f.width=width∧f.count=(M.all k0 (cat l)).length):=by
   refine Ct.convP hEach (by simp) ?_
   rintro v H' ⟨cd',ca',cs',W',k',rfl,hW',hE',hg',hK',hc⟩
   have hStep:∀f e,_→Stepped p W W' A T (M.bad k0 (cat l)) (M.all k0 (cat l)) f e:=fun f e hr=>⟨hg',hE'.room,hE'.size,hE'.n,by have:=hE'.acts.2;omega,by have:=hE'.big;omega,hE'.fault,hK',hr⟩
   rcases hc with⟨f,rfl,h1,h2,h3,h4,h5,h6⟩|⟨e,rfl,h1,h2,h3⟩
   ·exact⟨[[wrow p.bw p.bd p.ba p.bs,cd',ca',cs',cf,(M.C k').flatten].flatten],⟨f,0,_,rfl,rfl,cd',ca',cs',W',k',rfl,hW',hStep f 0 (.inl ⟨rfl,h1,h3,h6⟩),fun _=>⟨h2,h4,h5⟩⟩,by simp⟩
   ·refine⟨[[wrow p.bw p.bd p.ba p.bs,cd',ca',cs',cf,(M.C k').flatten].flatten],⟨⟨0,0,0,0⟩,e,_,rfl,rfl,cd',ca',cs',W',k',rfl,hW',hStep _ e (.inr ⟨h1,rfl,h2,?_⟩),fun h0=>absurd h0 h1⟩,by simp⟩
    rcases h3 with h3|⟨_,h3⟩|⟨m,h3,h4⟩
    ·exact .inl h3
    ·have:=hJW.big hW he (hroom he);omega
    ·exact .inr ⟨m,h3,h4⟩
  have hM2:=Make_yes p.bj p.bw ph held.length capj _ ch hVj (by have:=hJW.len;omega) _ _ _ _ _ _ hE2
  refine Ct.convP hM2 (by rw[he];unfold jobC;refine permC fun z=> ?_;simp only[List.flatten_cons,List.flatten_nil,List.append_nil,List.count_append];omega) ?_
  rintro v H' ⟨f,e,Hc',rfl,⟨cd',ca',cs',W',k',rfl,hW',hS,hz⟩,hc⟩
  have hbl:f.count≤bound∧f.blocks≤nblocks p.size width bound:=by
   rcases hS.res with⟨r0,r1,r2,r3⟩|⟨r0,rfl,r2,r3⟩
   ·obtain⟨_,h2,h3⟩:=hz r0
    have hb:=hbd he
    refine⟨by omega,?_⟩
    rw[r3.blk,h2,hJW.size]
    exact nblocks_mono (by omega)
   ·exact⟨Nat.zero_le _,Nat.zero_le _⟩
  have hlh:held.length<100000:=by
   have h2:=hG.1.length_eq
   omega
  have hJ':=hJW.step he hS hlh
  rcases hc with⟨rfl,p',cap',ch',rfl,hV'⟩|⟨hne,rfl⟩
  ·have hr:Stepped p W W' A T (M.bad k0 (cat l)) (M.all k0 (cat l)) f 0:=hS
   have hnone:M.bad k0 (cat l)=none:=by
    rcases hS.res with⟨_,r1,_⟩|⟨r0,_⟩
    ·exact r1
    ·exact absurd rfl r0
   refine⟨jobC p 0 cd' ca' cs' p' (held.length+1) cap' ch'::cf::M.C k',⟨f,_,0,k',rfl,rfl,⟨W',cd',ca',cs',held++[(f,M.all k0 (cat l))],p',cap',ch',by simp,hW',?_,by simpa using hJ'⟩,fun _=>⟨he,(hz rfl).1,(hz rfl).2.1,(hz rfl).2.2,hnone⟩,hbl⟩,?_⟩
   ·simpa using hV'
   ·unfold jobC;refine permC fun z=> ?_;simp only[List.flatten_cons,List.flatten_nil,List.append_nil,List.count_append];omega
  ·refine⟨jobC p e cd' ca' cs' ph held.length capj ch::cf::M.C k',⟨f,_,e,k',rfl,rfl,⟨W',cd',ca',cs',held,ph,capj,ch,rfl,hW',hVj,by simpa[hne] using hJ'⟩,fun h0=>absurd h0 hne,hbl⟩,?_⟩
   unfold jobC;refine permC fun z=> ?_;simp only[List.flatten_cons,List.flatten_nil,List.append_nil,List.count_append];omega
 ·have hM2:=Ct.wide (Make_no p.bj p.bw J.e he ph held.length capj (.int .i64 (width:Int)) (.int .i64 (bound:Int)) (.func (.func mk) fs.toArray us.toArray) (.slice pa l.length cap)) ([wrow p.bw p.bd p.ba p.bs,cd,ca,cs,ch]++(cf::M.C k0))
  refine Ct.convP hM2 (by unfold jobC;refine permC fun z=> ?_;simp only[List.flatten_cons,List.flatten_nil,List.append_nil,List.flatten_append,List.count_append];omega) ?_
  rintro v H' ⟨H1,⟨rfl,rfl⟩,rfl⟩
  refine⟨jobC p J.e cd ca cs ph held.length capj ch::cf::M.C k0,⟨⟨0,0,0,0⟩,_,J.e,k0,rfl,rfl,⟨W,cd,ca,cs,held,ph,capj,ch,rfl,hW,hVj,hJW.idle he _ _ _ _⟩,fun h0=>absurd h0 he,Nat.zero_le _,Nat.zero_le _⟩,?_⟩
  unfold jobC;refine permC fun z=> ?_;simp only[List.flatten_cons,List.flatten_nil,List.append_nil,List.flatten_append,List.count_append];omega
end Go.Proofs.YtammjnjpheobaaaGreat
namespace Go.Proofs.YtammjnjpheobaaaGreat
open Go.SL Go.Spc Go.Tup Go.Srt
def fl4 (f:Fl):List Value:=[.int .i64 (f.first:Int),.int .i64 (f.blocks:Int),.int .i64 (f.width:Int),.int .i64 (f.count:Int)]
theorem fcells_cons (f:Fl) (fs:List Fl):fcells (f::fs)=fl4 f++fcells fs:=by simp[fcells,fl4]
theorem setL_f:∀(fs:List Fl) (i:Nat) (g:Fl) (rest:List Value),i<fs.length→setL (fcells fs++rest) (i*4) (fl4 g)=fcells (fs.set i g)++rest
 |[],_,_,_,h=>by simp at h
 |f::fs,0,g,rest,_=>by simp[fcells,setL,fl4]
 |f::fs,i+1,g,rest,h=>by
  have ih:=setL_f fs i g rest (by simpa using h)
  rw[List.set_cons_succ,fcells_cons,fcells_cons,List.append_assoc,List.append_assoc,←ih,←setL_skip]
  congr 1
  simp[fl4];omega
theorem JSort_no (bj bw:Nat) (e:Int) (he:e≠0) (p:Option Addr) (n cap:Nat) (f:Fl) (o:T5) (once:Bool):
  CtQ Tryz.prog 44 [pv bj,flv f,tv o,.bool once] [jrow bj bw e p n cap] (flv ⟨0,0,0,0⟩):=by
 have hflv:flv f= .agg #[.int .i64 (f.first:Int),.int .i64 (f.blocks:Int),.int .i64 (f.width:Int),.int .i64 (f.count:Int)]:=rfl
 have hz:flv ⟨0,0,0,0⟩= .agg #[.int .i64 0,.int .i64 0,.int .i64 0,.int .i64 0]:=rfl
 have hov:tv o= .agg #[.int .i64 o.c0,.int .i64 o.c1,.int .i64 o.c2,.int .i64 o.c3,.int .i64 o.c4]:=rfl
 rw[hflv,hz,hov]
 unfold jrow
 refine Ct.intro Tryz.func44 rfl Tryz.ntmps44 (nle rfl) fun w0=> ?_;dsimp only[argSlots,Nat.reduceAdd]
 repeat(first|(refine st ?_;intros)|refine G.draw [] (h:= ?_))
 (refine Dn.post (Hr:=[[(bj,row [pv bw,.int .i64 e,.slice p n cap] 95)]]) Tryz.results44 (hR:= ?_);exact⟨rfl,rfl⟩)
theorem JSort_yes (bj bw:Nat) (p:Option Addr) (cap:Nat) (held:List (Fl×List T5)) (ch:Chunk) (hV:Vec 27 4 p held.length cap (fcells (held.map (·.1))) ch) (hn:held.length≤1000000) (f:Fl) (ts:List T5) (hf:(f,ts)∈held) (o:T5) (once:Bool) (Hc:Chunk) (Q:Fl→Int→Chunk→Prop)
  (hS:Ct Tryz.prog 83 [pv bw,flv f,tv o,.bool once] [Hc] fun v H'=>∃g e Hc',v= .tuple #[flv g,.int .i64 e]∧H'=[Hc']∧Q g e Hc'):
  Ct Tryz.prog 44 [pv bj,flv f,tv o,.bool once] [jrow bj bw 0 p held.length cap,ch,Hc] fun v H'=>∃g e Hc',Q g e Hc'∧
   ((e=0∧v=flv g∧∃i ch' us,held[i]? =some (f,us)∧H'=[jrow bj bw 0 p held.length cap,ch',Hc']∧∀ts',Vec 27 4 p held.length cap (fcells ((held.set i (g,ts')).map (·.1))) ch')∨
    (e≠0∧v=flv ⟨0,0,0,0⟩∧H'=[jrow bj bw e p held.length cap,ch,Hc'])):=by
 have hflv:flv f= .agg #[.int .i64 (f.first:Int),.int .i64 (f.blocks:Int),.int .i64 (f.width:Int),.int .i64 (f.count:Int)]:=rfl
 have hz:flv ⟨0,0,0,0⟩= .agg #[.int .i64 0,.int .i64 0,.int .i64 0,.int .i64 0]:=rfl
 have hov:tv o= .agg #[.int .i64 o.c0,.int .i64 o.c1,.int .i64 o.c2,.int .i64 o.c3,.int .i64 o.c4]:=rfl
 rw[hflv,hov] at hS⊢
 rw[hz]
 unfold jrow
 have hpos:0<held.length:=List.length_pos_of_mem hf
 obtain⟨vb,rest,rfl,rfl,hvl,hmc,hcm⟩:∃b rest,p=some ⟨b,0,none⟩∧ch=[(b,row (fcells (held.map (·.1))++rest) 27)]∧cap*4≤(fcells (held.map (·.1))).length+rest.length∧held.length≤cap∧cap≤maxLen:=by
  rcases hV.2 with⟨_,e,_⟩|hh
  ·omega
  ·exact hh
 have hVl:=hV.1
 refine Ct.intro Tryz.func44 rfl Tryz.ntmps44 (nle rfl) fun w0=> ?_;dsimp only[argSlots,Nat.reduceAdd]
 repeat(first|(refine st ?_;intros)|refine G.draw [] (h:= ?_))
 refine R.call (hct:=hS) (h:= ?_)
 rintro _ _ ⟨g,e,Hc',rfl,rfl,hQ⟩
 try dsimp only[List.cons_append,List.nil_append]
 have hgv:flv g= .agg #[.int .i64 (g.first:Int),.int .i64 (g.blocks:Int),.int .i64 (g.width:Int),.int .i64 (g.count:Int)]:=rfl
 rw[hgv]
 by_cases he:e=0
 ·subst he
  generalize hcells:fcells (held.map (·.1))++rest=cells at*
  have hclen:cap*4≤cells.length:=by rw[←hcells,List.length_append];exact hvl
  repeat(first|(refine st ?_;intros)|refine G.draw [] (h:= ?_))
  rename_i b5 b6 b8 b9
  refine G.loop (X:=Nat) (fun i=>i≤held.length∧∀j x,j<i→held[j]? =some x→x.1≠f)
   (fun i=>[(42,.int .i64 (i:Int)),(41,.int .i64 (held.length:Int)),(40,.slice (some ⟨vb,0,none⟩) held.length cap),(9,pv b9),(8,pv b8),(5,pv b5),(0,pv bj)])
   (fun _=>[[(b9,row [.int .i64 (g.first:Int),.int .i64 (g.blocks:Int),.int .i64 (g.width:Int),.int .i64 (g.count:Int)] 27)],[(b8,row [.int .i64 0,.int .i64 0,.int .i64 0,.int .i64 0] 27)],[(b5,row [.int .i64 (f.first:Int),.int .i64 (f.blocks:Int),.int .i64 (f.width:Int),.int .i64 (f.count:Int)] 27)],
    [(bj,row [pv bw,.int .i64 0,.slice (some ⟨vb,0,none⟩) held.length cap] 95)],[(vb,row cells 27)],Hc']) (fun i=>held.length-i) 0 ⟨Nat.zero_le _,fun j x h=>by omega⟩ (body:= ?_)
  rintro i ⟨hi,hno⟩
  by_cases hlt:i<held.length
  ·have hli:held[i]? =some held[i]:=List.getElem?_eq_getElem hlt
   have hget:=fc_get (rest:=rest) hli
   rw[hcells] at hget
   generalize hx:held[i]=x at*
   obtain⟨⟨x1,x2,x3,x4⟩,us⟩:=x
   obtain⟨f1,f2,f3,f4⟩:=f
   dsimp only at*
   by_cases hxf:x1=f1∧x2=f2∧x3=f3∧x4=f4
   ·obtain⟨rfl,rfl,rfl,rfl⟩:=hxf
    have hset:setL cells (i*4) [.int .i64 (g.first:Int),.int .i64 (g.blocks:Int),.int .i64 (g.width:Int),.int .i64 (g.count:Int)]=fcells ((held.map (·.1)).set i g)++rest:=by
     rw[←hcells];exact setL_f _ i g rest (by simpa using hlt)
    generalize hc2:fcells ((held.map (·.1)).set i g)++rest=cells2 at*
    repeat(first|(refine st ?_;intros)|refine G.draw [] (h:= ?_))
    (refine Dn.post (Hr:=[[(bj,row [pv bw,.int .i64 0,.slice (some ⟨vb,0,none⟩) held.length cap] 95)],[(vb,row cells2 27)],Hc']) Tryz.results44 (hR:= ?_);refine⟨g,0,Hc',hQ,.inl ⟨rfl,rfl,i,_,us,hli,rfl,fun ts'=> ?_⟩⟩)
    rw[List.map_set]
    refine Vec.mk' hc2.symm (by rw[fcells_length];simp) ?_ hmc hcm
    rw[←hset,length_setL];exact hclen
   ·repeat(first|(refine st ?_;intros)|refine G.draw [] (h:= ?_))
    refine Dn.round (i+1) ⟨by omega,fun j y hj hy=> ?_⟩ (by omega)
    by_cases hji:j=i
    ·subst hji
     rw[hli] at hy
     simp only[Option.some.injEq] at hy
     subst hy
     intro h0
     simp only[Fl.mk.injEq] at h0
     exact hxf h0
    ·exact hno j y (by omega) hy
  ·exfalso
   obtain⟨j,hj,he⟩:=List.getElem_of_mem hf
   exact hno j _ (by omega) (List.getElem?_eq_getElem hj) (by rw[he])
 ·repeat(first|(refine st ?_;intros)|refine G.draw [] (h:= ?_))
  (refine Dn.post (Hr:=[[(bj,row [pv bw,.int .i64 e,.slice (some ⟨vb,0,none⟩) held.length cap] 95)],[(vb,row (fcells (held.map (·.1))++rest) 27)],Hc']) Tryz.results44 (hR:= ?_);exact⟨g,e,Hc',hQ,.inr ⟨he,rfl,rfl⟩⟩)
theorem FileOk.in_ {d d':Nat→Option (List Int)} {s:Nat} {f:Fl} {ts:List T5} {live:List Ext} (h:FileOk d s [f.ext] f ts) (hm:f.blocks≠0→f.ext∈live) (hk:∀x,inF live x→d' x=d x):FileOk d' s [f.ext] f ts:=by
 by_cases hb:f.blocks=0
 ·exact{h with onto:=fun j hj=>by omega}
 ·refine h.keep fun x ⟨e,he,h2⟩=>hk x ⟨e,?_,h2⟩
  simp only[List.mem_singleton] at he;subst he
  exact hm hb
theorem set_split {α:Type} {l:List α} {i:Nat} {x:α} (h:l[i]? =some x):∃l1 l2,l=l1++x::l2∧∀y,l.set i y=l1++y::l2:=by
 induction l generalizing i with
 |nil=>simp at h
 |cons a l ih=>
  cases i with
  |zero=>simp only[List.getElem?_cons_zero,Option.some.injEq] at h;subst h;exact⟨[],l,rfl,fun y=>rfl⟩
  |succ i=>
   obtain⟨l1,l2,h1,h2⟩:=ih (i:=i) (by simpa using h)
   exact⟨a::l1,l2,by rw[h1];rfl,fun y=>by rw[List.set_cons_succ,h2];rfl⟩
theorem JobW.uniq {p:Jp} {J:Jb} {held:List (Fl×List T5)} {W:Wk} {cd ca cs:Chunk} (h:JobW p J held W) (hW:Wc p.bd p.ba p.bs W cd ca cs) {f:Fl} {ts us:List T5} {l1 l2:List (Fl×List T5)} (he:held=l1++(f,us)::l2) (hm:(f,ts)∈held):us=ts:=by
 obtain⟨⟨hs1,_⟩,_⟩:=hW.dev.num
 have h1:=h.files _ hm
 have h2:=h.files (f,us) (by rw[he];simp)
 by_cases hb:f.blocks=0
 ·have h3:=h1.blk
  have hh:1≤holds p.size f.width:=by rw[←h.size];exact holds_pos hs1 h1.w1 h1.w2
  dsimp only at h3
  unfold nblocks at h3
  rw[hb] at h3
  have h4:f.count+holds p.size f.width-1<holds p.size f.width:=by
   rcases Nat.div_eq_zero_iff.1 h3.symm with h|h<;>omega
  have h5:f.count=0:=by omega
  have h6:=h1.len;have h7:=h2.len
  dsimp only at h6 h7
  rw[List.length_eq_zero_iff.1 (by omega:ts.length=0),List.length_eq_zero_iff.1 (by omega:us.length=0)]
 ·by_cases hu:us=ts
  ·exact hu
  ·exfalso
   have hm2:(f,ts)∈l1++l2:=by
    rw[he] at hm
    simp only[List.mem_append,List.mem_cons,Prod.mk.injEq] at hm⊢
    rcases hm with hm|⟨_,hm⟩|hm
    ·exact .inl hm
    ·exact absurd hm.symm hu
    ·exact .inr hm
   have h3:W.live.Perm (f.ext::addFs ((l1++l2).map (·.1)) p.L0):=by
    refine h.live.trans ?_
    have h4:(held.map (·.1)).Perm (f::(l1++l2).map (·.1)):=by rw[he];simp
    refine(addFs_perm h4 _).trans ((addFs_cons _ _ _).trans ?_)
    unfold addF;rw[if_neg hb]
   have h5:=hW.live.perm h3
   have h6:f.ext∈addFs ((l1++l2).map (·.1)) p.L0:=addFs_ext (List.mem_map.2 ⟨_,hm2,rfl⟩) hb
   have h7:=List.rel_of_pairwise_cons h5.apart h6
   have h8:f.ext.2=f.blocks:=rfl
   omega
theorem jobC_perm {p:Jp} {e:Int} {cd ca cs:Chunk} {ph:Option Addr} {n cap:Nat} {ch:Chunk}:([jobC p e cd ca cs ph n cap ch]:Hp).flatten.Perm ([jrow p.bj p.bw e ph n cap,ch,[wrow p.bw p.bd p.ba p.bs,cd,ca,cs].flatten]:Hp).flatten:=by
 unfold jobC;refine permC fun z=> ?_;simp only[List.flatten_cons,List.flatten_nil,List.append_nil,List.count_append];omega
theorem JSort (p:Jp) (hp:p.Ok) (J:Jb) (C:Chunk) (hJ:JobC p J C) (f:Fl) (ts:List T5) (G':List (Fl×List T5)) (o:T5) (ho:formed o=true) (once:Bool) (A T:Nat)
  (hG:J.e=0→J.G.Perm ((f,ts)::G')) (hT:J.e=0→sortT f.blocks≤T) (hroom:J.e=0→Fits p J T) (hA:J.e=0→sortA f.blocks≤A) (hac:J.acts+A≤1000000000) (hcn:f.count≤100000):
  Ct Tryz.prog 44 [pv p.bj,flv f,tv o,.bool once] [C] fun v H'=>
   ∃g C' e',v=flv g∧H'=[C']∧JobC p ⟨e',J.er,(g,srt (ltO o) once ts)::G',J.acts+A,J.took+T⟩ C'∧
    (e'=0→J.e=0∧g.width=f.width∧g.count=(srt (ltO o) once ts).length)∧g.count≤f.count∧g.blocks≤f.blocks:=by
 obtain⟨W,cd,ca,cs,held,ph,cap,ch,rfl,hW,hV,hJW⟩:=hJ
 by_cases he:J.e=0
 ·have hus:=hJW.used hp hW
  have hok:=hJW.ok he
  have hmem:(f,ts)∈held:=hok.1.mem_iff.2 ((hG he).mem_iff.2 List.mem_cons_self)
  obtain⟨k1,k2,hk⟩:=List.append_of_mem hmem
  have hlv:W.live.Perm (addF f (addFs ((k1++k2).map (·.1)) p.L0)):=by
   refine hJW.live.trans ((addFs_perm (b:=f::(k1++k2).map (·.1)) ?_ _).trans (addFs_cons _ _ _))
   rw[hk];simp
  have hfo:=hJW.files _ hmem
  rw[←hJW.size] at hfo
  have hS:=Sort_u p.bw p.bd p.ba p.bs W cd ca cs hW f ts _ hfo hlv o ho once (by omega) (by have:=hJW.acts;omega) hcn
  have hS2:Ct Tryz.prog 83 [pv p.bw,flv f,tv o,.bool once] [[wrow p.bw p.bd p.ba p.bs,cd,ca,cs].flatten] fun v H'=>∃g e Hc',v= .tuple #[flv g,.int .i64 e]∧H'=[Hc']∧
    ∃cd' ca' cs' W',Hc'=[wrow p.bw p.bd p.ba p.bs,cd',ca',cs'].flatten∧Wc p.bd p.ba p.bs W' cd' ca' cs'∧Ev W W' (sortA f.blocks) (sortT f.blocks)∧W'.α.gs.Perm W.α.gs∧Keep (addFs ((k1++k2).map (·.1)) p.L0) W W'∧
    ((e=0∧W'.live.Perm (addF g (addFs ((k1++k2).map (·.1)) p.L0))∧g.width=f.width∧g.count≤f.count∧FileOk W'.δ.disk W.δ.size [g.ext] g (srt (ltO o) once ts))∨
     (e=6∧g=⟨0,0,0,0⟩∧W.δ.fault≠-1∧W'.live.Perm W.live∧Keep W.live W W')):=by
   refine Ct.convP hS (by simp) ?_
   rintro v H' ⟨cd',ca',cs',W',rfl,hW',hE',hg',hK',hc⟩
   rcases hc with⟨g,out,rfl,h1,h2,h3,h4,h5,h6⟩|⟨rfl,h1,_⟩|⟨rfl,h1,h2,h3⟩
   ·rw[srt_is (ltO_swo o) h5 h6] at h4
    exact⟨[[wrow p.bw p.bd p.ba p.bs,cd',ca',cs'].flatten],⟨g,0,_,rfl,rfl,cd',ca',cs',W',rfl,hW',hE',hg',hK',.inl ⟨rfl,h1,h2,h3,h4⟩⟩,by simp⟩
   ·have:=hJW.big hW he (hroom he);have:=hT he;omega
   ·exact⟨[[wrow p.bw p.bd p.ba p.bs,cd',ca',cs'].flatten],⟨⟨0,0,0,0⟩,6,_,rfl,rfl,cd',ca',cs',W',rfl,hW',hE',hg',hK',.inr ⟨rfl,rfl,h1,h2,h3⟩⟩,by simp⟩
  have hY:=JSort_yes p.bj p.bw ph cap held ch hV (by have:=hJW.len;omega) f ts hmem o once _ _ hS2
  rw[he]
  refine Ct.convP hY jobC_perm ?_
  rintro v H' ⟨g,e,Hc',⟨cd',ca',cs',W',rfl,hW',hE',hg',hK',hc⟩,hv⟩
  have hacts:W'.δ.acts≤J.acts+A:=by have:=hE'.acts.2;have:=hJW.acts;have:=hA he;omega
  have htk:p.b0≤big W'.σ.free+(J.took+T):=by have:=hE'.big;have:=hJW.tk;have:=hT he;omega
  have hk0:Keep p.L0 W W':=hK'.sub fun e he=>addFs_mem he
  have hkeep0:∀x,inF p.L0 x→W'.δ.disk x=p.D0 x:=fun x hx=>(hk0 x hx).trans (hJW.keep x hx)
  rcases hv with⟨rfl,rfl,i,ch',us,hi,rfl,hV'⟩|⟨hne,rfl,rfl⟩
  ·rcases hc with⟨_,c1,c2,c3,c4⟩|⟨h0,_⟩
   ·obtain⟨l1,l2,e1,e2⟩:=set_split hi
    obtain rfl:=hJW.uniq hW e1 hmem
    have hrest:(k1++k2).Perm (l1++l2):=by
     have h1:(k1++(f,us)::k2).Perm (l1++(f,us)::l2):=by rw[←hk,←e1]
     exact((List.perm_middle.symm.trans h1).trans List.perm_middle).cons_inv
    have hbl:g.blocks≤f.blocks:=by rw[c4.blk,hfo.blk,c2];exact nblocks_mono c3
    have hGp:G'.Perm (l1++l2):=by
     have h1:=(hok.1.trans (hG he))
     rw[e1] at h1
     exact(h1.symm.trans List.perm_middle).cons_inv
    refine⟨[jobC p 0 cd' ca' cs' ph held.length cap ch'],⟨g,_,0,rfl,rfl,⟨W',cd',ca',cs',held.set i (g,srt (ltO o) once us),ph,cap,ch',by rw[List.length_set],hW',by rw[List.length_set];exact hV' _,?_⟩,fun _=>⟨rfl,c2,c4.len.symm⟩,c3,hbl⟩,jobC_perm.symm⟩
    rw[e2]
    refine⟨hg'.trans hJW.gs,hE'.room.trans hJW.room,hE'.size.trans hJW.size,hE'.n.trans hJW.n,?_,?_,?_,hkeep0,fun hf=>hE'.fault (hJW.flt hf),hacts,htk,fun _=>⟨?_,hok.2⟩,fun h0=>absurd rfl h0⟩
    ·refine c1.trans ?_
     have h1:((l1++(g,srt (ltO o) once us)::l2).map (·.1)).Perm (g::(k1++k2).map (·.1)):=by
      refine(List.perm_middle.map _).trans ?_
      exact(hrest.symm.map _).cons _
     exact((addFs_perm h1 _).trans (addFs_cons _ _ _)).symm
    ·intro x hx
     have hx2:x=(g,srt (ltO o) once us)∨x∈l1++l2:=by
      simp only[List.mem_append,List.mem_cons] at hx⊢
      rcases hx with h|h|h
      ·exact .inr (.inl h)
      ·exact .inl h
      ·exact .inr (.inr h)
     rcases hx2 with rfl|hx2
     ·rw[←hJW.size];exact c4
     ·have h1:=hJW.files x (by rw[e1];simp only[List.mem_append,List.mem_cons] at hx2⊢;rcases hx2 with h|h;exact .inl h;exact .inr (.inr h))
      exact h1.in_ (fun hb=>addFs_ext (List.mem_map.2 ⟨x,hrest.mem_iff.2 hx2,rfl⟩) hb) hK'
    ·have:=hJW.len;rw[e1] at this;simpa using this
    ·exact List.perm_middle.trans (hGp.symm.cons _)
   ·omega
  ·rcases hc with⟨h0,_⟩|⟨rfl,rfl,c1,c2,c3⟩
   ·exact absurd h0 hne
   ·refine⟨[jobC p 6 cd' ca' cs' ph held.length cap ch],⟨⟨0,0,0,0⟩,_,6,rfl,rfl,⟨W',cd',ca',cs',held,ph,cap,ch,rfl,hW',hV,?_⟩,fun h0=>absurd h0 (by decide),Nat.zero_le _,Nat.zero_le _⟩,jobC_perm.symm⟩
    refine⟨hg'.trans hJW.gs,hE'.room.trans hJW.room,hE'.size.trans hJW.size,hE'.n.trans hJW.n,c2.trans hJW.live,?_,hJW.len,hkeep0,fun hf=>hE'.fault (hJW.flt hf),hacts,htk,fun h0=>absurd (show(6:Int)=0 from h0) (by decide),fun _=> .inl ⟨rfl,?_⟩⟩
    ·intro x hx
     exact(hJW.files x hx).in_ (fun hb=>hJW.live.mem_iff.2 (addFs_ext (List.mem_map.2 ⟨x,hx,rfl⟩) hb)) c3
    ·by_cases hf:p.fl
     ·exact hf
     ·exact absurd (hJW.flt hf) c1
 ·have hM2:=Ct.wide (JSort_no p.bj p.bw J.e he ph held.length cap f o once) [wrow p.bw p.bd p.ba p.bs,cd,ca,cs,ch]
  refine Ct.convP hM2 (by unfold jobC;refine permC fun z=> ?_;simp only[List.flatten_cons,List.flatten_nil,List.append_nil,List.flatten_append,List.count_append];omega) ?_
  rintro v H' ⟨H1,⟨rfl,rfl⟩,rfl⟩
  refine⟨[jobC p J.e cd ca cs ph held.length cap ch],⟨⟨0,0,0,0⟩,_,J.e,rfl,rfl,⟨W,cd,ca,cs,held,ph,cap,ch,rfl,hW,hV,?_⟩,fun h0=>absurd h0 he,Nat.zero_le _,Nat.zero_le _⟩,?_⟩
  ·have:=hJW.idle he none ((⟨0,0,0,0⟩,srt (ltO o) once ts)::G') A T
   have h2:J.er.or none=J.er:=by cases J.er<;>rfl
   rw[h2] at this
   exact this
  ·unfold jobC;refine permC fun z=> ?_;simp only[List.flatten_cons,List.flatten_nil,List.append_nil,List.flatten_append,List.count_append];omega
end Go.Proofs.YtammjnjpheobaaaGreat
