/-
  Parts of the proof, put together (7). No condition.
-/
import Derived.Test.YtammjnjpheobaaaGreatL6
set_option linter.unusedVariables false
set_option linter.unusedSimpArgs false
set_option linter.unnecessarySimpa false
set_option maxHeartbeats 4000000
open Go.IntKind renaming wrap→AH
open Go.Proofs.Tryz renaming prog→AC
open List renaming cons_append→AA,nil_append→AB,getElem?_eq_getElem→AE,length_append→AF,mem_cons_self→AI,mem_cons_of_mem→AJ,getElem?_eq_some_iff→AK,length_cons→AL,mem_cons→AM,getD_eq_getElem?_getD→AN,mem_append→AO,append_nil→AQ,append_assoc→AR,mem_map→AT,length_nil→AU,map_append→AV,mem_singleton→AY,mem_of_getElem?→AZ,map_cons→A0,getElem?_append_left→A7,getElem?_append_right→BB,length_take→BK,mem_append_right→BL,drop_eq_getElem_cons→BM,take_add_one→BN,mem_append_left→BO,getElem?_drop→BS,take_append_drop→BT,perm_middle→B0,getElem_mem→B4,nodup_append→B5,nodup_cons→CB,singleton_append→CH,length_singleton→CM,getElem_of_mem→CQ,sum_append→CT,sum_cons→DB,map_nil→DY,take_length→D9,filter_eq_nil_iff→ED
open List.Pairwise renaming nil→DU
open List.Perm renaming swap→CO
open Nat renaming reduceAdd→AD,le_refl→AG,zero_le→AS,succ_mul→BD,zero_add→BR,div_le_div_right→BY,div_le_self→CU,add_sub_cancel→DH
namespace Go.Proofs.YtammjnjpheobaaaGreat
open Go.SL Go.Spc Go.Tup
structure EachR (K:Type) where
 k:K
 ps:List T5
 cx:aAc
 cb:aAc
 op:Bool
def aBx (W:Wk) (x:Fl×List T5):Prop:=∃Lv,aAq W.δ.disk W.δ.size Lv x.1 x.2∧∀e∈Lv,e∈W.live
theorem aDm.mem {first nb:Nat} {Lv live:List Ext} (h:aDm first nb Lv live) {e:Ext} (he:e∈Lv):e∈live:=by
 unfold aDm at h
 split at h
 ·exact h.mem_iff.2 he
 ·exact h.mem_iff.2 (AJ _ he)
def aOg {K:Type} (M:aAt K) (W0:Wk) (k0:K) (ps0 ts:List T5) (bw bx first width bound size κ:Nat) (g:Gr) (Lv:List Ext) (cc:Hp):Seer (EachR K) where
 own r:=if r.op then[g] else[]
 C r:=(r.cx::r.cb::(cc++[(M.C r.k).flatten])).flatten
 J W r i:=r.op=true∧aIa bw bx W first (aAb size width bound) width bound g r.ps r.cx r.cb∧aDm first (aAb size width bound) Lv W.live∧aBr Lv W0 W∧(W0.δ.fault= -1→W.δ.fault= -1)∧
  r.k=M.st k0 (ts.take i)∧r.ps=ps0++M.all k0 (ts.take i)∧M.bad k0 (ts.take i)=none
 B W r e:=aBr Lv W0 W∧((r.op=true∧aDm first (aAb size width bound) Lv W.live∧∃ps,aIa bw bx W first (aAb size width bound) width bound g ps r.cx r.cb)∨(r.op=false∧aDy bx r.cx∧W.live.Perm Lv))∧
  ((e=6∧W0.δ.fault≠-1)∨∃n:Nat,M.bad k0 ts=some n∧n≠0∧e=(n:Int))
 κ:=κ
theorem bIn {K:Type} (M:aAt K) (W0:Wk) (k0:K) (ps0 ts:List T5) (bw bx first width bound size κ:Nat) (g:Gr) (Lv:List Ext) (cc:Hp):(aOg M W0 k0 ps0 ts bw bx first width bound size κ g Lv cc).Ok where
 stay:=by
  rintro W W' r i ⟨h0,h1,h2,h3,h4,h5⟩ hs hd _ hl hf
  exact⟨h0,h1.move hs (fun x _ _=>by rw[hd]),by rw[hl];exact h2,fun x hx=>by rw[hd];exact h3 x hx,fun e=>hf (h4 e),h5⟩
 flt:=by
  rintro W W' r i ⟨h0,h1,h2,h3,h4,h5⟩ hf hd _ hl
  have e1:W'.δ.disk=W.δ.disk:=by rw[hd];rfl
  exact⟨fun x hx=>by rw[e1];exact h3 x hx,.inl ⟨h0,by rw[hl];exact h2,r.ps,h1.move (by rw[hd];rfl) (fun x _ _=>by rw[e1])⟩,.inl ⟨rfl,fun e=>by have:=h4 e;omega⟩⟩
 stayB:=by
  rintro W α r e ⟨h1,h2,h3⟩
  refine⟨h1,?_,h3⟩
  rcases h2 with⟨a,b,ps,c⟩|⟨a,b,c⟩
  ·exact .inl ⟨a,b,ps,c.move rfl (fun _ _ _=>rfl)⟩
  ·exact .inr ⟨a,b,c⟩
theorem aKr (A B D:Hp) (m:aAc):(A++[(D++(B++[m])).flatten]).flatten.Perm ((B++[(A++D).flatten,m]).flatten):=by
 classical
 refine List.perm_iff_count.2 fun z=> ?_
 simp only[List.flatten_append,List.flatten_cons,List.flatten_nil,AQ,List.count_append]
 omega
theorem putter (bw bd ba bs bx first width bound:Nat) (g:Gr) (base:List Gr) (Lv:List Ext) (W:Wk) (n0 nn:Nat) (hs:1≤aAf W.δ.size width) (hn:n0+nn≤bound) (hac:W.δ.acts+nn≤1000000000000):
  bDv bx width (fun ps X=>∃cd ca cs cx cb W1,X=[aAh bw bd ba bs,cd,ca,cs,cx,cb].flatten∧Wc bd ba bs W1 cd ca cs∧W1.α.gs.Perm (g::base)∧aIa bw bx W1 first (aAb W.δ.size width bound) width bound g ps cx cb∧aDm first (aAb W.δ.size width bound) Lv W1.live∧
    aBr Lv W W1∧n0≤ps.length∧ps.length≤n0+nn∧Ev W W1 (ps.length-n0) 0)
   (fun X=>∃cd ca cs cx cb W1,X=[aAh bw bd ba bs,cd,ca,cs,cx,cb].flatten∧Wc bd ba bs W1 cd ca cs∧W1.α.gs.Perm base∧W1.live.Perm Lv∧aDy bx cx∧aBr Lv W W1∧Ev W W1 nn 0∧W.δ.fault≠-1) (n0+nn):=by
 rintro ps X t ⟨cd,ca,cs,cx,cb,W1,rfl,hW,hg,hw,hl,hK,h1,h2,hE⟩ ht hlt
 have hacts:=hE.acts.2
 have hP:=bId bw bd ba bs W1 cd ca cs hW bx first _ width bound g ps cx cb hw base hg Lv hl (by omega) t ht (by omega)
 refine Ct.convP hP (by simp) ?_
 rintro v H' ⟨cd',ca',cs',W',cx',cb',rfl,hW',hE',hK',hc⟩
 have hE1:Ev W1 W' 1 0:=hE'.weak (by
  have h2:(ps.length+1)/aAf W1.δ.size width≤ps.length/aAf W1.δ.size width+1:=by
   rw[hE.size]
   calc (ps.length+1)/aAf W.δ.size width≤(ps.length+aAf W.δ.size width)/aAf W.δ.size width:=BY (by omega)
    _=ps.length/aAf W.δ.size width+1:=Nat.add_div_right _ (by omega)
  omega) (AG _)
 refine⟨[[aAh bw bd ba bs,cd',ca',cs',cx',cb'].flatten],⟨_,rfl,?_⟩,by simp⟩
 rcases hc with⟨rfl,e1,e2,e3,e4⟩|⟨rfl,e1,e2,e3,e4,e5⟩
 ·exact .inl ⟨rfl,cd',ca',cs',cx',cb',W',rfl,hW',by rw[e1];exact hg,e4,by rw[e3];exact hl,hK.trans hK',by simp;omega,by simp;omega,(hE.trans hE1).weak (by simp;omega) (AG _)⟩
 ·refine .inr ⟨rfl,cd',ca',cs',cx',cb',W',rfl,hW',e3,e4,e5,hK.trans hK',(hE.trans hE1).weak (by omega) (AG _),fun hf=> ?_⟩
  have:=hE.fault hf
  omega
theorem bEo {K:Type} (M:aAt K) (W0:Wk) (k0:K) (ps0 ts:List T5) (bw bd ba bs bx bm bx2 first width bound size room κ:Nat) (g:Gr) (Lv:List Ext) (f:Fl) (mk:Nat) (hcal:Callable AC mk) (fs us:List Value) (ok:K→T5→Prop) (hM:aGi M width ok mk fs us)
  (hκ:∀k t,ok k t→(M.outs k t).length≤κ) (hok:M.oks ok k0 ts) (hbd:ps0.length+(M.all k0 ts).length≤bound) (hh:1≤aAf size width) (hκb:κ≤1000000000):
  SeeCt bw bd ba bs (aOg M W0 k0 ps0 ts bw bx first width bound size κ g Lv (aUh bm bx2 mk fs us bx)) size room f ts 126 [] [pv bm,pv bx2]:=by
 rintro base W cd ca cs r i t hW hg hrm hsz ⟨hop,hwr,hl,hK,hflt,hk,hps,hbad⟩ ht hac
 have hokt:ok r.k t:=by rw[hk];exact aAt.oks_at hok hbad ht
 have hlen:r.ps.length+(M.outs r.k t).length≤bound:=by
  have h1:=aAt.all_le (M:=M) (ts:=ts) (k:=k0) (i+1)
  rw[aAt.take_succ ht,aAt.all_app,AF,←hk] at h1
  simp only[aAt.all,AQ] at h1
  rw[hps,AF]
  omega
 have hκt:=hκ r.k t hokt
 simp only[aOg,hop,if_true,CH] at hg
 have hP:=putter bw bd ba bs bx first width bound g base Lv W r.ps.length (M.outs r.k t).length (by rw[hsz];exact hh) hlen (by omega)
 rw[hsz] at hP
 have hC:=bMj M width ok mk hcal fs us hM bm bx2 bx _ _ _ hP r.ps ([aAh bw bd ba bs,cd,ca,cs,r.cx,r.cb].flatten) r.k t
  ⟨cd,ca,cs,r.cx,r.cb,W,rfl,hW,hg,hwr,hl,aBr.refl _ _,AG _,by omega,by simpa using Ev.refl W⟩ hokt (AG _)
 refine Ct.convP hC ?_ ?_
 ·exact aKr [aAh bw bd ba bs,cd,ca,cs] (aUh bm bx2 mk fs us bx) [r.cx,r.cb] _
 rintro v H' ⟨X',k',rfl,hc⟩
 rcases hc with⟨rfl,herr,rfl,cd',ca',cs',cx',cb',W',rfl,hW',hg',hw',hl',hK',h1,h2,hE'⟩|⟨rfl,cd',ca',cs',cx',cb',W',rfl,hW',hg',hl',hx',hK',hE',hf'⟩|⟨n,herr,hn,rfl,ps',cd',ca',cs',cx',cb',W',rfl,hW',hg',hw',hl',hK',h1,h2,hE'⟩
 ·refine⟨_,⟨cd',ca',cs',W',⟨_,r.ps++M.outs r.k t,cx',cb',true⟩,0,rfl,rfl,hW',hE'.weak (by simp[aOg];omega) (AG _),hg',fun _=>⟨rfl,hw',hl',hK.trans hK',fun e=>hE'.fault (hflt e),?_,?_,?_⟩,fun h=>absurd rfl h⟩,(aKr [aAh bw bd ba bs,cd',ca',cs'] (aUh bm bx2 mk fs us bx) [cx',cb'] _).symm⟩
  ·rw[aAt.take_succ ht,aAt.st_app,←hk];rfl
  ·rw[aAt.take_succ ht,aAt.all_app,←hk,←AR,←hps];simp[aAt.all]
  ·rw[aAt.take_succ ht,aAt.bad_app,hbad,←hk];simp[aAt.bad,herr]
 ·refine⟨_,⟨cd',ca',cs',W',⟨k',[],cx',cb',false⟩,6,rfl,rfl,hW',hE'.weak hκt (AG _),hg',fun h=>by omega,fun _=>⟨hK.trans hK',.inr ⟨rfl,hx',hl'⟩,.inl ⟨rfl,fun e=>hf' (hflt e)⟩⟩⟩,(aKr [aAh bw bd ba bs,cd',ca',cs'] (aUh bm bx2 mk fs us bx) [cx',cb'] _).symm⟩
 ·refine⟨_,⟨cd',ca',cs',W',⟨k',ps',cx',cb',true⟩,n,rfl,rfl,hW',hE'.weak (by simp[aOg];omega) (AG _),hg',fun h=>by omega,fun _=>⟨hK.trans hK',.inl ⟨rfl,hl',ps',hw'⟩,.inr ⟨n,?_,hn,rfl⟩⟩⟩,(aKr [aAh bw bd ba bs,cd',ca',cs'] (aUh bm bx2 mk fs us bx) [cx',cb'] _).symm⟩
  apply aAt.bad_take (i:=i+1)
  rw[aAt.take_succ ht,aAt.bad_app,hbad,←hk];simp[aAt.bad,herr]
theorem aXa (bw bd ba bs:Nat) {K:Type} (M:aAt K) (k0:K) (ps0:List T5) (W:Wk) (cd ca cs:aAc) (h:Wc bd ba bs W cd ca cs) (bx bm bx2 first width bound κ:Nat) (g:Gr) (base:List Gr) (Lv:List Ext) (cx cb:aAc) (hg:W.α.gs.Perm (g::base))
  (hw:aIa bw bx W first (aAb W.δ.size width bound) width bound g ps0 cx cb) (hl:aDm first (aAb W.δ.size width bound) Lv W.live) (f:Fl) (ts:List T5) (LvF:List Ext) (hfo:aAq W.δ.disk W.δ.size LvF f ts) (hsub:∀e∈LvF,e∈Lv)
  (mk:Nat) (hcal:Callable AC mk) (fs us:List Value) (ok:K→T5→Prop) (hM:aGi M width ok mk fs us) (hκ:∀k t,ok k t→(M.outs k t).length≤κ) (hκb:κ≤10000) (hok:M.oks ok k0 ts) (hbd:ps0.length+(M.all k0 ts).length≤bound) (hwd:1≤width) (hwd2:width≤5)
  (hr:W.δ.size≤W.α.room-W.α.used) (hac:W.δ.acts≤10000000000) (hcn:f.count≤1000000):
  Ct AC 90 [pv bw,flv f,.func (.func 126) #[] #[pv bm,pv bx2]] [aAh bw bd ba bs,cd,ca,cs,cx,cb,[(bm,row [.func (.func mk) fs.toArray us.toArray] 88)],[(bx2,row [pv bx] 120)],(M.C k0).flatten] fun v H'=>
   ∃cd' ca' cs' W' k' cx' cb' e,v= .int .i64 e∧H'=[aAh bw bd ba bs,cd',ca',cs',cx',cb',[(bm,row [.func (.func mk) fs.toArray us.toArray] 88)],[(bx2,row [pv bx] 120)],(M.C k').flatten]∧
    Wc bd ba bs W' cd' ca' cs'∧Ev W W' (f.blocks+f.count*κ) 0∧aBr Lv W W'∧
    ((e=0∧W'.α.gs.Perm (g::base)∧aDm first (aAb W.δ.size width bound) Lv W'.live∧aIa bw bx W' first (aAb W.δ.size width bound) width bound g (ps0++M.all k0 ts) cx' cb'∧k'=M.st k0 ts∧M.bad k0 ts=none)∨
     (e≠0∧((W'.α.gs.Perm (g::base)∧aDm first (aAb W.δ.size width bound) Lv W'.live∧∃ps,aIa bw bx W' first (aAb W.δ.size width bound) width bound g ps cx' cb')∨(W'.α.gs.Perm base∧W'.live.Perm Lv∧aDy bx cx'))∧
      ((e=6∧W.δ.fault≠-1)∨∃n:Nat,M.bad k0 ts=some n∧e=(n:Int)))):=by
 obtain⟨⟨hs1,hs2⟩,_⟩:=h.dev.num
 have hh:=aAj hs1 hwd hwd2
 have hnb:=aAv (n:=f.count) (aAj hs1 hfo.w1 hfo.w2)
 have hmk:f.count*κ≤1000000*10000:=Nat.mul_le_mul hcn hκb
 have hO:=bDu bw bd ba bs (aOg M W k0 ps0 ts bw bx first width bound W.δ.size κ g Lv (aUh bm bx2 mk fs us bx)) (bIn M W k0 ps0 ts bw bx first width bound W.δ.size κ g Lv _) f ts LvF 126 inferInstance [] [pv bm,pv bx2] W.δ.size W.α.room
  (bEo M W k0 ps0 ts bw bd ba bs bx bm bx2 first width bound W.δ.size W.α.room κ g Lv f mk hcal fs us ok hM hκ hok hbd hh (by omega)) W cd ca cs h ⟨k0,ps0,cx,cb,true⟩ base hg rfl rfl
  ⟨rfl,hw,hl,aBr.refl _ _,id,by simp[aAt.st],by simp[aAt.all],by simp[aAt.bad]⟩ (fun W' r i hJ=>⟨hfo.keep (fun x ⟨e,he,h2⟩=>hJ.2.2.2.1 x ⟨e,hsub e he,h2⟩),fun e he=>hJ.2.2.1.mem (hsub e he)⟩) hr (by show _+_+_*κ≤_;omega) hcn
 refine Ct.convP hO (by simp[aOg,aUh]) ?_
 rintro v H' ⟨cd',ca',cs',W',r',e,rfl,rfl,hW',hE',hg',hJ,hB⟩
 refine⟨[aAh bw bd ba bs,cd',ca',cs',r'.cx,r'.cb,[(bm,row [.func (.func mk) fs.toArray us.toArray] 88)],[(bx2,row [pv bx] 120)],(M.C r'.k).flatten],⟨cd',ca',cs',W',r'.k,r'.cx,r'.cb,e,rfl,rfl,hW',?_,?_⟩,by simp[aOg,aUh]⟩
 ·rw[hfo.blk];exact hE'
 by_cases he:e=0
 ·obtain⟨h0,h1,h2,h3,_,h5,h6,h7⟩:=hJ he
  have htk:ts.take f.count=ts:=by rw[←hfo.len,D9]
  rw[htk] at h5 h6 h7
  simp only[aOg,h0,if_true,CH] at hg'
  exact⟨h3,.inl ⟨he,hg',h2,by rw[←h6];exact h1,h5,h7⟩⟩
 ·obtain⟨h1,h2,h3⟩:=hB he
  refine⟨h1,.inr ⟨he,?_,?_⟩⟩
  ·rcases h2 with⟨a,b,c⟩|⟨a,b,c⟩
   ·simp only[aOg,a,if_true,CH] at hg'
    exact .inl ⟨hg',b,c⟩
   ·simp only[aOg,a,AB] at hg'
    exact .inr ⟨by simpa using hg',c,b⟩
  ·rcases h3 with h3|⟨n,a,_,b⟩
   ·exact .inl h3
   ·exact .inr ⟨n,a,b⟩
end Go.Proofs.YtammjnjpheobaaaGreat
namespace Go.Srt
variable {α:Type} {lt:α→α→Bool} [Inhabited α]
def aCg (lt:α→α→Bool) (l:List α) (n a:Nat):Prop:=∀c,0<c→c<n→a≤(c-1)/2→lt (at_ l c) (at_ l ((c-1)/2))=false
def bBg (lt:α→α→Bool) (l:List α) (n a i:Nat):Prop:=
 (∀c,0<c→c<n→a≤(c-1)/2→(c-1)/2≠i→lt (at_ l c) (at_ l ((c-1)/2))=false)∧
 (∀c,0<c→c<n→(c-1)/2=i→0<i→a≤(i-1)/2→lt (at_ l c) (at_ l ((i-1)/2))=false)
theorem aXb {l:List α} {n a:Nat} (h:aCg lt l n (a+1)):bBg lt l n a a:=
 ⟨fun c h1 h2 h3 h4=>h c h1 h2 (by omega),fun c h1 h2 h3 h4 h5=>by omega⟩
theorem bBh {l:List α} {n a i:Nat} (h:bBg lt l n a i) (hi:n≤2*i+1):aCg lt l n a:=
 fun c h1 h2 h3=>h.1 c h1 h2 h3 (by omega)
theorem aLq (hs:Swo lt) {l:List α} {n a i j:Nat} (h:bBg lt l n a i) (hm:∀c,0<c→c<n→(c-1)/2=i→lt (at_ l c) (at_ l j)=false) (hj:lt (at_ l j) (at_ l i)=false):aCg lt l n a:=by
 intro c h1 h2 h3
 by_cases hp:(c-1)/2=i
 ·rw[hp];exact hs.ntrans _ _ _ (hm c h1 h2 hp) hj
 ·exact h.1 c h1 h2 h3 hp
theorem aLr (hs:Swo lt) {l:List α} {n a i j:Nat} (h:bBg lt l n a i) (hai:a≤i) (hn:n≤l.length) (hj1:0<j) (hj2:j<n) (hji:(j-1)/2=i) (hm:∀c,0<c→c<n→(c-1)/2=i→lt (at_ l c) (at_ l j)=false)
  (hlt:lt (at_ l j) (at_ l i)=true):bBg lt (sw l i j) n a j:=by
 have hsw:∀q,at_ (sw l i j) q=if q=j then at_ l i else if q=i then at_ l j else at_ l q:=fun q=>aJz l i j q (by omega) (by omega)
 obtain⟨g1,g2⟩:=h
 refine⟨fun c h1 h2 h3 h4=> ?_,fun c h1 h2 h3 h4 h5=> ?_⟩
 ·rw[hsw c,hsw ((c-1)/2)]
  rw[if_neg h4]
  by_cases hp:(c-1)/2=i
  ·rw[if_pos hp]
   by_cases hcj:c=j
   ·rw[if_pos hcj];exact hs.asym _ _ hlt
   ·rw[if_neg hcj,if_neg (by omega)];exact hm c h1 h2 hp
  ·rw[if_neg hp]
   rw[if_neg (by rintro rfl;exact hp hji)]
   by_cases hci:c=i
   ·rw[if_pos hci]
    subst hci
    exact g2 j hj1 hj2 hji h1 h3
   ·rw[if_neg hci];exact g1 c h1 h2 h3 hp
 ·rw[hsw c,hsw ((j-1)/2),hji]
  rw[if_neg (by omega),if_neg (by omega),if_neg (by omega),if_pos rfl]
  have:=g1 c h1 h2 (by omega) (by omega)
  rw[h3] at this;exact this
theorem bIo (hs:Swo lt) {l:List α} {n:Nat} (h:aCg lt l n 0):∀c,c<n→lt (at_ l c) (at_ l 0)=false:=by
 intro c
 induction c using Nat.strongRecOn with
 |_ c ih=>
  intro hc
  by_cases h0:c=0
  ·subst h0;exact hs.irr _
  ·exact hs.ntrans _ _ _ (h c (by omega) hc (Nat.zero_le _)) (ih _ (by omega) (by omega))
theorem aRu {l:List α} {i j:Nat} (hi:i<l.length) (hj:j<l.length):(sw l i j).Perm l:=by
 unfold sw
 rw[List.getD_eq_getElem?_getD,List.getD_eq_getElem?_getD,List.getElem?_eq_getElem hi,List.getElem?_eq_getElem hj]
 exact List.set_set_perm hi hj
end Go.Srt
namespace Go.Proofs.YtammjnjpheobaaaGreat
open Go.SL Go.Spc Go.Tup Go.Srt
structure Hd where
 t:T5
 run:Nat
 rd:Nat
instance:Inhabited Hd:=⟨⟨default,0,0⟩⟩
def Hd.cells (x:Hd):List Value:=[.int .i64 x.t.c0,.int .i64 x.t.c1,.int .i64 x.t.c2,.int .i64 x.t.c3,.int .i64 x.t.c4,.int .i64 (x.run:Int),pv x.rd]
def hcells (l:List Hd):List Value:=l.flatMap Hd.cells
theorem aQn (a b:List Hd):hcells (a++b)=hcells a++hcells b:=by simp[hcells]
theorem aBw (l:List Hd):(hcells l).length=l.length*7:=by
 induction l with
 |nil=>rfl
 |cons x l ih=>simp only[hcells,List.flatMap_cons,AF,AL] at ih⊢;rw[ih];simp[Hd.cells];omega
theorem aOh:∀(l:List Hd) (rest:List Value) (i:Nat),i<l.length→∃more,(hcells l++rest).drop (i*7)=(at_ l i).cells++more
 |[],_,i,h=>by simp at h
 |x::l,rest,0,_=>⟨hcells l++rest,by simp[hcells,at_]⟩
 |x::l,rest,i+1,h=>by
  obtain⟨more,hm⟩:=aOh l rest i (by simpa using h)
  refine⟨more,?_⟩
  have e:(hcells (x::l)++rest)=x.cells++(hcells l++rest):=by simp[hcells]
  rw[e,show(i+1)*7=x.cells.length+i*7 by(have:x.cells.length=7:=rfl);omega,←List.drop_drop,List.drop_left,hm]
  rfl
def aBp (bh vb cap:Nat) (o:T5) (l:List Hd) (rest:List Value):Hp:=
 [[(bh,row ([.slice (some ⟨vb,0,none⟩) l.length cap,.int .i64 o.c0,.int .i64 o.c1,.int .i64 o.c2,.int .i64 o.c3,.int .i64 o.c4]) 235)],[(vb,row (hcells l++rest) 237)]]
def ltH (o:T5) (a b:Hd):Bool:=decide (aJo o a.t b.t<0∨aJo o a.t b.t=0∧a.run<b.run)
theorem bEp (o:T5):Swo (ltH o) where
 asym:=fun a b h=>by
  simp only[ltH,decide_eq_true_eq,decide_eq_false_iff_not] at*
  have:=aDu o a.t b.t;omega
 ntrans:=fun a b c h1 h2=>by
  simp only[ltH,decide_eq_false_iff_not] at*
  have e1:=aDu o a.t b.t
  have e2:=aDu o b.t c.t
  have e3:=aDu o a.t c.t
  have f1:=aJc o c.t b.t a.t (by omega) (by omega)
  have f2:aJo o a.t c.t=0→aJo o a.t b.t=0:=fun h=>by
   have:=aJc o a.t c.t b.t
   omega
  have f3:aJo o a.t c.t=0→aJo o b.t c.t=0:=fun h=>by
   have:=aJc o b.t a.t c.t
   omega
  omega
theorem aRv (bh vb cap:Nat) (o:T5) (l:List Hd) (rest:List Value):CtQ AC 185 [pv bh] (aBp bh vb cap o l rest) (.int .i64 (l.length:Int)):=by
 unfold aBp
 refine Ct.intro Tryz.func185 rfl Tryz.ntmps185 (nle rfl) fun w0=> ?_;dsimp only[aAa,AD]
 repeat(refine st ?_;intros)
 (refine Dn.post (Hr:=[[(bh,row [.slice (some ⟨vb,0,none⟩) l.length cap,.int .i64 o.c0,.int .i64 o.c1,.int .i64 o.c2,.int .i64 o.c3,.int .i64 o.c4] 235)],[(vb,row (hcells l++rest) 237)]]) Tryz.results185 (hR:= ?_);exact⟨rfl,rfl⟩)
theorem aOi {l:List Hd} {rest:List Value} {i:Nat} (h:i<l.length):
  ((hcells l++rest).drop (i*7)).take 5=[.int .i64 (at_ l i).t.c0,.int .i64 (at_ l i).t.c1,.int .i64 (at_ l i).t.c2,.int .i64 (at_ l i).t.c3,.int .i64 (at_ l i).t.c4]∧
  (hcells l++rest)[i*7+5]? =some (.int .i64 ((at_ l i).run:Int))∧(hcells l++rest)[i*7+6]? =some (pv (at_ l i).rd)∧
  ((hcells l++rest).drop (i*7)).take 7=(at_ l i).cells:=by
 obtain⟨more,hm⟩:=aOh l rest i h
 refine⟨by rw[hm];rfl,?_,?_,by rw[hm];rfl⟩
 ·rw[←BS,hm];rfl
 ·rw[←BS,hm];rfl
theorem aNc (bh vb cap:Nat) (o:T5) (l:List Hd) (rest:List Value) (i j:Nat) (hi:i<l.length) (hj:j<l.length) (hl:l.length≤1000000):
  CtQ AC 223 [pv bh,.int .i64 (i:Int),.int .i64 (j:Int)] (aBp bh vb cap o l rest) (.bool (ltH o (at_ l i) (at_ l j))):=by
 obtain⟨a1,a2,a3,a4⟩:=aOi (rest:=rest) hi
 obtain⟨b1,b2,b3,b4⟩:=aOi (rest:=rest) hj
 have hC:=aLn (at_ l i).t.c0 (at_ l i).t.c1 (at_ l i).t.c2 (at_ l i).t.c3 (at_ l i).t.c4 (at_ l j).t.c0 (at_ l j).t.c1 (at_ l j).t.c2 (at_ l j).t.c3 (at_ l j).t.c4 o.c0 o.c1 o.c2 o.c3 o.c4
 have hCc:aJo ⟨o.c0,o.c1,o.c2,o.c3,o.c4⟩ ⟨(at_ l i).t.c0,(at_ l i).t.c1,(at_ l i).t.c2,(at_ l i).t.c3,(at_ l i).t.c4⟩ ⟨(at_ l j).t.c0,(at_ l j).t.c1,(at_ l j).t.c2,(at_ l j).t.c3,(at_ l j).t.c4⟩=aJo o (at_ l i).t (at_ l j).t:=rfl
 rw[hCc] at hC
 unfold ltH aBp
 generalize hcm:aJo o (at_ l i).t (at_ l j).t=cm at*
 generalize hcl:hcells l++rest=cells at*
 generalize at_ l i=x at*
 generalize at_ l j=y at*
 by_cases h1:cm<0
 ·rw[show decide (cm<0∨cm=0∧x.run<y.run)=true from decide_eq_true (.inl h1)]
  refine Ct.intro Tryz.func223 rfl Tryz.ntmps223 (nle rfl) fun w0=> ?_;dsimp only[aAa,AD]
  repeat(first|(refine st ?_;intros)|refine G.draw (id:=1) [(20,.quiet)] (h:= ?_)|refine G.draw [] (h:= ?_)|(refine cq hC ?_))
  (refine Dn.post (Hr:=[[(bh,row [.slice (some ⟨vb,0,none⟩) l.length cap,.int .i64 o.c0,.int .i64 o.c1,.int .i64 o.c2,.int .i64 o.c3,.int .i64 o.c4] 235)],[(vb,row cells 237)]]) Tryz.results223 (hR:= ?_);exact⟨rfl,rfl⟩)
 ·by_cases h2:cm=0
  ·have h3:decide (cm<0∨cm=0∧x.run<y.run)=dec ((x.run:Int)<(y.run:Int)):=by
    by_cases h4:x.run<y.run
    ·rw[decide_eq_true (.inr ⟨h2,h4⟩),aBq (by omega)]
    ·rw[decide_eq_false (by omega),aCm (by omega)]
   rw[h3]
   refine Ct.intro Tryz.func223 rfl Tryz.ntmps223 (nle rfl) fun w0=> ?_;dsimp only[aAa,AD]
   repeat(first|(refine st ?_;intros)|refine G.draw (id:=1) [(20,.quiet)] (h:= ?_)|refine G.draw [] (h:= ?_)|(refine cq hC ?_))
   (refine Dn.post (Hr:=[[(bh,row [.slice (some ⟨vb,0,none⟩) l.length cap,.int .i64 o.c0,.int .i64 o.c1,.int .i64 o.c2,.int .i64 o.c3,.int .i64 o.c4] 235)],[(vb,row cells 237)]]) Tryz.results223 (hR:= ?_);exact⟨rfl,rfl⟩)
  ·rw[show decide (cm<0∨cm=0∧x.run<y.run)=false from decide_eq_false (by omega)]
   refine Ct.intro Tryz.func223 rfl Tryz.ntmps223 (nle rfl) fun w0=> ?_;dsimp only[aAa,AD]
   repeat(first|(refine st ?_;intros)|refine G.draw (id:=1) [(20,.quiet)] (h:= ?_)|refine G.draw [] (h:= ?_)|(refine cq hC ?_))
   (refine Dn.post (Hr:=[[(bh,row [.slice (some ⟨vb,0,none⟩) l.length cap,.int .i64 o.c0,.int .i64 o.c1,.int .i64 o.c2,.int .i64 o.c3,.int .i64 o.c4] 235)],[(vb,row cells 237)]]) Tryz.results223 (hR:= ?_);exact⟨rfl,rfl⟩)
theorem aUo:∀(a:List Value) (vs cs:List Value) (off:Nat),aFi (a++cs) (a.length+off) vs=a++aFi cs off vs:=by
 intro a vs
 induction vs with
 |nil=>intro cs off;rfl
 |cons v vs ih=>
  intro cs off
  simp only[aFi]
  rw[List.set_append_right _ _ (by omega),show a.length+off-a.length=off by omega,show a.length+off+1=a.length+(off+1) by omega,ih]
theorem bEq:∀(l:List Hd) (i:Nat) (x:Hd) (rest:List Value),i<l.length→aFi (hcells l++rest) (i*7) x.cells=hcells (l.set i x)++rest
 |[],_,_,_,h=>by simp at h
 |u::l,0,x,rest,_=>by simp[hcells,aFi,Hd.cells]
 |u::l,i+1,x,rest,h=>by
  have ih:=bEq l i x rest (by simpa using h)
  have e:(hcells (u::l)++rest)=u.cells++(hcells l++rest):=by simp[hcells]
  rw[e,show(i+1)*7=u.cells.length+i*7 by(have:u.cells.length=7:=rfl);omega,aUo,ih]
  simp[hcells]
theorem aNd (bh vb cap:Nat) (o:T5) (l:List Hd) (rest:List Value) (i j:Nat) (hi:i<l.length) (hj:j<l.length) (hl:l.length≤1000000):
  Ct AC 225 [pv bh,.int .i64 (i:Int),.int .i64 (j:Int)] (aBp bh vb cap o l rest) fun v H'=>v= .tuple #[]∧H'=aBp bh vb cap o (sw l i j) rest:=by
 obtain⟨a1,a2,a3,a4⟩:=aOi (rest:=rest) hi
 obtain⟨b1,b2,b3,b4⟩:=aOi (rest:=rest) hj
 have hs1:=bEq l i (at_ l j) rest hi
 have hs2:=bEq (l.set i (at_ l j)) j (at_ l i) rest (by simpa using hj)
 have hsw:(l.set i (at_ l j)).set j (at_ l i)=sw l i j:=rfl
 rw[hsw] at hs2
 have hlen:(hcells l++rest).length=l.length*7+rest.length:=by rw[AF,aBw]
 have hlen2:(hcells (l.set i (at_ l j))++rest).length=l.length*7+rest.length:=by rw[AF,aBw,List.length_set]
 unfold aBp
 rw[aOe]
 generalize hcells (sw l i j)++rest=cells3 at*
 generalize hcells (l.set i (at_ l j))++rest=cells2 at*
 generalize hcells l++rest=cells at*
 generalize at_ l i=x at*
 generalize at_ l j=y at*
 unfold Hd.cells at*
 refine Ct.intro Tryz.func225 rfl Tryz.ntmps225 (nle rfl) fun w0=> ?_;dsimp only[aAa,AD]
 repeat(first|(refine st ?_;intros)|refine G.draw [] (h:= ?_))
 (refine Dn.postEnd (Hr:=[[(bh,row [.slice (some ⟨vb,0,none⟩) l.length cap,.int .i64 o.c0,.int .i64 o.c1,.int .i64 o.c2,.int .i64 o.c3,.int .i64 o.c4] 235)],[(vb,row cells3 237)]]) Tryz.results225 (hR:= ?_);exact⟨rfl,rfl⟩)
instance:Meth AC 232 "Less" 223:=Meth.of (by kernel_rfl)
instance:Meth AC 232 "Swap" 225:=Meth.of (by kernel_rfl)
instance:Meth AC 232 "Len" 185:=Meth.of (by kernel_rfl)
instance:Meth AC 232 "Pop" 224:=Meth.of (by kernel_rfl)
abbrev aOj (bh:Nat):Value:= .iface 232 (pv bh)
structure DownX where
 i:Nat
 l:List Hd
theorem aXc (bh vb cap:Nat) (o:T5) (l:List Hd) (rest:List Value) (a n:Nat) (hn:n≤l.length) (hl:l.length≤1000000) (hh:aCg (ltH o) l n (a+1)) (ha:a≤1000000):
  Ct AC 194 [aOj bh,.int .i64 (a:Int),.int .i64 (n:Int)] (aBp bh vb cap o l rest) fun v H'=>
   ∃b l',v= .bool b∧H'=aBp bh vb cap o l' rest∧l'.Perm l∧aCg (ltH o) l' n a∧∀q,n≤q→at_ l' q=at_ l q:=by
 have hsw:=bEp o
 refine Ct.intro Tryz.func194 rfl Tryz.ntmps194 (nle rfl) fun w0=> ?_;dsimp only[aAa,AD]
 repeat(first|(refine st ?_;intros)|(refine cq hL ?_)|(refine cq hL2 ?_))
 refine G.loop (X:=DownX) (fun x=>a≤x.i∧x.l.Perm l∧bBg (ltH o) x.l n a x.i∧(x.i<n∨x.i=a)∧∀q,n≤q→at_ x.l q=at_ l q)
  (fun x=>[(7,.int .i64 (x.i:Int)),(0,aOj bh),(1,.int .i64 (a:Int)),(2,.int .i64 (n:Int))])
  (fun x=>aBp bh vb cap o x.l rest) (fun x=>n-x.i) ⟨a,l⟩ ⟨AG _,List.Perm.refl _,aXb hh,.inr rfl,fun _ _=>rfl⟩ (body:= ?_)
 rintro⟨i,us⟩ ⟨hai,hp,hd,hin,hout⟩
 dsimp only at hai hp hd hin hout⊢
 have hul:=hp.length_eq
 have hi6:i≤1000000:=by omega
 have e1:AH .i64 (2*(i:Int))=((2*i:Nat):Int):=by rw[aAd (by omega)];omega
 have e2:AH .i64 (((2*i:Nat):Int)+1)=((2*i+1:Nat):Int):=by rw[aAd (by omega)];omega
 have e3:AH .i64 (((2*i+1:Nat):Int)+1)=((2*i+2:Nat):Int):=by rw[aAd (by omega)];omega
 by_cases hc:n≤2*i+1
 ·repeat(first|(refine st ?_;intros)|(refine cq hL ?_)|(refine cq hL2 ?_))
  (refine Dn.post (Hr:=aBp bh vb cap o us rest) Tryz.results194 (hR:= ?_);exact⟨_,us,rfl,rfl,hp,bBh hd hc,hout⟩)
 ·by_cases hc2:2*i+2<n
  ·have hL:=aNc bh vb cap o us rest (2*i+2) (2*i+1) (by omega) (by omega) (by omega)
   cases h1:ltH o (at_ us (2*i+2)) (at_ us (2*i+1)) with
   |true=>
    rw[h1] at hL
    have hm:∀c,0<c→c<n→(c-1)/2=i→ltH o (at_ us c) (at_ us (2*i+2))=false:=by
     intro c k1 k2 k3
     rcases(show c=2*i+1∨c=2*i+2 by omega) with rfl|rfl
     ·exact hsw.asym _ _ h1
     ·exact hsw.irr _
    have hL2:=aNc bh vb cap o us rest (2*i+2) i (by omega) (by omega) (by omega)
    cases h2:ltH o (at_ us (2*i+2)) (at_ us i) with
    |true=>
     rw[h2] at hL2
     have hS:=aNd bh vb cap o us rest i (2*i+2) (by omega) (by omega) (by omega)
     repeat(first|(refine st ?_;intros)|(refine cq hL ?_)|(refine cq hL2 ?_))
     refine R.invoke (hct:=hS) (h:= ?_)
     rintro _ _ ⟨rfl,rfl⟩
     try dsimp only[AA,AB]
     repeat(first|(refine st ?_;intros)|(refine cq hL ?_)|(refine cq hL2 ?_))
     exact Dn.round ⟨2*i+2,sw us i (2*i+2)⟩ ⟨by dsimp only;omega,(aRu (by omega) (by omega)).trans hp,aLr hsw hd hai (by omega) (by omega) (by omega) (by omega) hm h2,.inl (by dsimp only;omega),fun q hq=>by
      dsimp only
      rw[aJz _ _ _ _ (by omega) (by omega),if_neg (by omega),if_neg (by omega)];exact hout q hq⟩ (by dsimp only;omega)
    |false=>
     rw[h2] at hL2
     repeat(first|(refine st ?_;intros)|(refine cq hL ?_)|(refine cq hL2 ?_))
     (refine Dn.post (Hr:=aBp bh vb cap o us rest) Tryz.results194 (hR:= ?_);exact⟨_,us,rfl,rfl,hp,aLq hsw hd hm h2,hout⟩)
   |false=>
    rw[h1] at hL
    have hm:∀c,0<c→c<n→(c-1)/2=i→ltH o (at_ us c) (at_ us (2*i+1))=false:=by
     intro c k1 k2 k3
     rcases(show c=2*i+1∨c=2*i+2 by omega) with rfl|rfl
     ·exact hsw.irr _
     ·exact h1
    have hL2:=aNc bh vb cap o us rest (2*i+1) i (by omega) (by omega) (by omega)
    cases h2:ltH o (at_ us (2*i+1)) (at_ us i) with
    |true=>
     rw[h2] at hL2
     have hS:=aNd bh vb cap o us rest i (2*i+1) (by omega) (by omega) (by omega)
     repeat(first|(refine st ?_;intros)|(refine cq hL ?_)|(refine cq hL2 ?_))
     refine R.invoke (hct:=hS) (h:= ?_)
     rintro _ _ ⟨rfl,rfl⟩
     try dsimp only[AA,AB]
     repeat(first|(refine st ?_;intros)|(refine cq hL ?_)|(refine cq hL2 ?_))
     exact Dn.round ⟨2*i+1,sw us i (2*i+1)⟩ ⟨by dsimp only;omega,(aRu (by omega) (by omega)).trans hp,aLr hsw hd hai (by omega) (by omega) (by omega) (by omega) hm h2,.inl (by dsimp only;omega),fun q hq=>by
      dsimp only
      rw[aJz _ _ _ _ (by omega) (by omega),if_neg (by omega),if_neg (by omega)];exact hout q hq⟩ (by dsimp only;omega)
    |false=>
     rw[h2] at hL2
     repeat(first|(refine st ?_;intros)|(refine cq hL ?_)|(refine cq hL2 ?_))
     (refine Dn.post (Hr:=aBp bh vb cap o us rest) Tryz.results194 (hR:= ?_);exact⟨_,us,rfl,rfl,hp,aLq hsw hd hm h2,hout⟩)
  ·have hm:∀c,0<c→c<n→(c-1)/2=i→ltH o (at_ us c) (at_ us (2*i+1))=false:=by
    intro c k1 k2 k3
    rcases(show c=2*i+1 by omega) with rfl
    exact hsw.irr _
   have hL2:=aNc bh vb cap o us rest (2*i+1) i (by omega) (by omega) (by omega)
   cases h2:ltH o (at_ us (2*i+1)) (at_ us i) with
   |true=>
    rw[h2] at hL2
    have hS:=aNd bh vb cap o us rest i (2*i+1) (by omega) (by omega) (by omega)
    repeat(first|(refine st ?_;intros)|(refine cq hL ?_)|(refine cq hL2 ?_))
    refine R.invoke (hct:=hS) (h:= ?_)
    rintro _ _ ⟨rfl,rfl⟩
    try dsimp only[AA,AB]
    repeat(first|(refine st ?_;intros)|(refine cq hL ?_)|(refine cq hL2 ?_))
    exact Dn.round ⟨2*i+1,sw us i (2*i+1)⟩ ⟨by dsimp only;omega,(aRu (by omega) (by omega)).trans hp,aLr hsw hd hai (by omega) (by omega) (by omega) (by omega) hm h2,.inl (by dsimp only;omega),fun q hq=>by
     dsimp only
     rw[aJz _ _ _ _ (by omega) (by omega),if_neg (by omega),if_neg (by omega)];exact hout q hq⟩ (by dsimp only;omega)
   |false=>
    rw[h2] at hL2
    repeat(first|(refine st ?_;intros)|(refine cq hL ?_)|(refine cq hL2 ?_))
    (refine Dn.post (Hr:=aBp bh vb cap o us rest) Tryz.results194 (hR:= ?_);exact⟨_,us,rfl,rfl,hp,aLq hsw hd hm h2,hout⟩)
structure InitX where
 z:Int
 l:List Hd
theorem bMr (bh vb cap:Nat) (o:T5) (l:List Hd) (rest:List Value) (hl:l.length≤1000000):
  Ct AC 184 [aOj bh] (aBp bh vb cap o l rest) fun v H'=>∃l',v= .tuple #[]∧H'=aBp bh vb cap o l' rest∧l'.Perm l∧aCg (ltH o) l' l'.length 0:=by
 have hN:=aRv bh vb cap o l rest
 have e1:AH .i64 ((l.length:Int).tdiv 2)=((l.length/2:Nat):Int):=by
  rw[Int.tdiv_eq_ediv_of_nonneg (by omega),aAd (by omega)];omega
 have e2:AH .i64 (((l.length/2:Nat):Int)-1)=((l.length/2:Nat):Int)-1:=aAd (by omega)
 generalize hn:l.length=n at*
 refine Ct.intro Tryz.func184 rfl Tryz.ntmps184 (nle rfl) fun w0=> ?_;dsimp only[aAa,AD]
 repeat(first|(refine st ?_;intros)|(refine cq hN ?_))
 refine G.loop (X:=InitX) (fun x=> -1≤x.z∧x.z<1000001∧x.l.Perm l∧aCg (ltH o) x.l n (x.z+1).toNat)
  (fun x=>[(3,.int .i64 x.z),(0,aOj bh),(2,.int .i64 (n:Int))])
  (fun x=>aBp bh vb cap o x.l rest) (fun x=>(x.z+1).toNat) ⟨((n/2:Nat):Int)-1,l⟩ ⟨by dsimp only;omega,by dsimp only;omega,List.Perm.refl _,fun c h1 h2 h3=>by dsimp only at h3;omega⟩ (body:= ?_)
 rintro⟨z,us⟩ ⟨hz1,hz2,hp,hh⟩
 dsimp only at hz1 hz2 hp hh⊢
 have hul:=hp.length_eq
 by_cases hz:0≤z
 ·obtain⟨i,rfl⟩:=Int.eq_ofNat_of_zero_le hz
  have hD:=aXc bh vb cap o us rest i n (by omega) (by omega) (by rw[show i+1=((i:Int)+1).toNat by omega];exact hh) (by omega)
  have e3:AH .i64 ((i:Int)-1)=(i:Int)-1:=aAd (by omega)
  repeat(first|(refine st ?_;intros)|(refine cq hN ?_))
  refine R.call (hct:=hD) (h:= ?_)
  rintro _ _ ⟨b,us',rfl,rfl,hp2,hh2,hout⟩
  try dsimp only[AA,AB]
  repeat(first|(refine st ?_;intros)|(refine cq hN ?_))
  exact Dn.round ⟨(i:Int)-1,us'⟩ ⟨by dsimp only;omega,by dsimp only;omega,hp2.trans hp,by dsimp only;rw[show((i:Int)-1+1).toNat=i by omega];exact hh2⟩ (by dsimp only;omega)
 ·repeat(first|(refine st ?_;intros)|(refine cq hN ?_))
  (refine Dn.postEnd (Hr:=aBp bh vb cap o us rest) Tryz.results184 (hR:= ?_);exact⟨us,rfl,rfl,hp,by rw[hul,hn];rw[show(z+1).toNat=0 by omega] at hh;exact hh⟩)
theorem up_ct (bh vb cap:Nat) (o:T5) (l:List Hd) (rest:List Value):
  Ct AC 195 [aOj bh,.int .i64 0] (aBp bh vb cap o l rest) fun v H'=>v= .tuple #[]∧H'=aBp bh vb cap o l rest:=by
 have e1:AH .i64 ((0:Int)-1)= -1:=by decide
 have e2:AH .i64 ((-1:Int).tdiv 2)=0:=by decide
 refine Ct.intro Tryz.func195 rfl Tryz.ntmps195 (nle rfl) fun w0=> ?_;dsimp only[aAa,AD]
 repeat(refine st ?_;intros)
 refine G.loop (X:=Unit) (fun _=>True) (fun _=>[(0,aOj bh),(1,.int .i64 0)]) (fun _=>aBp bh vb cap o l rest) (fun _=>0) () trivial (body:= ?_)
 rintro⟨⟩-
 repeat(refine st ?_;intros)
 (refine Dn.postEnd (Hr:=aBp bh vb cap o l rest) Tryz.results195 (hR:= ?_);exact⟨rfl,rfl⟩)
theorem Fix_ct (bh vb cap:Nat) (o:T5) (l:List Hd) (rest:List Value) (hl:l.length≤1000000) (hh:aCg (ltH o) l l.length 1):
  Ct AC 186 [aOj bh,.int .i64 0] (aBp bh vb cap o l rest) fun v H'=>∃l',v= .tuple #[]∧H'=aBp bh vb cap o l' rest∧l'.Perm l∧aCg (ltH o) l' l'.length 0:=by
 have hN:=aRv bh vb cap o l rest
 have hD:=aXc bh vb cap o l rest 0 l.length (AG _) hl hh (by omega)
 refine Ct.intro Tryz.func186 rfl Tryz.ntmps186 (nle rfl) fun w0=> ?_;dsimp only[aAa,AD]
 repeat(first|(refine st ?_;intros)|(refine cq hN ?_))
 refine R.call (hct:=hD) (h:= ?_)
 rintro _ _ ⟨b,us,rfl,rfl,hp,hh2,hout⟩
 try dsimp only[AA,AB]
 have hul:=hp.length_eq
 have hU:=up_ct bh vb cap o us rest
 cases b with
 |true=>
  repeat(first|(refine st ?_;intros)|(refine cq hN ?_))
  (refine Dn.postEnd (Hr:=aBp bh vb cap o us rest) Tryz.results186 (hR:= ?_);exact⟨us,rfl,rfl,hp,by rw[hul];exact hh2⟩)
 |false=>
  repeat(first|(refine st ?_;intros)|(refine cq hN ?_))
  refine R.call (hct:=hU) (h:= ?_)
  rintro _ _ ⟨rfl,rfl⟩
  try dsimp only[AA,AB]
  repeat(first|(refine st ?_;intros)|(refine cq hN ?_))
  (refine Dn.postEnd (Hr:=aBp bh vb cap o us rest) Tryz.results186 (hR:= ?_);exact⟨us,rfl,rfl,hp,by rw[hul];exact hh2⟩)
theorem bMs (bh vb cap:Nat) (o:T5) (l:List Hd) (x:Hd) (rest:List Value) (hl:l.length≤1000000) (hcap:l.length+1≤cap):
  Ct AC 224 [pv bh] (aBp bh vb cap o (l++[x]) rest) fun v H'=>v= .iface 237 (.agg x.cells.toArray)∧H'=aBp bh vb cap o l (x.cells++rest):=by
 obtain⟨a1,a2,a3,a4⟩:=aOi (l:=l++[x]) (rest:=rest) (i:=l.length) (by simp)
 have hax:at_ (l++[x]) l.length=x:=by simp[at_,AN]
 rw[hax] at a1 a2 a3 a4
 have hap:hcells l++(x.cells++rest)=hcells (l++[x])++rest:=by rw[aQn];simp[hcells]
 have hln:(l++[x]).length=l.length+1:=by simp
 have e1:AH .i64 (((l.length+1:Nat):Int)-1)=(l.length:Int):=by rw[aAd (by omega)];omega
 unfold aBp
 rw[hap,hln]
 generalize hcells (l++[x])++rest=cells at*
 generalize l.length=n at*
 unfold Hd.cells at*
 refine Ct.intro Tryz.func224 rfl Tryz.ntmps224 (nle rfl) fun w0=> ?_;dsimp only[aAa,AD]
 repeat(first|(refine st ?_;intros)|refine G.draw [] (h:= ?_))
 apply R.mkIfaceS
 ·exact rfl
 ·exact Tryz.underlying237
 ·exact rfl
 ·exact nle rfl
 repeat(first|(refine st ?_;intros)|refine G.draw [] (h:= ?_))
 (refine Dn.post (Hr:=[[(bh,row [.slice (some ⟨vb,0,none⟩) n cap,.int .i64 o.c0,.int .i64 o.c1,.int .i64 o.c2,.int .i64 o.c3,.int .i64 o.c4] 235)],[(vb,row cells 237)]]) Tryz.results224 (hR:= ?_);exact⟨rfl,rfl⟩)
theorem bMt (bh vb cap:Nat) (o:T5) (l:List Hd) (rest:List Value) (hl:l.length≤1000000) (hcap:l.length≤cap) (hne:0<l.length) (hh:aCg (ltH o) l l.length 0):
  Ct AC 187 [aOj bh] (aBp bh vb cap o l rest) fun v H'=>∃l' x,v= .iface 237 (.agg x.cells.toArray)∧x=at_ l 0∧H'=aBp bh vb cap o l' (x.cells++rest)∧(x::l').Perm l∧l'.length+1=l.length∧aCg (ltH o) l' l'.length 0:=by
 have hN:=aRv bh vb cap o l rest
 have e1:AH .i64 ((l.length:Int)-1)=((l.length-1:Nat):Int):=by rw[aAd (by omega)];omega
 have hS:=aNd bh vb cap o l rest 0 (l.length-1) hne (by omega) hl
 have hsl:(sw l 0 (l.length-1)).length=l.length:=aOe _ _ _
 have hat:=fun q=>aJz l 0 (l.length-1) q hne (by omega)
 have hh1:aCg (ltH o) (sw l 0 (l.length-1)) (l.length-1) 1:=by
  intro c h1 h2 h3
  rw[hat,hat,if_neg (by omega),if_neg (by omega),if_neg (by omega),if_neg (by omega)]
  exact hh c h1 (by omega) (AS _)
 have hD:=aXc bh vb cap o (sw l 0 (l.length-1)) rest 0 (l.length-1) (by omega) (by omega) hh1 (by omega)
 have hpm:(sw l 0 (l.length-1)).Perm l:=aRu hne (by omega)
 have hlast:=hat (l.length-1)
 rw[if_pos rfl] at hlast
 refine Ct.intro Tryz.func187 rfl Tryz.ntmps187 (nle rfl) fun w0=> ?_;dsimp only[aAa,AD]
 repeat(first|(refine st ?_;intros)|(refine cq hN ?_))
 refine R.invoke (hct:=hS) (h:= ?_)
 rintro _ _ ⟨rfl,rfl⟩
 try dsimp only[AA,AB]
 repeat(first|(refine st ?_;intros)|(refine cq hN ?_))
 refine R.call (hct:=hD) (h:= ?_)
 rintro _ _ ⟨b,us,rfl,rfl,hp,hh2,hout⟩
 try dsimp only[AA,AB]
 have hul:us.length=l.length:=hp.length_eq.trans hsl
 have hx:=(hout (l.length-1) (AG _)).trans hlast
 obtain⟨vs,y,rfl⟩:∃vs y,us=vs++[y]:=by
  rcases List.eq_nil_or_concat us with rfl|⟨qs,z,rfl⟩
  ·simp at hul;omega
  ·exact⟨qs,z,by simp⟩
 rw[AF,CM] at hul
 have hy:at_ (vs++[y]) (l.length-1)=y:=by
  rw[show l.length-1=vs.length by omega];simp[at_,AN]
 rw[hy] at hx
 subst hx
 have hP:=bMs bh vb cap o vs (at_ l 0) rest (by omega) (by omega)
 repeat(first|(refine st ?_;intros)|(refine cq hN ?_))
 refine R.invoke (hct:=hP) (h:= ?_)
 rintro _ _ ⟨rfl,rfl⟩
 try dsimp only[AA,AB]
 repeat(first|(refine st ?_;intros)|(refine cq hN ?_))
 (refine Dn.post (Hr:=aBp bh vb cap o vs ((at_ l 0).cells++rest)) Tryz.results187 (hR:= ?_);refine⟨vs,at_ l 0,rfl,rfl,rfl,?_,hul,?_⟩)
 ·exact(List.perm_append_comm (l₁:=[at_ l 0]) (l₂:=vs)).trans (hp.trans hpm)
 ·intro c h1 h2 h3
  have:=hh2 c h1 (by omega) h3
  rw[aUk,aUk,if_pos h2,if_pos (by omega)] at this
  exact this
theorem aXd {o:T5} {u a:T5} {s:List T5} (h:Sd (ltO o) false (u::s)) (ha:a∈u::s):ltO o a u=false:=by
 rcases AM.1 ha with rfl|ha
 ·exact(aBv o).irr _
 ·unfold Sd at h
  have:=List.rel_of_pairwise_cons h ha
  simpa using this
theorem Em.merge {o:T5} {once:Bool} {l ps:List T5} {A B:List (List T5)} {t:T5} {r:List T5} (h:Em o once l ps (A++(t::r)::B).flatten)
  (hA:∀s∈A,Sd (ltO o) false s∧∀u s',s=u::s'→ltO o t u=true) (hB:∀s∈B,Sd (ltO o) false s∧∀u s',s=u::s'→ltO o u t=false) (hr:Sd (ltO o) false (t::r)):
  Em o once l (aLe o once ps t) (A++r::B).flatten:=by
 have hsw:=aBv o
 have hAa:∀a∈A.flatten,ltO o t a=true:=by
  intro a ha
  obtain⟨s,hs,has⟩:=List.mem_flatten.1 ha
  cases s with
  |nil=>simp at has
  |cons u s'=>
   obtain⟨h1,h2⟩:=hA _ hs
   cases hc:ltO o t a with
   |true=>rfl
   |false=>
    have:=hsw.ntrans _ _ _ hc (aXd h1 has)
    rw[h2 u s' rfl] at this;cases this
 have hBb:∀b∈B.flatten,ltO o b t=false:=by
  intro b hb
  obtain⟨s,hs,hbs⟩:=List.mem_flatten.1 hb
  cases s with
  |nil=>simp at hbs
  |cons u s'=>
   obtain⟨h1,h2⟩:=hB _ hs
   exact hsw.ntrans _ _ _ (aXd h1 hbs) (h2 u s' rfl)
 have e1:(A++(t::r)::B).flatten=(A.flatten++[t])++(r++B.flatten):=by simp
 have e2:(A++r::B).flatten=A.flatten++(r++B.flatten):=by simp
 rw[e1] at h
 rw[e2]
 have h2:Em o once l ps (t::(A.flatten++(r++B.flatten))):=by
  refine h.turn ?_ ?_
  ·have:=Go.Srt.Sp.app (once:=once) (Go.Srt.Sp.swap hsw (once:=once) (v:=A.flatten) (x:=[t]) (fun b hb a ha=>by simp only[AY] at hb;subst hb;exact hAa a ha)) (Go.Srt.Sp.refl (lt:=ltO o) once (r++B.flatten))
   simpa using this
  ·intro y hy
   simp only[AM,AO] at hy⊢
   rcases hy with hy|hy|hy|hy
   ·exact .inl (.inr (by simp[hy]))
   ·exact .inl (.inl hy)
   ·exact .inr (.inl hy)
   ·exact .inr (.inr hy)
 refine h2.step fun y hy=> ?_
 rcases AO.1 hy with hy|hy
 ·exact hsw.asym _ _ (hAa y hy)
 ·rcases AO.1 hy with hy|hy
  ·exact aXd hr (AJ _ hy)
  ·exact hBb y hy
structure Rdr where
 bx:Nat
 f:Fl
 ts:List T5
 g:Gr
 pos:Nat
 opn:Bool
 cx:aAc
 cb:aAc
def aLs (bw:Nat) (W:Wk) (r:Rdr):Prop:=if r.opn then aGo bw r.bx W r.f r.ts r.g r.pos r.cx r.cb else aDf r.bx r.cx
def aDe (rs:List Rdr):aAc:=rs.flatMap fun r=>r.cx++r.cb
def aAz (rs:List Rdr):List Gr:=(rs.filter (·.opn)).map (·.g)
theorem aLs.move {bw:Nat} {W W':Wk} {r:Rdr} (h:aLs bw W r) (hs:W'.δ.size=W.δ.size):aLs bw W' r:=by
 unfold aLs at*
 split
 ·rename_i ho;rw[if_pos ho] at h;exact h.move hs
 ·rename_i ho;rw[if_neg ho] at h;exact h
theorem aQo {a b:List Rdr} (h:a.Perm b):(aDe a).Perm (aDe b):=h.flatMap_right _
theorem bEr {rs:List Rdr} {r:Rdr} (h:r∈rs):∃qs,rs.Perm (r::qs)∧(aDe rs).Perm (r.cx++(r.cb++aDe qs)):=by
 obtain⟨l1,l2,rfl⟩:=List.append_of_mem h
 refine⟨l1++l2,B0,(aQo B0).trans ?_⟩
 simp[aDe]
theorem aHn {a b:List Rdr} (h:a.Perm b):(aAz a).Perm (aAz b):=(h.filter _).map _
def bIp (bc bh:Nat):aAc:=[(bc,row [pv bh] 232)]
def aNe (bh:Nat) (p:Option Addr) (n cap:Nat) (o:T5):aAc:=[(bh,row [.slice p n cap,.int .i64 o.c0,.int .i64 o.c1,.int .i64 o.c2,.int .i64 o.c3,.int .i64 o.c4] 235)]
structure CloseX where
 i:Nat
 ca:aAc
 α:Ar
 rs:List Rdr
theorem aXe (bc bh bw bd ba bs:Nat) (W:Wk) (cd ca cs:aAc) (h:Wc bd ba bs W cd ca cs) (o:T5) (l:List Hd) (p:Option Addr) (cap:Nat) (vc:aAc) (hV:Vec 237 7 p l.length cap (hcells l) vc) (hl:l.length≤1000000)
  (rs:List Rdr) (base:List Gr) (hg:W.α.gs.Perm (aAz rs++base)) (hrs:∀r∈rs,aLs bw W r) (hlr:∀x∈l,∃r∈rs,r.bx=x.rd) (hrl:∀r∈rs,r.opn=true→∃x∈l,x.rd=r.bx) (hnd:(rs.map (·.bx)).Nodup):
  Cb AC 183 [pv bc] [bIp bc bh,aNe bh p l.length cap o,vc,aAh bw bd ba bs,ca,aDe rs] fun v H'=>
   ∃ca' α' rs',v= .tuple #[]∧H'=[bIp bc bh,aNe bh p l.length cap o,vc,aAh bw bd ba bs,ca',aDe rs']∧Wc bd ba bs {W with α:=α'} cd ca' cs∧Ev W {W with α:=α'} 0 0∧α'.gs.Perm base:=by
 unfold bIp aNe
 refine Cb.intro Tryz.func183 rfl Tryz.ntmps183 (nle rfl) fun w0=> ?_;dsimp only[aAa,AD]
 repeat(refine st ?_;intros)
 refine G.loop (X:=CloseX) (fun x=>x.i≤l.length∧Wc bd ba bs {W with α:=x.α} cd x.ca cs∧Ev W {W with α:=x.α} 0 0∧x.α.gs.Perm (aAz x.rs++base)∧(∀r∈x.rs,aLs bw W r)∧(∀y∈l,∃r∈x.rs,r.bx=y.rd)∧(∀r∈x.rs,r.opn=true→∃j,x.i≤j∧j<l.length∧(at_ l j).rd=r.bx)∧(x.rs.map (·.bx)).Nodup)
  (fun x=>[(8,.int .i64 (x.i:Int)),(7,.int .i64 (l.length:Int)),(6,.slice p l.length cap)])
  (fun x=>[[(bc,row [pv bh] 232)],[(bh,row [.slice p l.length cap,.int .i64 o.c0,.int .i64 o.c1,.int .i64 o.c2,.int .i64 o.c3,.int .i64 o.c4] 235)],vc,aAh bw bd ba bs,x.ca,aDe x.rs]) (fun x=>l.length-x.i) ⟨0,ca,W.α,rs⟩
  ⟨AS _,h,Ev.refl W,hg,hrs,hlr,fun r hr ho=>by
   obtain⟨x,hx,he⟩:=hrl r hr ho
   obtain⟨j,hj,e⟩:=CQ hx
   exact⟨j,AS _,hj,by rw[←he,←e];simp[at_,AN,hj]⟩,hnd⟩ (body:= ?_)
 rintro⟨i,ca1,α1,rs1⟩ ⟨hi,hW1,hE1,hg1,hrs1,hlr1,hop1,hnd1⟩
 dsimp only at hi hW1 hE1 hg1 hrs1 hlr1 hop1 hnd1⊢
 by_cases hin:i<l.length
 ·have hx:at_ l i∈l:=by unfold at_;rw[AN,AE hin];exact B4 hin
  obtain⟨r,hr,hbx⟩:=hlr1 _ hx
  obtain⟨qs,hp1,hp2⟩:=bEr hr
  obtain⟨_,h0|⟨vb,rest,rfl,rfl,_⟩⟩:=hV
  ·omega
  obtain⟨a1,a2,a3,a4⟩:=aOi (rest:=rest) hin
  generalize hcells l++rest=cells at*
  generalize hxe:at_ l i=x at*
  unfold Hd.cells at a4
  repeat(refine st ?_;intros)
  rw[←hbx]
  apply R1.open hp2
  ·(repeat(first|exact aAn.here|apply aAn.there))
  have hst:=hrs1 r hr
  unfold aLs at hst
  have hqs:∀q∈qs,q∈rs1:=fun q hq=>hp1.mem_iff.2 (AJ _ hq)
  have hgp:(aAz rs1).Perm (aAz (r::qs)):=aHn hp1
  have hnd2:((r::qs).map (·.bx)).Nodup:=(hp1.map _).nodup_iff.1 hnd1
  cases ho:r.opn with
  |false=>
   rw[ho] at hst
   have hC:=aUg r.bx r.cx hst
   refine R.call (hct:=hC) (h:= ?_)
   rintro _ _ ⟨rfl,rfl⟩
   try dsimp only[AA,AB]
   repeat(refine st ?_;intros)
   apply Dn.join (c1:=r.cx) (c2:=r.cb++aDe qs)
   ·(repeat(first|exact aAn.here|apply aAn.there))
   ·(repeat(first|exact aAn.here|apply aAn.there))
   rw[show r.cx++(r.cb++aDe qs)=aDe (r::qs) by simp[aDe]]
   refine Dn.round ⟨i+1,ca1,α1,r::qs⟩ ⟨hin,hW1,hE1,hg1.trans (hgp.append_right _),fun q hq=>hrs1 q (hp1.mem_iff.2 hq),fun y hy=> ?_,fun q hq hqo=> ?_,hnd2⟩ (by dsimp only;omega)
   ·obtain⟨q,hq,e⟩:=hlr1 y hy
    exact⟨q,hp1.mem_iff.1 hq,e⟩
   ·obtain⟨j,j1,j2,j3⟩:=hop1 q (hp1.mem_iff.2 hq) hqo
    refine⟨j,?_,j2,j3⟩
    by_cases hji:j=i
    ·exfalso
     subst hji
     rw[hxe] at j3
     rcases AM.1 hq with rfl|hq
     ·rw[ho] at hqo;cases hqo
     ·rw[A0,CB] at hnd2
      exact hnd2.1 (by rw[hbx,j3];exact AT.2 ⟨q,hq,rfl⟩)
    ·dsimp only;omega
  |true=>
   rw[ho] at hst
   have hgr:aAz (r::qs)=r.g::aAz qs:=by unfold aAz;rw[List.filter_cons_of_pos ho];rfl
   have hC:=aMy bw bd ba bs {W with α:=α1} cd ca1 cs hW1 r.bx r.f r.ts r.g (aAz qs++base) (hg1.trans (by rw[hgr] at hgp;exact hgp.append_right _)) r.pos r.cx r.cb (aGo.move hst rfl)
   refine R.call (hct:=hC) (h:= ?_)
   rintro _ _ ⟨ca2,α2,cx2,rfl,rfl,hW2,hE2,hg2,hx2⟩
   try dsimp only[AA,AB]
   repeat(refine st ?_;intros)
   apply Dn.join (c1:=cx2) (c2:=r.cb++aDe qs)
   ·(repeat(first|exact aAn.here|apply aAn.there))
   ·(repeat(first|exact aAn.here|apply aAn.there))
   rw[show cx2++(r.cb++aDe qs)=aDe ({r with opn:=false,cx:=cx2}::qs) by simp[aDe]]
   refine Dn.round ⟨i+1,ca2,α2,{r with opn:=false,cx:=cx2}::qs⟩ ⟨hin,hW2,hE1.trans hE2,hg2,fun q hq=> ?_,fun y hy=> ?_,fun q hq hqo=> ?_,hnd2⟩ (by dsimp only;omega)
   ·rcases AM.1 hq with rfl|hq
    ·exact hx2
    ·exact hrs1 q (hqs q hq)
   ·obtain⟨q,hq,e⟩:=hlr1 y hy
    rcases AM.1 (hp1.mem_iff.1 hq) with rfl|hq
    ·exact⟨_,AI,e⟩
    ·exact⟨q,AJ _ hq,e⟩
   ·rcases AM.1 hq with rfl|hq3
    ·cases hqo
    ·obtain⟨j,j1,j2,j3⟩:=hop1 q (hqs q hq3) hqo
     refine⟨j,?_,j2,j3⟩
     by_cases hji:j=i
     ·exfalso
      subst hji
      rw[hxe] at j3
      rw[A0,CB] at hnd2
      exact hnd2.1 (by rw[hbx,j3];exact AT.2 ⟨q,hq3,rfl⟩)
     ·dsimp only;omega
 ·repeat(refine st ?_;intros)
  (refine Dn.postEnd (Hr:=[[(bc,row [pv bh] 232)],[(bh,row [.slice p l.length cap,.int .i64 o.c0,.int .i64 o.c1,.int .i64 o.c2,.int .i64 o.c3,.int .i64 o.c4] 235)],vc,aAh bw bd ba bs,ca1,aDe rs1]) Tryz.results183 (hR:= ?_);refine⟨ca1,α1,rs1,rfl,rfl,hW1,hE1,?_⟩)
  have:aAz rs1=[]:=by
   unfold aAz
   rw[ED.2]
   ·rfl
   ·intro r hr ho
    obtain⟨j,j1,j2,_⟩:=hop1 r hr ho
    omega
  rw[this] at hg1;exact hg1
def aGw (r:Rdr):List T5:=if r.opn then r.ts.drop (r.pos-1) else[]
structure MSt (bw:Nat) (W:Wk) (o:T5) (rds:List Rdr) (hl:List Hd):Prop where
 rd:∀r∈rds,aLs bw W r
 nd:(rds.map (·.bx)).Nodup
 hd:∀x∈hl,∃r,rds[x.run]? =some r∧r.opn=true∧r.bx=x.rd∧0<r.pos∧r.ts[r.pos-1]? =some x.t
 ex:∀j r,rds[j]? =some r→r.opn=true→∃x∈hl,x.run=j
 one:(hl.map (·.run)).Nodup
 sd:∀r∈rds,Sd (ltO o) false r.ts
theorem bMu {o:T5} {s:List T5} (h:Sd (ltO o) false s) (n:Nat):Sd (ltO o) false (s.drop n):=h.sublist (List.drop_sublist n s)
theorem aRw {o:T5} {r:Rdr} (h:Sd (ltO o) false r.ts):Sd (ltO o) false (aGw r):=by
 unfold aGw;split
 ·exact bMu h _
 ·exact DU
theorem bBi {r:Rdr} {t u:T5} {s:List T5} (h:r.ts[r.pos-1]? =some t) (he:aGw r=u::s):u=t:=by
 unfold aGw at he
 split at he
 ·have h1:(r.ts.drop (r.pos-1))[0]? =some t:=by rw[BS];simpa using h
  rw[he] at h1
  simpa using h1
 ·cases he
theorem MSt.top {bw:Nat} {W:Wk} {o:T5} {rds:List Rdr} {hl:List Hd} (h:MSt bw W o rds hl) (hne:0<hl.length) (hh:aCg (ltH o) hl hl.length 0):
  ∃A r B,rds=A++r::B∧A.length=(at_ hl 0).run∧r.opn=true∧r.bx=(at_ hl 0).rd∧0<r.pos∧r.ts[r.pos-1]? =some (at_ hl 0).t∧aGw r=(at_ hl 0).t::r.ts.drop r.pos∧
   (∀s∈A.map aGw,Sd (ltO o) false s∧∀u s',s=u::s'→ltO o (at_ hl 0).t u=true)∧(∀s∈B.map aGw,Sd (ltO o) false s∧∀u s',s=u::s'→ltO o u (at_ hl 0).t=false):=by
 have hx:at_ hl 0∈hl:=by unfold at_;rw[AN,AE hne];exact B4 hne
 have htop:=bIo (bEp o) hh
 have hle:∀y∈hl,ltH o y (at_ hl 0)=false:=by
  intro y hy
  obtain⟨j,hj,rfl⟩:=CQ hy
  have:=htop j hj
  rwa[show at_ hl j=hl[j] by simp[at_,AN,hj]] at this
 generalize at_ hl 0=x at*
 obtain⟨r,h1,h2,h3,h4,h5⟩:=h.hd x hx
 have hlt:x.run<rds.length:=(AK.1 h1).1
 have hre:rds[x.run]=r:=(AK.1 h1).2
 have hsp:rds=rds.take x.run++r::rds.drop (x.run+1):=by
  rw[←hre,←BM hlt,BT]
 have key:∀j q u s',rds[j]? =some q→aGw q=u::s'→∃y∈hl,y.run=j∧y.t=u:=by
  intro j q u s' hq he
  have ho:q.opn=true:=by
   cases hqo:q.opn with
   |true=>rfl
   |false=>unfold aGw at he;rw[hqo] at he;cases he
  obtain⟨y,hy,rfl⟩:=h.ex j q hq ho
  obtain⟨q',k1,k2,k3,k4,k5⟩:=h.hd y hy
  rw[hq] at k1;cases k1
  exact⟨y,hy,rfl,(bBi k5 he).symm⟩
 refine⟨rds.take x.run,r,rds.drop (x.run+1),hsp,by rw[BK];omega,h2,h3,h4,h5,?_,?_,?_⟩
 ·unfold aGw
  rw[if_pos h2]
  obtain⟨k1,k2⟩:=AK.1 h5
  rw[BM k1,k2,show r.pos-1+1=r.pos by omega]
 ·intro s hs
  obtain⟨q,hq,rfl⟩:=AT.1 hs
  refine⟨aRw (h.sd q (List.mem_of_mem_take hq)),fun u s' he=> ?_⟩
  obtain⟨j,hj,e⟩:=CQ hq
  rw[BK] at hj
  rw[List.getElem_take] at e
  obtain⟨y,hy,hyj,rfl⟩:=key j q u s' (AK.2 ⟨by omega,e⟩) he
  have:=hle y hy
  simp only[ltH,ltO,decide_eq_false_iff_not,decide_eq_true_eq] at this⊢
  have:=aDu o y.t x.t
  omega
 ·intro s hs
  obtain⟨q,hq,rfl⟩:=AT.1 hs
  refine⟨aRw (h.sd q (List.mem_of_mem_drop hq)),fun u s' he=> ?_⟩
  obtain⟨j,hj,e⟩:=CQ hq
  rw[List.length_drop] at hj
  rw[List.getElem_drop] at e
  obtain⟨y,hy,hyj,rfl⟩:=key (x.run+1+j) q u s' (AK.2 ⟨by omega,e⟩) he
  have:=hle y hy
  simp only[ltH,ltO,decide_eq_false_iff_not] at this⊢
  omega
end Go.Proofs.YtammjnjpheobaaaGreat
namespace Go.SL
section apart
variable {Q:Exit→Act→World→Prop} {w0:World} {S:List Nat} {n:Nat} {L:aBe} {D:List Deferred} {H:Hp}
theorem Dn.nodup {e:Exit} (h:(aEl H).Nodup→Dn Q w0 S n e L D H):Dn Q w0 S n e L D H:=by
 unfold Dn at h⊢
 exact fun a w hf hD hw=>h hw.nodup a w hf hD hw
theorem bBj {H Ha Hb:Hp} {c1 c2:aAc} (h:(aEl H).Nodup) (h1:aAn c1 H Ha) (h2:aAn c2 Ha Hb):∀k∈c1.map (·.1),k∉c2.map (·.1):=by
 unfold aAn at h1 h2
 have h3:H.flatten.Perm (c1++(c2++Hb.flatten)):=h1.trans (List.Perm.append_left _ h2)
 unfold aEl at h
 have h4:=(h3.map (fun p=>p.1)).nodup_iff.1 h
 rw[List.map_append,List.map_append] at h4
 intro k hk hk2
 exact(List.nodup_append.1 h4).2.2 k hk k (List.mem_append_left _ hk2) rfl
variable {P:Program} {ops:Array Oper} {cls:Nat→Oper→Cls} {k:Nat} {l:List (Nat×Oper)} {qs:List Rd}
theorem aUp {c c1 c2:aAc} {Ha Hb:Hp} (h1:aAn c1 H Ha) (h2:aAn c2 Ha Hb) (hp:(c1++c2).Perm c):H.flatten.Perm ((c::Hb).flatten):=by
 refine(aKl h1 h2).trans ?_
 simp only[List.flatten_cons]
 exact hp.append_right _
theorem R.joinP {c c1 c2:aAc} {Ha Hb:Hp} (hp:(c1++c2).Perm c) (h1:aAn c1 H Ha) (h2:aAn c2 Ha Hb) (h:R P ops Q cls w0 S n l L D (c::Hb) qs):R P ops Q cls w0 S n l L D H qs:=R.recut (aUp h1 h2 hp) h
theorem Dn.joinP {e:Exit} {c c1 c2:aAc} {Ha Hb:Hp} (hp:(c1++c2).Perm c) (h1:aAn c1 H Ha) (h2:aAn c2 Ha Hb) (h:Dn Q w0 S n e L D (c::Hb)):Dn Q w0 S n e L D H:=Dn.recut (aUp h1 h2 hp) h
end apart
end Go.SL
namespace Go.Proofs.YtammjnjpheobaaaGreat
open Go.SL Go.Spc Go.Tup Go.Srt
def Rdr.src (r:Rdr):Fl×List T5:=(r.f,r.ts)
theorem aLs.bx_mem {bw:Nat} {W:Wk} {r:Rdr} (h:aLs bw W r):r.bx∈r.cx.map (·.1):=by
 unfold aLs at h
 split at h
 ·obtain⟨_,buf,n,a,e,_⟩:=h
  rw[e];simp
 ·obtain⟨_,_,_,_,_,_,_,e⟩:=h
  rw[e];simp
theorem bIq {bw:Nat} {W:Wk} {rds:List Rdr} (h:∀r∈rds,aLs bw W r) {b:Nat} (hb:b∉(aDe rds).map (·.1)):b∉rds.map (·.bx):=by
 intro hm
 obtain⟨r,hr,rfl⟩:=AT.1 hm
 apply hb
 obtain⟨p,hp,e⟩:=AT.1 (h r hr).bx_mem
 rw[←e]
 refine AT.2 ⟨p,?_,rfl⟩
 unfold aDe
 exact List.mem_flatMap.2 ⟨r,hr,BO _ hp⟩
theorem bMv {o:T5} {once:Bool} {l:List T5} (h:Sd (ltO o) once l):Sd (ltO o) false l:=by
 cases once with
 |false=>exact h
 |true=>
  unfold Sd at*
  refine h.imp fun hab=> ?_
  simp only[if_true] at hab
  simp only[Bool.false_eq_true,if_false]
  exact(aBv o).asym _ _ hab
theorem MSt.permH {bw:Nat} {W:Wk} {o:T5} {rds:List Rdr} {hl hl':List Hd} (h:MSt bw W o rds hl) (hp:hl'.Perm hl):MSt bw W o rds hl' where
 rd:=h.rd
 nd:=h.nd
 hd:=fun x hx=>h.hd x (hp.mem_iff.1 hx)
 ex:=fun j r hj ho=>by
  obtain⟨x,hx,e⟩:=h.ex j r hj ho
  exact⟨x,hp.mem_iff.2 hx,e⟩
 one:=((hp.map _).nodup_iff).2 h.one
 sd:=h.sd
theorem MSt.move {bw:Nat} {W W':Wk} {o:T5} {rds:List Rdr} {hl:List Hd} (h:MSt bw W o rds hl) (hs:W'.δ.size=W.δ.size):MSt bw W' o rds hl:=
 {h with rd:=fun r hr=>(h.rd r hr).move hs}
theorem MSt.nil (bw:Nat) (W:Wk) (o:T5):MSt bw W o [] []:=⟨by simp,by simp,by simp,by simp,by simp,by simp⟩
theorem MSt.add {bw:Nat} {W W':Wk} {o:T5} {rds:List Rdr} {hl:List Hd} {r:Rdr} {t:T5} (h:MSt bw W o rds hl) (hs:W'.δ.size=W.δ.size) (hr:aLs bw W' r) (ho:r.opn=true) (hp:0<r.pos) (ht:r.ts[r.pos-1]? =some t)
  (hb:r.bx∉rds.map (·.bx)) (hsd:Sd (ltO o) false r.ts):MSt bw W' o (rds++[r]) (hl++[⟨t,rds.length,r.bx⟩]) where
 rd:=fun q hq=>by
  rcases AO.1 hq with hq|hq
  ·exact(h.rd q hq).move hs
  ·simp only[AY] at hq;subst hq;exact hr
 nd:=by
  rw[AV,B5]
  refine⟨h.nd,by simp,?_⟩
  intro a ha b hb2 e
  simp only[A0,DY,AY] at hb2
  subst hb2;subst e;exact hb ha
 hd:=fun x hx=>by
  rcases AO.1 hx with hx|hx
  ·obtain⟨q,h1,h2⟩:=h.hd x hx
   exact⟨q,by rw[A7 (AK.1 h1).1];exact h1,h2⟩
  ·simp only[AY] at hx;subst hx
   exact⟨r,by simp,ho,rfl,hp,ht⟩
 ex:=fun j q hj hq=>by
  by_cases hlt:j<rds.length
  ·rw[A7 hlt] at hj
   obtain⟨x,hx,e⟩:=h.ex j q hj hq
   exact⟨x,BO _ hx,e⟩
  ·have hjl:=(AK.1 hj).1
   rw[AF,CM] at hjl
   obtain rfl:j=rds.length:=by omega
   exact⟨_,BL _ AI,rfl⟩
 one:=by
  rw[AV,B5]
  refine⟨h.one,by simp,?_⟩
  intro a ha b hb2 e
  simp only[A0,DY,AY] at hb2
  subst hb2;subst e
  obtain⟨x,hx,e⟩:=AT.1 ha
  obtain⟨q,h1,_⟩:=h.hd x hx
  have:=(AK.1 h1).1
  omega
 sd:=fun q hq=>by
  rcases AO.1 hq with hq|hq
  ·exact h.sd q hq
  ·simp only[AY] at hq;subst hq;exact hsd
theorem mid_get {α:Type} {A B:List α} {r r':α} {j:Nat} (h:j≠A.length):(A++r'::B)[j]? =(A++r::B)[j]? :=by
 by_cases hlt:j<A.length
 ·rw[A7 hlt,A7 hlt]
 ·rw[BB (by omega),BB (by omega)]
  obtain⟨i,hi⟩:∃i,j-A.length=i+1:=⟨j-A.length-1,by omega⟩
  rw[hi];simp
theorem bKt {α:Type} {A B:List α} {r:α}:(A++r::B)[A.length]? =some r:=by simp
theorem MSt.step {bw:Nat} {W W':Wk} {o:T5} {A B:List Rdr} {r r':Rdr} {x:Hd} {tl:List Hd} {t:T5} (h:MSt bw W o (A++r::B) (x::tl)) (hA:A.length=x.run) (hs:W'.δ.size=W.δ.size) (hr:aLs bw W' r') (hb:r'.bx=r.bx) (hx:r.bx=x.rd) (hts:r'.ts=r.ts) (ho:r'.opn=true) (hp:0<r'.pos)
  (ht:r'.ts[r'.pos-1]? =some t):MSt bw W' o (A++r'::B) ({x with t:=t}::tl) where
 rd:=fun q hq=>by
  rcases AO.1 hq with hq|hq
  ·exact(h.rd q (BO _ hq)).move hs
  ·rcases AM.1 hq with rfl|hq
   ·exact hr
   ·exact(h.rd q (BL _ (AJ _ hq))).move hs
 nd:=by have:=h.nd;simp only[AV,A0,hb] at this⊢;exact this
 hd:=fun y hy=>by
  have hone:=h.one
  rw[A0,CB] at hone
  rcases AM.1 hy with rfl|hy
  ·exact⟨r',by dsimp only;rw[←hA];exact bKt,ho,hb.trans hx,hp,ht⟩
  ·obtain⟨q,h1,h2⟩:=h.hd y (AJ _ hy)
   refine⟨q,?_,h2⟩
   rw[mid_get (r:=r) (by rw[hA];intro e;exact hone.1 (AT.2 ⟨y,hy,e⟩))]
   exact h1
 ex:=fun j q hj hq=>by
  by_cases e:j=A.length
  ·exact⟨_,AI,by dsimp only;omega⟩
  ·rw[mid_get (r:=r) e] at hj
   obtain⟨y,hy,e2⟩:=h.ex j q hj hq
   rcases AM.1 hy with rfl|hy
   ·omega
   ·exact⟨y,AJ _ hy,e2⟩
 one:=by have:=h.one;simpa using this
 sd:=fun q hq=>by
  rcases AO.1 hq with hq|hq
  ·exact h.sd q (BO _ hq)
  ·rcases AM.1 hq with rfl|hq
   ·rw[hts];exact h.sd r (by simp)
   ·exact h.sd q (BL _ (AJ _ hq))
theorem MSt.close {bw:Nat} {W W':Wk} {o:T5} {A B:List Rdr} {r r':Rdr} {x:Hd} {tl:List Hd} (h:MSt bw W o (A++r::B) (x::tl)) (hA:A.length=x.run) (hs:W'.δ.size=W.δ.size) (hr:aLs bw W' r') (hb:r'.bx=r.bx) (hts:r'.ts=r.ts) (ho:r'.opn=false):
  MSt bw W' o (A++r'::B) tl where
 rd:=fun q hq=>by
  rcases AO.1 hq with hq|hq
  ·exact(h.rd q (BO _ hq)).move hs
  ·rcases AM.1 hq with rfl|hq
   ·exact hr
   ·exact(h.rd q (BL _ (AJ _ hq))).move hs
 nd:=by have:=h.nd;simp only[AV,A0,hb] at this⊢;exact this
 hd:=fun y hy=>by
  have hone:=h.one
  rw[A0,CB] at hone
  obtain⟨q,h1,h2⟩:=h.hd y (AJ _ hy)
  refine⟨q,?_,h2⟩
  rw[mid_get (r:=r) (by rw[hA];intro e;exact hone.1 (AT.2 ⟨y,hy,e⟩))]
  exact h1
 ex:=fun j q hj hq=>by
  by_cases e:j=A.length
  ·subst e;rw[bKt] at hj;cases hj;rw[ho] at hq;cases hq
  ·rw[mid_get (r:=r) e] at hj
   obtain⟨y,hy,e2⟩:=h.ex j q hj hq
   rcases AM.1 hy with rfl|hy
   ·omega
   ·exact⟨y,hy,e2⟩
 one:=by have:=h.one;rw[A0,CB] at this;exact this.2
 sd:=fun q hq=>by
  rcases AO.1 hq with hq|hq
  ·exact h.sd q (BO _ hq)
  ·rcases AM.1 hq with rfl|hq
   ·rw[hts];exact h.sd r (by simp)
   ·exact h.sd q (BL _ (AJ _ hq))
structure CSt (bw:Nat) (W:Wk) (rs:List Rdr) (l:List Hd):Prop where
 rd:∀r∈rs,aLs bw W r
 lr:∀x∈l,∃r∈rs,r.bx=x.rd
 rl:∀r∈rs,r.opn=true→∃x∈l,x.rd=r.bx
 nd:(rs.map (·.bx)).Nodup
theorem CSt.move {bw:Nat} {W W':Wk} {rs:List Rdr} {l:List Hd} (h:CSt bw W rs l) (hs:W'.δ.size=W.δ.size):CSt bw W' rs l:={h with rd:=fun r hr=>(h.rd r hr).move hs}
theorem MSt.cst {bw:Nat} {W:Wk} {o:T5} {rds:List Rdr} {hl:List Hd} (h:MSt bw W o rds hl):CSt bw W rds hl where
 rd:=h.rd
 lr:=fun x hx=>by
  obtain⟨r,h1,_,h2,_⟩:=h.hd x hx
  exact⟨r,AZ h1,h2⟩
 rl:=fun r hr ho=>by
  obtain⟨j,hj,e⟩:=CQ hr
  obtain⟨x,hx,e2⟩:=h.ex j r (by rw[AE hj,e]) ho
  obtain⟨q,h1,_,h2,_⟩:=h.hd x hx
  rw[e2,AE hj,e] at h1
  cases h1
  exact⟨x,hx,h2.symm⟩
 nd:=h.nd
theorem CSt.one {bw:Nat} {W W':Wk} {A B:List Rdr} {r r':Rdr} {l:List Hd} (h:CSt bw W (A++r::B) l) (hs:W'.δ.size=W.δ.size) (hr:aLs bw W' r') (hb:r'.bx=r.bx) (ho:r'.opn=false):CSt bw W' (A++r'::B) l where
 rd:=fun q hq=>by
  rcases AO.1 hq with hq|hq
  ·exact(h.rd q (BO _ hq)).move hs
  ·rcases AM.1 hq with rfl|hq
   ·exact hr
   ·exact(h.rd q (BL _ (AJ _ hq))).move hs
 lr:=fun x hx=>by
  obtain⟨q,hq,e⟩:=h.lr x hx
  rcases AO.1 hq with hq|hq
  ·exact⟨q,BO _ hq,e⟩
  ·rcases AM.1 hq with rfl|hq
   ·exact⟨r',BL _ AI,hb.trans e⟩
   ·exact⟨q,BL _ (AJ _ hq),e⟩
 rl:=fun q hq hqo=>by
  rcases AO.1 hq with hq|hq
  ·exact h.rl q (BO _ hq) hqo
  ·rcases AM.1 hq with rfl|hq
   ·rw[ho] at hqo;cases hqo
   ·exact h.rl q (BL _ (AJ _ hq)) hqo
 nd:=by have:=h.nd;simp only[AV,A0,hb] at this⊢;exact this
def rdA (s k:Nat) (rds:List Rdr):Nat:=(rds.map fun r=>aAb s k r.pos).sum
def left (rds:List Rdr):List T5:=(rds.map aGw).flatten
theorem aLt (s k:Nat) (A B:List Rdr) (r:Rdr):rdA s k (A++r::B)=rdA s k A+(aAb s k r.pos+rdA s k B):=by simp[rdA,CT]
theorem aKs (A B:List Rdr) (r:Rdr):left (A++r::B)=left A++(aGw r++left B):=by simp[left]
theorem bMw (s k:Nat) (A:List Rdr) (r:Rdr):rdA s k (A++[r])=rdA s k A+aAb s k r.pos:=by simp[rdA,CT]
theorem aUq (A:List Rdr) (r:Rdr):aAz (A++[r])=aAz A++(if r.opn=true then[r.g] else[]):=by
 unfold aAz
 rw[List.filter_append,AV]
 congr 1
 by_cases h:r.opn=true
 ·rw[if_pos h,List.filter_cons_of_pos h];rfl
 ·rw[if_neg h,List.filter_cons_of_neg h];rfl
theorem aUr (A B:List Rdr) (r:Rdr):(aDe (A++r::B)).Perm ((r.cx++r.cb)++aDe (A++B)):=by
 have h:(A++r::B).Perm (r::(A++B)):=B0
 refine(aQo h).trans ?_
 simp[aDe]
theorem aMl (A B:List Rdr) (r:Rdr) (ho:r.opn=true):(aAz (A++r::B)).Perm (r.g::aAz (A++B)):=by
 have h:(A++r::B).Perm (r::(A++B)):=B0
 refine(aHn h).trans ?_
 unfold aAz;rw[List.filter_cons_of_pos ho];exact .refl _
theorem aKt (A B:List Rdr) (r:Rdr) (ho:r.opn=false):(aAz (A++r::B)).Perm (aAz (A++B)):=by
 have h:(A++r::B).Perm (r::(A++B)):=B0
 refine(aHn h).trans ?_
 unfold aAz;rw[List.filter_cons_of_neg (by simp[ho])]
theorem aZj {s k:Nat} {rds:List Rdr} (h:∀r∈rds,r.pos≤r.f.count):rdA s k rds≤((rds.map Rdr.src).map fun r=>aAb s k r.1.count).sum:=by
 induction rds with
 |nil=>simp[rdA]
 |cons r rds ih=>
  have h1:=ih fun q hq=>h q (AJ _ hq)
  have h2:aAb s k r.pos≤aAb s k r.f.count:=aAk (h r AI)
  simp only[rdA,A0,DB,Rdr.src] at h1⊢
  omega
theorem aLu (A B:List Rdr) {r:Rdr} {cx cb:aAc} (h1:r.cx=cx) (h2:r.cb=cb):((cx++cb)++aDe (A++B)).Perm (aDe (A++r::B)):=by
 subst h1 h2;exact(aUr A B r).symm
theorem heap_set {o:T5} {x y:Hd} {tl:List Hd} (h:aCg (ltH o) (x::tl) (x::tl).length 0):aCg (ltH o) (y::tl) (y::tl).length 1:=by
 intro c h1 h2 h3
 have e:∀j,0<j→at_ (y::tl) j=at_ (x::tl) j:=fun j hj=>by
  obtain⟨i,rfl⟩:∃i,j=i+1:=⟨j-1,by omega⟩
  rfl
 rw[e _ h1,e _ h3]
 exact h c h1 h2 (AS _)
structure bMx where
 cd:aAc
 ca:aAc
 cs:aAc
 cx:aAc
 cb:aAc
 W:Wk
 rds:List Rdr
 hl:List Hd
 ps:List T5
 last:T5
 sm:Bool
 rest:List Value
structure bMy where
 i:Nat
 cnt:Nat
 cd:aAc
 ca:aAc
 W:Wk
 rds:List Rdr
 hl:List Hd
 p:Option Addr
 cap:Nat
 vc:aAc
structure bMz (W:Wk) (k:Nat) (o:T5) (once:Bool) (rs:List (Fl×List T5)):Prop where
 k1:1≤k
 k5:k≤5
 two:2≤rs.length
 ok:∀r∈rs,r.1.width=k∧aAq W.δ.disk W.δ.size [r.1.ext] r.1 r.2∧Sd (ltO o) once r.2∧0<r.1.count
 live:∀r∈rs,r.1.ext∈W.live
 room:(rs.length+1)*W.δ.size≤W.α.room-W.α.used
 acts:W.δ.acts≤100000000000
 cnt:(rs.map (·.1.count)).sum≤1000000
def aBk (s k:Nat) (rs:List (Fl×List T5)):Nat:=(rs.map fun r=>aAb s k r.1.count).sum
theorem aOk {l:List Nat} {i:Nat}:(l.take i).sum≤l.sum:=by
 have h:=congrArg List.sum (BT i l)
 rw[CT] at h;omega
theorem aLv {rs:List (Fl×List T5)} (h:∀r∈rs,0<r.1.count):rs.length≤(rs.map (·.1.count)).sum:=by
 induction rs with
 |nil=>simp
 |cons r rs ih=>
  have h1:=ih fun q hq=>h q (AJ _ hq)
  have h2:=h r AI
  simp only[A0,DB,AL];omega
theorem aUs {s k:Nat} (hp:1≤aAf s k) {rs:List (Fl×List T5)}:aBk s k rs≤(rs.map (·.1.count)).sum:=by
 induction rs with
 |nil=>simp[aBk]
 |cons r rs ih=>
  have h2:=aAv (n:=r.1.count) hp
  simp only[aBk,A0,DB] at ih⊢;omega
theorem bIr (bz bw bd ba bs:Nat) (W:Wk) (cd ca cs:aAc) (h:Wc bd ba bs W cd ca cs) (k:Nat) (o:T5) (once:Bool) (rs:List (Fl×List T5)) (hin:bMz W k o once rs) (vb off vcap:Nat) (cells:List Value)
  (hcell:∀(i:Nat) (r:Fl×List T5),rs[i]? =some r→(cells.drop (off+i*4)).take 4=[.int .i64 (r.1.first:Int),.int .i64 (r.1.blocks:Int),.int .i64 (r.1.width:Int),.int .i64 (r.1.count:Int)]) (p:Option Addr) (n cap:Nat) (last:T5) (sm:Bool):
  Ct AC 164 [pv bz,.slice (some ⟨vb,off,none⟩) rs.length vcap] [aPk bz bw o once p n cap last sm,aAh bw bd ba bs,cd,ca,cs,[(vb,row cells 27)]] fun v H'=>
   ∃cd' ca' cs' W' last' sm',H'=[aPk bz bw o once p n cap last' sm',aAh bw bd ba bs,cd',ca',cs',[(vb,row cells 27)]]∧Wc bd ba bs W' cd' ca' cs'∧
    Ev W W' (aBk W.δ.size k rs+aAb W.δ.size k (rs.map (·.1.count)).sum) (aAb W.δ.size k (rs.map (·.1.count)).sum)∧aBr W.live W W'∧W'.α.gs.Perm W.α.gs∧
    ((∃f out,v= .tuple #[flv f,.int .i64 0]∧W'.live.Perm (aCh f W.live)∧f.width=k∧0<f.count∧f.count≤(rs.map (·.1.count)).sum∧aAq W'.δ.disk W.δ.size [f.ext] f out∧Sd (ltO o) once out∧Go.Srt.Sp (ltO o) once (rs.flatMap (·.2)) out)∨
     (v= .tuple #[flv ⟨0,0,0,0⟩,.int .i64 5]∧big W.σ.free<aAb W.δ.size k (rs.map (·.1.count)).sum∧W'.live.Perm W.live)∨
     (v= .tuple #[flv ⟨0,0,0,0⟩,.int .i64 6]∧W.δ.fault≠-1∧W'.live.Perm W.live)):=by
 obtain⟨⟨hs1,hs2⟩,hbk,hfr⟩:=h.dev.num
 obtain⟨hu1,hu2,_,hu4⟩:=h.ar.num
 have hk1:=hin.k1
 have hk5:=hin.k5
 have hp:=aAj hs1 hk1 hk5
 have hcnt:=hin.cnt
 have hrl:rs.length≤(rs.map (·.1.count)).sum:=aLv fun r hr=>(hin.ok r hr).2.2.2
 have hfA:aBk W.δ.size k rs≤(rs.map (·.1.count)).sum:=aUs hp
 have hacW:=hin.acts
 have htwo:=hin.two
 unfold aPk aHx
 refine Ct.introD Tryz.func164 rfl Tryz.ntmps164 (nle rfl) fun w0=> ?_;dsimp only[aAa,AD]
 repeat(first|(refine st ?_;intros)|refine G.draw [] (h:= ?_)|refine G.draw (id:=15) [(10,.eff [0])] (h:= ?_)|(refine cq hN ?_))
 rename_i b4 bh bc
 have hroom:=hin.room
 have hrN:(rs.length+1)*W.δ.size=rs.length*W.δ.size+W.δ.size:=BD _ _
 refine G.loop (X:=bMy) (fun x=>x.i≤rs.length∧x.i=x.rds.length∧x.hl.length=x.i∧x.cnt=((rs.take x.i).map (·.1.count)).sum∧Wc bd ba bs x.W x.cd x.ca cs∧Ev W x.W (rdA W.δ.size k x.rds) 0∧x.W.δ.disk=W.δ.disk∧x.W.live=W.live∧x.W.σ=W.σ∧
   x.W.α.gs.Perm (aAz x.rds++W.α.gs)∧x.W.α.used=W.α.used+x.i*W.δ.size∧x.rds.map Rdr.src=rs.take x.i∧(∀r∈x.rds,r.opn=true∧r.pos=1)∧MSt bw x.W o x.rds x.hl∧Vec 237 7 x.p x.i x.cap (hcells x.hl) x.vc)
  (fun x=>[(30,.int .i64 (x.i:Int)),(7,.int .i64 (x.cnt:Int)),(28,.slice (some ⟨vb,off,none⟩) rs.length vcap),(29,.int .i64 (rs.length:Int)),(6,pv bc),(4,pv b4),(0,pv bz),(1,.slice (some ⟨vb,off,none⟩) rs.length vcap)])
  (fun x=>[[(b4,row [.int .i64 0,.int .i64 0,.int .i64 0,.int .i64 0] 27)],[(bc,row [pv bh] 232)],[(bh,row [.slice x.p x.i x.cap,.int .i64 o.c0,.int .i64 o.c1,.int .i64 o.c2,.int .i64 o.c3,.int .i64 o.c4] 235)],x.vc,aAh bw bd ba bs,x.cd,x.ca,cs,aDe x.rds,[(vb,row cells 27)],[(bz,row [pv bw,.int .i64 o.c0,.int .i64 o.c1,.int .i64 o.c2,.int .i64 o.c3,.int .i64 o.c4,.bool once,.slice p n cap,.int .i64 last.c0,.int .i64 last.c1,.int .i64 last.c2,.int .i64 last.c3,.int .i64 last.c4,.bool sm] 186)]])
  (fun x=>rs.length-x.i) ⟨0,0,cd,ca,W,[],[],none,0,[]⟩
  ⟨AS _,rfl,rfl,by simp,h,Ev.refl W,rfl,rfl,rfl,.refl _,by simp,by simp,by simp,MSt.nil _ _ _,Vec.nil _ _⟩ (by repeat(first|exact trivial|refine⟨rfl,?_⟩)) (by repeat(first|exact aAo.nil|(apply aAo.cons;·(first|exact aAn.nil|(repeat(first|exact aAn.here|apply aAn.there)))))) ?_
 rintro⟨i,cnt,cd1,ca1,W1,rds,hl,p1,cap1,vc⟩ ⟨hi,hird,hhl,hct,hW1,hE1,hd1,hl1,hσ1,hg1,hus1,hsrc,hop1,hM1,hV1⟩
 dsimp only at hi hird hhl hct hW1 hE1 hd1 hl1 hσ1 hg1 hus1 hsrc hop1 hM1 hV1⊢
 subst hhl
 have hsz1:=hE1.size
 have hrm1:W1.α.room=W.α.room:=hE1.room
 have hac1:=hE1.acts
 have hCl:=fun (W':Wk) (cd' ca' cs':aAc) (hWc:Wc bd ba bs W' cd' ca' cs') (l:List Hd) (p:Option Addr) (cap:Nat) (vc:aAc) (hV:Vec 237 7 p l.length cap (hcells l) vc) (hle:l.length≤1000000) (rs:List Rdr) (base:List Gr) (hg:W'.α.gs.Perm (aAz rs++base)) (hC:CSt bw W' rs l)=>
  aXe bc bh bw bd ba bs W' cd' ca' cs' hWc o l p cap vc hV hle rs base hg hC.rd hC.lr hC.rl hC.nd
 unfold bIp aNe at hCl
 have hrdA:rdA W.δ.size k rds≤aBk W.δ.size k rs:=by
  refine Nat.le_trans (aZj fun r hr=> ?_) ?_
  ·have h1:r.src∈rs.take hl.length:=by rw[←hsrc];exact AT.2 ⟨r,hr,rfl⟩
   have h2:=(hin.ok _ (List.mem_of_mem_take h1)).2.2.2
   have h3:=(hop1 r hr).2
   unfold Rdr.src at h2
   dsimp only at h2
   omega
  ·rw[hsrc,List.map_take];exact aOk
 by_cases hlt:hl.length<rs.length
 ·have hri:rs[hl.length]? =Option.some rs[hl.length]:=AE hlt
  have hcl:=hcell hl.length _ hri
  obtain⟨hf1,hf2,hf3,hf4⟩:=hin.ok _ (B4 hlt)
  have hfl:=hin.live _ (B4 hlt)
  have hmul:(hl.length+1)*W.δ.size≤rs.length*W.δ.size:=Nat.mul_le_mul_right _ (by omega)
  rw[BD] at hmul
  have htk:((rs.take (hl.length+1)).map (·.1.count)).sum=((rs.take hl.length).map (·.1.count)).sum+rs[hl.length].1.count:=by rw[BN,hri,AV,CT];simp
  have htk2:rs.take (hl.length+1)=rs.take hl.length++[rs[hl.length]]:=by rw[BN,hri];rfl
  have hcl2:((rs.take (hl.length+1)).map (·.1.count)).sum≤(rs.map (·.1.count)).sum:=by rw[List.map_take];exact aOk
  generalize hrr:rs[hl.length]=r at*
  obtain⟨f,ts⟩:=r
  dsimp only at hcl hf1 hf2 hf3 hf4 hfl htk
  have hfo:aAq W1.δ.disk W1.δ.size [f.ext] f ts:=by rw[hd1,hsz1];exact hf2
  have hRd:=aIk bw bd ba bs W1 cd1 ca1 cs hW1 f ts [f.ext] hfo (by rw[hsz1,hrm1,hus1];omega)
  have hflv:flv f= .agg #[.int .i64 (f.first:Int),.int .i64 (f.blocks:Int),.int .i64 (f.width:Int),.int .i64 (f.count:Int)]:=rfl
  rw[hflv] at hRd
  repeat(first|(refine st ?_;intros)|refine G.draw [] (h:= ?_)|refine G.draw (id:=15) [(10,.eff [0])] (h:= ?_)|(refine cq hN ?_))
  refine R.call (hct:=hRd) (h:= ?_)
  rintro _ _ ⟨bx,g,ca2,α2,cx,cb,rfl,rfl,hW2,hE2,hg2,hgn,hr2⟩
  try dsimp only[AA,AB]
  repeat(first|(refine st ?_;intros)|refine G.draw [] (h:= ?_)|refine G.draw (id:=15) [(10,.eff [0])] (h:= ?_)|(refine cq hN ?_))
  have htl:=hf2.len
  have ht0:ts[0]? =Option.some ts[0]:=AE (by omega)
  have hNx:=aJp bw bd ba bs {W1 with α:=α2} cd1 ca2 cs hW2 bx f ts [f.ext] (by dsimp only;exact hfo) (by dsimp only;rw[hl1];simpa using hfl) g (aAz rds++W.α.gs) (hg2.trans (hg1.cons _)) 0 cx cb hr2 _ ht0 (by dsimp only;omega)
  have htv:tv ts[0]= .agg #[.int .i64 (ts[0]).c0,.int .i64 (ts[0]).c1,.int .i64 (ts[0]).c2,.int .i64 (ts[0]).c3,.int .i64 (ts[0]).c4]:=rfl
  have hz:tv T5.zero= .agg #[.int .i64 T5.zero.c0,.int .i64 T5.zero.c1,.int .i64 T5.zero.c2,.int .i64 T5.zero.c3,.int .i64 T5.zero.c4]:=rfl
  rw[htv,hz] at hNx
  generalize ht:ts[0]=t at*
  refine R.call (hct:=hNx) (h:= ?_)
  rintro _ _ ⟨cd3,ca3,W3,cx3,cb3,rfl,hW3,hE3,hd3,hσ3,hl3,⟨rfl,hα3,hr3⟩|⟨rfl,hf3b,hδ3,hg3,hx3⟩⟩
  try dsimp only[AA,AB]
  ·have e1:AH .i64 ((cnt:Int)+(f.count:Int))=((cnt+f.count:Nat):Int):=by rw[aAd (by omega)];rfl
   have e2:AH .i64 ((hl.length:Int)+1)=((hl.length+1:Nat):Int):=by rw[aAd (by omega)];rfl
   have hh0:=hrr
   repeat(first|(refine st ?_;intros)|refine G.draw [] (h:= ?_)|refine G.draw (id:=15) [(10,.eff [0])] (h:= ?_)|(refine cq hN ?_))
   rename_i p' cap' c' hV'
   apply Dn.nodup;intro hnd
   have hap:=bBj (c1:=cx3) (c2:=aDe rds) hnd (by(repeat(first|exact aAn.here|apply aAn.there))) (by(repeat(first|exact aAn.here|apply aAn.there)))
   apply Dn.join (c1:=cx3) (c2:=cb3)
   ·(repeat(first|exact aAn.here|apply aAn.there))
   ·(repeat(first|exact aAn.here|apply aAn.there))
   apply Dn.join (c1:=aDe rds) (c2:=cx3++cb3)
   ·(repeat(first|exact aAn.here|apply aAn.there))
   ·(repeat(first|exact aAn.here|apply aAn.there))
   have hr3':aGo bw bx W3 f ts g 1 cx3 cb3:=hr3
   have hrd3:aLs bw W3 ⟨bx,f,ts,g,1,true,cx3,cb3⟩:=by unfold aLs;rw[if_pos rfl];exact hr3'
   have hE4:=(hE1.trans hE2).trans hE3
   rw[show aDe rds++(cx3++cb3)=aDe (rds++[⟨bx,f,ts,g,1,true,cx3,cb3⟩]) by simp[aDe]]
   refine Dn.round ⟨hl.length+1,cnt+f.count,cd3,ca3,W3,rds++[⟨bx,f,ts,g,1,true,cx3,cb3⟩],hl++[⟨t,hl.length,bx⟩],p',cap',c'⟩ ⟨hlt,by dsimp only;rw[AF,CM];omega,by dsimp only;rw[AF,CM],by dsimp only;omega,hW3,?_,hd3.trans hd1,hl3.trans hl1,hσ3.trans hσ1,?_,?_,?_,?_,?_,?_⟩ (by dsimp only;omega)
   ·have h0:aAb W.δ.size k 0=0:=aEc hp
    have:=hE4
    rw[hf1] at this
    dsimp only at this⊢
    rw[bMw]
    refine this.weak ?_ (AG _)
    show _+0+(aAb W1.δ.size k (0+1)-aAb W1.δ.size k 0)≤_+aAb W.δ.size k 1
    rw[hsz1,h0,BR];omega
   ·dsimp only
    rw[hα3,aUq,if_pos rfl]
    refine(hg2.trans (hg1.cons _)).trans ?_
    rw[AR]
    exact B0.symm
   ·have e3:=hW3.ar.num.2.2.2
    have e4:=hW1.ar.num.2.2.2
    dsimp only at hgn⊢
    rw[e3,hα3,(hg2.map (·.n)).sum_nat,A0,DB,←e4,hgn,hus1,hsz1,BD];omega
   ·dsimp only
    rw[AV,hsrc,htk2];rfl
   ·intro r hr
    rcases AO.1 hr with hr|hr
    ·exact hop1 r hr
    ·simp only[AY] at hr;subst hr;exact⟨rfl,rfl⟩
   ·have hbx:bx∉rds.map (·.bx):=bIq (W:=W3) (fun r hr=>(hM1.rd r hr).move (by rw[hE3.size,hE2.size])) (hap bx (by have:=hrd3.bx_mem;exact this))
    have:=hM1.add (W':=W3) (r:=⟨bx,f,ts,g,1,true,cx3,cb3⟩) (t:=t) (by rw[hE3.size,hE2.size]) hrd3 rfl Nat.one_pos ht0 hbx (bMv hf3)
    rw[←hird] at this
    exact this
   ·rw[aQn];exact hV'
  ·have hRc:=aUg bx cx3 hx3
   repeat(first|(refine st ?_;intros)|refine G.draw [] (h:= ?_)|refine G.draw (id:=15) [(10,.eff [0])] (h:= ?_)|(refine cq hN ?_))
   refine R.call (hct:=hRc) (h:= ?_)
   rintro _ _ ⟨rfl,rfl⟩
   try dsimp only[AA,AB]
   repeat(first|(refine st ?_;intros)|refine G.draw [] (h:= ?_)|refine G.draw (id:=15) [(10,.eff [0])] (h:= ?_)|(refine cq hN ?_))
   have hC3:=hCl W3 cd3 ca3 cs hW3 hl p1 cap1 vc hV1 (by omega) rds W.α.gs hg3 (hM1.cst.move (by rw[hE3.size,hE2.size]))
   refine Go.SL.Lv.call (hc:=hC3.2) (h:= ?_)
   rintro _ _ ⟨ca4,α4,rs4,rfl,rfl,hW4,hE5,hg4⟩
   try dsimp only[AA,AB]
   have hE4:=hE1.trans hE2
   have hE3b:=hE3
   (refine Go.SL.Lv.nil (Hr:=[[(bz,row [pv bw,.int .i64 o.c0,.int .i64 o.c1,.int .i64 o.c2,.int .i64 o.c3,.int .i64 o.c4,.bool once,.slice p n cap,.int .i64 last.c0,.int .i64 last.c1,.int .i64 last.c2,.int .i64 last.c3,.int .i64 last.c4,.bool sm] 186)],aAh bw bd ba bs,cd3,ca4,cs,[(vb,row cells 27)]]) Tryz.results164 (hR:= ?_);refine⟨cd3,ca4,cs,_,last,sm,rfl,hW4,?_,?_,hg4,.inr (.inr ⟨rfl,?_,?_⟩)⟩)
   ·have h5:=(hE4.trans hE3b).trans hE5
    rw[hf1] at h5
    refine h5.weak ?_ (AS _)
    show _+0+(aAb W1.δ.size k (0+1)-aAb W1.δ.size k 0)+0≤_
    rw[hsz1,BR]
    have h6:aAb W.δ.size k 1≤aAb W.δ.size k (rs.map (·.1.count)).sum:=aAk (by omega)
    omega
   ·exact fun x _=>by show W3.δ.disk x=_;rw[hd3];dsimp only;rw[hd1]
   ·intro e
    have:=(hE1.trans hE2).fault e
    dsimp only at this hf3b
    omega
   ·show W3.live.Perm W.live
    rw[hl3];dsimp only;rw[hl1]
 ·obtain hle:hl.length=rs.length:=by omega
  have htk:rs.take hl.length=rs:=by rw[hle,D9]
  rw[htk] at hct hsrc
  obtain⟨_,h0|⟨hb,rest,rfl,rfl,hvl,hmc,hcm⟩⟩:=hV1
  ·omega
  have hIn:=bMr bh hb cap1 o hl rest (by omega)
  unfold aBp aOj at hIn
  repeat(first|(refine st ?_;intros)|refine G.draw [] (h:= ?_)|refine G.draw (id:=15) [(10,.eff [0])] (h:= ?_)|(refine cq hN ?_))
  refine R.call (hct:=hIn) (h:= ?_)
  rintro _ _ ⟨hlB,rfl,rfl,hp2,hh2⟩
  try dsimp only[AA,AB]
  have hw2:cells[off+Int.toNat 0+2]? =Option.some (.int .i64 (k:Int)):=by
   have h0:rs[0]? =Option.some rs[0]:=AE (by omega)
   have h1:=hcell 0 _ h0
   have h2:=(hin.ok _ (B4 (show 0<rs.length by omega))).1
   have h3:((cells.drop (off+0*4)).take 4)[2]? =Option.some (.int .i64 (rs[0].1.width:Int)):=by rw[h1];rfl
   rw[List.getElem?_take_of_lt (by omega),BS] at h3
   rw[←h2];simpa using h3
  have hM2:=hM1.permH hp2
  have hlB2:hlB.length=rs.length:=by rw[hp2.length_eq,hle]
  have hWr:=aJy bw bd ba bs W1 cd1 ca1 cs hW1 k cnt hk1 hk5 (by omega) (by rw[hsz1,hrm1,hus1,hle];omega)
  rw[hsz1] at hWr
  repeat(first|(refine st ?_;intros)|refine G.draw [] (h:= ?_)|refine G.draw (id:=15) [(10,.eff [0])] (h:= ?_)|(refine cq hN ?_))
  apply R.call
  ·exact rfl
  ·exact hWr
  ·exact(by repeat(first|exact aAo.nil|(apply aAo.cons;·(repeat(first|exact aAn.here|apply aAn.there|exact aAn.nil)))))
  ·exact rfl
  ·exact nle rfl
  rintro _ _ (⟨hfit,bx,first,gw,cd3,ca3,cs3,W3,cx,cb,rfl,rfl,hW3,hE3,e3,e4,e5,e6,e7⟩|⟨hfull,rfl,cd3,ca3,cs3,W3,rfl,hW3,hE3,e3,e4,e5⟩)
  ·dsimp only[AA,AB]
   repeat(first|(refine st ?_;intros)|refine G.draw [] (h:= ?_)|refine G.draw (id:=15) [(10,.eff [0])] (h:= ?_)|(refine cq hN ?_))
   have hleft1:left rds=rs.flatMap (·.2):=by
    unfold left
    rw[←hsrc,List.flatMap_map,List.flatMap]
    refine congrArg List.flatten (List.map_congr_left fun r hr=> ?_)
    obtain⟨h1,h2⟩:=hop1 r hr
    unfold aGw Rdr.src
    rw[if_pos h1,h2];rfl
   refine G.loop (X:=bMx) (fun x=>Wc bd ba bs x.W x.cd x.ca x.cs∧Ev W x.W (rdA W.δ.size k x.rds+x.ps.length/aAf W.δ.size k) (aAb W.δ.size k cnt)∧aBr W.live W x.W∧aDm first (aAb W.δ.size k cnt) W.live x.W.live∧x.W.α.gs.Perm (gw::(aAz x.rds++W.α.gs))∧
     MSt bw x.W o x.rds x.hl∧aCg (ltH o) x.hl x.hl.length 0∧Em o once (rs.flatMap (·.2)) x.ps (left x.rds)∧aIa bw bx x.W first (aAb W.δ.size k cnt) k cnt gw x.ps x.cx x.cb∧bEj x.ps x.last x.sm∧
     x.rds.map Rdr.src=rs∧(∀r∈x.rds,r.pos≤r.f.count)∧x.ps.length+(left x.rds).length≤cnt∧cap1*7≤x.hl.length*7+x.rest.length∧x.hl.length≤rs.length)
    (fun _=>[(14,pv bx),(6,pv bc),(4,pv b4),(0,pv bz)])
    (fun x=>[aAh bw bd ba bs,x.cd,x.ca,x.cs,x.cx,x.cb,[(bh,row [.slice (some ⟨hb,0,none⟩) x.hl.length cap1,.int .i64 o.c0,.int .i64 o.c1,.int .i64 o.c2,.int .i64 o.c3,.int .i64 o.c4] 235)],[(hb,row (hcells x.hl++x.rest) 237)],
     [(b4,row [.int .i64 0,.int .i64 0,.int .i64 0,.int .i64 0] 27)],[(bc,row [pv bh] 232)],aDe x.rds,[(vb,row cells 27)],[(bz,row [pv bw,.int .i64 o.c0,.int .i64 o.c1,.int .i64 o.c2,.int .i64 o.c3,.int .i64 o.c4,.bool once,.slice p n cap,.int .i64 x.last.c0,.int .i64 x.last.c1,.int .i64 x.last.c2,.int .i64 x.last.c3,.int .i64 x.last.c4,.bool x.sm] 186)]])
    (fun x=>(left x.rds).length) ⟨cd3,ca3,cs3,cx,cb,W3,rds,hlB,[],last,false,rest⟩
    ⟨hW3,?_,?_,?_,?_,?_,?_,?_,?_,?_,?_,?_,?_,?_,?_⟩ (body:= ?_)
   ·exact(hE1.trans hE3).weak (by dsimp only;simp) (by omega)
   ·exact fun y _=>by show W3.δ.disk y=_;rw[e3,hd1]
   ·dsimp only;rw[←hl1];exact e6
   ·exact e4.trans (hg1.cons _)
   ·exact hM2.move hE3.size
   ·exact hh2
   ·dsimp only
    rw[hleft1];exact Em.start (Go.Srt.Sp.refl _ _)
   ·exact e7
   ·rfl
   ·exact hsrc
   ·intro r hr
    dsimp only at hr
    have h1:r.src∈rs:=by rw[←hsrc];exact AT.2 ⟨r,hr,rfl⟩
    have h2:=(hin.ok _ h1).2.2.2
    have h3:=(hop1 r hr).2
    unfold Rdr.src at h2
    dsimp only at h2
    omega
   ·dsimp only
    rw[hleft1,hct,AU,BR,List.length_flatMap]
    refine Nat.le_of_eq (congrArg List.sum (List.map_congr_left fun r hr=>(hin.ok r hr).2.1.len))
   ·dsimp only
    rw[aBw] at hvl
    rw[hlB2,←hle];exact hvl
   ·dsimp only;omega
   rintro⟨cd4,ca4,cs4,cx4,cb4,W4,rds4,hl4,ps4,last4,sm4,rest4⟩ ⟨hW4,hE4,hK4,hL4,hg4,hM4,hh4,hm4,hw4,hls4,hsrc4,hpos4,hlen4,hcap4,hhl4⟩
   dsimp only at hW4 hE4 hK4 hL4 hg4 hM4 hh4 hm4 hw4 hls4 hsrc4 hpos4 hlen4 hcap4 hhl4⊢
   have hN:=aRv bh hb cap1 o hl4 rest4
   unfold aBp at hN
   have hV4:Vec 237 7 (some ⟨hb,0,none⟩) hl4.length cap1 (hcells hl4) [(hb,row (hcells hl4++rest4) 237)]:=⟨by rw[aBw],.inr ⟨hb,rest4,rfl,rfl,by rw[aBw];exact hcap4,by omega,hcm⟩⟩
   by_cases hne:0<hl4.length
   ·obtain⟨x,tl,rfl⟩:∃x tl,hl4=x::tl:=by
     cases hl4 with
     |nil=>simp at hne
     |cons x tl=>exact⟨x,tl,rfl⟩
    obtain⟨a1,a2,a3,a4⟩:=aOi (rest:=rest4) hne
    obtain⟨A,r,B,rfl,hA,ho,hrb,hpp,hrt,hrm,hAs,hBs⟩:=hM4.top hne hh4
    have hat:at_ (x::tl) 0=x:=rfl
    rw[hat] at a4 hA hrb hrt hrm hAs hBs
    obtain⟨xt,xrun,xrd⟩:=x
    dsimp only at hA hrb hrt hrm hAs hBs
    subst hA hrb
    unfold Hd.cells at a4
    dsimp only at a4
    have hrin:r.src∈rs:=by rw[←hsrc4];exact AT.2 ⟨r,by simp,rfl⟩
    obtain⟨hf1,hf2,hf3,hf4⟩:=hin.ok _ hrin
    have hfl:=hin.live _ hrin
    unfold Rdr.src at hf1 hf2 hf3 hf4 hfl
    dsimp only at hf1 hf2 hf3 hf4 hfl
    have htl:=hf2.len
    have hposr:=hpos4 r (by simp)
    have hxt:xt∈r.ts:=AZ hrt
    have hsz4:=hE4.size
    have hac4:=hE4.acts
    have hpsc:ps4.length<cnt:=by
     have:=congrArg List.length (aKs A B r)
     rw[hrm] at this
     simp only[AF,AL] at this
     omega
    have hdv:ps4.length/aAf W.δ.size k≤ps4.length:=CU _ _
    have hrA4:rdA W.δ.size k (A++r::B)≤aBk W.δ.size k rs:=by
     rw[←hsrc4];exact aZj hpos4
    have hPt:=bKs bz bw bd ba bs W4 cd4 ca4 cs4 hW4 bx first _ k cnt gw ps4 cx4 cb4 hw4 _ hg4 W.live hL4 hpsc xt (by rw[←hf1];exact hf2.fit _ hxt) (by omega) o once p n cap last4 sm4 hls4
    unfold aPk aHx at hPt
    rw[hsz4] at hPt
    have htv:tv xt= .agg #[.int .i64 xt.c0,.int .i64 xt.c1,.int .i64 xt.c2,.int .i64 xt.c3,.int .i64 xt.c4]:=rfl
    rw[htv] at hPt
    repeat(first|(refine st ?_;intros)|refine G.draw [] (h:= ?_)|refine G.draw (id:=15) [(10,.eff [0])] (h:= ?_)|(refine cq hN ?_))
    refine R.call (hct:=hPt) (h:= ?_)
    rintro _ _ ⟨cd5,ca5,cs5,W5,cx5,cb5,last5,sm5,rfl,hW5,hE5,hK5,⟨rfl,e8,e9,e10,e11,e12⟩|⟨rfl,e8,e9,e10,e11,e12⟩⟩
    try dsimp only[AA,AB]
    ·have hsz5:=hE5.size
     have hac5:=hE5.acts
     have hem:=aNb o once ps4 xt
     have hm5:=Em.merge (A:=A.map aGw) (B:=B.map aGw) (t:=xt) (r:=r.ts.drop r.pos) (by have:=hm4;unfold left at this;rw[AV,A0,hrm] at this;exact this) hAs hBs (by rw[←hrm];exact aRw (hM4.sd r (by simp)))
     have hdv5:(aLe o once ps4 xt).length/aAf W.δ.size k≤(aLe o once ps4 xt).length:=CU _ _
     have hmon:ps4.length/aAf W.δ.size k≤(aLe o once ps4 xt).length/aAf W.δ.size k:=BY hem.1
     have hK45:=hK4.trans hK5
     have hemn:(aLe o once ps4 xt).length/aAf W.δ.size k≤aAb W.δ.size k cnt:=by unfold aAb;exact BY (by omega)
     have hrA6:r.pos<r.ts.length→rdA W.δ.size k A+(aAb W.δ.size k (r.pos+1)+rdA W.δ.size k B)≤aBk W.δ.size k rs:=fun hlt=>by
      have h1:=aZj (s:=W.δ.size) (k:=k) (rds:=A++{r with pos:=r.pos+1}::B) (fun q hq=>by
       rcases AO.1 hq with hq|hq
       ·exact hpos4 q (BO _ hq)
       ·rcases AM.1 hq with rfl|hq
        ·dsimp only;omega
        ·exact hpos4 q (BL _ (AJ _ hq)))
      rw[aLt] at h1
      have h2:(A++{r with pos:=r.pos+1}::B).map Rdr.src=rs:=by rw[←hsrc4,AV,AV];rfl
      rw[h2] at h1;exact h1
     have hrd4:=hM4.rd r (by simp)
     unfold aLs at hrd4
     rw[if_pos ho] at hrd4
     have hg5:W5.α.gs.Perm (r.g::gw::(aAz (A++B)++W.α.gs)):=by
      rw[e8]
      refine hg4.trans ?_
      refine(((aMl A B r ho).append_right _).cons _).trans ?_
      exact CO _ _ _
     have hfo5:aAq W5.δ.disk W5.δ.size [r.f.ext] r.f r.ts:=by
      rw[hsz5,hsz4]
      exact hf2.keep fun y hy=>hK45 y (by obtain⟨e,he,h2⟩:=hy;simp only[AY] at he;subst he;exact⟨_,hfl,h2⟩)
     have hsb5:∀e∈[r.f.ext],e∈W5.live:=by
      intro e he
      simp only[AY] at he
      subst he
      rw[e10]
      unfold aDm at hL4
      split at hL4
      ·exact hL4.mem_iff.2 hfl
      ·exact hL4.mem_iff.2 (AJ _ hfl)
     have hz:tv T5.zero= .agg #[.int .i64 T5.zero.c0,.int .i64 T5.zero.c1,.int .i64 T5.zero.c2,.int .i64 T5.zero.c3,.int .i64 T5.zero.c4]:=rfl
     have hr5:aGo bw r.bx W5 r.f r.ts r.g r.pos r.cx r.cb:=hrd4.move hsz5
     repeat(first|(refine st ?_;intros)|refine G.draw [] (h:= ?_)|refine G.draw (id:=15) [(10,.eff [0])] (h:= ?_)|(refine cq hN ?_))
     apply R1.open (aUr A B r)
     ·(repeat(first|exact aAn.here|apply aAn.there))
     apply R1.open (c:=r.cx++r.cb) (c1:=r.cx) (c2:=r.cb) (.refl _)
     ·(repeat(first|exact aAn.here|apply aAn.there))
     by_cases hend:r.pos<r.ts.length
     ·have htg:r.ts[r.pos]? =Option.some r.ts[r.pos]:=AE hend
      have hNx:=aJp bw bd ba bs W5 cd5 ca5 cs5 hW5 r.bx r.f r.ts [r.f.ext] hfo5 hsb5 r.g _ hg5 r.pos r.cx r.cb hr5 _ htg (by omega)
      have htv2:tv r.ts[r.pos]= .agg #[.int .i64 (r.ts[r.pos]).c0,.int .i64 (r.ts[r.pos]).c1,.int .i64 (r.ts[r.pos]).c2,.int .i64 (r.ts[r.pos]).c3,.int .i64 (r.ts[r.pos]).c4]:=rfl
      rw[htv2,hz] at hNx
      generalize hyt:r.ts[r.pos]=yt at*
      refine R.call (hct:=hNx) (h:= ?_)
      rintro _ _ ⟨cd6,ca6,W6,cx6,cb6,rfl,hW6,hE6,hd6,hσ6,hl6',⟨rfl,hα6,hr6⟩|⟨rfl,hf6,hδ6,hg6,hx6⟩⟩
      try dsimp only[AA,AB]
      ·have hset5:aFi (hcells (⟨xt,A.length,r.bx⟩::tl)++rest4) 0 [.int .i64 yt.c0,.int .i64 yt.c1,.int .i64 yt.c2,.int .i64 yt.c3,.int .i64 yt.c4]=hcells (⟨yt,A.length,r.bx⟩::tl)++rest4:=by simp[hcells,Hd.cells,aFi]
       have hlen7:5≤(hcells (⟨xt,A.length,r.bx⟩::tl)++rest4).length:=by rw[AF,aBw,AL];omega
       have hFx:=Fix_ct bh hb cap1 o (⟨yt,A.length,r.bx⟩::tl) rest4 (by rw[AL] at hhl4⊢;omega) (heap_set hh4)
       unfold aBp aOj at hFx
       repeat(first|(refine st ?_;intros)|refine G.draw [] (h:= ?_)|refine G.draw (id:=15) [(10,.eff [0])] (h:= ?_)|(refine cq hN ?_))
       refine R.call (hct:=hFx) (h:= ?_)
       rintro _ _ ⟨hl6,rfl,rfl,hp6,hh6⟩
       try dsimp only[AA,AB]
       repeat(first|(refine st ?_;intros)|refine G.draw [] (h:= ?_)|refine G.draw (id:=15) [(10,.eff [0])] (h:= ?_)|(refine cq hN ?_))
       apply Dn.join (c1:=cx6) (c2:=cb6)
       ·(repeat(first|exact aAn.here|apply aAn.there))
       ·(repeat(first|exact aAn.here|apply aAn.there))
       obtain⟨r6,hr6e⟩:∃r6:Rdr,r6={r with pos:=r.pos+1,cx:=cx6,cb:=cb6}:=⟨_,rfl⟩
       apply Dn.joinP (c:=aDe (A++r6::B)) (c1:=cx6++cb6) (c2:=aDe (A++B)) (aLu A B (by rw[hr6e]) (by rw[hr6e]))
       ·(repeat(first|exact aAn.here|apply aAn.there))
       ·(repeat(first|exact aAn.here|apply aAn.there))
       have hsz6:=hE6.size
       have h6o:r6.opn=true:=by rw[hr6e];exact ho
       have h6p:r6.pos=r.pos+1:=by rw[hr6e]
       have h6t:r6.ts=r.ts:=by rw[hr6e]
       have h6f:r6.f=r.f:=by rw[hr6e]
       have h6b:r6.bx=r.bx:=by rw[hr6e]
       have h6g:r6.g=r.g:=by rw[hr6e]
       have hrs6:aLs bw W6 r6:=by unfold aLs;rw[if_pos h6o,hr6e];exact hr6
       have hrem6:aGw r6=r.ts.drop r.pos:=by unfold aGw;rw[if_pos h6o,h6p,h6t,DH]
       have hl64:=hp6.length_eq
       rw[AL] at hl64 hhl4 hcap4
       have hleft:(left (A++r6::B)).length+1=(left (A++r::B)).length:=by
        rw[aKs,aKs,hrem6,hrm];simp only[AF,AL];omega
       refine Dn.round ⟨cd6,ca6,cs5,cx5,cb5,W6,A++r6::B,hl6,aLe o once ps4 xt,last5,sm5,rest4⟩ ⟨hW6,?_,hK45.trans fun y _=>by rw[hd6],by rw[hl6',e10];exact hL4,?_,?_,hh6,?_,e11.move hsz6 fun y _ _=>by rw[hd6],e12,?_,?_,?_,?_,?_⟩ (by dsimp only;omega)
       ·have h7:=(hE4.trans hE5).trans hE6
        rw[hsz5,hsz4,hf1] at h7
        refine h7.weak ?_ (AG _)
        dsimp only
        rw[aLt,aLt,h6p]
        have:=aAk (s:=W.δ.size) (k:=k) (show r.pos≤r.pos+1 by omega)
        omega
       ·dsimp only
        rw[hα6]
        refine hg5.trans ((CO _ _ _).trans (List.Perm.cons _ ?_))
        have:=(aMl A B r6 h6o).symm.append_right W.α.gs
        rw[h6g] at this
        exact this
       ·exact(hM4.step rfl (by rw[hsz6,hsz5]) hrs6 h6b rfl h6t h6o (by omega) (by rw[h6t,h6p,DH];exact htg)).permH hp6
       ·dsimp only
        unfold left
        rw[AV,A0,hrem6];exact hm5
       ·dsimp only
        rw[←hsrc4,AV,AV,A0,A0]
        unfold Rdr.src;rw[h6t,h6f]
       ·intro q hq
        dsimp only at hq
        rcases AO.1 hq with hq|hq
        ·exact hpos4 q (BO _ hq)
        ·rcases AM.1 hq with rfl|hq
         ·rw[h6p,h6f];omega
         ·exact hpos4 q (BL _ (AJ _ hq))
       ·dsimp only;omega
       ·dsimp only;omega
       ·dsimp only;omega
      ·obtain⟨rc,hrce⟩:∃rc:Rdr,rc={r with opn:=false,cx:=cx6,cb:=cb6}:=⟨_,rfl⟩
       have hco:rc.opn=false:=by rw[hrce]
       have hrsc:aLs bw W6 rc:=by unfold aLs;rw[if_neg (by rw[hco];simp),hrce];exact hx6
       apply R.join (c1:=cx6) (c2:=cb6)
       ·(repeat(first|exact aAn.here|apply aAn.there))
       ·(repeat(first|exact aAn.here|apply aAn.there))
       apply R.joinP (c:=aDe (A++rc::B)) (c1:=cx6++cb6) (c2:=aDe (A++B)) (aLu A B (by rw[hrce]) (by rw[hrce]))
       ·(repeat(first|exact aAn.here|apply aAn.there))
       ·(repeat(first|exact aAn.here|apply aAn.there))
       have hsz6:=hE6.size
       have hwm:aIa bw bx W6 first (aAb W.δ.size k cnt) k cnt gw (aLe o once ps4 xt) cx5 cb5:=e11.move hsz6 fun y _ _=>by rw[hd6]
       have hDr:=aWx bw bd ba bs W6 cd6 ca6 cs5 hW6 bx first _ k cnt gw _ cx5 cb5 hwm _ hg6 W.live (by rw[hl6',e10];exact hL4)
       repeat(first|(refine st ?_;intros)|refine G.draw [] (h:= ?_)|refine G.draw (id:=15) [(10,.eff [0])] (h:= ?_)|(refine cq hN ?_))
       refine Go.SL.Lv.call (hc:=hDr.2) (h:= ?_)
       rintro _ _ ⟨cd7,ca7,cs7,W7,cx7,cb7,rfl,rfl,hW7,hE7,hδ7,hg7,hl7,hx7⟩
       try dsimp only[AA,AB]
       have hC7:=hCl W7 cd7 ca7 cs7 hW7 _ _ cap1 _ hV4 (by omega) (A++rc::B) W.α.gs (hg7.trans ((aKt A B rc hco).symm.append_right _)) ((hM4.cst.move (W':=W5) hsz5).one (by rw[hE7.size,hsz6]) (by unfold aLs at hrsc⊢;rw[if_neg (by rw[hco];simp)] at hrsc⊢;exact hrsc) (by rw[hrce]) hco)
       refine Go.SL.Lv.call (hc:=hC7.2) (h:= ?_)
       rintro _ _ ⟨ca8,α8,rs8,rfl,rfl,hW8,hE8,hg8⟩
       try dsimp only[AA,AB]
       (refine Go.SL.Lv.nil (Hr:=[[(bz,row [pv bw,.int .i64 o.c0,.int .i64 o.c1,.int .i64 o.c2,.int .i64 o.c3,.int .i64 o.c4,.bool once,.slice p n cap,.int .i64 last5.c0,.int .i64 last5.c1,.int .i64 last5.c2,.int .i64 last5.c3,.int .i64 last5.c4,.bool sm5] 186)],aAh bw bd ba bs,cd7,ca8,cs7,[(vb,row cells 27)]]) Tryz.results164 (hR:= ?_);refine⟨cd7,ca8,cs7,_,last5,sm5,rfl,hW8,?_,?_,hg8,.inr (.inr ⟨rfl,?_,hl7⟩)⟩)
       ·have h7:=(((hE4.trans hE5).trans hE6).trans hE7).trans hE8
        rw[hsz5,hsz4,hf1] at h7
        rw[←hct]
        refine h7.weak ?_ (AG _)
        have h8:=hrA6 hend
        rw[aLt]
        have:=aAk (s:=W.δ.size) (k:=k) (show r.pos≤r.pos+1 by omega)
        omega
       ·exact fun y hy=>by show W7.δ.disk y=_;rw[hδ7];rw[hd6];exact hK45 y hy
       ·intro e
        have:=(hE4.trans hE5).fault e
        omega
     ·have hpe:r.pos=r.f.count:=by omega
      have hNe:=aFw bw r.bx W5 r.f r.ts r.g r.cx r.cb (by rw[←hpe];exact hr5)
      rw[hz] at hNe
      refine R.call (hct:=hNe) (h:= ?_)
      rintro _ _ ⟨rfl,rfl⟩
      try dsimp only[AA,AB]
      have hPp:=bMt bh hb cap1 o (⟨xt,A.length,r.bx⟩::tl) rest4 (by omega) (by omega) hne hh4
      unfold aBp aOj at hPp
      have hRc:=aMy bw bd ba bs W5 cd5 ca5 cs5 hW5 r.bx r.f r.ts r.g _ hg5 r.pos r.cx r.cb hr5
      repeat(first|(refine st ?_;intros)|refine G.draw [] (h:= ?_)|refine G.draw (id:=15) [(10,.eff [0])] (h:= ?_)|(refine cq hN ?_))
      refine R.call (hct:=hPp) (h:= ?_)
      rintro _ _ ⟨hl6,y6,rfl,hy6,rfl,hp6,hln6,hh6⟩
      try dsimp only[AA,AB]
      have hy7:y6=⟨xt,A.length,r.bx⟩:=hy6
      subst hy7
      repeat(first|(refine st ?_;intros)|refine G.draw [] (h:= ?_)|refine G.draw (id:=15) [(10,.eff [0])] (h:= ?_)|(refine cq hN ?_))
      refine R.call (hct:=hRc) (h:= ?_)
      rintro _ _ ⟨ca7,α7,cx7,rfl,rfl,hW7,hE7,hg7,hx7⟩
      try dsimp only[AA,AB]
      repeat(first|(refine st ?_;intros)|refine G.draw [] (h:= ?_)|refine G.draw (id:=15) [(10,.eff [0])] (h:= ?_)|(refine cq hN ?_))
      obtain⟨rc,hrce⟩:∃rc:Rdr,rc={r with opn:=false,cx:=cx7}:=⟨_,rfl⟩
      have hco:rc.opn=false:=by rw[hrce]
      have hct7:rc.ts=r.ts:=by rw[hrce]
      have hcf7:rc.f=r.f:=by rw[hrce]
      have hcp7:rc.pos=r.pos:=by rw[hrce]
      have hcb7:rc.bx=r.bx:=by rw[hrce]
      have hrsc:aLs bw {W5 with α:=α7} rc:=by unfold aLs;rw[if_neg (by rw[hco];simp),hrce];exact hx7
      apply Dn.join (c1:=cx7) (c2:=r.cb)
      ·(repeat(first|exact aAn.here|apply aAn.there))
      ·(repeat(first|exact aAn.here|apply aAn.there))
      apply Dn.joinP (c:=aDe (A++rc::B)) (c1:=cx7++r.cb) (c2:=aDe (A++B)) (aLu A B (by rw[hrce]) (by rw[hrce]))
      ·(repeat(first|exact aAn.here|apply aAn.there))
      ·(repeat(first|exact aAn.here|apply aAn.there))
      have hremc:aGw rc=[]:=by unfold aGw;rw[hco];rfl
      have hdr:r.ts.drop r.pos=[]:=List.drop_of_length_le (by omega)
      rw[hdr] at hm5 hrm
      have hleft:(left (A++rc::B)).length+1=(left (A++r::B)).length:=by
       rw[aKs,aKs,hremc,hrm];simp only[AF,AL,AU];omega
      rw[AL] at hln6 hhl4 hcap4
      have hE57:=(hE4.trans hE5).trans hE7
      refine Dn.round ⟨cd5,ca7,cs5,cx5,cb5,{W5 with α:=α7},A++rc::B,hl6,aLe o once ps4 xt,last5,sm5,Hd.cells ⟨xt,A.length,r.bx⟩++rest4⟩ ⟨hW7,?_,hK45,by dsimp only;rw[e10];exact hL4,?_,?_,hh6,?_,e11.move rfl fun _ _ _=>rfl,e12,?_,?_,?_,?_,?_⟩ (by dsimp only;omega)
      ·refine hE57.weak ?_ (AG _)
       dsimp only
       rw[aLt,aLt,hcp7]
       omega
      ·dsimp only
       exact hg7.trans (((aKt A B rc hco).symm.append_right _).cons _)
      ·refine(MSt.close (W':={W5 with α:=α7}) (hM4.permH hp6) rfl hsz5 hrsc hcb7 hct7 hco)
      ·dsimp only
       unfold left
       rw[AV,A0,hremc];exact hm5
      ·dsimp only
       rw[←hsrc4,AV,AV,A0,A0]
       unfold Rdr.src;rw[hct7,hcf7]
      ·intro q hq
       dsimp only at hq
       rcases AO.1 hq with hq|hq
       ·exact hpos4 q (BO _ hq)
       ·rcases AM.1 hq with rfl|hq
        ·rw[hcp7,hcf7];omega
        ·exact hpos4 q (BL _ (AJ _ hq))
      ·dsimp only;omega
      ·dsimp only
       rw[AF,show(Hd.cells ⟨xt,A.length,r.bx⟩).length=7 from rfl];omega
      ·dsimp only;omega
    ·repeat(first|(refine st ?_;intros)|refine G.draw [] (h:= ?_)|refine G.draw (id:=15) [(10,.eff [0])] (h:= ?_)|(refine cq hN ?_))
     refine Go.SL.Lv.call (hc:=(aEs bx cx5 e12).2) (h:= ?_)
     rintro _ _ ⟨rfl,rfl⟩
     try dsimp only[AA,AB]
     have hC7:=hCl W5 cd5 ca5 cs5 hW5 _ _ cap1 _ hV4 (by omega) (A++r::B) W.α.gs e10 (hM4.cst.move hE5.size)
     refine Go.SL.Lv.call (hc:=hC7.2) (h:= ?_)
     rintro _ _ ⟨ca8,α8,rs8,rfl,rfl,hW8,hE8,hg8⟩
     try dsimp only[AA,AB]
     (refine Go.SL.Lv.nil (Hr:=[[(bz,row [pv bw,.int .i64 o.c0,.int .i64 o.c1,.int .i64 o.c2,.int .i64 o.c3,.int .i64 o.c4,.bool once,.slice p n cap,.int .i64 last5.c0,.int .i64 last5.c1,.int .i64 last5.c2,.int .i64 last5.c3,.int .i64 last5.c4,.bool sm5] 186)],aAh bw bd ba bs,cd5,ca8,cs5,[(vb,row cells 27)]]) Tryz.results164 (hR:= ?_);refine⟨cd5,ca8,cs5,_,last5,sm5,rfl,hW8,?_,?_,hg8,.inr (.inr ⟨rfl,?_,e11⟩)⟩)
     ·have h7:=(hE4.trans hE5).trans hE8
      rw[←hct]
      refine h7.weak ?_ (AG _)
      have hem:=aNb o once ps4 xt
      have hemn:(aLe o once ps4 xt).length/aAf W.δ.size k≤aAb W.δ.size k cnt:=by unfold aAb;exact BY (by omega)
      have hdn:ps4.length/aAf W.δ.size k≤aAb W.δ.size k cnt:=by unfold aAb;exact BY (by omega)
      omega
     ·exact hK4.trans hK5
     ·intro e
      have:=hE4.fault e
      omega
   ·have hl0:hl4=[]:=by
     cases hl4 with
     |nil=>rfl
     |cons x tl=>simp at hne
    subst hl0
    have hcls:∀r∈rds4,r.opn=false:=by
     intro r hr
     cases ho:r.opn with
     |false=>rfl
     |true=>
      obtain⟨x,hx,_⟩:=hM4.cst.rl r hr ho
      simp at hx
    have hleft0:left rds4=[]:=by
     unfold left
     rw[List.flatten_eq_nil_iff]
     intro l hl
     obtain⟨r,hr,rfl⟩:=AT.1 hl
     unfold aGw;rw[hcls r hr];rfl
    have hrg0:aAz rds4=[]:=by
     unfold aAz
     rw[ED.2 (fun r hr=>by rw[hcls r hr];simp)];rfl
    rw[hleft0] at hm4 hlen4
    rw[AU,Nat.add_zero] at hlen4
    have hsz4:=hE4.size
    have hac4:=hE4.acts
    have hdv:ps4.length/aAf W.δ.size k≤ps4.length:=CU _ _
    have hrA4:rdA W.δ.size k rds4≤aBk W.δ.size k rs:=by
     rw[←hsrc4];exact aZj hpos4
    have hCw:=aOd bw bd ba bs W4 cd4 ca4 cs4 hW4 bx first _ k cnt gw ps4 cx4 cb4 hw4 _ hg4 W.live hL4 (by omega)
    rw[hsz4] at hCw
    have hpn:aAb W.δ.size k ps4.length≤aAb W.δ.size k cnt:=aAk hlen4
    have hpd:ps4.length/aAf W.δ.size k≤aAb W.δ.size k ps4.length:=by unfold aAb;exact BY (by omega)
    repeat(first|(refine st ?_;intros)|refine G.draw [] (h:= ?_)|refine G.draw (id:=15) [(10,.eff [0])] (h:= ?_)|(refine cq hN ?_))
    refine R.call (hct:=hCw) (h:= ?_)
    rintro _ _ ⟨cd5,ca5,cs5,W5,cx5,cb5,rfl,hW5,hE5,hK5,hg5,hx5,⟨f,rfl,e8,e9,e10,e11⟩|⟨rfl,e8,e9,e10⟩⟩
    try dsimp only[AA,AB]
    ·have hflv:flv f= .agg #[.int .i64 (f.first:Int),.int .i64 (f.blocks:Int),.int .i64 (f.width:Int),.int .i64 (f.count:Int)]:=rfl
     rw[hflv]
     repeat(first|(refine st ?_;intros)|refine G.draw [] (h:= ?_)|refine G.draw (id:=15) [(10,.eff [0])] (h:= ?_)|(refine cq hN ?_))
     refine Go.SL.Lv.call (hc:=(aEs bx cx5 hx5).2) (h:= ?_)
     rintro _ _ ⟨rfl,rfl⟩
     try dsimp only[AA,AB]
     have hC7:=hCl W5 cd5 ca5 cs5 hW5 _ _ cap1 _ hV4 (by omega) rds4 W.α.gs hg5 (hM4.cst.move hE5.size)
     refine Go.SL.Lv.call (hc:=hC7.2) (h:= ?_)
     rintro _ _ ⟨ca8,α8,rs8,rfl,rfl,hW8,hE8,hg8⟩
     try dsimp only[AA,AB]
     (refine Go.SL.Lv.nil (Hr:=[[(bz,row [pv bw,.int .i64 o.c0,.int .i64 o.c1,.int .i64 o.c2,.int .i64 o.c3,.int .i64 o.c4,.bool once,.slice p n cap,.int .i64 last4.c0,.int .i64 last4.c1,.int .i64 last4.c2,.int .i64 last4.c3,.int .i64 last4.c4,.bool sm4] 186)],aAh bw bd ba bs,cd5,ca8,cs5,[(vb,row cells 27)]]) Tryz.results164 (hR:= ?_);refine⟨cd5,ca8,cs5,_,last4,sm4,rfl,hW8,?_,?_,hg8,.inl ⟨f,ps4,rfl,?_,e9,?_,by omega,e11,?_,?_⟩⟩)
     ·rw[←hct]
      exact((hE4.trans hE5).trans hE8).weak (by omega) (AG _)
     ·exact hK4.trans hK5
     ·show W5.live.Perm _
      rw[e8];exact .refl _
     ·rw[e10]
      cases hps:ps4 with
      |cons a b=>simp
      |nil=>
       exfalso
       have h1:=bEn hm4.fin.2 hps
       have h0:rs[0]∈rs:=B4 (by omega)
       obtain⟨_,hf2,_,hf4⟩:=hin.ok _ h0
       have:=hf2.len
       rw[List.flatMap_eq_nil_iff] at h1
       have h3:=h1 _ h0
       rw[h3] at this
       simp at this;omega
     ·exact hm4.fin.1
     ·exact hm4.fin.2
    ·repeat(first|(refine st ?_;intros)|refine G.draw [] (h:= ?_)|refine G.draw (id:=15) [(10,.eff [0])] (h:= ?_)|(refine cq hN ?_))
     refine Go.SL.Lv.call (hc:=(aEs bx cx5 hx5).2) (h:= ?_)
     rintro _ _ ⟨rfl,rfl⟩
     try dsimp only[AA,AB]
     have hC7:=hCl W5 cd5 ca5 cs5 hW5 _ _ cap1 _ hV4 (by omega) rds4 W.α.gs hg5 (hM4.cst.move hE5.size)
     refine Go.SL.Lv.call (hc:=hC7.2) (h:= ?_)
     rintro _ _ ⟨ca8,α8,rs8,rfl,rfl,hW8,hE8,hg8⟩
     try dsimp only[AA,AB]
     (refine Go.SL.Lv.nil (Hr:=[[(bz,row [pv bw,.int .i64 o.c0,.int .i64 o.c1,.int .i64 o.c2,.int .i64 o.c3,.int .i64 o.c4,.bool once,.slice p n cap,.int .i64 last4.c0,.int .i64 last4.c1,.int .i64 last4.c2,.int .i64 last4.c3,.int .i64 last4.c4,.bool sm4] 186)],aAh bw bd ba bs,cd5,ca8,cs5,[(vb,row cells 27)]]) Tryz.results164 (hR:= ?_);refine⟨cd5,ca8,cs5,_,last4,sm4,rfl,hW8,?_,?_,hg8,.inr (.inr ⟨rfl,?_,e10⟩)⟩)
     ·rw[←hct]
      exact((hE4.trans hE5).trans hE8).weak (by omega) (AG _)
     ·exact hK4.trans hK5
     ·intro e
      have:=hE4.fault e
      omega
  ·dsimp only[AA,AB]
   repeat(first|(refine st ?_;intros)|refine G.draw [] (h:= ?_)|refine G.draw (id:=15) [(10,.eff [0])] (h:= ?_)|(refine cq hN ?_))
   have hV2:Vec 237 7 (some ⟨hb,0,none⟩) hlB.length cap1 (hcells hlB) [(hb,row (hcells hlB++rest) 237)]:=⟨by rw[aBw],.inr ⟨hb,rest,rfl,rfl,by rw[aBw,hlB2,←hle,←aBw];exact hvl,by omega,hcm⟩⟩
   have hC3:=hCl W3 cd3 ca3 cs3 hW3 hlB _ cap1 _ hV2 (by omega) rds W.α.gs (e5.trans hg1) (hM2.cst.move hE3.size)
   refine Go.SL.Lv.call (hc:=hC3.2) (h:= ?_)
   rintro _ _ ⟨ca4,α4,rs4,rfl,rfl,hW4,hE5,hg4⟩
   try dsimp only[AA,AB]
   (refine Go.SL.Lv.nil (Hr:=[[(bz,row [pv bw,.int .i64 o.c0,.int .i64 o.c1,.int .i64 o.c2,.int .i64 o.c3,.int .i64 o.c4,.bool once,.slice p n cap,.int .i64 last.c0,.int .i64 last.c1,.int .i64 last.c2,.int .i64 last.c3,.int .i64 last.c4,.bool sm] 186)],aAh bw bd ba bs,cd3,ca4,cs3,[(vb,row cells 27)]]) Tryz.results164 (hR:= ?_);refine⟨cd3,ca4,cs3,_,last,sm,rfl,hW4,?_,?_,hg4,.inr (.inl ⟨rfl,?_,?_⟩)⟩)
   ·exact((hE1.trans hE3).trans hE5).weak (by omega) (AS _)
   ·exact fun x _=>by show W3.δ.disk x=_;rw[e3,hd1]
   ·rw[←hct,←hσ1];exact hfull
   ·show W3.live.Perm W.live
    rw[e4,hl1]
end Go.Proofs.YtammjnjpheobaaaGreat
