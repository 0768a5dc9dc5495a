/-
  Parts of the proof, put together (7). No condition.
-/
import Derived.Test.YtaofijjjheiknaaGreatQ6
set_option linter.unusedVariables false
set_option linter.unusedSimpArgs false
set_option linter.unnecessarySimpa false
set_option maxHeartbeats 4000000
open Go.IntKind renaming wrap→AL
open Go.Proofs.Tryz renaming prog→AC
open List renaming cons_append→AA,nil_append→AB,mem_cons_self→AE,mem_cons_of_mem→AF,getElem?_eq_getElem→AG,length_append→AH,length_cons→AJ,getElem?_eq_some_iff→AK,mem_cons→AM,mem_map→AN,length_nil→AO,getD_eq_getElem?_getD→AP,append_nil→AQ,mem_append→AS,append_assoc→AT,mem_singleton→AW,mem_of_getElem?→AY,map_cons→AZ,map_append→A0,length_take→BJ,mem_append_right→BK,getElem?_append_right→BL,mem_append_left→BN,drop_eq_getElem_cons→BO,take_add_one→BP,getElem?_append_left→BR,getElem?_drop→BS,take_append_drop→BV,perm_middle→B4,getElem_mem→B6,nodup_append→B9,singleton_append→CA,nodup_cons→CC,map_nil→CG,map_congr_left→CM,getElem_of_mem→CU,sum_append→CV,length_singleton→CY,sum_cons→DJ,filter_eq_nil_iff→DR,take_length→D4
open List.Pairwise renaming nil→DH
open List.Perm renaming swap→CS
open Nat renaming reduceAdd→AD,le_refl→AI,zero_le→AU,succ_mul→BH,zero_add→BU,div_le_div_right→B5,div_le_self→CW,add_sub_cancel→DQ
open Go.Proofs.Tryz
open Go.Value renaming int→Z9
open Go.IntKind renaming i64→Z8
namespace Go.Proofs.YtaofijjjheiknaaGreat
open Go.SL Go.Spc Go.Tup
structure EachR (K:Type) where
 k:K
 ps:List T5
 cx:Aa
 cb:Aa
 op:Bool
def Ce (W:Wk) (x:Fl×List T5):Prop:=∃Lv,Be W.δ.disk W.δ.size Lv x.1 x.2∧∀e∈Lv,e∈W.live
theorem Bm.mem {first nb:Nat} {Lv live:List Ext} (h:Bm first nb Lv live) {e:Ext} (he:e∈Lv):e∈live:=by
 unfold Bm at h;split at h
 ·exact h.mem_iff.2 he
 ·exact h.mem_iff.2 (AF _ he)
def Ez {K:Type} (M:Aj K) (W0:Wk) (k0:K) (ps0 ts:List T5) (bw bx first width bound size κ:Nat) (g:Gr) (Lv:List Ext) (cc:Hp):Seer (EachR K) where
 own r:=if r.op then[g] else[]
 C r:=(r.cx::r.cb::(cc++[(M.C r.k).flatten])).flatten
 J W r i:=r.op=true∧Dh bw bx W first (Ac size width bound) width bound g r.ps r.cx r.cb∧Bm first (Ac size width bound) Lv W.live∧Ap Lv W0 W∧(W0.δ.fault= -1→W.δ.fault= -1)∧
  r.k=M.st k0 (ts.take i)∧r.ps=ps0++M.all k0 (ts.take i)∧M.bad k0 (ts.take i)=none
 B W r e:=Ap Lv W0 W∧((r.op=true∧Bm first (Ac size width bound) Lv W.live∧∃ps,Dh bw bx W first (Ac size width bound) width bound g ps r.cx r.cb)∨(r.op=false∧Lo bx r.cx∧W.live.Perm Lv))∧
  ((e=6∧W0.δ.fault≠-1)∨∃n:Nat,M.bad k0 ts=some n∧n≠0∧e=(n:Int))
 κ:=κ
theorem gL {K:Type} (M:Aj K) (W0:Wk) (k0:K) (aa ts:List T5) (bw bx first width bound size κ:Nat) (g:Gr) (Lv:List Ext) (cc:Hp):(Ez M W0 k0 aa ts bw bx first width bound size κ g Lv cc).Ok where
 stay:=by rintro W W' r i ⟨h0,h1,h2,h3,h4,h5⟩ hs hd _ hl hf;exact⟨h0,h1.move hs (fun x _ _=>by rw[hd]),by rw[hl];exact h2,fun x hx=>by rw[hd];exact h3 x hx,fun e=>hf (h4 e),h5⟩
 flt:=by
  rintro W W' r i ⟨h0,h1,h2,h3,h4,h5⟩ hf hd _ hl;have e1:W'.δ.disk=W.δ.disk:=by rw[hd];rfl
  exact⟨fun x hx=>by rw[e1];exact h3 x hx,.inl ⟨h0,by rw[hl];exact h2,r.ps,h1.move (by rw[hd];rfl) (fun x _ _=>by rw[e1])⟩,.inl ⟨rfl,fun e=>by have:=h4 e;omega⟩⟩
 stayB:=by
  rintro W α r e ⟨h1,h2,h3⟩;refine⟨h1,?_,h3⟩;rcases h2 with⟨a,b,ps,c⟩|⟨a,b,c⟩
  ·exact .inl ⟨a,b,ps,c.move rfl (fun _ _ _=>rfl)⟩
  ·exact .inr ⟨a,b,c⟩
theorem Vs (A B D:Hp) (m:Aa):(A++[(D++(B++[m])).flatten]).flatten.Perm ((B++[(A++D).flatten,m]).flatten):=by
 classical
 refine List.perm_iff_count.2 fun z=>?_;simp only[List.flatten_append,List.flatten_cons,List.flatten_nil,AQ,List.count_append];omega
theorem gM (bw bd ba bs bx first width bound:Nat) (g:Gr) (aa:List Gr) (Lv:List Ext) (W:Wk) (n0 nn:Nat) (hs:1≤Ad W.δ.size width) (hn:n0+nn≤bound) (al:W.δ.acts+nn≤1000000000000):Vj bx width (fun ps X=>∃cd ca cs cx cb W1,X=[Ab bw bd ba bs,cd,ca,cs,cx,cb].flatten∧Wc bd ba bs W1 cd ca cs∧W1.α.gs.Perm (g::aa)∧Dh bw bx W1 first (Ac W.δ.size width bound) width bound g ps cx cb∧Bm first (Ac W.δ.size width bound) Lv W1.live∧Ap Lv W W1∧n0≤ps.length∧ps.length≤n0+nn∧Ev W W1 (ps.length-n0) 0) (fun X=>∃cd ca cs cx cb W1,X=[Ab bw bd ba bs,cd,ca,cs,cx,cb].flatten∧Wc bd ba bs W1 cd ca cs∧W1.α.gs.Perm aa∧W1.live.Perm Lv∧Lo bx cx∧Ap Lv W W1∧Ev W W1 nn 0∧W.δ.fault≠-1) (n0+nn):=by
 rintro ps X t ⟨cd,ca,cs,cx,cb,W1,rfl,hW,hg,hw,hl,hK,h1,h2,hE⟩ ht am;have aj:=hE.acts.2;have hP:=Vg bw bd ba bs W1 cd ca cs hW bx first _ width bound g ps cx cb hw aa hg Lv hl oM t ht oM
 refine Ct.convP hP oA19 ?_;rintro v H' ⟨ab,ac,cs',W',ad,ae,rfl,ag,ak,ah,hc⟩;have ai:Ev W1 W' 1 0:=ak.weak (by
  have h2:(ps.length+1)/Ad W1.δ.size width≤ps.length/Ad W1.δ.size width+1:=by
   rw[hE.size]
   calc (ps.length+1)/Ad W.δ.size width≤(ps.length+Ad W.δ.size width)/Ad W.δ.size width:=B5 oM
    _=ps.length/Ad W.δ.size width+1:=Nat.add_div_right _ oM
  omega) (AI _)
 refine⟨[[Ab bw bd ba bs,ab,ac,cs',ad,ae].flatten],⟨_,rfl,?_⟩,by simp⟩;rcases hc with⟨rfl,e1,e2,e3,e4⟩|⟨rfl,e1,e2,e3,e4,e5⟩
 ·exact .inl ⟨rfl,ab,ac,cs',ad,ae,W',rfl,ag,by rw[e1];exact hg,e4,by rw[e3];exact hl,hK.trans ah,by simp;omega,by simp;omega,(hE.trans ai).weak oA16 (AI _)⟩
 ·refine .inr ⟨rfl,ab,ac,cs',ad,ae,W',rfl,ag,e3,e4,e5,hK.trans ah,(hE.trans ai).weak oM (AI _),fun hf=>?_⟩;have:=hE.fault hf;omega
theorem sM {K:Type} (M:Aj K) (W0:Wk) (k0:K) (av ts:List T5) (bw bd ba bs bx bm ae first width bound size room κ:Nat) (g:Gr) (Lv:List Ext) (f:Fl) (mk:Nat) (au:Callable AC mk) (fs us:List Value) (ok:K→T5→Prop) (hM:Bw M width ok mk fs us) (hκ:∀k t,ok k t→(M.outs k t).length≤κ) (a1:M.oks ok k0 ts) (a8:av.length+(M.all k0 ts).length≤bound) (hh:1≤Ad size width) (a7:κ≤1000000000):Zb bw bd ba bs (Ez M W0 k0 av ts bw bx first width bound size κ g Lv (Oo bm ae mk fs us bx)) size room f ts 171 [] [pv bm,pv ae]:=by
 rintro aw W cd ca cs r i t hW hg a9 ax ⟨a2,a3,hl,hK,an,hk,ay,ah⟩ ht bc;have ao:ok r.k t:=by rw[hk];exact Aj.oks_at a1 ah ht
 have az:r.ps.length+(M.outs r.k t).length≤bound:=by have h1:=Aj.all_le (M:=M) (ts:=ts) (k:=k0) (i+1);rw[Aj.take_succ ht,Aj.all_app,AH,←hk] at h1;simp only[Aj.all,AQ] at h1;rw[ay,AH];omega
 have a4:=hκ r.k t ao;simp only[Ez,a2,if_true,CA] at hg;have hP:=gM bw bd ba bs bx first width bound g aw Lv W r.ps.length (M.outs r.k t).length (by rw[ax];exact hh) az oM
 rw[ax] at hP;have hC:=rC M width ok mk au fs us hM bm ae bx _ _ _ hP r.ps ([Ab bw bd ba bs,cd,ca,cs,r.cx,r.cb].flatten) r.k t
  ⟨cd,ca,cs,r.cx,r.cb,W,rfl,hW,hg,a3,hl,Ap.refl _ _,AI _,oM,by simpa using Ev.refl W⟩ ao (AI _)
 refine Ct.convP hC ?_ ?_
 ·exact Vs [Ab bw bd ba bs,cd,ca,cs] (Oo bm ae mk fs us bx) [r.cx,r.cb] _
 rintro v H' ⟨X',k',rfl,hc⟩;rcases hc with⟨rfl,ai,rfl,aa,ab,cs',ac,ad,W',rfl,aj,ak,aq,al,am,h1,h2,ag⟩|⟨rfl,aa,ab,cs',ac,ad,W',rfl,aj,ak,al,a5,am,ag,a6⟩|⟨n,ai,hn,rfl,a0,aa,ab,cs',ac,ad,W',rfl,aj,ak,aq,al,am,h1,h2,ag⟩
 ·refine⟨_,⟨aa,ab,cs',W',⟨_,r.ps++M.outs r.k t,ac,ad,true⟩,0,rfl,rfl,aj,ag.weak (by simp[Ez];omega) (AI _),ak,fun _=>⟨rfl,aq,al,hK.trans am,fun e=>ag.fault (an e),?_,?_,?_⟩,fun h=>absurd rfl h⟩,(Vs [Ab bw bd ba bs,aa,ab,cs'] (Oo bm ae mk fs us bx) [ac,ad] _).symm⟩
  ·rw[Aj.take_succ ht,Aj.st_app,←hk];rfl
  ·rw[Aj.take_succ ht,Aj.all_app,←hk,←AT,←ay];simp[Aj.all]
  ·rw[Aj.take_succ ht,Aj.bad_app,ah,←hk];simp[Aj.bad,ai]
 ·refine⟨_,⟨aa,ab,cs',W',⟨k',[],ac,ad,false⟩,6,rfl,rfl,aj,ag.weak a4 (AI _),ak,fun h=>by omega,fun _=>⟨hK.trans am,.inr ⟨rfl,a5,al⟩,.inl ⟨rfl,fun e=>a6 (an e)⟩⟩⟩,(Vs [Ab bw bd ba bs,aa,ab,cs'] (Oo bm ae mk fs us bx) [ac,ad] _).symm⟩
 ·refine⟨_,⟨aa,ab,cs',W',⟨k',a0,ac,ad,true⟩,n,rfl,rfl,aj,ag.weak (by simp[Ez];omega) (AI _),ak,fun h=>by omega,fun _=>⟨hK.trans am,.inl ⟨rfl,al,a0,aq⟩,.inr ⟨n,?_,hn,rfl⟩⟩⟩,(Vs [Ab bw bd ba bs,aa,ab,cs'] (Oo bm ae mk fs us bx) [ac,ad] _).symm⟩;apply Aj.bad_take (i:=i+1);rw[Aj.take_succ ht,Aj.bad_app,ah,←hk];simp[Aj.bad,ai]
theorem sN (bw bd ba bs:Nat) {K:Type} (M:Aj K) (k0:K) (ab:List T5) (W:Wk) (cd ca cs:Aa) (h:Wc bd ba bs W cd ca cs) (bx bm ac first width bound κ:Nat) (g:Gr) (aa:List Gr) (Lv:List Ext) (cx cb:Aa) (hg:W.α.gs.Perm (g::aa)) (hw:Dh bw bx W first (Ac W.δ.size width bound) width bound g ab cx cb) (hl:Bm first (Ac W.δ.size width bound) Lv W.live) (f:Fl) (ts:List T5) (LvF:List Ext) (ae:Be W.δ.disk W.δ.size LvF f ts) (ag:∀e∈LvF,e∈Lv) (mk:Nat) (ai:Callable AC mk) (fs us:List Value) (ok:K→T5→Prop) (hM:Bw M width ok mk fs us) (hκ:∀k t,ok k t→(M.outs k t).length≤κ) (al:κ≤10000) (ao:M.oks ok k0 ts) (an:ab.length+(M.all k0 ts).length≤bound) (am:1≤width) (ah:width≤5) (hr:W.δ.size≤W.α.room-W.α.used) (aw:W.δ.acts≤10000000000) (aj:f.count≤1000000):Ct AC 91 [pv bw,flv f,.func (.func 171) #[] #[pv bm,pv ac]] [Ab bw bd ba bs,cd,ca,cs,cx,cb,[(bm,row [.func (.func mk) fs.toArray us.toArray] 91)],[(ac,row [pv bx] 122)],(M.C k0).flatten] fun v H'=> ∃cd' ca' cs' W' k' cx' cb' e,v=Z9 Z8 e∧H'=[Ab bw bd ba bs,cd',ca',cs',cx',cb',[(bm,row [.func (.func mk) fs.toArray us.toArray] 91)],[(ac,row [pv bx] 122)],(M.C k').flatten]∧Wc bd ba bs W' cd' ca' cs'∧Ev W W' (f.blocks+f.count*κ) 0∧Ap Lv W W'∧((e=0∧W'.α.gs.Perm (g::aa)∧Bm first (Ac W.δ.size width bound) Lv W'.live∧Dh bw bx W' first (Ac W.δ.size width bound) width bound g (ab++M.all k0 ts) cx' cb'∧k'=M.st k0 ts∧M.bad k0 ts=none)∨ (e≠0∧((W'.α.gs.Perm (g::aa)∧Bm first (Ac W.δ.size width bound) Lv W'.live∧∃ps,Dh bw bx W' first (Ac W.δ.size width bound) width bound g ps cx' cb')∨(W'.α.gs.Perm aa∧W'.live.Perm Lv∧Lo bx cx'))∧((e=6∧W.δ.fault≠-1)∨∃n:Nat,M.bad k0 ts=some n∧e=(n:Int)))):=by
 obtain⟨⟨ak,ax⟩,_⟩:=h.dev.num;have hh:=Bh ak am ah;have ay:=Dl (n:=f.count) (Bh ak ae.w1 ae.w2);have az:f.count*κ≤1000000*10000:=Nat.mul_le_mul aj al;have hO:=fM bw bd ba bs (Ez M W k0 ab ts bw bx first width bound W.δ.size κ g Lv (Oo bm ac mk fs us bx)) (gL M W k0 ab ts bw bx first width bound W.δ.size κ g Lv _) f ts LvF 171 inferInstance [] [pv bm,pv ac] W.δ.size W.α.room
  (sM M W k0 ab ts bw bd ba bs bx bm ac first width bound W.δ.size W.α.room κ g Lv f mk ai fs us ok hM hκ ao an hh oM) W cd ca cs h ⟨k0,ab,cx,cb,true⟩ aa hg rfl rfl
  ⟨rfl,hw,hl,Ap.refl _ _,id,by simp[Aj.st],by simp[Aj.all],by simp[Aj.bad]⟩ (fun W' r i hJ=>⟨ae.keep (fun x ⟨e,he,h2⟩=>hJ.2.2.2.1 x ⟨e,ag e he,h2⟩),fun e he=>hJ.2.2.1.mem (ag e he)⟩) hr (by show _+_+_*κ≤_;omega) aj
 refine Ct.convP hO (by simp[Ez,Oo]) ?_;rintro v H' ⟨cd',ca',cs',W',r',e,rfl,rfl,aq,au,ad,hJ,hB⟩;refine⟨[Ab bw bd ba bs,cd',ca',cs',r'.cx,r'.cb,[(bm,row [.func (.func mk) fs.toArray us.toArray] 91)],[(ac,row [pv bx] 122)],(M.C r'.k).flatten],⟨cd',ca',cs',W',r'.k,r'.cx,r'.cb,e,rfl,rfl,aq,?_,?_⟩,by simp[Ez,Oo]⟩
 ·rw[ae.blk];exact au
 by_cases he:e=0
 ·obtain⟨h0,h1,h2,h3,_,h5,h6,h7⟩:=hJ he;have av:ts.take f.count=ts:=by rw[←ae.len,D4]
  rw[av] at h5 h6 h7;simp only[Ez,h0,if_true,CA] at ad;exact⟨h3,.inl ⟨he,ad,h2,by rw[←h6];exact h1,h5,h7⟩⟩
 ·obtain⟨h1,h2,h3⟩:=hB he;refine⟨h1,.inr ⟨he,?_,?_⟩⟩
  ·rcases h2 with⟨a,b,c⟩|⟨a,b,c⟩
   ·simp only[Ez,a,if_true,CA] at ad;exact .inl ⟨ad,b,c⟩
   ·simp only[Ez,a,AB] at ad;exact .inr ⟨by simpa using ad,c,b⟩
  ·rcases h3 with h3|⟨n,a,_,b⟩
   ·exact .inl h3
   ·exact .inr ⟨n,a,b⟩
end Go.Proofs.YtaofijjjheiknaaGreat
namespace Go.Srt
variable {α:Type} {lt:α→α→Bool} [Inhabited α]
def Hv (lt:α→α→Bool) (l:List α) (n a:Nat):Prop:=∀c,0<c→c<n→a≤(c-1)/2→lt (at_ l c) (at_ l ((c-1)/2))=false
def Rx (lt:α→α→Bool) (l:List α) (n a i:Nat):Prop:=
 (∀c,0<c→c<n→a≤(c-1)/2→(c-1)/2≠i→lt (at_ l c) (at_ l ((c-1)/2))=false)∧
 (∀c,0<c→c<n→(c-1)/2=i→0<i→a≤(i-1)/2→lt (at_ l c) (at_ l ((i-1)/2))=false)
theorem sP {l:List α} {n a:Nat} (h:Hv lt l n (a+1)):Rx lt l n a a:=
 ⟨fun c h1 h2 h3 h4=>h c h1 h2 oM,fun c h1 h2 h3 h4 h5=>by omega⟩
theorem sQ {l:List α} {n a i:Nat} (h:Rx lt l n a i) (hi:n≤2*i+1):Hv lt l n a:=
 fun c h1 h2 h3=>h.1 c h1 h2 h3 oM
theorem Zi (hs:Swo lt) {l:List α} {n a i j:Nat} (h:Rx lt l n a i) (hm:∀c,0<c→c<n→(c-1)/2=i→lt (at_ l c) (at_ l j)=false) (hj:lt (at_ l j) (at_ l i)=false):Hv lt l n a:=by
 intro c h1 h2 h3;by_cases hp:(c-1)/2=i
 ·rw[hp];exact hs.ntrans _ _ _ (hm c h1 h2 hp) hj
 ·exact h.1 c h1 h2 h3 hp
theorem Zj (hs:Swo lt) {l:List α} {n a i j:Nat} (h:Rx lt l n a i) (ai:a≤i) (hn:n≤l.length) (ae:0<j) (ah:j<n) (ab:(j-1)/2=i) (hm:∀c,0<c→c<n→(c-1)/2=i→lt (at_ l c) (at_ l j)=false) (ag:lt (at_ l j) (at_ l i)=true):Rx lt (sw l i j) n a j:=by
 have aa:∀q,at_ (sw l i j) q=if q=j then at_ l i else if q=i then at_ l j else at_ l q:=fun q=>Iw l i j q oM oM
 obtain⟨g1,g2⟩:=h;refine⟨fun c h1 h2 h3 h4=>?_,fun c h1 h2 h3 h4 h5=>?_⟩
 ·rw[aa c,aa ((c-1)/2)];rw[if_neg h4];by_cases hp:(c-1)/2=i
  ·rw[if_pos hp];by_cases ad:c=j
   ·rw[if_pos ad];exact hs.asym _ _ ag
   ·rw[if_neg ad,if_neg oM];exact hm c h1 h2 hp
  ·rw[if_neg hp];rw[if_neg (by rintro rfl;exact hp ab)];by_cases ac:c=i
   ·rw[if_pos ac];subst ac;exact g2 j ae ah ab h1 h3
   ·rw[if_neg ac];exact g1 c h1 h2 h3 hp
 ·rw[aa c,aa ((j-1)/2),ab];rw[if_neg oM,if_neg oM,if_neg oM,if_pos rfl];have:=g1 c h1 h2 oM oM;rw[h3] at this;exact this
theorem sU (hs:Swo lt) {l:List α} {n:Nat} (h:Hv lt l n 0):∀c,c<n→lt (at_ l c) (at_ l 0)=false:=by
 intro c;induction c using Nat.strongRecOn with
 |_ c ih=>
  intro hc;by_cases h0:c=0
  ·subst h0;exact hs.irr _
  ·exact hs.ntrans _ _ _ (h c oM hc (Nat.zero_le _)) (ih _ oM oM)
theorem Vt {l:List α} {i j:Nat} (hi:i<l.length) (hj:j<l.length):(sw l i j).Perm l:=by unfold sw;rw[List.getD_eq_getElem?_getD,List.getD_eq_getElem?_getD,List.getElem?_eq_getElem hi,List.getElem?_eq_getElem hj];exact List.set_set_perm hi hj
end Go.Srt
namespace Go.Proofs.YtaofijjjheiknaaGreat
open Go.SL Go.Spc Go.Tup Go.Srt
structure Hd where
 t:T5
 run:Nat
 rd:Nat
instance:Inhabited Hd:=⟨⟨default,0,0⟩⟩
def Hd.cells (x:Hd):List Value:=[Z9 Z8 x.t.c0,Z9 Z8 x.t.c1,Z9 Z8 x.t.c2,Z9 Z8 x.t.c3,Z9 Z8 x.t.c4,Z9 Z8 x.run,pv x.rd]
def hcells (l:List Hd):List Value:=l.flatMap Hd.cells
theorem gN (a b:List Hd):hcells (a++b)=hcells a++hcells b:=by simp[hcells]
theorem Nn (l:List Hd):(hcells l).length=l.length*7:=by
 induction l with
 |nil=>rfl
 |cons x l ih=>simp only[hcells,List.flatMap_cons,AH,AJ] at ih⊢;rw[ih];simp[Hd.cells];omega
theorem gO:∀(l:List Hd) (rest:List Value) (i:Nat),i<l.length→∃more,(hcells l++rest).drop (i*7)=(at_ l i).cells++more
 |[],_,i,h=>by simp at h
 |x::l,rest,0,_=>⟨hcells l++rest,by simp[hcells,at_]⟩
 |x::l,rest,i+1,h=>by
  obtain⟨more,hm⟩:=gO l rest i oA15;refine⟨more,?_⟩;have e:(hcells (x::l)++rest)=x.cells++(hcells l++rest):=by simp[hcells]
  rw[e,show(i+1)*7=x.cells.length+i*7 by(have:x.cells.length=7:=rfl);omega,←List.drop_drop,List.drop_left,hm];rfl
def Cs (bh vb cap:Nat) (o:T5) (l:List Hd) (rest:List Value):Hp:=
 [[(bh,row ([.slice (some ⟨vb,0,none⟩) l.length cap,Z9 Z8 o.c0,Z9 Z8 o.c1,Z9 Z8 o.c2,Z9 Z8 o.c3,Z9 Z8 o.c4]) 241)],[(vb,row (hcells l++rest) 243)]]
def ltH (o:T5) (a b:Hd):Bool:=decide (Cz o a.t b.t<0∨Cz o a.t b.t=0∧a.run<b.run)
theorem gP (o:T5):Swo (ltH o) where
 asym:=fun a b h=>by simp only[ltH,decide_eq_true_eq,decide_eq_false_iff_not] at*;have:=Mm o a.t b.t;omega
 ntrans:=fun a b c h1 h2=>by
  simp only[ltH,decide_eq_false_iff_not] at*;have e1:=Mm o a.t b.t;have e2:=Mm o b.t c.t;have e3:=Mm o a.t c.t;have f1:=Ve o c.t b.t a.t oM oM;have f2:Cz o a.t c.t=0→Cz o a.t b.t=0:=fun h=>by have:=Ve o a.t c.t b.t;omega
  have f3:Cz o a.t c.t=0→Cz o b.t c.t=0:=fun h=>by have:=Ve o b.t a.t c.t;omega
  omega
theorem Vu (bh vb cap:Nat) (o:T5) (l:List Hd) (rest:List Value):CtQ AC 236 [pv bh] (Cs bh vb cap o l rest) (Z9 Z8 l.length):=by
 unfold Cs;refine cG func236 fun _=>?_;repeat(refine sA ?_;intros)
 (refine dP [[(bh,row [.slice (some ⟨vb,0,none⟩) l.length cap,Z9 Z8 o.c0,Z9 Z8 o.c1,Z9 Z8 o.c2,Z9 Z8 o.c3,Z9 Z8 o.c4] 241)],[(vb,row (hcells l++rest) 243)]] ?_;exact⟨rfl,rfl⟩)
theorem Qf {l:List Hd} {rest:List Value} {i:Nat} (h:i<l.length):((hcells l++rest).drop (i*7)).take 5=[Z9 Z8 (at_ l i).t.c0,Z9 Z8 (at_ l i).t.c1,Z9 Z8 (at_ l i).t.c2,Z9 Z8 (at_ l i).t.c3,Z9 Z8 (at_ l i).t.c4]∧(hcells l++rest)[i*7+5]? =some (Z9 Z8 ((at_ l i).run:Int))∧(hcells l++rest)[i*7+6]? =some (pv (at_ l i).rd)∧((hcells l++rest).drop (i*7)).take 7=(at_ l i).cells:=by
 obtain⟨more,hm⟩:=gO l rest i h;refine⟨by rw[hm];rfl,?_,?_,by rw[hm];rfl⟩
 ·rw[←BS,hm];rfl
 ·rw[←BS,hm];rfl
theorem Vv (bh vb cap:Nat) (o:T5) (l:List Hd) (rest:List Value) (i j:Nat) (hi:i<l.length) (hj:j<l.length) (hl:l.length≤1000000):CtQ AC 274 [pv bh,Z9 Z8 i,Z9 Z8 j] (Cs bh vb cap o l rest) (.bool (ltH o (at_ l i) (at_ l j))):=by
 obtain⟨a1,a2,a3,a4⟩:=Qf (rest:=rest) hi;obtain⟨b1,b2,b3,b4⟩:=Qf (rest:=rest) hj;have hC:=Ys (at_ l i).t.c0 (at_ l i).t.c1 (at_ l i).t.c2 (at_ l i).t.c3 (at_ l i).t.c4 (at_ l j).t.c0 (at_ l j).t.c1 (at_ l j).t.c2 (at_ l j).t.c3 (at_ l j).t.c4 o.c0 o.c1 o.c2 o.c3 o.c4;have aa:Cz ⟨o.c0,o.c1,o.c2,o.c3,o.c4⟩ ⟨(at_ l i).t.c0,(at_ l i).t.c1,(at_ l i).t.c2,(at_ l i).t.c3,(at_ l i).t.c4⟩ ⟨(at_ l j).t.c0,(at_ l j).t.c1,(at_ l j).t.c2,(at_ l j).t.c3,(at_ l j).t.c4⟩=Cz o (at_ l i).t (at_ l j).t:=rfl;rw[aa] at hC;unfold ltH Cs;generalize ab:Cz o (at_ l i).t (at_ l j).t=cm at*;generalize ac:hcells l++rest=cells at*;generalize at_ l i=x at*
 generalize at_ l j=y at*
 by_cases h1:cm<0
 ·rw[show decide (cm<0∨cm=0∧x.run<y.run)=true from decide_eq_true (.inl h1)];refine cG func274 fun _=>?_;repeat(first|(refine st ?_;intros)|refine G.draw (id:=1) [(20,.quiet)] (h:=?_)|refine G.draw [] (h:=?_)|refine cq hC ?_)
  (refine dP [[(bh,row [.slice (some ⟨vb,0,none⟩) l.length cap,Z9 Z8 o.c0,Z9 Z8 o.c1,Z9 Z8 o.c2,Z9 Z8 o.c3,Z9 Z8 o.c4] 241)],[(vb,row cells 243)]] ?_;exact⟨rfl,rfl⟩)
 ·by_cases h2:cm=0
  ·have h3:decide (cm<0∨cm=0∧x.run<y.run)=dec ((x.run:Int)<(y.run:Int)):=by
    by_cases h4:x.run<y.run
    ·rw[decide_eq_true (.inr ⟨h2,h4⟩),Dt oM]
    ·rw[decide_eq_false oM,Jq oM]
   rw[h3];refine cG func274 fun _=>?_;repeat(first|(refine st ?_;intros)|refine G.draw (id:=1) [(20,.quiet)] (h:=?_)|refine G.draw [] (h:=?_)|refine cq hC ?_)
   (refine dP [[(bh,row [.slice (some ⟨vb,0,none⟩) l.length cap,Z9 Z8 o.c0,Z9 Z8 o.c1,Z9 Z8 o.c2,Z9 Z8 o.c3,Z9 Z8 o.c4] 241)],[(vb,row cells 243)]] ?_;exact⟨rfl,rfl⟩)
  ·rw[show decide (cm<0∨cm=0∧x.run<y.run)=false from decide_eq_false oM];refine cG func274 fun _=>?_;repeat(first|(refine st ?_;intros)|refine G.draw (id:=1) [(20,.quiet)] (h:=?_)|refine G.draw [] (h:=?_)|refine cq hC ?_)
   (refine dP [[(bh,row [.slice (some ⟨vb,0,none⟩) l.length cap,Z9 Z8 o.c0,Z9 Z8 o.c1,Z9 Z8 o.c2,Z9 Z8 o.c3,Z9 Z8 o.c4] 241)],[(vb,row cells 243)]] ?_;exact⟨rfl,rfl⟩)
theorem gQ:∀(a:List Value) (vs cs:List Value) (off:Nat),Bq (a++cs) (a.length+off) vs=a++Bq cs off vs:=by
 intro a vs;induction vs with
 |nil=>intro cs off;rfl
 |cons v vs ih=>
  intro cs off;simp only[Bq];rw[List.set_append_right _ _ oM,show a.length+off-a.length=off by omega,show a.length+off+1=a.length+(off+1) by omega,ih]
theorem Zk:∀(l:List Hd) (i:Nat) (x:Hd) (rest:List Value),i<l.length→Bq (hcells l++rest) (i*7) x.cells=hcells (l.set i x)++rest
 |[],_,_,_,h=>by simp at h
 |u::l,0,x,rest,_=>by simp[hcells,Bq,Hd.cells]
 |u::l,i+1,x,rest,h=>by
  have ih:=Zk l i x rest oA15;have e:(hcells (u::l)++rest)=u.cells++(hcells l++rest):=by simp[hcells]
  rw[e,show(i+1)*7=u.cells.length+i*7 by(have:u.cells.length=7:=rfl);omega,gQ,ih];simp[hcells]
theorem Vw (bh vb cap:Nat) (o:T5) (l:List Hd) (rest:List Value) (i j:Nat) (hi:i<l.length) (hj:j<l.length) (hl:l.length≤1000000):Ct AC 276 [pv bh,Z9 Z8 i,Z9 Z8 j] (Cs bh vb cap o l rest) fun v H'=>v= .tuple #[]∧H'=Cs bh vb cap o (sw l i j) rest:=by
 obtain⟨a1,a2,a3,a4⟩:=Qf (rest:=rest) hi;obtain⟨b1,b2,b3,b4⟩:=Qf (rest:=rest) hj;have ah:=Zk l i (at_ l j) rest hi;have ac:=Zk (l.set i (at_ l j)) j (at_ l i) rest (by simpa using hj);have ad:(l.set i (at_ l j)).set j (at_ l i)=sw l i j:=rfl;rw[ad] at ac;have ag:(hcells l++rest).length=l.length*7+rest.length:=by rw[AH,Nn]
 have ae:(hcells (l.set i (at_ l j))++rest).length=l.length*7+rest.length:=by rw[AH,Nn,List.length_set]
 unfold Cs;rw[Zc];generalize hcells (sw l i j)++rest=aa at*;generalize hcells (l.set i (at_ l j))++rest=ab at*;generalize hcells l++rest=cells at*;generalize at_ l i=x at*
 generalize at_ l j=y at*
 unfold Hd.cells at*;refine cG func276 fun _=>?_;repeat(refine sA ?_;intros)
 (refine dE [[(bh,row [.slice (some ⟨vb,0,none⟩) l.length cap,Z9 Z8 o.c0,Z9 Z8 o.c1,Z9 Z8 o.c2,Z9 Z8 o.c3,Z9 Z8 o.c4] 241)],[(vb,row aa 243)]] ?_;exact⟨rfl,rfl⟩)
instance:Meth AC 238 "Less" 274:=Meth.of (by kernel_rfl)
instance:Meth AC 238 "Swap" 276:=Meth.of (by kernel_rfl)
instance:Meth AC 238 "Len" 236:=Meth.of (by kernel_rfl)
instance:Meth AC 238 "Pop" 275:=Meth.of (by kernel_rfl)
abbrev Lt (bh:Nat):Value:= .iface 238 (pv bh)
structure DownX where
 i:Nat
 l:List Hd
theorem Zl (bh vb cap:Nat) (o:T5) (l:List Hd) (rest:List Value) (a n:Nat) (hn:n≤l.length) (hl:l.length≤1000000) (hh:Hv (ltH o) l n (a+1)) (ha:a≤1000000):Ct AC 245 [Lt bh,Z9 Z8 a,Z9 Z8 n] (Cs bh vb cap o l rest) fun v H'=> ∃b l',v= .bool b∧H'=Cs bh vb cap o l' rest∧l'.Perm l∧Hv (ltH o) l' n a∧∀q,n≤q→at_ l' q=at_ l q:=by
 have ab:=gP o;refine cG func245 fun _=>?_;repeat(first|(refine st ?_;intros)|refine cq hL ?_|refine cq hL2 ?_)
 refine G.loop (X:=DownX) (fun x=>a≤x.i∧x.l.Perm l∧Rx (ltH o) x.l n a x.i∧(x.i<n∨x.i=a)∧∀q,n≤q→at_ x.l q=at_ l q)
  (fun x=>[(7,Z9 Z8 x.i),(0,Lt bh),(1,Z9 Z8 a),(2,Z9 Z8 n)])
  (fun x=>Cs bh vb cap o x.l rest) (fun x=>n-x.i) ⟨a,l⟩ ⟨AI _,List.Perm.refl _,sP hh,.inr rfl,fun _ _=>rfl⟩ (body:=?_)
 rintro⟨i,us⟩ ⟨ac,hp,hd,ad,aa⟩;dsimp only at ac hp hd ad aa⊢;have ae:=hp.length_eq;have ag:i≤1000000:=oM;have e1:AL .i64 (2*(i:Int))=((2*i:Nat):Int):=by rw[Ah oM];omega
 have e2:AL .i64 (((2*i:Nat):Int)+1)=((2*i+1:Nat):Int):=by rw[Ah oM];omega
 have e3:AL .i64 (((2*i+1:Nat):Int)+1)=((2*i+2:Nat):Int):=by rw[Ah oM];omega
 by_cases hc:n≤2*i+1
 ·repeat(first|(refine st ?_;intros)|refine cq hL ?_|refine cq hL2 ?_)
  (refine dP (Cs bh vb cap o us rest) ?_;exact⟨_,us,rfl,rfl,hp,sQ hd hc,aa⟩)
 ·by_cases ah:2*i+2<n
  ·have hL:=Vv bh vb cap o us rest (2*i+2) (2*i+1) oM oM oM;cases h1:ltH o (at_ us (2*i+2)) (at_ us (2*i+1)) with
   |true=>
    rw[h1] at hL;have hm:∀c,0<c→c<n→(c-1)/2=i→ltH o (at_ us c) (at_ us (2*i+2))=false:=by
     intro c k1 k2 k3;rcases(show c=2*i+1∨c=2*i+2 by omega) with rfl|rfl
     ·exact ab.asym _ _ h1
     ·exact ab.irr _
    have hL2:=Vv bh vb cap o us rest (2*i+2) i oM oM oM;cases h2:ltH o (at_ us (2*i+2)) (at_ us i) with
    |true=>
     rw[h2] at hL2;have hS:=Vw bh vb cap o us rest i (2*i+2) oM oM oM;repeat(first|(refine st ?_;intros)|refine cq hL ?_|refine cq hL2 ?_)
     refine R.invoke (hct:=hS) (h:=?_);rintro _ _ ⟨rfl,rfl⟩;try dsimp only[AA,AB]
     repeat(first|(refine st ?_;intros)|refine cq hL ?_|refine cq hL2 ?_)
     exact Dn.round ⟨2*i+2,sw us i (2*i+2)⟩ ⟨oD,(Vt oM oM).trans hp,Zj ab hd ac oM oM oM oM hm h2,.inl oD,fun q hq=>by
      dsimp only;rw[Iw _ _ _ _ oM oM,if_neg oM,if_neg oM];exact aa q hq⟩ oD
    |false=>
     rw[h2] at hL2;repeat(first|(refine st ?_;intros)|refine cq hL ?_|refine cq hL2 ?_)
     (refine dP (Cs bh vb cap o us rest) ?_;exact⟨_,us,rfl,rfl,hp,Zi ab hd hm h2,aa⟩)
   |false=>
    rw[h1] at hL;have hm:∀c,0<c→c<n→(c-1)/2=i→ltH o (at_ us c) (at_ us (2*i+1))=false:=by
     intro c k1 k2 k3;rcases(show c=2*i+1∨c=2*i+2 by omega) with rfl|rfl
     ·exact ab.irr _
     ·exact h1
    have hL2:=Vv bh vb cap o us rest (2*i+1) i oM oM oM;cases h2:ltH o (at_ us (2*i+1)) (at_ us i) with
    |true=>
     rw[h2] at hL2;have hS:=Vw bh vb cap o us rest i (2*i+1) oM oM oM;repeat(first|(refine st ?_;intros)|refine cq hL ?_|refine cq hL2 ?_)
     refine R.invoke (hct:=hS) (h:=?_);rintro _ _ ⟨rfl,rfl⟩;try dsimp only[AA,AB]
     repeat(first|(refine st ?_;intros)|refine cq hL ?_|refine cq hL2 ?_)
     exact Dn.round ⟨2*i+1,sw us i (2*i+1)⟩ ⟨oD,(Vt oM oM).trans hp,Zj ab hd ac oM oM oM oM hm h2,.inl oD,fun q hq=>by
      dsimp only;rw[Iw _ _ _ _ oM oM,if_neg oM,if_neg oM];exact aa q hq⟩ oD
    |false=>
     rw[h2] at hL2;repeat(first|(refine st ?_;intros)|refine cq hL ?_|refine cq hL2 ?_)
     (refine dP (Cs bh vb cap o us rest) ?_;exact⟨_,us,rfl,rfl,hp,Zi ab hd hm h2,aa⟩)
  ·have hm:∀c,0<c→c<n→(c-1)/2=i→ltH o (at_ us c) (at_ us (2*i+1))=false:=by intro c k1 k2 k3;rcases(show c=2*i+1 by omega) with rfl;exact ab.irr _
   have hL2:=Vv bh vb cap o us rest (2*i+1) i oM oM oM;cases h2:ltH o (at_ us (2*i+1)) (at_ us i) with
   |true=>
    rw[h2] at hL2;have hS:=Vw bh vb cap o us rest i (2*i+1) oM oM oM;repeat(first|(refine st ?_;intros)|refine cq hL ?_|refine cq hL2 ?_)
    refine R.invoke (hct:=hS) (h:=?_);rintro _ _ ⟨rfl,rfl⟩;try dsimp only[AA,AB]
    repeat(first|(refine st ?_;intros)|refine cq hL ?_|refine cq hL2 ?_)
    exact Dn.round ⟨2*i+1,sw us i (2*i+1)⟩ ⟨oD,(Vt oM oM).trans hp,Zj ab hd ac oM oM oM oM hm h2,.inl oD,fun q hq=>by
     dsimp only;rw[Iw _ _ _ _ oM oM,if_neg oM,if_neg oM];exact aa q hq⟩ oD
   |false=>
    rw[h2] at hL2;repeat(first|(refine st ?_;intros)|refine cq hL ?_|refine cq hL2 ?_)
    (refine dP (Cs bh vb cap o us rest) ?_;exact⟨_,us,rfl,rfl,hp,Zi ab hd hm h2,aa⟩)
structure InitX where
 z:Int
 l:List Hd
theorem sV (bh vb cap:Nat) (o:T5) (l:List Hd) (rest:List Value) (hl:l.length≤1000000):Ct AC 235 [Lt bh] (Cs bh vb cap o l rest) fun v H'=>∃l',v= .tuple #[]∧H'=Cs bh vb cap o l' rest∧l'.Perm l∧Hv (ltH o) l' l'.length 0:=by
 have hN:=Vu bh vb cap o l rest;have e1:AL .i64 ((l.length:Int).tdiv 2)=((l.length/2:Nat):Int):=by rw[Int.tdiv_eq_ediv_of_nonneg oM,Ah oM];omega
 have e2:AL .i64 (((l.length/2:Nat):Int)-1)=((l.length/2:Nat):Int)-1:=Ah oM;generalize hn:l.length=n at*;refine cG func235 fun _=>?_;repeat(first|(refine st ?_;intros)|refine cq hN ?_)
 refine G.loop (X:=InitX) (fun x=> -1≤x.z∧x.z<1000001∧x.l.Perm l∧Hv (ltH o) x.l n (x.z+1).toNat)
  (fun x=>[(3,Z9 Z8 x.z),(0,Lt bh),(2,Z9 Z8 n)])
  (fun x=>Cs bh vb cap o x.l rest) (fun x=>(x.z+1).toNat) ⟨((n/2:Nat):Int)-1,l⟩ ⟨oD,oD,List.Perm.refl _,fun c h1 h2 h3=>by dsimp only at h3;omega⟩ (body:=?_)
 rintro⟨z,us⟩ ⟨aa,ab,hp,hh⟩;dsimp only at aa ab hp hh⊢;have ac:=hp.length_eq;by_cases hz:0≤z
 ·obtain⟨i,rfl⟩:=Int.eq_ofNat_of_zero_le hz;have hD:=Zl bh vb cap o us rest i n oM oM (by rw[show i+1=((i:Int)+1).toNat by omega];exact hh) oM;have e3:AL .i64 ((i:Int)-1)=(i:Int)-1:=Ah oM;repeat(first|(refine st ?_;intros)|refine cq hN ?_)
  refine cL hD ?_;rintro _ _ ⟨b,ad,rfl,rfl,ae,ag,ah⟩;try dsimp only[AA,AB]
  repeat(first|(refine st ?_;intros)|refine cq hN ?_)
  exact Dn.round ⟨(i:Int)-1,ad⟩ ⟨oD,oD,ae.trans hp,by dsimp only;rw[show((i:Int)-1+1).toNat=i by omega];exact ag⟩ oD
 ·repeat(first|(refine st ?_;intros)|refine cq hN ?_)
  (refine dE (Cs bh vb cap o us rest) ?_;exact⟨us,rfl,rfl,hp,by rw[ac,hn];rw[show(z+1).toNat=0 by omega] at hh;exact hh⟩)
theorem up_ct (bh vb cap:Nat) (o:T5) (l:List Hd) (rest:List Value):Ct AC 246 [Lt bh,Z9 Z8 0] (Cs bh vb cap o l rest) fun v H'=>v= .tuple #[]∧H'=Cs bh vb cap o l rest:=by
 have e1:AL .i64 ((0:Int)-1)= -1:=by decide
 have e2:AL .i64 ((-1:Int).tdiv 2)=0:=by decide
 refine cG func246 fun _=>?_;repeat(refine sA ?_;intros)
 refine G.loop (X:=Unit) (fun _=>True) (fun _=>[(0,Lt bh),(1,Z9 Z8 0)]) (fun _=>Cs bh vb cap o l rest) (fun _=>0) () trivial (body:=?_);rintro⟨⟩-;repeat(refine sA ?_;intros)
 (refine dE (Cs bh vb cap o l rest) ?_;exact⟨rfl,rfl⟩)
theorem Fix_ct (bh vb cap:Nat) (o:T5) (l:List Hd) (rest:List Value) (hl:l.length≤1000000) (hh:Hv (ltH o) l l.length 1):Ct AC 237 [Lt bh,Z9 Z8 0] (Cs bh vb cap o l rest) fun v H'=>∃l',v= .tuple #[]∧H'=Cs bh vb cap o l' rest∧l'.Perm l∧Hv (ltH o) l' l'.length 0:=by
 have hN:=Vu bh vb cap o l rest;have hD:=Zl bh vb cap o l rest 0 l.length (AI _) hl hh oM;refine cG func237 fun _=>?_;repeat(first|(refine st ?_;intros)|refine cq hN ?_)
 refine cL hD ?_;rintro _ _ ⟨b,us,rfl,rfl,hp,aa,ac⟩;try dsimp only[AA,AB]
 have ab:=hp.length_eq;have hU:=up_ct bh vb cap o us rest;cases b with
 |true=>
  repeat(first|(refine st ?_;intros)|refine cq hN ?_)
  (refine dE (Cs bh vb cap o us rest) ?_;exact⟨us,rfl,rfl,hp,by rw[ab];exact aa⟩)
 |false=>
  repeat(first|(refine st ?_;intros)|refine cq hN ?_)
  refine cL hU ?_;rintro _ _ ⟨rfl,rfl⟩;try dsimp only[AA,AB]
  repeat(first|(refine st ?_;intros)|refine cq hN ?_)
  (refine dE (Cs bh vb cap o us rest) ?_;exact⟨us,rfl,rfl,hp,by rw[ab];exact aa⟩)
theorem sW (bh vb cap:Nat) (o:T5) (l:List Hd) (x:Hd) (rest:List Value) (hl:l.length≤1000000) (ad:l.length+1≤cap):Ct AC 275 [pv bh] (Cs bh vb cap o (l++[x]) rest) fun v H'=>v= .iface 243 (.agg x.cells.toArray)∧H'=Cs bh vb cap o l (x.cells++rest):=by
 obtain⟨a1,a2,a3,a4⟩:=Qf (l:=l++[x]) (rest:=rest) (i:=l.length) oA19;have aa:at_ (l++[x]) l.length=x:=by simp[at_,AP]
 rw[aa] at a1 a2 a3 a4;have ab:hcells l++(x.cells++rest)=hcells (l++[x])++rest:=by rw[gN];simp[hcells]
 have ac:(l++[x]).length=l.length+1:=by simp
 have e1:AL .i64 (((l.length+1:Nat):Int)-1)=(l.length:Int):=by rw[Ah oM];omega
 unfold Cs;rw[ab,ac];generalize hcells (l++[x])++rest=cells at*;generalize l.length=n at*;unfold Hd.cells at*;refine cG func275 fun _=>?_;repeat(refine sv ?_;intros)
 apply R.mkIfaceS
 ·exact rfl
 ·exact underlying243
 ·exact rfl
 ·exact nle rfl
 repeat(refine sv ?_;intros)
 (refine dP [[(bh,row [.slice (some ⟨vb,0,none⟩) n cap,Z9 Z8 o.c0,Z9 Z8 o.c1,Z9 Z8 o.c2,Z9 Z8 o.c3,Z9 Z8 o.c4] 241)],[(vb,row cells 243)]] ?_;exact⟨rfl,rfl⟩)
theorem sX (bh vb cap:Nat) (o:T5) (l:List Hd) (rest:List Value) (hl:l.length≤1000000) (ak:l.length≤cap) (ab:0<l.length) (hh:Hv (ltH o) l l.length 0):Ct AC 238 [Lt bh] (Cs bh vb cap o l rest) fun v H'=>∃l' x,v= .iface 243 (.agg x.cells.toArray)∧x=at_ l 0∧H'=Cs bh vb cap o l' (x.cells++rest)∧(x::l').Perm l∧l'.length+1=l.length∧Hv (ltH o) l' l'.length 0:=by
 have hN:=Vu bh vb cap o l rest;have e1:AL .i64 ((l.length:Int)-1)=((l.length-1:Nat):Int):=by rw[Ah oM];omega
 have hS:=Vw bh vb cap o l rest 0 (l.length-1) ab oM hl;have ag:(sw l 0 (l.length-1)).length=l.length:=Zc _ _ _;have ac:=fun q=>Iw l 0 (l.length-1) q ab oM;have ah:Hv (ltH o) (sw l 0 (l.length-1)) (l.length-1) 1:=by intro c h1 h2 h3;rw[ac,ac,if_neg oM,if_neg oM,if_neg oM,if_neg oM];exact hh c h1 oM (AU _)
 have hD:=Zl bh vb cap o (sw l 0 (l.length-1)) rest 0 (l.length-1) oM oM ah oM;have ai:(sw l 0 (l.length-1)).Perm l:=Vt ab oM;have aa:=ac (l.length-1);rw[if_pos rfl] at aa;refine cG func238 fun _=>?_;repeat(first|(refine st ?_;intros)|refine cq hN ?_)
 refine R.invoke (hct:=hS) (h:=?_);rintro _ _ ⟨rfl,rfl⟩;try dsimp only[AA,AB]
 repeat(first|(refine st ?_;intros)|refine cq hN ?_)
 refine cL hD ?_;rintro _ _ ⟨b,us,rfl,rfl,hp,aj,ae⟩;try dsimp only[AA,AB]
 have ad:us.length=l.length:=hp.length_eq.trans ag;have hx:=(ae (l.length-1) (AI _)).trans aa;obtain⟨vs,y,rfl⟩:∃vs y,us=vs++[y]:=by
  rcases List.eq_nil_or_concat us with rfl|⟨qs,z,rfl⟩
  ·simp at ad;omega
  ·exact⟨qs,z,by simp⟩
 rw[AH,CY] at ad;have hy:at_ (vs++[y]) (l.length-1)=y:=by rw[show l.length-1=vs.length by omega];simp[at_,AP]
 rw[hy] at hx;subst hx;have hP:=sW bh vb cap o vs (at_ l 0) rest oM oM;repeat(first|(refine st ?_;intros)|refine cq hN ?_)
 refine R.invoke (hct:=hP) (h:=?_);rintro _ _ ⟨rfl,rfl⟩;try dsimp only[AA,AB]
 repeat(first|(refine st ?_;intros)|refine cq hN ?_)
 (refine dP (Cs bh vb cap o vs ((at_ l 0).cells++rest)) ?_;refine⟨vs,at_ l 0,rfl,rfl,rfl,?_,ad,?_⟩)
 ·exact(List.perm_append_comm (l₁:=[at_ l 0]) (l₂:=vs)).trans (hp.trans ai)
 ·intro c h1 h2 h3;have:=aj c h1 oM h3;rw[Tn,Tn,if_pos h2,if_pos oM] at this;exact this
theorem Zm {o:T5} {u a:T5} {s:List T5} (h:Sd (ltO o) false (u::s)) (ha:a∈u::s):ltO o a u=false:=by
 rcases AM.1 ha with rfl|ha
 ·exact(Ee o).irr _
 ·unfold Sd at h;have:=List.rel_of_pairwise_cons h ha;simpa using this
theorem Em.merge {o:T5} {once:Bool} {l ps:List T5} {A B:List (List T5)} {t:T5} {r:List T5} (h:Em o once l ps (A++(t::r)::B).flatten) (hA:∀s∈A,Sd (ltO o) false s∧∀u s',s=u::s'→ltO o t u=true) (hB:∀s∈B,Sd (ltO o) false s∧∀u s',s=u::s'→ltO o u t=false) (hr:Sd (ltO o) false (t::r)):Em o once l (Dy o once ps t) (A++r::B).flatten:=by
 have aa:=Ee o;have ab:∀a∈A.flatten,ltO o t a=true:=by
  intro a ha;obtain⟨s,hs,has⟩:=List.mem_flatten.1 ha;cases s with
  |nil=>simp at has
  |cons u s'=>
   obtain⟨h1,h2⟩:=hA _ hs;cases hc:ltO o t a with
   |true=>rfl
   |false=>
    have:=aa.ntrans _ _ _ hc (Zm h1 has);rw[h2 u s' rfl] at this;cases this
 have ad:∀b∈B.flatten,ltO o b t=false:=by
  intro b hb;obtain⟨s,hs,ac⟩:=List.mem_flatten.1 hb;cases s with
  |nil=>simp at ac
  |cons u s'=>
   obtain⟨h1,h2⟩:=hB _ hs;exact aa.ntrans _ _ _ (Zm h1 ac) (h2 u s' rfl)
 have e1:(A++(t::r)::B).flatten=(A.flatten++[t])++(r++B.flatten):=by simp
 have e2:(A++r::B).flatten=A.flatten++(r++B.flatten):=by simp
 rw[e1] at h;rw[e2];have h2:Em o once l ps (t::(A.flatten++(r++B.flatten))):=by
  refine h.turn ?_ ?_
  ·have:=Go.Srt.Sp.app (once:=once) (Go.Srt.Sp.swap aa (once:=once) (v:=A.flatten) (x:=[t]) (fun b hb a ha=>by simp only[AW] at hb;subst hb;exact ab a ha)) (Go.Srt.Sp.refl (lt:=ltO o) once (r++B.flatten));simpa using this
  ·intro y hy;simp only[AM,AS] at hy⊢;rcases hy with hy|hy|hy|hy
   ·exact .inl (.inr (by simp[hy]))
   ·exact .inl (.inl hy)
   ·exact .inr (.inl hy)
   ·exact .inr (.inr hy)
 refine h2.step fun y hy=>?_;rcases AS.1 hy with hy|hy
 ·exact aa.asym _ _ (ab y hy)
 ·rcases AS.1 hy with hy|hy
  ·exact Zm hr (AF _ hy)
  ·exact ad y hy
structure Rdr where
 bx:Nat
 f:Fl
 ts:List T5
 g:Gr
 pos:Nat
 opn:Bool
 cx:Aa
 cb:Aa
def Ef (bw:Nat) (W:Wk) (r:Rdr):Prop:=if r.opn then De bw r.bx W r.f r.ts r.g r.pos r.cx r.cb else Kv r.bx r.cx
def Co (rs:List Rdr):Aa:=rs.flatMap fun r=>r.cx++r.cb
def Dz (rs:List Rdr):List Gr:=(rs.filter (·.opn)).map (·.g)
theorem Ef.move {bw:Nat} {W W':Wk} {r:Rdr} (h:Ef bw W r) (hs:W'.δ.size=W.δ.size):Ef bw W' r:=by
 unfold Ef at*;split
 ·rename_i ho;rw[if_pos ho] at h;exact h.move hs
 ·rename_i ho;rw[if_neg ho] at h;exact h
theorem gR {a b:List Rdr} (h:a.Perm b):(Co a).Perm (Co b):=h.flatMap_right _
theorem sY {rs:List Rdr} {r:Rdr} (h:r∈rs):∃qs,rs.Perm (r::qs)∧(Co rs).Perm (r.cx++(r.cb++Co qs)):=by obtain⟨l1,l2,rfl⟩:=List.append_of_mem h;refine⟨l1++l2,B4,(gR B4).trans ?_⟩;simp[Co]
theorem Zn {a b:List Rdr} (h:a.Perm b):(Dz a).Perm (Dz b):=(h.filter _).map _
def Vx (bc bh:Nat):Aa:=[(bc,row [pv bh] 238)]
def Vy (bh:Nat) (p:Option Addr) (n cap:Nat) (o:T5):Aa:=[(bh,row [.slice p n cap,Z9 Z8 o.c0,Z9 Z8 o.c1,Z9 Z8 o.c2,Z9 Z8 o.c3,Z9 Z8 o.c4] 241)]
structure CloseX where
 i:Nat
 ca:Aa
 α:Ar
 rs:List Rdr
theorem sZ (bc bh bw bd ba bs:Nat) (W:Wk) (cd ca cs:Aa) (h:Wc bd ba bs W cd ca cs) (o:T5) (l:List Hd) (p:Option Addr) (cap:Nat) (vc:Aa) (hV:Vec 243 7 p l.length cap (hcells l) vc) (hl:l.length≤1000000) (rs:List Rdr) (ac:List Gr) (hg:W.α.gs.Perm (Dz rs++ac)) (a7:∀r∈rs,Ef bw W r) (a5:∀x∈l,∃r∈rs,r.bx=x.rd) (a8:∀r∈rs,r.opn=true→∃x∈l,x.rd=r.bx) (a6:(rs.map (·.bx)).Nodup):Cb AC 234 [pv bc] [Vx bc bh,Vy bh p l.length cap o,vc,Ab bw bd ba bs,ca,Co rs] fun v H'=> ∃ca' α' rs',v= .tuple #[]∧H'=[Vx bc bh,Vy bh p l.length cap o,vc,Ab bw bd ba bs,ca',Co rs']∧Wc bd ba bs {W with α:=α'} cd ca' cs∧Ev W {W with α:=α'} 0 0∧α'.gs.Perm ac:=by
 unfold Vx Vy;refine Cb.intro func234 rfl ntmps234 (nle rfl) fun _=>?_;dsimp only[Cy,AD];repeat(refine sA ?_;intros)
 refine G.loop (X:=CloseX) (fun x=>x.i≤l.length∧Wc bd ba bs {W with α:=x.α} cd x.ca cs∧Ev W {W with α:=x.α} 0 0∧x.α.gs.Perm (Dz x.rs++ac)∧(∀r∈x.rs,Ef bw W r)∧(∀y∈l,∃r∈x.rs,r.bx=y.rd)∧(∀r∈x.rs,r.opn=true→∃j,x.i≤j∧j<l.length∧(at_ l j).rd=r.bx)∧(x.rs.map (·.bx)).Nodup)
  (fun x=>[(8,Z9 Z8 x.i),(7,Z9 Z8 l.length),(6,.slice p l.length cap)])
  (fun x=>[[(bc,row [pv bh] 238)],[(bh,row [.slice p l.length cap,Z9 Z8 o.c0,Z9 Z8 o.c1,Z9 Z8 o.c2,Z9 Z8 o.c3,Z9 Z8 o.c4] 241)],vc,Ab bw bd ba bs,x.ca,Co x.rs]) (fun x=>l.length-x.i) ⟨0,ca,W.α,rs⟩
  ⟨AU _,h,Ev.refl W,hg,a7,a5,fun r hr ho=>by
   obtain⟨x,hx,he⟩:=a8 r hr ho;obtain⟨j,hj,e⟩:=CU hx;exact⟨j,AU _,hj,by rw[←he,←e];simp[at_,AP,hj]⟩,a6⟩ (body:=?_)
 rintro⟨i,am,α1,ai⟩ ⟨hi,an,ao,aj,ad,ae,ag,au⟩;dsimp only at hi an ao aj ad ae ag au⊢;by_cases ak:i<l.length
 ·have hx:at_ l i∈l:=by unfold at_;rw[AP,AG ak];exact B6 ak
  obtain⟨r,hr,av⟩:=ae _ hx;obtain⟨qs,ab,a9⟩:=sY hr;obtain⟨_,h0|⟨vb,rest,rfl,rfl,_⟩⟩:=hV
  ·omega
  obtain⟨a1,a2,a3,a4⟩:=Qf (rest:=rest) ak;generalize hcells l++rest=cells at*;generalize ay:at_ l i=x at*
  unfold Hd.cells at a4;repeat(refine sA ?_;intros)
  rw[←av];apply R1.open a9
  ·(repeat(first|exact Ae.here|apply Ae.there))
  have al:=ad r hr;unfold Ef at al;have az:∀q∈qs,q∈ai:=fun q hq=>ab.mem_iff.2 (AF _ hq);have aw:(Dz ai).Perm (Dz (r::qs)):=Zn ab;have aa:((r::qs).map (·.bx)).Nodup:=(ab.map _).nodup_iff.1 au;cases ho:r.opn with
  |false=>
   rw[ho] at al;have hC:=fK r.bx r.cx al;refine cL hC ?_;rintro _ _ ⟨rfl,rfl⟩;repeat(refine sA ?_;intros)
   apply Dn.join (c1:=r.cx) (c2:=r.cb++Co qs)
   ·(repeat(first|exact Ae.here|apply Ae.there))
   ·(repeat(first|exact Ae.here|apply Ae.there))
   rw[show r.cx++(r.cb++Co qs)=Co (r::qs) by simp[Co]];refine Dn.round ⟨i+1,am,α1,r::qs⟩ ⟨ak,an,ao,aj.trans (aw.append_right _),fun q hq=>ad q (ab.mem_iff.2 hq),fun y hy=>?_,fun q hq ah=>?_,aa⟩ oD
   ·obtain⟨q,hq,e⟩:=ae y hy;exact⟨q,ab.mem_iff.1 hq,e⟩
   ·obtain⟨j,j1,j2,j3⟩:=ag q (ab.mem_iff.2 hq) ah;refine⟨j,?_,j2,j3⟩;by_cases ax:j=i
    ·exfalso;subst ax;rw[ay] at j3;rcases AM.1 hq with rfl|hq
     ·rw[ho] at ah;cases ah
     ·rw[AZ,CC] at aa;exact aa.1 (by rw[av,j3];exact AN.2 ⟨q,hq,rfl⟩)
    ·dsimp only;omega
  |true=>
   rw[ho] at al;have be:Dz (r::qs)=r.g::Dz qs:=by unfold Dz;rw[List.filter_cons_of_pos ho];rfl
   have hC:=Vh bw bd ba bs {W with α:=α1} cd am cs an r.bx r.f r.ts r.g (Dz qs++ac) (aj.trans (by rw[be] at aw;exact aw.append_right _)) r.pos r.cx r.cb (De.move al rfl);refine cL hC ?_;rintro _ _ ⟨bf,α2,aq,rfl,rfl,bg,bi,bk,bp⟩;repeat(refine sA ?_;intros)
   apply Dn.join (c1:=aq) (c2:=r.cb++Co qs)
   ·(repeat(first|exact Ae.here|apply Ae.there))
   ·(repeat(first|exact Ae.here|apply Ae.there))
   rw[show aq++(r.cb++Co qs)=Co ({r with opn:=false,cx:=aq}::qs) by simp[Co]];refine Dn.round ⟨i+1,bf,α2,{r with opn:=false,cx:=aq}::qs⟩ ⟨ak,bg,ao.trans bi,bk,fun q hq=>?_,fun y hy=>?_,fun q hq ah=>?_,aa⟩ oD
   ·rcases AM.1 hq with rfl|hq
    ·exact bp
    ·exact ad q (az q hq)
   ·obtain⟨q,hq,e⟩:=ae y hy;rcases AM.1 (ab.mem_iff.1 hq) with rfl|hq
    ·exact⟨_,AE,e⟩
    ·exact⟨q,AF _ hq,e⟩
   ·rcases AM.1 hq with rfl|a0
    ·cases ah
    ·obtain⟨j,j1,j2,j3⟩:=ag q (az q a0) ah;refine⟨j,?_,j2,j3⟩;by_cases ax:j=i
     ·exfalso;subst ax;rw[ay] at j3;rw[AZ,CC] at aa;exact aa.1 (by rw[av,j3];exact AN.2 ⟨q,a0,rfl⟩)
     ·dsimp only;omega
 ·repeat(refine sA ?_;intros)
  (refine dE [[(bc,row [pv bh] 238)],[(bh,row [.slice p l.length cap,Z9 Z8 o.c0,Z9 Z8 o.c1,Z9 Z8 o.c2,Z9 Z8 o.c3,Z9 Z8 o.c4] 241)],vc,Ab bw bd ba bs,am,Co ai] ?_;refine⟨am,α1,ai,rfl,rfl,an,ao,?_⟩);have:Dz ai=[]:=by
   unfold Dz;rw[DR.2]
   ·rfl
   ·intro r hr ho;obtain⟨j,j1,j2,_⟩:=ag r hr ho;omega
  rw[this] at aj;exact aj
def Gh (r:Rdr):List T5:=if r.opn then r.ts.drop (r.pos-1) else[]
structure MSt (bw:Nat) (W:Wk) (o:T5) (rds:List Rdr) (hl:List Hd):Prop where
 rd:∀r∈rds,Ef bw W r
 nd:(rds.map (·.bx)).Nodup
 hd:∀x∈hl,∃r,rds[x.run]? =some r∧r.opn=true∧r.bx=x.rd∧0<r.pos∧r.ts[r.pos-1]? =some x.t
 ex:∀j r,rds[j]? =some r→r.opn=true→∃x∈hl,x.run=j
 one:(hl.map (·.run)).Nodup
 sd:∀r∈rds,Sd (ltO o) false r.ts
theorem tC {o:T5} {s:List T5} (h:Sd (ltO o) false s) (n:Nat):Sd (ltO o) false (s.drop n):=h.sublist (List.drop_sublist n s)
theorem Zo {o:T5} {r:Rdr} (h:Sd (ltO o) false r.ts):Sd (ltO o) false (Gh r):=by
 unfold Gh;split
 ·exact tC h _
 ·exact DH
theorem tD {r:Rdr} {t u:T5} {s:List T5} (h:r.ts[r.pos-1]? =some t) (he:Gh r=u::s):u=t:=by
 unfold Gh at he;split at he
 ·have h1:(r.ts.drop (r.pos-1))[0]? =some t:=by rw[BS];simpa using h
  rw[he] at h1;simpa using h1
 ·cases he
theorem MSt.top {bw:Nat} {W:Wk} {o:T5} {rds:List Rdr} {hl:List Hd} (h:MSt bw W o rds hl) (aa:0<hl.length) (hh:Hv (ltH o) hl hl.length 0):∃A r B,rds=A++r::B∧A.length=(at_ hl 0).run∧r.opn=true∧r.bx=(at_ hl 0).rd∧0<r.pos∧r.ts[r.pos-1]? =some (at_ hl 0).t∧Gh r=(at_ hl 0).t::r.ts.drop r.pos∧(∀s∈A.map Gh,Sd (ltO o) false s∧∀u s',s=u::s'→ltO o (at_ hl 0).t u=true)∧(∀s∈B.map Gh,Sd (ltO o) false s∧∀u s',s=u::s'→ltO o u (at_ hl 0).t=false):=by
 have hx:at_ hl 0∈hl:=by unfold at_;rw[AP,AG aa];exact B6 aa
 have ab:=sU (gP o) hh;have ac:∀y∈hl,ltH o y (at_ hl 0)=false:=by intro y hy;obtain⟨j,hj,rfl⟩:=CU hy;have:=ab j hj;rwa[show at_ hl j=hl[j] by simp[at_,AP,hj]] at this
 generalize at_ hl 0=x at*
 obtain⟨r,h1,h2,h3,h4,h5⟩:=h.hd x hx;have ad:x.run<rds.length:=(AK.1 h1).1;have ae:rds[x.run]=r:=(AK.1 h1).2;have ag:rds=rds.take x.run++r::rds.drop (x.run+1):=by rw[←ae,←BO ad,BV]
 have key:∀j q u s',rds[j]? =some q→Gh q=u::s'→∃y∈hl,y.run=j∧y.t=u:=by
  intro j q u s' hq he;have ho:q.opn=true:=by
   cases hqo:q.opn with
   |true=>rfl
   |false=>unfold Gh at he;rw[hqo] at he;cases he
  obtain⟨y,hy,rfl⟩:=h.ex j q hq ho;obtain⟨q',k1,k2,k3,k4,k5⟩:=h.hd y hy;rw[hq] at k1;cases k1;exact⟨y,hy,rfl,(tD k5 he).symm⟩
 refine⟨rds.take x.run,r,rds.drop (x.run+1),ag,by rw[BJ];omega,h2,h3,h4,h5,?_,?_,?_⟩
 ·unfold Gh;rw[if_pos h2];obtain⟨k1,k2⟩:=AK.1 h5;rw[BO k1,k2,show r.pos-1+1=r.pos by omega]
 ·intro s hs;obtain⟨q,hq,rfl⟩:=AN.1 hs;refine⟨Zo (h.sd q (List.mem_of_mem_take hq)),fun u s' he=>?_⟩;obtain⟨j,hj,e⟩:=CU hq;rw[BJ] at hj;rw[List.getElem_take] at e;obtain⟨y,hy,ah,rfl⟩:=key j q u s' (AK.2 ⟨oM,e⟩) he;have:=ac y hy;simp only[ltH,ltO,decide_eq_false_iff_not,decide_eq_true_eq] at this⊢;have:=Mm o y.t x.t;omega
 ·intro s hs;obtain⟨q,hq,rfl⟩:=AN.1 hs;refine⟨Zo (h.sd q (List.mem_of_mem_drop hq)),fun u s' he=>?_⟩;obtain⟨j,hj,e⟩:=CU hq;rw[List.length_drop] at hj;rw[List.getElem_drop] at e;obtain⟨y,hy,ah,rfl⟩:=key (x.run+1+j) q u s' (AK.2 ⟨oM,e⟩) he;have:=ac y hy;simp only[ltH,ltO,decide_eq_false_iff_not] at this⊢;omega
end Go.Proofs.YtaofijjjheiknaaGreat
namespace Go.SL
section apart
variable {Q:Exit→Act→World→Prop} {w0:World} {S:List Nat} {n:Nat} {L:Bb} {D:List Deferred} {H:Hp}
theorem Dn.nodup {e:Exit} (h:(Bj H).Nodup→Dn Q w0 S n e L D H):Dn Q w0 S n e L D H:=by unfold Dn at h⊢;exact fun a w hf hD hw=>h hw.nodup a w hf hD hw
theorem tE {H Ha Hb:Hp} {c1 c2:Aa} (h:(Bj H).Nodup) (h1:Ae c1 H Ha) (h2:Ae c2 Ha Hb):∀k∈c1.map (·.1),k∉c2.map (·.1):=by unfold Ae at h1 h2;have h3:H.flatten.Perm (c1++(c2++Hb.flatten)):=h1.trans (List.Perm.append_left _ h2);unfold Bj at h;have h4:=(h3.map (fun p=>p.1)).nodup_iff.1 h;rw[List.map_append,List.map_append] at h4;intro k hk aa;exact(List.nodup_append.1 h4).2.2 k hk k (List.mem_append_left _ aa) rfl
variable {P:Program} {ops:Array Oper} {cls:Nat→Oper→Cls} {k:Nat} {l:List (Nat×Oper)} {qs:List Rd}
theorem gS {c c1 c2:Aa} {Ha Hb:Hp} (h1:Ae c1 H Ha) (h2:Ae c2 Ha Hb) (hp:(c1++c2).Perm c):H.flatten.Perm ((c::Hb).flatten):=by refine(Tc h1 h2).trans ?_;simp only[List.flatten_cons];exact hp.append_right _
theorem R.joinP {c c1 c2:Aa} {Ha Hb:Hp} (hp:(c1++c2).Perm c) (h1:Ae c1 H Ha) (h2:Ae c2 Ha Hb) (h:R P ops Q cls w0 S n l L D (c::Hb) qs):R P ops Q cls w0 S n l L D H qs:=R.recut (gS h1 h2 hp) h
theorem Dn.joinP {e:Exit} {c c1 c2:Aa} {Ha Hb:Hp} (hp:(c1++c2).Perm c) (h1:Ae c1 H Ha) (h2:Ae c2 Ha Hb) (h:Dn Q w0 S n e L D (c::Hb)):Dn Q w0 S n e L D H:=Dn.recut (gS h1 h2 hp) h
end apart
end Go.SL
namespace Go.Proofs.YtaofijjjheiknaaGreat
open Go.SL Go.Spc Go.Tup Go.Srt
def Rdr.src (r:Rdr):Fl×List T5:=(r.f,r.ts)
theorem Ef.bx_mem {bw:Nat} {W:Wk} {r:Rdr} (h:Ef bw W r):r.bx∈r.cx.map (·.1):=by
 unfold Ef at h;split at h
 ·obtain⟨_,buf,n,a,e,_⟩:=h;rw[e];simp
 ·obtain⟨_,_,_,_,_,_,_,e⟩:=h;rw[e];simp
theorem tF {bw:Nat} {W:Wk} {rds:List Rdr} (h:∀r∈rds,Ef bw W r) {b:Nat} (hb:b∉(Co rds).map (·.1)):b∉rds.map (·.bx):=by intro hm;obtain⟨r,hr,rfl⟩:=AN.1 hm;apply hb;obtain⟨p,hp,e⟩:=AN.1 (h r hr).bx_mem;rw[←e];refine AN.2 ⟨p,?_,rfl⟩;unfold Co;exact List.mem_flatMap.2 ⟨r,hr,BN _ hp⟩
theorem tG {o:T5} {once:Bool} {l:List T5} (h:Sd (ltO o) once l):Sd (ltO o) false l:=by
 cases once with
 |false=>exact h
 |true=>
  unfold Sd at*;refine h.imp fun aa=>?_;simp only[if_true] at aa;simp only[Bool.false_eq_true,if_false];exact(Ee o).asym _ _ aa
theorem MSt.permH {bw:Nat} {W:Wk} {o:T5} {rds:List Rdr} {hl aa:List Hd} (h:MSt bw W o rds hl) (hp:aa.Perm hl):MSt bw W o rds aa where
 rd:=h.rd
 nd:=h.nd
 hd:=fun x hx=>h.hd x (hp.mem_iff.1 hx)
 ex:=fun j r hj ho=>by obtain⟨x,hx,e⟩:=h.ex j r hj ho;exact⟨x,hp.mem_iff.2 hx,e⟩
 one:=((hp.map _).nodup_iff).2 h.one
 sd:=h.sd
theorem MSt.move {bw:Nat} {W W':Wk} {o:T5} {rds:List Rdr} {hl:List Hd} (h:MSt bw W o rds hl) (hs:W'.δ.size=W.δ.size):MSt bw W' o rds hl:=
 {h with rd:=fun r hr=>(h.rd r hr).move hs}
theorem MSt.nil (bw:Nat) (W:Wk) (o:T5):MSt bw W o [] []:=⟨by simp,by simp,by simp,by simp,by simp,by simp⟩
theorem MSt.add {bw:Nat} {W W':Wk} {o:T5} {rds:List Rdr} {hl:List Hd} {r:Rdr} {t:T5} (h:MSt bw W o rds hl) (hs:W'.δ.size=W.δ.size) (hr:Ef bw W' r) (ho:r.opn=true) (hp:0<r.pos) (ht:r.ts[r.pos-1]? =some t) (hb:r.bx∉rds.map (·.bx)) (ab:Sd (ltO o) false r.ts):MSt bw W' o (rds++[r]) (hl++[⟨t,rds.length,r.bx⟩]) where
 rd:=fun q hq=>by
  rcases AS.1 hq with hq|hq
  ·exact(h.rd q hq).move hs
  ·simp only[AW] at hq;subst hq;exact hr
 nd:=by rw[A0,B9];refine⟨h.nd,by simp,?_⟩;intro a ha b aa e;simp only[AZ,CG,AW] at aa;subst aa;subst e;exact hb ha
 hd:=fun x hx=>by
  rcases AS.1 hx with hx|hx
  ·obtain⟨q,h1,h2⟩:=h.hd x hx;exact⟨q,by rw[BR (AK.1 h1).1];exact h1,h2⟩
  ·simp only[AW] at hx;subst hx;exact⟨r,by simp,ho,rfl,hp,ht⟩
 ex:=fun j q hj hq=>by
  by_cases ac:j<rds.length
  ·rw[BR ac] at hj;obtain⟨x,hx,e⟩:=h.ex j q hj hq;exact⟨x,BN _ hx,e⟩
  ·have ad:=(AK.1 hj).1;rw[AH,CY] at ad;obtain rfl:j=rds.length:=by omega
   exact⟨_,BK _ AE,rfl⟩
 one:=by rw[A0,B9];refine⟨h.one,by simp,?_⟩;intro a ha b aa e;simp only[AZ,CG,AW] at aa;subst aa;subst e;obtain⟨x,hx,e⟩:=AN.1 ha;obtain⟨q,h1,_⟩:=h.hd x hx;have:=(AK.1 h1).1;omega
 sd:=fun q hq=>by
  rcases AS.1 hq with hq|hq
  ·exact h.sd q hq
  ·simp only[AW] at hq;subst hq;exact ab
theorem mid_get {α:Type} {A B:List α} {r r':α} {j:Nat} (h:j≠A.length):(A++r'::B)[j]? =(A++r::B)[j]? :=by
 by_cases aa:j<A.length
 ·rw[BR aa,BR aa]
 ·rw[BL oM,BL oM];obtain⟨i,hi⟩:∃i,j-A.length=i+1:=⟨j-A.length-1,oM⟩
  rw[hi];simp
theorem gT {α:Type} {A B:List α} {r:α}:(A++r::B)[A.length]? =some r:=by simp
theorem MSt.step {bw:Nat} {W W':Wk} {o:T5} {A B:List Rdr} {r r':Rdr} {x:Hd} {tl:List Hd} {t:T5} (h:MSt bw W o (A++r::B) (x::tl)) (hA:A.length=x.run) (hs:W'.δ.size=W.δ.size) (hr:Ef bw W' r') (hb:r'.bx=r.bx) (hx:r.bx=x.rd) (hts:r'.ts=r.ts) (ho:r'.opn=true) (hp:0<r'.pos) (ht:r'.ts[r'.pos-1]? =some t):MSt bw W' o (A++r'::B) ({x with t:=t}::tl) where
 rd:=fun q hq=>by
  rcases AS.1 hq with hq|hq
  ·exact(h.rd q (BN _ hq)).move hs
  ·rcases AM.1 hq with rfl|hq
   ·exact hr
   ·exact(h.rd q (BK _ (AF _ hq))).move hs
 nd:=by have:=h.nd;simp only[A0,AZ,hb] at this⊢;exact this
 hd:=fun y hy=>by
  have aa:=h.one;rw[AZ,CC] at aa;rcases AM.1 hy with rfl|hy
  ·exact⟨r',by dsimp only;rw[←hA];exact gT,ho,hb.trans hx,hp,ht⟩
  ·obtain⟨q,h1,h2⟩:=h.hd y (AF _ hy);refine⟨q,?_,h2⟩;rw[mid_get (r:=r) (by rw[hA];intro e;exact aa.1 (AN.2 ⟨y,hy,e⟩))];exact h1
 ex:=fun j q hj hq=>by
  by_cases e:j=A.length
  ·exact⟨_,AE,oD⟩
  ·rw[mid_get (r:=r) e] at hj;obtain⟨y,hy,e2⟩:=h.ex j q hj hq;rcases AM.1 hy with rfl|hy
   ·omega
   ·exact⟨y,AF _ hy,e2⟩
 one:=by have:=h.one;simpa using this
 sd:=fun q hq=>by
  rcases AS.1 hq with hq|hq
  ·exact h.sd q (BN _ hq)
  ·rcases AM.1 hq with rfl|hq
   ·rw[hts];exact h.sd r oA19
   ·exact h.sd q (BK _ (AF _ hq))
theorem MSt.close {bw:Nat} {W W':Wk} {o:T5} {A B:List Rdr} {r r':Rdr} {x:Hd} {tl:List Hd} (h:MSt bw W o (A++r::B) (x::tl)) (hA:A.length=x.run) (hs:W'.δ.size=W.δ.size) (hr:Ef bw W' r') (hb:r'.bx=r.bx) (hts:r'.ts=r.ts) (ho:r'.opn=false):MSt bw W' o (A++r'::B) tl where
 rd:=fun q hq=>by
  rcases AS.1 hq with hq|hq
  ·exact(h.rd q (BN _ hq)).move hs
  ·rcases AM.1 hq with rfl|hq
   ·exact hr
   ·exact(h.rd q (BK _ (AF _ hq))).move hs
 nd:=by have:=h.nd;simp only[A0,AZ,hb] at this⊢;exact this
 hd:=fun y hy=>by have aa:=h.one;rw[AZ,CC] at aa;obtain⟨q,h1,h2⟩:=h.hd y (AF _ hy);refine⟨q,?_,h2⟩;rw[mid_get (r:=r) (by rw[hA];intro e;exact aa.1 (AN.2 ⟨y,hy,e⟩))];exact h1
 ex:=fun j q hj hq=>by
  by_cases e:j=A.length
  ·subst e;rw[gT] at hj;cases hj;rw[ho] at hq;cases hq
  ·rw[mid_get (r:=r) e] at hj;obtain⟨y,hy,e2⟩:=h.ex j q hj hq;rcases AM.1 hy with rfl|hy
   ·omega
   ·exact⟨y,hy,e2⟩
 one:=by have:=h.one;rw[AZ,CC] at this;exact this.2
 sd:=fun q hq=>by
  rcases AS.1 hq with hq|hq
  ·exact h.sd q (BN _ hq)
  ·rcases AM.1 hq with rfl|hq
   ·rw[hts];exact h.sd r oA19
   ·exact h.sd q (BK _ (AF _ hq))
structure CSt (bw:Nat) (W:Wk) (rs:List Rdr) (l:List Hd):Prop where
 rd:∀r∈rs,Ef bw W r
 lr:∀x∈l,∃r∈rs,r.bx=x.rd
 rl:∀r∈rs,r.opn=true→∃x∈l,x.rd=r.bx
 nd:(rs.map (·.bx)).Nodup
theorem CSt.move {bw:Nat} {W W':Wk} {rs:List Rdr} {l:List Hd} (h:CSt bw W rs l) (hs:W'.δ.size=W.δ.size):CSt bw W' rs l:={h with rd:=fun r hr=>(h.rd r hr).move hs}
theorem MSt.cst {bw:Nat} {W:Wk} {o:T5} {rds:List Rdr} {hl:List Hd} (h:MSt bw W o rds hl):CSt bw W rds hl where
 rd:=h.rd
 lr:=fun x hx=>by obtain⟨r,h1,_,h2,_⟩:=h.hd x hx;exact⟨r,AY h1,h2⟩
 rl:=fun r hr ho=>by obtain⟨j,hj,e⟩:=CU hr;obtain⟨x,hx,e2⟩:=h.ex j r (by rw[AG hj,e]) ho;obtain⟨q,h1,_,h2,_⟩:=h.hd x hx;rw[e2,AG hj,e] at h1;cases h1;exact⟨x,hx,h2.symm⟩
 nd:=h.nd
theorem CSt.one {bw:Nat} {W W':Wk} {A B:List Rdr} {r r':Rdr} {l:List Hd} (h:CSt bw W (A++r::B) l) (hs:W'.δ.size=W.δ.size) (hr:Ef bw W' r') (hb:r'.bx=r.bx) (ho:r'.opn=false):CSt bw W' (A++r'::B) l where
 rd:=fun q hq=>by
  rcases AS.1 hq with hq|hq
  ·exact(h.rd q (BN _ hq)).move hs
  ·rcases AM.1 hq with rfl|hq
   ·exact hr
   ·exact(h.rd q (BK _ (AF _ hq))).move hs
 lr:=fun x hx=>by
  obtain⟨q,hq,e⟩:=h.lr x hx;rcases AS.1 hq with hq|hq
  ·exact⟨q,BN _ hq,e⟩
  ·rcases AM.1 hq with rfl|hq
   ·exact⟨r',BK _ AE,hb.trans e⟩
   ·exact⟨q,BK _ (AF _ hq),e⟩
 rl:=fun q hq aa=>by
  rcases AS.1 hq with hq|hq
  ·exact h.rl q (BN _ hq) aa
  ·rcases AM.1 hq with rfl|hq
   ·rw[ho] at aa;cases aa
   ·exact h.rl q (BK _ (AF _ hq)) aa
 nd:=by have:=h.nd;simp only[A0,AZ,hb] at this⊢;exact this
def rdA (s k:Nat) (rds:List Rdr):Nat:=(rds.map fun r=>Ac s k r.pos).sum
def left (rds:List Rdr):List T5:=(rds.map Gh).flatten
theorem Ry (s k:Nat) (A B:List Rdr) (r:Rdr):rdA s k (A++r::B)=rdA s k A+(Ac s k r.pos+rdA s k B):=by simp[rdA,CV]
theorem Tr (A B:List Rdr) (r:Rdr):left (A++r::B)=left A++(Gh r++left B):=by simp[left]
theorem tH (s k:Nat) (A:List Rdr) (r:Rdr):rdA s k (A++[r])=rdA s k A+Ac s k r.pos:=by simp[rdA,CV]
theorem tI (A:List Rdr) (r:Rdr):Dz (A++[r])=Dz A++(if r.opn=true then[r.g] else[]):=by
 unfold Dz;rw[List.filter_append,A0];congr 1;by_cases h:r.opn=true
 ·rw[if_pos h,List.filter_cons_of_pos h];rfl
 ·rw[if_neg h,List.filter_cons_of_neg h];rfl
theorem gU (A B:List Rdr) (r:Rdr):(Co (A++r::B)).Perm ((r.cx++r.cb)++Co (A++B)):=by have h:(A++r::B).Perm (r::(A++B)):=B4;refine(gR h).trans ?_;simp[Co]
theorem gV (A B:List Rdr) (r:Rdr) (ho:r.opn=true):(Dz (A++r::B)).Perm (r.g::Dz (A++B)):=by have h:(A++r::B).Perm (r::(A++B)):=B4;refine(Zn h).trans ?_;unfold Dz;rw[List.filter_cons_of_pos ho];exact .refl _
theorem gW (A B:List Rdr) (r:Rdr) (ho:r.opn=false):(Dz (A++r::B)).Perm (Dz (A++B)):=by have h:(A++r::B).Perm (r::(A++B)):=B4;refine(Zn h).trans ?_;unfold Dz;rw[List.filter_cons_of_neg (by simp[ho])]
theorem Vz {s k:Nat} {rds:List Rdr} (h:∀r∈rds,r.pos≤r.f.count):rdA s k rds≤((rds.map Rdr.src).map fun r=>Ac s k r.1.count).sum:=by
 induction rds with
 |nil=>simp[rdA]
 |cons r rds ih=>
  have h1:=ih fun q hq=>h q (AF _ hq);have h2:Ac s k r.pos≤Ac s k r.f.count:=Da (h r AE);simp only[rdA,AZ,DJ,Rdr.src] at h1⊢;omega
theorem Zp (A B:List Rdr) {r:Rdr} {cx cb:Aa} (h1:r.cx=cx) (h2:r.cb=cb):((cx++cb)++Co (A++B)).Perm (Co (A++r::B)):=by subst h1 h2;exact(gU A B r).symm
theorem heap_set {o:T5} {x y:Hd} {tl:List Hd} (h:Hv (ltH o) (x::tl) (x::tl).length 0):Hv (ltH o) (y::tl) (y::tl).length 1:=by
 intro c h1 h2 h3;have e:∀j,0<j→at_ (y::tl) j=at_ (x::tl) j:=fun j hj=>by
  obtain⟨i,rfl⟩:∃i,j=i+1:=⟨j-1,oM⟩
  rfl
 rw[e _ h1,e _ h3];exact h c h1 h2 (AU _)
structure tJ where
 cd:Aa
 ca:Aa
 cs:Aa
 cx:Aa
 cb:Aa
 W:Wk
 rds:List Rdr
 hl:List Hd
 ps:List T5
 last:T5
 sm:Bool
 rest:List Value
structure tK where
 i:Nat
 cnt:Nat
 cd:Aa
 ca:Aa
 W:Wk
 rds:List Rdr
 hl:List Hd
 p:Option Addr
 cap:Nat
 vc:Aa
structure tL (W:Wk) (k:Nat) (o:T5) (once:Bool) (rs:List (Fl×List T5)):Prop where
 k1:1≤k
 k5:k≤5
 two:2≤rs.length
 ok:∀r∈rs,r.1.width=k∧Be W.δ.disk W.δ.size [r.1.ext] r.1 r.2∧Sd (ltO o) once r.2∧0<r.1.count
 live:∀r∈rs,r.1.ext∈W.live
 room:(rs.length+1)*W.δ.size≤W.α.room-W.α.used
 acts:W.δ.acts≤100000000000
 cnt:(rs.map (·.1.count)).sum≤1000000
def Cj (s k:Nat) (rs:List (Fl×List T5)):Nat:=(rs.map fun r=>Ac s k r.1.count).sum
theorem gX {l:List Nat} {i:Nat}:(l.take i).sum≤l.sum:=by have h:=congrArg List.sum (BV i l);rw[CV] at h;omega
theorem Zq {rs:List (Fl×List T5)} (h:∀r∈rs,0<r.1.count):rs.length≤(rs.map (·.1.count)).sum:=by
 induction rs with
 |nil=>simp
 |cons r rs ih=>
  have h1:=ih fun q hq=>h q (AF _ hq);have h2:=h r AE;simp only[AZ,DJ,AJ];omega
theorem gY {s k:Nat} (hp:1≤Ad s k) {rs:List (Fl×List T5)}:Cj s k rs≤(rs.map (·.1.count)).sum:=by
 induction rs with
 |nil=>simp[Cj]
 |cons r rs ih=>
  have h2:=Dl (n:=r.1.count) hp;simp only[Cj,AZ,DJ] at ih⊢;omega
theorem tM (bz bw bd ba bs:Nat) (W:Wk) (cd ca cs:Aa) (h:Wc bd ba bs W cd ca cs) (k:Nat) (o:T5) (once:Bool) (rs:List (Fl×List T5)) (ak:tL W k o once rs) (vb off dk:Nat) (cells:List Value) (dl:∀(i:Nat) (r:Fl×List T5),rs[i]? =some r→(cells.drop (off+i*4)).take 4=[Z9 Z8 r.1.first,Z9 Z8 r.1.blocks,Z9 Z8 r.1.width,Z9 Z8 r.1.count]) (p:Option Addr) (n cap:Nat) (last:T5) (sm:Bool):Ct AC 217 [pv bz,.slice (some ⟨vb,off,none⟩) rs.length dk] [Fk bz bw o once p n cap last sm,Ab bw bd ba bs,cd,ca,cs,[(vb,row cells 42)]] fun v H'=> ∃cd' ca' cs' W' last' sm',H'=[Fk bz bw o once p n cap last' sm',Ab bw bd ba bs,cd',ca',cs',[(vb,row cells 42)]]∧Wc bd ba bs W' cd' ca' cs'∧Ev W W' (Cj W.δ.size k rs+Ac W.δ.size k (rs.map (·.1.count)).sum) (Ac W.δ.size k (rs.map (·.1.count)).sum)∧Ap W.live W W'∧W'.α.gs.Perm W.α.gs∧((∃f out,v= .tuple #[flv f,Z9 Z8 0]∧W'.live.Perm (Az f W.live)∧f.width=k∧0<f.count∧f.count≤(rs.map (·.1.count)).sum∧Be W'.δ.disk W.δ.size [f.ext] f out∧Sd (ltO o) once out∧Go.Srt.Sp (ltO o) once (rs.flatMap (·.2)) out)∨ (v= .tuple #[flv ⟨0,0,0,0⟩,Z9 Z8 5]∧big W.σ.free<Ac W.δ.size k (rs.map (·.1.count)).sum∧W'.live.Perm W.live)∨ (v= .tuple #[flv ⟨0,0,0,0⟩,Z9 Z8 6]∧W.δ.fault≠-1∧W'.live.Perm W.live)):=by
 obtain⟨⟨ir,kc⟩,kd,ke⟩:=h.dev.num;obtain⟨kf,kg,_,kh⟩:=h.ar.num;have f9:=ak.k1;have ga:=ak.k5;have hp:=Bh ir f9 ga;have jz:=ak.cnt;have kj:rs.length≤(rs.map (·.1.count)).sum:=Zq fun r hr=>(ak.ok r hr).2.2.2;have kl:Cj W.δ.size k rs≤(rs.map (·.1.count)).sum:=gY hp;have j0:=ak.acts;have j1:=ak.two;unfold Fk Kx;refine Ct.introD func217 rfl ntmps217 (nle rfl) fun _=>?_;dsimp only[Cy,AD];repeat(first|(refine sv ?_;intros)|refine gD ?_|refine cq hN ?_)
 rename_i b4 bh bc;have iu:=ak.room;have km:(rs.length+1)*W.δ.size=rs.length*W.δ.size+W.δ.size:=BH _ _;refine G.loop (X:=tK) (fun x=>x.i≤rs.length∧x.i=x.rds.length∧x.hl.length=x.i∧x.cnt=((rs.take x.i).map (·.1.count)).sum∧Wc bd ba bs x.W x.cd x.ca cs∧Ev W x.W (rdA W.δ.size k x.rds) 0∧x.W.δ.disk=W.δ.disk∧x.W.live=W.live∧x.W.σ=W.σ∧
   x.W.α.gs.Perm (Dz x.rds++W.α.gs)∧x.W.α.used=W.α.used+x.i*W.δ.size∧x.rds.map Rdr.src=rs.take x.i∧(∀r∈x.rds,r.opn=true∧r.pos=1)∧MSt bw x.W o x.rds x.hl∧Vec 243 7 x.p x.i x.cap (hcells x.hl) x.vc)
  (fun x=>[(30,Z9 Z8 x.i),(7,Z9 Z8 x.cnt),(28,.slice (some ⟨vb,off,none⟩) rs.length dk),(29,Z9 Z8 rs.length),(6,pv bc),(4,pv b4),(0,pv bz),(1,.slice (some ⟨vb,off,none⟩) rs.length dk)])
  (fun x=>[[(b4,row [Z9 Z8 0,Z9 Z8 0,Z9 Z8 0,Z9 Z8 0] 42)],[(bc,row [pv bh] 238)],[(bh,row [.slice x.p x.i x.cap,Z9 Z8 o.c0,Z9 Z8 o.c1,Z9 Z8 o.c2,Z9 Z8 o.c3,Z9 Z8 o.c4] 241)],x.vc,Ab bw bd ba bs,x.cd,x.ca,cs,Co x.rds,[(vb,row cells 42)],[(bz,row [pv bw,Z9 Z8 o.c0,Z9 Z8 o.c1,Z9 Z8 o.c2,Z9 Z8 o.c3,Z9 Z8 o.c4,.bool once,.slice p n cap,Z9 Z8 last.c0,Z9 Z8 last.c1,Z9 Z8 last.c2,Z9 Z8 last.c3,Z9 Z8 last.c4,.bool sm] 200)]])
  (fun x=>rs.length-x.i) ⟨0,0,cd,ca,W,[],[],none,0,[]⟩
  ⟨AU _,rfl,rfl,by simp,h,Ev.refl W,rfl,rfl,rfl,.refl _,by simp,by simp,by simp,MSt.nil _ _ _,Vec.nil _ _⟩ oA7 oA3 ?_
 rintro⟨i,cnt,fb,gb,W1,rds,hl,p1,ae,vc⟩ ⟨hi,ek,gc,hct,d5,be,c8,c9,fc,dm,cz,aq,bq,dp,fd⟩;dsimp only at hi ek gc hct d5 be c8 c9 fc dm cz aq bq dp fd⊢;subst gc;have au:=be.size;have el:W1.α.room=W.α.room:=be.room;have j2:=be.acts;have b8:=fun (W':Wk) (cd' ca' cs':Aa) (iv:Wc bd ba bs W' cd' ca' cs') (l:List Hd) (p:Option Addr) (cap:Nat) (vc:Aa) (hV:Vec 243 7 p l.length cap (hcells l) vc) (b9:l.length≤1000000) (rs:List Rdr) (em:List Gr) (hg:W'.α.gs.Perm (Dz rs++em)) (hC:CSt bw W' rs l)=>
  sZ bc bh bw bd ba bs W' cd' ca' cs' iv o l p cap vc hV b9 rs em hg hC.rd hC.lr hC.rl hC.nd
 unfold Vx Vy at b8;have j3:rdA W.δ.size k rds≤Cj W.δ.size k rs:=by
  refine Nat.le_trans (Vz fun r hr=>?_) ?_
  ·have h1:r.src∈rs.take hl.length:=by rw[←aq];exact AN.2 ⟨r,hr,rfl⟩
   have h2:=(ak.ok _ (List.mem_of_mem_take h1)).2.2.2;have h3:=(bq r hr).2;unfold Rdr.src at h2;dsimp only at h2;omega
  ·rw[aq,List.map_take];exact gX
 by_cases dq:hl.length<rs.length
 ·have fg:rs[hl.length]? =Option.some rs[hl.length]:=AG dq;have iw:=dl hl.length _ fg;obtain⟨bf,av,dr,ds⟩:=ak.ok _ (B6 dq);have bu:=ak.live _ (B6 dq);have gd:(hl.length+1)*W.δ.size≤rs.length*W.δ.size:=Nat.mul_le_mul_right _ oM;rw[BH] at gd;have fh:((rs.take (hl.length+1)).map (·.1.count)).sum=((rs.take hl.length).map (·.1.count)).sum+rs[hl.length].1.count:=by rw[BP,fg,A0,CV];simp
  have ge:rs.take (hl.length+1)=rs.take hl.length++[rs[hl.length]]:=by rw[BP,fg];rfl
  have j4:((rs.take (hl.length+1)).map (·.1.count)).sum≤(rs.map (·.1.count)).sum:=by rw[List.map_take];exact gX
  generalize ix:rs[hl.length]=r at*;obtain⟨f,ts⟩:=r;dsimp only at iw bf av dr ds bu fh;have gf:Be W1.δ.disk W1.δ.size [f.ext] f ts:=by rw[c8,au];exact av
  have gg:=Ol bw bd ba bs W1 fb gb cs d5 f ts [f.ext] gf (by rw[au,el,cz];omega);have dt:flv f= .agg #[Z9 Z8 f.first,Z9 Z8 f.blocks,Z9 Z8 f.width,Z9 Z8 f.count]:=rfl;rw[dt] at gg;repeat(first|(refine sv ?_;intros)|refine gD ?_|refine cq hN ?_)
  refine cL gg ?_;rintro _ _ ⟨bx,g,iy,α2,cx,cb,rfl,rfl,iz,da,fi,gh,i0⟩;try dsimp only[AA,AB]
  repeat(first|(refine sv ?_;intros)|refine gD ?_|refine cq hN ?_)
  have i1:=av.len;have gi:ts[0]? =Option.some ts[0]:=AG oM;have du:=Qe bw bd ba bs {W1 with α:=α2} fb iy cs iz bx f ts [f.ext] (by dsimp only;exact gf) (by dsimp only;rw[c9];simpa using bu) g (Dz rds++W.α.gs) (fi.trans (dm.cons _)) 0 cx cb i0 _ gi oD;have fj:tv ts[0]= .agg #[Z9 Z8 (ts[0]).c0,Z9 Z8 (ts[0]).c1,Z9 Z8 (ts[0]).c2,Z9 Z8 (ts[0]).c3,Z9 Z8 (ts[0]).c4]:=rfl;have hz:tv T5.zero= .agg #[Z9 Z8 T5.zero.c0,Z9 Z8 T5.zero.c1,Z9 Z8 T5.zero.c2,Z9 Z8 T5.zero.c3,Z9 Z8 T5.zero.c4]:=rfl;rw[fj,hz] at du;generalize ht:ts[0]=t at*;refine cL du ?_;rintro _ _ ⟨a0,db,W3,a5,bv,rfl,cg,aw,gj,i2,gk,⟨rfl,gl,i3⟩|⟨rfl,gm,kn,i4,i5⟩⟩;try dsimp only[AA,AB]
  ·have e1:AL .i64 ((cnt:Int)+(f.count:Int))=((cnt+f.count:Nat):Int):=by rw[Ah oM];rfl
   have e2:AL .i64 ((hl.length:Int)+1)=((hl.length+1:Nat):Int):=by rw[Ah oM];rfl
   have ko:=ix;repeat(first|(refine sv ?_;intros)|refine gD ?_|refine cq hN ?_)
   rename_i p' gp c' i6;apply Dn.nodup;intro i7;have i8:=tE (c1:=a5) (c2:=Co rds) i7 (by(repeat(first|exact Ae.here|apply Ae.there))) (by(repeat(first|exact Ae.here|apply Ae.there)));apply Dn.join (c1:=a5) (c2:=bv)
   ·(repeat(first|exact Ae.here|apply Ae.there))
   ·(repeat(first|exact Ae.here|apply Ae.there))
   apply Dn.join (c1:=Co rds) (c2:=a5++bv)
   ·(repeat(first|exact Ae.here|apply Ae.there))
   ·(repeat(first|exact Ae.here|apply Ae.there))
   have gq:De bw bx W3 f ts g 1 a5 bv:=i3;have en:Ef bw W3 ⟨bx,f,ts,g,1,true,a5,bv⟩:=by unfold Ef;rw[if_pos rfl];exact gq
   have ai:=(be.trans da).trans aw;rw[show Co rds++(a5++bv)=Co (rds++[⟨bx,f,ts,g,1,true,a5,bv⟩]) by simp[Co]];refine Dn.round ⟨hl.length+1,cnt+f.count,a0,db,W3,rds++[⟨bx,f,ts,g,1,true,a5,bv⟩],hl++[⟨t,hl.length,bx⟩],p',gp,c'⟩ ⟨dq,by dsimp only;rw[AH,CY];omega,by dsimp only;rw[AH,CY],oD,cg,?_,gj.trans c8,gk.trans c9,i2.trans fc,?_,?_,?_,?_,?_,?_⟩ oD
   ·have h0:Ac W.δ.size k 0=0:=Ro hp;have:=ai;rw[bf] at this;dsimp only at this⊢;rw[tH];refine this.weak ?_ (AI _);show _+0+(Ac W1.δ.size k (0+1)-Ac W1.δ.size k 0)≤_+Ac W.δ.size k 1;rw[au,h0,BU];omega
   ·dsimp only;rw[gl,tI,if_pos rfl];refine(fi.trans (dm.cons _)).trans ?_;rw[AT];exact B4.symm
   ·have e3:=cg.ar.num.2.2.2;have e4:=d5.ar.num.2.2.2;dsimp only at gh⊢;rw[e3,gl,(fi.map (·.n)).sum_nat,AZ,DJ,←e4,gh,cz,au,BH];omega
   ·dsimp only;rw[A0,aq,ge];rfl
   ·intro r hr;rcases AS.1 hr with hr|hr
    ·exact bq r hr
    ·simp only[AW] at hr;subst hr;exact⟨rfl,rfl⟩
   ·have i9:bx∉rds.map (·.bx):=tF (W:=W3) (fun r hr=>(dp.rd r hr).move (by rw[aw.size,da.size])) (i8 bx (by have:=en.bx_mem;exact this));have:=dp.add (W':=W3) (r:=⟨bx,f,ts,g,1,true,a5,bv⟩) (t:=t) (by rw[aw.size,da.size]) en rfl Nat.one_pos gi i9 (tG dr);rw[←ek] at this;exact this
   ·rw[gN];exact i6
  ·have fk:=fK bx a5 i5;repeat(first|(refine sv ?_;intros)|refine gD ?_|refine cq hN ?_)
   refine cL fk ?_;rintro _ _ ⟨rfl,rfl⟩;try dsimp only[AA,AB]
   repeat(first|(refine sv ?_;intros)|refine gD ?_|refine cq hN ?_)
   have fm:=b8 W3 a0 db cs cg hl p1 ae vc fd oM rds W.α.gs i4 (dp.cst.move (by rw[aw.size,da.size]));refine Go.SL.Lv.call (hc:=fm.2) (h:=?_);rintro _ _ ⟨b1,α4,ja,rfl,rfl,ci,aj,b2⟩;try dsimp only[AA,AB]
   have ai:=be.trans da;have gr:=aw;(refine lN [[(bz,row [pv bw,Z9 Z8 o.c0,Z9 Z8 o.c1,Z9 Z8 o.c2,Z9 Z8 o.c3,Z9 Z8 o.c4,.bool once,.slice p n cap,Z9 Z8 last.c0,Z9 Z8 last.c1,Z9 Z8 last.c2,Z9 Z8 last.c3,Z9 Z8 last.c4,.bool sm] 200)],Ab bw bd ba bs,a0,b1,cs,[(vb,row cells 42)]] ?_;refine⟨a0,b1,cs,_,last,sm,rfl,ci,?_,?_,b2,.inr (.inr ⟨rfl,?_,?_⟩)⟩)
   ·have h5:=(ai.trans gr).trans aj;rw[bf] at h5;refine h5.weak ?_ (AU _);show _+0+(Ac W1.δ.size k (0+1)-Ac W1.δ.size k 0)+0≤_;rw[au,BU];have h6:Ac W.δ.size k 1≤Ac W.δ.size k (rs.map (·.1.count)).sum:=Da oM;omega
   ·exact fun x _=>by show W3.δ.disk x=_;rw[gj];dsimp only;rw[c8]
   ·intro e;have:=(be.trans da).fault e;dsimp only at this gm;omega
   ·show W3.live.Perm W.live;rw[gk];dsimp only;rw[c9]
 ·obtain b9:hl.length=rs.length:=by omega
  have fh:rs.take hl.length=rs:=by rw[b9,D4]
  rw[fh] at hct aq;obtain⟨_,h0|⟨hb,rest,rfl,rfl,fp,kp,gt⟩⟩:=fd
  ·omega
  have gu:=sV bh hb ae o hl rest oM;unfold Cs Lt at gu;repeat(first|(refine sv ?_;intros)|refine gD ?_|refine cq hN ?_)
  refine cL gu ?_;rintro _ _ ⟨dc,rfl,rfl,gx,jb⟩;try dsimp only[AA,AB]
  have kq:cells[off+Int.toNat 0+2]? =Option.some (Z9 Z8 k):=by
   have h0:rs[0]? =Option.some rs[0]:=AG oM;have h1:=dl 0 _ h0;have h2:=(ak.ok _ (B6 (show 0<rs.length by omega))).1;have h3:((cells.drop (off+0*4)).take 4)[2]? =Option.some (Z9 Z8 (rs[0].1.width:Int)):=by rw[h1];rfl
   rw[List.getElem?_take_of_lt oM,BS] at h3;rw[←h2];simpa using h3
  have gy:=dp.permH gx;have eo:dc.length=rs.length:=by rw[gx.length_eq,b9]
  have gz:=Om bw bd ba bs W1 fb gb cs d5 k cnt f9 ga oM (by rw[au,el,cz,b9];omega);rw[au] at gz;repeat(first|(refine sv ?_;intros)|refine gD ?_|refine cq hN ?_)
  apply R.call
  ·exact rfl
  ·exact gz
  ·exact oA4
  ·exact rfl
  ·exact nle rfl
  rintro _ _ (⟨j5,bx,first,gw,a0,db,dw,W3,cx,cb,rfl,rfl,cg,aw,e3,e4,e5,e6,e7⟩|⟨fq,rfl,a0,db,dw,W3,rfl,cg,aw,e3,e4,e5⟩)
  ·dsimp only[AA,AB];repeat(first|(refine sv ?_;intros)|refine gD ?_|refine cq hN ?_)
   have c5:left rds=rs.flatMap (·.2):=by unfold left;rw[←aq,List.flatMap_map,List.flatMap];refine congrArg List.flatten (CM fun r hr=>?_);obtain⟨h1,h2⟩:=bq r hr;unfold Gh Rdr.src;rw[if_pos h1,h2];rfl
   refine G.loop (X:=tJ) (fun x=>Wc bd ba bs x.W x.cd x.ca x.cs∧Ev W x.W (rdA W.δ.size k x.rds+x.ps.length/Ad W.δ.size k) (Ac W.δ.size k cnt)∧Ap W.live W x.W∧Bm first (Ac W.δ.size k cnt) W.live x.W.live∧x.W.α.gs.Perm (gw::(Dz x.rds++W.α.gs))∧
     MSt bw x.W o x.rds x.hl∧Hv (ltH o) x.hl x.hl.length 0∧Em o once (rs.flatMap (·.2)) x.ps (left x.rds)∧Dh bw bx x.W first (Ac W.δ.size k cnt) k cnt gw x.ps x.cx x.cb∧Lr x.ps x.last x.sm∧
     x.rds.map Rdr.src=rs∧(∀r∈x.rds,r.pos≤r.f.count)∧x.ps.length+(left x.rds).length≤cnt∧ae*7≤x.hl.length*7+x.rest.length∧x.hl.length≤rs.length)
    (fun _=>[(14,pv bx),(6,pv bc),(4,pv b4),(0,pv bz)])
    (fun x=>[Ab bw bd ba bs,x.cd,x.ca,x.cs,x.cx,x.cb,[(bh,row [.slice (some ⟨hb,0,none⟩) x.hl.length ae,Z9 Z8 o.c0,Z9 Z8 o.c1,Z9 Z8 o.c2,Z9 Z8 o.c3,Z9 Z8 o.c4] 241)],[(hb,row (hcells x.hl++x.rest) 243)],
     [(b4,row [Z9 Z8 0,Z9 Z8 0,Z9 Z8 0,Z9 Z8 0] 42)],[(bc,row [pv bh] 238)],Co x.rds,[(vb,row cells 42)],[(bz,row [pv bw,Z9 Z8 o.c0,Z9 Z8 o.c1,Z9 Z8 o.c2,Z9 Z8 o.c3,Z9 Z8 o.c4,.bool once,.slice p n cap,Z9 Z8 x.last.c0,Z9 Z8 x.last.c1,Z9 Z8 x.last.c2,Z9 Z8 x.last.c3,Z9 Z8 x.last.c4,.bool x.sm] 200)]])
    (fun x=>(left x.rds).length) ⟨a0,db,dw,cx,cb,W3,rds,dc,[],last,false,rest⟩
    ⟨cg,?_,?_,?_,?_,?_,?_,?_,?_,?_,?_,?_,?_,?_,?_⟩ (body:=?_)
   ·exact(be.trans aw).weak (by dsimp only;simp) oM
   ·exact fun y _=>by show W3.δ.disk y=_;rw[e3,c8]
   ·dsimp only;rw[←c9];exact e6
   ·exact e4.trans (dm.cons _)
   ·exact gy.move aw.size
   ·exact jb
   ·dsimp only;rw[c5];exact Em.start (Go.Srt.Sp.refl _ _)
   ·exact e7
   ·rfl
   ·exact aq
   ·intro r hr;dsimp only at hr;have h1:r.src∈rs:=by rw[←aq];exact AN.2 ⟨r,hr,rfl⟩
    have h2:=(ak.ok _ h1).2.2.2;have h3:=(bq r hr).2;unfold Rdr.src at h2;dsimp only at h2;omega
   ·dsimp only;rw[c5,hct,AO,BU,List.length_flatMap];refine Nat.le_of_eq (congrArg List.sum (CM fun r hr=>(ak.ok r hr).2.1.len))
   ·dsimp only;rw[Nn] at fp;rw[eo,←b9];exact fp
   ·dsimp only;omega
   rintro⟨g0,b1,g1,g2,g3,W4,a8,bg,ac,ab,dx,ad⟩ ⟨ci,ai,dy,a6,b2,ax,d6,dd,fr,ep,al,ah,bi,bk,c6⟩;dsimp only at ci ai dy a6 b2 ax d6 dd fr ep al ah bi bk c6⊢;have hN:=Vu bh hb ae o bg ad;unfold Cs at hN;have d7:Vec 243 7 (some ⟨hb,0,none⟩) bg.length ae (hcells bg) [(hb,row (hcells bg++ad) 243)]:=⟨by rw[Nn],.inr ⟨hb,ad,rfl,rfl,by rw[Nn];exact bk,oM,gt⟩⟩
   by_cases dz:0<bg.length
   ·obtain⟨x,tl,rfl⟩:∃x tl,bg=x::tl:=by
     cases bg with
     |nil=>simp at dz
     |cons x tl=>exact⟨x,tl,rfl⟩
    obtain⟨a1,a2,a3,a4⟩:=Qf (rest:=ad) dz;obtain⟨A,r,B,rfl,hA,ho,ft,ks,fu,b3,fv,fw⟩:=ax.top dz d6;have jc:at_ (x::tl) 0=x:=rfl
    rw[jc] at a4 hA ft fu b3 fv fw;obtain⟨xt,j6,kt⟩:=x;dsimp only at hA ft fu b3 fv fw;subst hA ft;unfold Hd.cells at a4;dsimp only at a4;have et:r.src∈rs:=by rw[←al];exact AN.2 ⟨r,by simp,rfl⟩
    obtain⟨bf,av,dr,ds⟩:=ak.ok _ et;have bu:=ak.live _ et;unfold Rdr.src at bf av dr ds bu;dsimp only at bf av dr ds bu;have i1:=av.len;have jd:=ah r oA19;have je:xt∈r.ts:=AY fu;have a9:=ai.size;have g4:=ai.acts;have g5:ac.length<cnt:=by have:=congrArg List.length (Tr A B r);rw[b3] at this;simp only[AH,AJ] at this;omega
    have jf:ac.length/Ad W.δ.size k≤ac.length:=CW _ _;have g6:rdA W.δ.size k (A++r::B)≤Cj W.δ.size k rs:=by rw[←al];exact Vz ah
    have d8:=gI bz bw bd ba bs W4 g0 b1 g1 ci bx first _ k cnt gw ac g2 g3 fr _ b2 W.live a6 g5 xt (by rw[←bf];exact av.fit _ je) oM o once p n cap ab dx ep
    unfold Fk Kx at d8;rw[a9] at d8;have fj:tv xt= .agg #[Z9 Z8 xt.c0,Z9 Z8 xt.c1,Z9 Z8 xt.c2,Z9 Z8 xt.c3,Z9 Z8 xt.c4]:=rfl;rw[fj] at d8;repeat(first|(refine sv ?_;intros)|refine gD ?_|refine cq hN ?_)
    refine cL d8 ?_;rintro _ _ ⟨ao,de,am,W5,b5,d0,aa,df,rfl,dg,aj,d1,⟨rfl,e8,e9,a7,cj,d9⟩|⟨rfl,e8,e9,a7,cj,d9⟩⟩;try dsimp only[AA,AB]
    ·have ay:=aj.size;have j7:=aj.acts;have g7:=Vq o once ac xt;have fx:=Em.merge (A:=A.map Gh) (B:=B.map Gh) (t:=xt) (r:=r.ts.drop r.pos) (by have:=dd;unfold left at this;rw[A0,AZ,b3] at this;exact this) fv fw (by rw[←b3];exact Zo (ax.sd r oA19));have j8:(Dy o once ac xt).length/Ad W.δ.size k≤(Dy o once ac xt).length:=CW _ _;have j9:ac.length/Ad W.δ.size k≤(Dy o once ac xt).length/Ad W.δ.size k:=B5 g7.1;have c7:=dy.trans d1;have g8:(Dy o once ac xt).length/Ad W.δ.size k≤Ac W.δ.size k cnt:=by unfold Ac;exact B5 oM
     have g9:r.pos<r.ts.length→rdA W.δ.size k A+(Ac W.δ.size k (r.pos+1)+rdA W.δ.size k B)≤Cj W.δ.size k rs:=fun dq=>by
      have h1:=Vz (s:=W.δ.size) (k:=k) (rds:=A++{r with pos:=r.pos+1}::B) (fun q hq=>by
       rcases AS.1 hq with hq|hq
       ·exact ah q (BN _ hq)
       ·rcases AM.1 hq with rfl|hq
        ·dsimp only;omega
        ·exact ah q (BK _ (AF _ hq)))
      rw[Ry] at h1;have h2:(A++{r with pos:=r.pos+1}::B).map Rdr.src=rs:=by rw[←al,A0,A0];rfl
      rw[h2] at h1;exact h1
     have d2:=ax.rd r oA19;unfold Ef at d2;rw[if_pos ho] at d2;have dh:W5.α.gs.Perm (r.g::gw::(Dz (A++B)++W.α.gs)):=by rw[e8];refine b2.trans ?_;refine(((gV A B r ho).append_right _).cons _).trans ?_;exact CS _ _ _
     have ha:Be W5.δ.disk W5.δ.size [r.f.ext] r.f r.ts:=by rw[ay,a9];exact av.keep fun y hy=>c7 y (by obtain⟨e,he,h2⟩:=hy;simp only[AW] at he;subst he;exact⟨_,bu,h2⟩)
     have hh:∀e∈[r.f.ext],e∈W5.live:=by
      intro e he;simp only[AW] at he;subst he;rw[a7];unfold Bm at a6;split at a6
      ·exact a6.mem_iff.2 bu
      ·exact a6.mem_iff.2 (AF _ bu)
     have hz:tv T5.zero= .agg #[Z9 Z8 T5.zero.c0,Z9 Z8 T5.zero.c1,Z9 Z8 T5.zero.c2,Z9 Z8 T5.zero.c3,Z9 Z8 T5.zero.c4]:=rfl;have fy:De bw r.bx W5 r.f r.ts r.g r.pos r.cx r.cb:=d2.move ay;repeat(first|(refine sv ?_;intros)|refine gD ?_|refine cq hN ?_)
     apply R1.open (gU A B r)
     ·(repeat(first|exact Ae.here|apply Ae.there))
     apply R1.open (c:=r.cx++r.cb) (c1:=r.cx) (c2:=r.cb) (.refl _)
     ·(repeat(first|exact Ae.here|apply Ae.there))
     by_cases eu:r.pos<r.ts.length
     ·have hj:r.ts[r.pos]? =Option.some r.ts[r.pos]:=AG eu;have du:=Qe bw bd ba bs W5 ao de am dg r.bx r.f r.ts [r.f.ext] ha hh r.g _ dh r.pos r.cx r.cb fy _ hj oM;have hs:tv r.ts[r.pos]= .agg #[Z9 Z8 (r.ts[r.pos]).c0,Z9 Z8 (r.ts[r.pos]).c1,Z9 Z8 (r.ts[r.pos]).c2,Z9 Z8 (r.ts[r.pos]).c3,Z9 Z8 (r.ts[r.pos]).c4]:=rfl;rw[hs,hz] at du;generalize ku:r.ts[r.pos]=yt at*;refine cL du ?_;rintro _ _ ⟨hu,hv,W6,di,dj,rfl,hw,ea,eb,kv,ew,⟨rfl,jg,jh⟩|⟨rfl,kw,kx,ji,jj⟩⟩;try dsimp only[AA,AB]
      ·have jk:Bq (hcells (⟨xt,A.length,r.bx⟩::tl)++ad) 0 [Z9 Z8 yt.c0,Z9 Z8 yt.c1,Z9 Z8 yt.c2,Z9 Z8 yt.c3,Z9 Z8 yt.c4]=hcells (⟨yt,A.length,r.bx⟩::tl)++ad:=by simp[hcells,Hd.cells,Bq]
       have jl:5≤(hcells (⟨xt,A.length,r.bx⟩::tl)++ad).length:=by rw[AH,Nn,AJ];omega
       have h4:=Fix_ct bh hb ae o (⟨yt,A.length,r.bx⟩::tl) ad (by rw[AJ] at c6⊢;omega) (heap_set d6);unfold Cs Lt at h4;repeat(first|(refine sv ?_;intros)|refine gD ?_|refine cq hN ?_)
       refine cL h4 ?_;rintro _ _ ⟨f0,rfl,rfl,ec,f1⟩;try dsimp only[AA,AB]
       repeat(first|(refine sv ?_;intros)|refine gD ?_|refine cq hN ?_)
       apply Dn.join (c1:=di) (c2:=dj)
       ·(repeat(first|exact Ae.here|apply Ae.there))
       ·(repeat(first|exact Ae.here|apply Ae.there))
       obtain⟨r6,an⟩:∃r6:Rdr,r6={r with pos:=r.pos+1,cx:=di,cb:=dj}:=⟨_,rfl⟩
       apply Dn.joinP (c:=Co (A++r6::B)) (c1:=di++dj) (c2:=Co (A++B)) (Zp A B (by rw[an]) (by rw[an]))
       ·(repeat(first|exact Ae.here|apply Ae.there))
       ·(repeat(first|exact Ae.here|apply Ae.there))
       have b6:=ea.size;have ee:r6.opn=true:=by rw[an];exact ho
       have ef:r6.pos=r.pos+1:=by rw[an]
       have eg:r6.ts=r.ts:=by rw[an]
       have h9:r6.f=r.f:=by rw[an]
       have jm:r6.bx=r.bx:=by rw[an]
       have jn:r6.g=r.g:=by rw[an]
       have ie:Ef bw W6 r6:=by unfold Ef;rw[if_pos ee,an];exact jh
       have d3:Gh r6=r.ts.drop r.pos:=by unfold Gh;rw[if_pos ee,ef,eg,DQ]
       have ig:=ec.length_eq;rw[AJ] at ig c6 bk;have f2:(left (A++r6::B)).length+1=(left (A++r::B)).length:=by rw[Tr,Tr,d3,b3];simp only[AH,AJ];omega
       refine Dn.round ⟨hu,hv,am,b5,d0,W6,A++r6::B,f0,Dy o once ac xt,aa,df,ad⟩ ⟨hw,?_,c7.trans fun y _=>by rw[eb],by rw[ew,a7];exact a6,?_,?_,f1,?_,cj.move b6 fun y _ _=>by rw[eb],d9,?_,?_,?_,?_,?_⟩ oD
       ·have h7:=(ai.trans aj).trans ea;rw[ay,a9,bf] at h7;refine h7.weak ?_ (AI _);dsimp only;rw[Ry,Ry,ef];have:=Da (s:=W.δ.size) (k:=k) (show r.pos≤r.pos+1 by omega);omega
       ·dsimp only;rw[jg];refine dh.trans ((CS _ _ _).trans (List.Perm.cons _ ?_));have:=(gV A B r6 ee).symm.append_right W.α.gs;rw[jn] at this;exact this
       ·exact(ax.step rfl (by rw[b6,ay]) ie jm rfl eg ee oM (by rw[eg,ef,DQ];exact hj)).permH ec
       ·dsimp only;unfold left;rw[A0,AZ,d3];exact fx
       ·dsimp only;rw[←al,A0,A0,AZ,AZ];unfold Rdr.src;rw[eg,h9]
       ·intro q hq;dsimp only at hq;rcases AS.1 hq with hq|hq
        ·exact ah q (BN _ hq)
        ·rcases AM.1 hq with rfl|hq
         ·rw[ef,h9];omega
         ·exact ah q (BK _ (AF _ hq))
       ·dsimp only;omega
       ·dsimp only;omega
       ·dsimp only;omega
      ·obtain⟨rc,ag⟩:∃rc:Rdr,rc={r with opn:=false,cx:=di,cb:=dj}:=⟨_,rfl⟩
       have bp:rc.opn=false:=by rw[ag]
       have b7:Ef bw W6 rc:=by unfold Ef;rw[if_neg (by rw[bp];simp),ag];exact jj
       apply R.join (c1:=di) (c2:=dj)
       ·(repeat(first|exact Ae.here|apply Ae.there))
       ·(repeat(first|exact Ae.here|apply Ae.there))
       apply R.joinP (c:=Co (A++rc::B)) (c1:=di++dj) (c2:=Co (A++B)) (Zp A B (by rw[ag]) (by rw[ag]))
       ·(repeat(first|exact Ae.here|apply Ae.there))
       ·(repeat(first|exact Ae.here|apply Ae.there))
       have b6:=ea.size;have jp:Dh bw bx W6 first (Ac W.δ.size k cnt) k cnt gw (Dy o once ac xt) b5 d0:=cj.move b6 fun y _ _=>by rw[eb]
       have jq:=Za bw bd ba bs W6 hu hv am hw bx first _ k cnt gw _ b5 d0 jp _ ji W.live (by rw[ew,a7];exact a6)
       repeat(first|(refine sv ?_;intros)|refine gD ?_|refine cq hN ?_)
       refine Go.SL.Lv.call (hc:=jq.2) (h:=?_);rintro _ _ ⟨f3,f4,f5,W7,eh,ky,rfl,rfl,f6,ei,jr,f7,js,ih⟩;try dsimp only[AA,AB]
       have cm:=b8 W7 f3 f4 f5 f6 _ _ ae _ d7 oM (A++rc::B) W.α.gs (f7.trans ((gW A B rc bp).symm.append_right _)) ((ax.cst.move (W':=W5) ay).one (by rw[ei.size,b6]) (by unfold Ef at b7⊢;rw[if_neg (by rw[bp];simp)] at b7⊢;exact b7) (by rw[ag]) bp);refine Go.SL.Lv.call (hc:=cm.2) (h:=?_);rintro _ _ ⟨az,α8,f8,rfl,rfl,cu,cv,cw⟩;try dsimp only[AA,AB]
       (refine lN [[(bz,row [pv bw,Z9 Z8 o.c0,Z9 Z8 o.c1,Z9 Z8 o.c2,Z9 Z8 o.c3,Z9 Z8 o.c4,.bool once,.slice p n cap,Z9 Z8 aa.c0,Z9 Z8 aa.c1,Z9 Z8 aa.c2,Z9 Z8 aa.c3,Z9 Z8 aa.c4,.bool df] 200)],Ab bw bd ba bs,f3,az,f5,[(vb,row cells 42)]] ?_;refine⟨f3,az,f5,_,aa,df,rfl,cu,?_,?_,cw,.inr (.inr ⟨rfl,?_,js⟩)⟩)
       ·have h7:=(((ai.trans aj).trans ea).trans ei).trans cv;rw[ay,a9,bf] at h7;rw[←hct];refine h7.weak ?_ (AI _);have h8:=g9 eu;rw[Ry];have:=Da (s:=W.δ.size) (k:=k) (show r.pos≤r.pos+1 by omega);omega
       ·exact fun y hy=>by show W7.δ.disk y=_;rw[jr];rw[eb];exact c7 y hy
       ·intro e;have:=(ai.trans aj).fault e;omega
     ·have jt:r.pos=r.f.count:=oM;have ii:=Rq bw r.bx W5 r.f r.ts r.g r.cx r.cb (by rw[←jt];exact fy);rw[hz] at ii;refine cL ii ?_;rintro _ _ ⟨rfl,rfl⟩;try dsimp only[AA,AB]
      have ij:=sX bh hb ae o (⟨xt,A.length,r.bx⟩::tl) ad oM oM dz d6;unfold Cs Lt at ij;have fk:=Vh bw bd ba bs W5 ao de am dg r.bx r.f r.ts r.g _ dh r.pos r.cx r.cb fy;repeat(first|(refine sv ?_;intros)|refine gD ?_|refine cq hN ?_)
      refine cL ij ?_;rintro _ _ ⟨f0,y6,rfl,ju,rfl,ec,ik,f1⟩;try dsimp only[AA,AB]
      have jv:y6=⟨xt,A.length,r.bx⟩:=ju;subst jv;repeat(first|(refine sv ?_;intros)|refine gD ?_|refine cq hN ?_)
      refine cL fk ?_;rintro _ _ ⟨f4,α7,eh,rfl,rfl,f6,ei,f7,ih⟩;try dsimp only[AA,AB]
      repeat(first|(refine sv ?_;intros)|refine gD ?_|refine cq hN ?_)
      obtain⟨rc,ag⟩:∃rc:Rdr,rc={r with opn:=false,cx:=eh}:=⟨_,rfl⟩
      have bp:rc.opn=false:=by rw[ag]
      have ey:rc.ts=r.ts:=by rw[ag]
      have ez:rc.f=r.f:=by rw[ag]
      have e0:rc.pos=r.pos:=by rw[ag]
      have il:rc.bx=r.bx:=by rw[ag]
      have b7:Ef bw {W5 with α:=α7} rc:=by unfold Ef;rw[if_neg (by rw[bp];simp),ag];exact ih
      apply Dn.join (c1:=eh) (c2:=r.cb)
      ·(repeat(first|exact Ae.here|apply Ae.there))
      ·(repeat(first|exact Ae.here|apply Ae.there))
      apply Dn.joinP (c:=Co (A++rc::B)) (c1:=eh++r.cb) (c2:=Co (A++B)) (Zp A B (by rw[ag]) (by rw[ag]))
      ·(repeat(first|exact Ae.here|apply Ae.there))
      ·(repeat(first|exact Ae.here|apply Ae.there))
      have d4:Gh rc=[]:=by unfold Gh;rw[bp];rfl
      have jw:r.ts.drop r.pos=[]:=List.drop_of_length_le oM;rw[jw] at fx b3;have f2:(left (A++rc::B)).length+1=(left (A++r::B)).length:=by rw[Tr,Tr,d4,b3];simp only[AH,AJ,AO];omega
      rw[AJ] at ik c6 bk;have im:=(ai.trans aj).trans ei;refine Dn.round ⟨ao,f4,am,b5,d0,{W5 with α:=α7},A++rc::B,f0,Dy o once ac xt,aa,df,Hd.cells ⟨xt,A.length,r.bx⟩++ad⟩ ⟨f6,?_,c7,by dsimp only;rw[a7];exact a6,?_,?_,f1,?_,cj.move rfl fun _ _ _=>rfl,d9,?_,?_,?_,?_,?_⟩ oD
      ·refine im.weak ?_ (AI _);dsimp only;rw[Ry,Ry,e0];omega
      ·dsimp only;exact f7.trans (((gW A B rc bp).symm.append_right _).cons _)
      ·refine(MSt.close (W':={W5 with α:=α7}) (ax.permH ec) rfl ay b7 il ey bp)
      ·dsimp only;unfold left;rw[A0,AZ,d4];exact fx
      ·dsimp only;rw[←al,A0,A0,AZ,AZ];unfold Rdr.src;rw[ey,ez]
      ·intro q hq;dsimp only at hq;rcases AS.1 hq with hq|hq
       ·exact ah q (BN _ hq)
       ·rcases AM.1 hq with rfl|hq
        ·rw[e0,ez];omega
        ·exact ah q (BK _ (AF _ hq))
      ·dsimp only;omega
      ·dsimp only;rw[AH,show(Hd.cells ⟨xt,A.length,r.bx⟩).length=7 from rfl];omega
      ·dsimp only;omega
    ·repeat(first|(refine sv ?_;intros)|refine gD ?_|refine cq hN ?_)
     refine Go.SL.Lv.call (hc:=(Oj bx b5 d9).2) (h:=?_);rintro _ _ ⟨rfl,rfl⟩;try dsimp only[AA,AB]
     have cm:=b8 W5 ao de am dg _ _ ae _ d7 oM (A++r::B) W.α.gs a7 (ax.cst.move aj.size);refine Go.SL.Lv.call (hc:=cm.2) (h:=?_);rintro _ _ ⟨az,α8,f8,rfl,rfl,cu,cv,cw⟩;try dsimp only[AA,AB]
     (refine lN [[(bz,row [pv bw,Z9 Z8 o.c0,Z9 Z8 o.c1,Z9 Z8 o.c2,Z9 Z8 o.c3,Z9 Z8 o.c4,.bool once,.slice p n cap,Z9 Z8 aa.c0,Z9 Z8 aa.c1,Z9 Z8 aa.c2,Z9 Z8 aa.c3,Z9 Z8 aa.c4,.bool df] 200)],Ab bw bd ba bs,ao,az,am,[(vb,row cells 42)]] ?_;refine⟨ao,az,am,_,aa,df,rfl,cu,?_,?_,cw,.inr (.inr ⟨rfl,?_,cj⟩)⟩)
     ·have h7:=(ai.trans aj).trans cv;rw[←hct];refine h7.weak ?_ (AI _);have g7:=Vq o once ac xt;have g8:(Dy o once ac xt).length/Ad W.δ.size k≤Ac W.δ.size k cnt:=by unfold Ac;exact B5 oM
      have k0:ac.length/Ad W.δ.size k≤Ac W.δ.size k cnt:=by unfold Ac;exact B5 oM
      omega
     ·exact dy.trans d1
     ·intro e;have:=ai.fault e;omega
   ·have jx:bg=[]:=by
     cases bg with
     |nil=>rfl
     |cons x tl=>simp at dz
    subst jx;have fa:∀r∈a8,r.opn=false:=by
     intro r hr;cases ho:r.opn with
     |false=>rfl
     |true=>
      obtain⟨x,hx,_⟩:=ax.cst.rl r hr ho;simp at hx
    have ej:left a8=[]:=by unfold left;rw[List.flatten_eq_nil_iff];intro l hl;obtain⟨r,hr,rfl⟩:=AN.1 hl;unfold Gh;rw[fa r hr];rfl
    have ka:Dz a8=[]:=by unfold Dz;rw[DR.2 (fun r hr=>by rw[fa r hr];simp)];rfl
    rw[ej] at dd bi;rw[AO,Nat.add_zero] at bi;have a9:=ai.size;have g4:=ai.acts;have jf:ac.length/Ad W.δ.size k≤ac.length:=CW _ _;have g6:rdA W.δ.size k a8≤Cj W.δ.size k rs:=by rw[←al];exact Vz ah
    have io:=Rp bw bd ba bs W4 g0 b1 g1 ci bx first _ k cnt gw ac g2 g3 fr _ b2 W.live a6 oM
    rw[a9] at io;have k2:Ac W.δ.size k ac.length≤Ac W.δ.size k cnt:=Da bi;have k3:ac.length/Ad W.δ.size k≤Ac W.δ.size k ac.length:=by unfold Ac;exact B5 oM
    repeat(first|(refine sv ?_;intros)|refine gD ?_|refine cq hN ?_)
    refine cL io ?_;rintro _ _ ⟨ao,de,am,W5,b5,d0,rfl,dg,aj,d1,dh,ip,⟨f,rfl,e8,e9,a7,cj⟩|⟨rfl,e8,e9,a7⟩⟩;try dsimp only[AA,AB]
    ·have dt:flv f= .agg #[Z9 Z8 f.first,Z9 Z8 f.blocks,Z9 Z8 f.width,Z9 Z8 f.count]:=rfl;rw[dt];repeat(first|(refine sv ?_;intros)|refine gD ?_|refine cq hN ?_)
     refine Go.SL.Lv.call (hc:=(Oj bx b5 ip).2) (h:=?_);rintro _ _ ⟨rfl,rfl⟩;try dsimp only[AA,AB]
     have cm:=b8 W5 ao de am dg _ _ ae _ d7 oM a8 W.α.gs dh (ax.cst.move aj.size);refine Go.SL.Lv.call (hc:=cm.2) (h:=?_);rintro _ _ ⟨az,α8,f8,rfl,rfl,cu,cv,cw⟩;try dsimp only[AA,AB]
     (refine lN [[(bz,row [pv bw,Z9 Z8 o.c0,Z9 Z8 o.c1,Z9 Z8 o.c2,Z9 Z8 o.c3,Z9 Z8 o.c4,.bool once,.slice p n cap,Z9 Z8 ab.c0,Z9 Z8 ab.c1,Z9 Z8 ab.c2,Z9 Z8 ab.c3,Z9 Z8 ab.c4,.bool dx] 200)],Ab bw bd ba bs,ao,az,am,[(vb,row cells 42)]] ?_;refine⟨ao,az,am,_,ab,dx,rfl,cu,?_,?_,cw,.inl ⟨f,ac,rfl,?_,e9,?_,oM,cj,?_,?_⟩⟩)
     ·rw[←hct];exact((ai.trans aj).trans cv).weak oM (AI _)
     ·exact dy.trans d1
     ·show W5.live.Perm _;rw[e8];exact .refl _
     ·rw[a7];cases hps:ac with
      |cons a b=>simp
      |nil=>
       exfalso;have h1:=Zh dd.fin.2 hps;have h0:rs[0]∈rs:=B6 oM;obtain⟨_,av,_,ds⟩:=ak.ok _ h0;have:=av.len;rw[List.flatMap_eq_nil_iff] at h1;have h3:=h1 _ h0;rw[h3] at this;simp at this;omega
     ·exact dd.fin.1
     ·exact dd.fin.2
    ·repeat(first|(refine sv ?_;intros)|refine gD ?_|refine cq hN ?_)
     refine Go.SL.Lv.call (hc:=(Oj bx b5 ip).2) (h:=?_);rintro _ _ ⟨rfl,rfl⟩;try dsimp only[AA,AB]
     have cm:=b8 W5 ao de am dg _ _ ae _ d7 oM a8 W.α.gs dh (ax.cst.move aj.size);refine Go.SL.Lv.call (hc:=cm.2) (h:=?_);rintro _ _ ⟨az,α8,f8,rfl,rfl,cu,cv,cw⟩;try dsimp only[AA,AB]
     (refine lN [[(bz,row [pv bw,Z9 Z8 o.c0,Z9 Z8 o.c1,Z9 Z8 o.c2,Z9 Z8 o.c3,Z9 Z8 o.c4,.bool once,.slice p n cap,Z9 Z8 ab.c0,Z9 Z8 ab.c1,Z9 Z8 ab.c2,Z9 Z8 ab.c3,Z9 Z8 ab.c4,.bool dx] 200)],Ab bw bd ba bs,ao,az,am,[(vb,row cells 42)]] ?_;refine⟨ao,az,am,_,ab,dx,rfl,cu,?_,?_,cw,.inr (.inr ⟨rfl,?_,a7⟩)⟩)
     ·rw[←hct];exact((ai.trans aj).trans cv).weak oM (AI _)
     ·exact dy.trans d1
     ·intro e;have:=ai.fault e;omega
  ·dsimp only[AA,AB];repeat(first|(refine sv ?_;intros)|refine gD ?_|refine cq hN ?_)
   have jy:Vec 243 7 (some ⟨hb,0,none⟩) dc.length ae (hcells dc) [(hb,row (hcells dc++rest) 243)]:=⟨by rw[Nn],.inr ⟨hb,rest,rfl,rfl,by rw[Nn,eo,←b9,←Nn];exact fp,oM,gt⟩⟩
   have fm:=b8 W3 a0 db dw cg dc _ ae _ jy oM rds W.α.gs (e5.trans dm) (gy.cst.move aw.size);refine Go.SL.Lv.call (hc:=fm.2) (h:=?_);rintro _ _ ⟨b1,α4,ja,rfl,rfl,ci,aj,b2⟩;try dsimp only[AA,AB]
   (refine lN [[(bz,row [pv bw,Z9 Z8 o.c0,Z9 Z8 o.c1,Z9 Z8 o.c2,Z9 Z8 o.c3,Z9 Z8 o.c4,.bool once,.slice p n cap,Z9 Z8 last.c0,Z9 Z8 last.c1,Z9 Z8 last.c2,Z9 Z8 last.c3,Z9 Z8 last.c4,.bool sm] 200)],Ab bw bd ba bs,a0,b1,dw,[(vb,row cells 42)]] ?_;refine⟨a0,b1,dw,_,last,sm,rfl,ci,?_,?_,b2,.inr (.inl ⟨rfl,?_,?_⟩)⟩)
   ·exact((be.trans aw).trans aj).weak oM (AU _)
   ·exact fun x _=>by show W3.δ.disk x=_;rw[e3,c8]
   ·rw[←hct,←fc];exact fq
   ·show W3.live.Perm W.live;rw[e4,c9]
end Go.Proofs.YtaofijjjheiknaaGreat
