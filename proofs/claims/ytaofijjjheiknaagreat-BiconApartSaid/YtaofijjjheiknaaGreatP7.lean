/-
  Parts of the proof, put together (7). No condition.
-/
import Derived.Test.YtaofijjjheiknaaGreatP6
set_option linter.unusedVariables false
set_option linter.unusedSimpArgs false
set_option linter.unnecessarySimpa false
set_option maxHeartbeats 4000000
open Go.IntKind renaming wrap→AL
open Go.Proofs.Tryz renaming prog→AC
open List renaming cons_append→AA,nil_append→AB,mem_cons_self→AE,mem_cons_of_mem→AF,getElem?_eq_getElem→AG,length_append→AH,length_cons→AJ,getElem?_eq_some_iff→AK,getD_eq_getElem?_getD→AM,mem_cons→AN,mem_map→AO,append_nil→AP,mem_append→AR,length_nil→AS,append_assoc→AV,mem_singleton→AX,map_append→AY,map_cons→AZ,mem_of_getElem?→A0,getElem?_append_right→BE,getElem?_append_left→BK,drop_eq_getElem_cons→BM,mem_append_right→BN,mem_append_left→BO,take_add_one→BP,length_take→BQ,take_append_drop→BT,getElem?_drop→BU,perm_middle→B3,getElem_mem→B7,nodup_append→CC,nodup_cons→CF,map_nil→CL,map_congr_left→CN,singleton_append→CO,length_singleton→CQ,sum_append→CY,getElem_of_mem→DC,sum_cons→DV,take_length→EJ,filter_eq_nil_iff→EP
open List.Pairwise renaming nil→DJ
open List.Perm renaming swap→CT
open Nat renaming reduceAdd→AD,le_refl→AI,zero_le→AT,succ_mul→BJ,zero_add→BR,div_le_div_right→B8,add_sub_cancel→CG,div_le_self→CZ
open Go.Proofs.Tryz
open Go.Value renaming int→Z9
open Go.IntKind renaming i64→Z8
namespace Go.Proofs.YtaofijjjheiknaaGreat
open Go.SL Go.Spc Go.Tup
structure EachR (K:Type) where
 k:K
 ps:List T5
 cx:Aa
 cb:Aa
 op:Bool
def Dh (W:Wk) (x:Fl×List T5):Prop:=∃Lv,Bg W.δ.disk W.δ.size Lv x.1 x.2∧∀e∈Lv,e∈W.live
theorem Bn.mem {first nb:Nat} {Lv live:List Ext} (h:Bn first nb Lv live) {e:Ext} (he:e∈Lv):e∈live:=by
 unfold Bn at h;split at h
 ·exact h.mem_iff.2 he
 ·exact h.mem_iff.2 (AF _ he)
def Mg {K:Type} (M:Am K) (W0:Wk) (k0:K) (ps0 ts:List T5) (bw bx first width bound size κ:Nat) (g:Gr) (Lv:List Ext) (cc:Hp):Seer (EachR K) where
 own r:=if r.op then[g] else[]
 C r:=(r.cx::r.cb::(cc++[(M.C r.k).flatten])).flatten
 J W r i:=r.op=true∧Dr bw bx W first (Ac size width bound) width bound g r.ps r.cx r.cb∧Bn first (Ac size width bound) Lv W.live∧Ax Lv W0 W∧(W0.δ.fault= -1→W.δ.fault= -1)∧
  r.k=M.st k0 (ts.take i)∧r.ps=ps0++M.all k0 (ts.take i)∧M.bad k0 (ts.take i)=none
 B W r e:=Ax Lv W0 W∧((r.op=true∧Bn first (Ac size width bound) Lv W.live∧∃ps,Dr bw bx W first (Ac size width bound) width bound g ps r.cx r.cb)∨(r.op=false∧Mc bx r.cx∧W.live.Perm Lv))∧
  ((e=6∧W0.δ.fault≠-1)∨∃n:Nat,M.bad k0 ts=some n∧n≠0∧e=(n:Int))
 κ:=κ
theorem sW {K:Type} (M:Am K) (W0:Wk) (k0:K) (aa ts:List T5) (bw bx first width bound size κ:Nat) (g:Gr) (Lv:List Ext) (cc:Hp):(Mg M W0 k0 aa ts bw bx first width bound size κ g Lv cc).Ok where
 stay:=by rintro W W' r i ⟨h0,h1,h2,h3,h4,h5⟩ hs hd _ hl hf;exact⟨h0,h1.move hs (fun x _ _=>by rw[hd]),by rw[hl];exact h2,fun x hx=>by rw[hd];exact h3 x hx,fun e=>hf (h4 e),h5⟩
 flt:=by
  rintro W W' r i ⟨h0,h1,h2,h3,h4,h5⟩ hf hd _ hl;have e1:W'.δ.disk=W.δ.disk:=by rw[hd];rfl
  exact⟨fun x hx=>by rw[e1];exact h3 x hx,.inl ⟨h0,by rw[hl];exact h2,r.ps,h1.move (by rw[hd];rfl) (fun x _ _=>by rw[e1])⟩,.inl ⟨rfl,fun e=>by have:=h4 e;omega⟩⟩
 stayB:=by
  rintro W α r e ⟨h1,h2,h3⟩;refine⟨h1,?_,h3⟩;rcases h2 with⟨a,b,ps,c⟩|⟨a,b,c⟩
  ·exact .inl ⟨a,b,ps,c.move rfl (fun _ _ _=>rfl)⟩
  ·exact .inr ⟨a,b,c⟩
theorem Wh (A B D:Hp) (m:Aa):(A++[(D++(B++[m])).flatten]).flatten.Perm ((B++[(A++D).flatten,m]).flatten):=by
 classical
 refine List.perm_iff_count.2 fun z=>?_;simp only[List.flatten_append,List.flatten_cons,List.flatten_nil,AP,List.count_append];omega
theorem putter (bw bd ba bs bx first width bound:Nat) (g:Gr) (aa:List Gr) (Lv:List Ext) (W:Wk) (n0 nn:Nat) (hs:1≤Ad W.δ.size width) (hn:n0+nn≤bound) (am:W.δ.acts+nn≤1000000000000):Vx bx width (fun ps X=>∃cd ca cs cx cb W1,X=[Ab bw bd ba bs,cd,ca,cs,cx,cb].flatten∧Wc bd ba bs W1 cd ca cs∧W1.α.gs.Perm (g::aa)∧Dr bw bx W1 first (Ac W.δ.size width bound) width bound g ps cx cb∧Bn first (Ac W.δ.size width bound) Lv W1.live∧Ax Lv W W1∧n0≤ps.length∧ps.length≤n0+nn∧Ev W W1 (ps.length-n0) 0) (fun X=>∃cd ca cs cx cb W1,X=[Ab bw bd ba bs,cd,ca,cs,cx,cb].flatten∧Wc bd ba bs W1 cd ca cs∧W1.α.gs.Perm aa∧W1.live.Perm Lv∧Mc bx cx∧Ax Lv W W1∧Ev W W1 nn 0∧W.δ.fault≠-1) (n0+nn):=by
 rintro ps X t ⟨cd,ca,cs,cx,cb,W1,rfl,hW,hg,hw,hl,hK,h1,h2,hE⟩ ht an;have ak:=hE.acts.2;have hP:=Vu bw bd ba bs W1 cd ca cs hW bx first _ width bound g ps cx cb hw aa hg Lv hl oM t ht oM
 refine Ct.convP hP oA19 ?_;rintro v H' ⟨ab,ac,ad,W',ae,ag,rfl,ah,al,ai,hc⟩;have aj:Ev W1 W' 1 0:=al.weak (by
  have h2:(ps.length+1)/Ad W1.δ.size width≤ps.length/Ad W1.δ.size width+1:=by
   rw[hE.size]
   calc (ps.length+1)/Ad W.δ.size width≤(ps.length+Ad W.δ.size width)/Ad W.δ.size width:=B8 oM
    _=ps.length/Ad W.δ.size width+1:=Nat.add_div_right _ oM
  omega) (AI _)
 refine⟨[[Ab bw bd ba bs,ab,ac,ad,ae,ag].flatten],⟨_,rfl,?_⟩,by simp⟩;rcases hc with⟨rfl,e1,e2,e3,e4⟩|⟨rfl,e1,e2,e3,e4,e5⟩
 ·exact .inl ⟨rfl,ab,ac,ad,ae,ag,W',rfl,ah,by rw[e1];exact hg,e4,by rw[e3];exact hl,hK.trans ai,by simp;omega,by simp;omega,(hE.trans aj).weak oA16 (AI _)⟩
 ·refine .inr ⟨rfl,ab,ac,ad,ae,ag,W',rfl,ah,e3,e4,e5,hK.trans ai,(hE.trans aj).weak oM (AI _),fun hf=>?_⟩;have:=hE.fault hf;omega
theorem sX {K:Type} (M:Am K) (W0:Wk) (k0:K) (aw ts:List T5) (bw bd ba bs bx bm ag first width bound size room κ:Nat) (g:Gr) (Lv:List Ext) (f:Fl) (mk:Nat) (av:Callable AC mk) (fs us:List Value) (ok:K→T5→Prop) (hM:Bx M width ok mk fs us) (hκ:∀k t,ok k t→(M.outs k t).length≤κ) (a2:M.oks ok k0 ts) (a8:aw.length+(M.all k0 ts).length≤bound) (hh:1≤Ad size width) (a9:κ≤1000000000):SeeCt bw bd ba bs (Mg M W0 k0 aw ts bw bx first width bound size κ g Lv (Oy bm ag mk fs us bx)) size room f ts 171 [] [pv bm,pv ag]:=by
 rintro ax W cd ca cs r i t hW hg bc ay ⟨a3,a4,hl,hK,ao,hk,az,ai⟩ ht be;have aq:ok r.k t:=by rw[hk];exact Am.oks_at a2 ai ht
 have a0:r.ps.length+(M.outs r.k t).length≤bound:=by have h1:=Am.all_le (M:=M) (ts:=ts) (k:=k0) (i+1);rw[Am.take_succ ht,Am.all_app,AH,←hk] at h1;simp only[Am.all,AP] at h1;rw[az,AH];omega
 have a5:=hκ r.k t aq;simp only[Mg,a3,if_true,CO] at hg;have hP:=putter bw bd ba bs bx first width bound g ax Lv W r.ps.length (M.outs r.k t).length (by rw[ay];exact hh) a0 oM
 rw[ay] at hP;have hC:=rI M width ok mk av fs us hM bm ag bx _ _ _ hP r.ps ([Ab bw bd ba bs,cd,ca,cs,r.cx,r.cb].flatten) r.k t
  ⟨cd,ca,cs,r.cx,r.cb,W,rfl,hW,hg,a4,hl,Ax.refl _ _,AI _,oM,by simpa using Ev.refl W⟩ aq (AI _)
 refine Ct.convP hC ?_ ?_
 ·exact Wh [Ab bw bd ba bs,cd,ca,cs] (Oy bm ag mk fs us bx) [r.cx,r.cb] _
 rintro v H' ⟨X',k',rfl,hc⟩;rcases hc with⟨rfl,aj,rfl,aa,ab,ac,ad,ae,W',rfl,ak,al,au,am,an,h1,h2,ah⟩|⟨rfl,aa,ab,ac,ad,ae,W',rfl,ak,al,am,a6,an,ah,a7⟩|⟨n,aj,hn,rfl,a1,aa,ab,ac,ad,ae,W',rfl,ak,al,au,am,an,h1,h2,ah⟩
 ·refine⟨_,⟨aa,ab,ac,W',⟨_,r.ps++M.outs r.k t,ad,ae,true⟩,0,rfl,rfl,ak,ah.weak (by simp[Mg];omega) (AI _),al,fun _=>⟨rfl,au,am,hK.trans an,fun e=>ah.fault (ao e),?_,?_,?_⟩,fun h=>absurd rfl h⟩,(Wh [Ab bw bd ba bs,aa,ab,ac] (Oy bm ag mk fs us bx) [ad,ae] _).symm⟩
  ·rw[Am.take_succ ht,Am.st_app,←hk];rfl
  ·rw[Am.take_succ ht,Am.all_app,←hk,←AV,←az];simp[Am.all]
  ·rw[Am.take_succ ht,Am.bad_app,ai,←hk];simp[Am.bad,aj]
 ·refine⟨_,⟨aa,ab,ac,W',⟨k',[],ad,ae,false⟩,6,rfl,rfl,ak,ah.weak a5 (AI _),al,fun h=>by omega,fun _=>⟨hK.trans an,.inr ⟨rfl,a6,am⟩,.inl ⟨rfl,fun e=>a7 (ao e)⟩⟩⟩,(Wh [Ab bw bd ba bs,aa,ab,ac] (Oy bm ag mk fs us bx) [ad,ae] _).symm⟩
 ·refine⟨_,⟨aa,ab,ac,W',⟨k',a1,ad,ae,true⟩,n,rfl,rfl,ak,ah.weak (by simp[Mg];omega) (AI _),al,fun h=>by omega,fun _=>⟨hK.trans an,.inl ⟨rfl,am,a1,au⟩,.inr ⟨n,?_,hn,rfl⟩⟩⟩,(Wh [Ab bw bd ba bs,aa,ab,ac] (Oy bm ag mk fs us bx) [ad,ae] _).symm⟩;apply Am.bad_take (i:=i+1);rw[Am.take_succ ht,Am.bad_app,ai,←hk];simp[Am.bad,aj]
theorem sY (bw bd ba bs:Nat) {K:Type} (M:Am K) (k0:K) (ac:List T5) (W:Wk) (cd ca cs:Aa) (h:Wc bd ba bs W cd ca cs) (bx bm ab first width bound κ:Nat) (g:Gr) (aa:List Gr) (Lv:List Ext) (cx cb:Aa) (hg:W.α.gs.Perm (g::aa)) (hw:Dr bw bx W first (Ac W.δ.size width bound) width bound g ac cx cb) (hl:Bn first (Ac W.δ.size width bound) Lv W.live) (f:Fl) (ts:List T5) (LvF:List Ext) (ae:Bg W.δ.disk W.δ.size LvF f ts) (ag:∀e∈LvF,e∈Lv) (mk:Nat) (ah:Callable AC mk) (fs us:List Value) (ok:K→T5→Prop) (hM:Bx M width ok mk fs us) (hκ:∀k t,ok k t→(M.outs k t).length≤κ) (am:κ≤10000) (al:M.oks ok k0 ts) (ao:ac.length+(M.all k0 ts).length≤bound) (an:1≤width) (ai:width≤5) (hr:W.δ.size≤W.α.room-W.α.used) (aw:W.δ.acts≤10000000000) (aj:f.count≤1000000):Ct AC 91 [pv bw,flv f,.func (.func 171) #[] #[pv bm,pv ab]] [Ab bw bd ba bs,cd,ca,cs,cx,cb,[(bm,row [.func (.func mk) fs.toArray us.toArray] 91)],[(ab,row [pv bx] 122)],(M.C k0).flatten] fun v H'=> ∃cd' ca' cs' W' k' cx' cb' e,v=Z9 Z8 e∧H'=[Ab bw bd ba bs,cd',ca',cs',cx',cb',[(bm,row [.func (.func mk) fs.toArray us.toArray] 91)],[(ab,row [pv bx] 122)],(M.C k').flatten]∧Wc bd ba bs W' cd' ca' cs'∧Ev W W' (f.blocks+f.count*κ) 0∧Ax Lv W W'∧((e=0∧W'.α.gs.Perm (g::aa)∧Bn first (Ac W.δ.size width bound) Lv W'.live∧Dr bw bx W' first (Ac W.δ.size width bound) width bound g (ac++M.all k0 ts) cx' cb'∧k'=M.st k0 ts∧M.bad k0 ts=none)∨ (e≠0∧((W'.α.gs.Perm (g::aa)∧Bn first (Ac W.δ.size width bound) Lv W'.live∧∃ps,Dr bw bx W' first (Ac W.δ.size width bound) width bound g ps cx' cb')∨(W'.α.gs.Perm aa∧W'.live.Perm Lv∧Mc bx cx'))∧((e=6∧W.δ.fault≠-1)∨∃n:Nat,M.bad k0 ts=some n∧e=(n:Int)))):=by
 obtain⟨⟨ak,ax⟩,_⟩:=h.dev.num;have hh:=Bp ak an ai;have ay:=En (n:=f.count) (Bp ak ae.w1 ae.w2);have az:f.count*κ≤1000000*10000:=Nat.mul_le_mul aj am;have hO:=rH bw bd ba bs (Mg M W k0 ac ts bw bx first width bound W.δ.size κ g Lv (Oy bm ab mk fs us bx)) (sW M W k0 ac ts bw bx first width bound W.δ.size κ g Lv _) f ts LvF 171 inferInstance [] [pv bm,pv ab] W.δ.size W.α.room
  (sX M W k0 ac ts bw bd ba bs bx bm ab first width bound W.δ.size W.α.room κ g Lv f mk ah fs us ok hM hκ al ao hh oM) W cd ca cs h ⟨k0,ac,cx,cb,true⟩ aa hg rfl rfl
  ⟨rfl,hw,hl,Ax.refl _ _,id,by simp[Am.st],by simp[Am.all],by simp[Am.bad]⟩ (fun W' r i hJ=>⟨ae.keep (fun x ⟨e,he,h2⟩=>hJ.2.2.2.1 x ⟨e,ag e he,h2⟩),fun e he=>hJ.2.2.1.mem (ag e he)⟩) hr (by show _+_+_*κ≤_;omega) aj
 refine Ct.convP hO (by simp[Mg,Oy]) ?_;rintro v H' ⟨cd',ca',cs',W',r',e,rfl,rfl,aq,au,ad,hJ,hB⟩;refine⟨[Ab bw bd ba bs,cd',ca',cs',r'.cx,r'.cb,[(bm,row [.func (.func mk) fs.toArray us.toArray] 91)],[(ab,row [pv bx] 122)],(M.C r'.k).flatten],⟨cd',ca',cs',W',r'.k,r'.cx,r'.cb,e,rfl,rfl,aq,?_,?_⟩,by simp[Mg,Oy]⟩
 ·rw[ae.blk];exact au
 by_cases he:e=0
 ·obtain⟨h0,h1,h2,h3,_,h5,h6,h7⟩:=hJ he;have av:ts.take f.count=ts:=by rw[←ae.len,EJ]
  rw[av] at h5 h6 h7;simp only[Mg,h0,if_true,CO] at ad;exact⟨h3,.inl ⟨he,ad,h2,by rw[←h6];exact h1,h5,h7⟩⟩
 ·obtain⟨h1,h2,h3⟩:=hB he;refine⟨h1,.inr ⟨he,?_,?_⟩⟩
  ·rcases h2 with⟨a,b,c⟩|⟨a,b,c⟩
   ·simp only[Mg,a,if_true,CO] at ad;exact .inl ⟨ad,b,c⟩
   ·simp only[Mg,a,AB] at ad;exact .inr ⟨by simpa using ad,c,b⟩
  ·rcases h3 with h3|⟨n,a,_,b⟩
   ·exact .inl h3
   ·exact .inr ⟨n,a,b⟩
end Go.Proofs.YtaofijjjheiknaaGreat
namespace Go.Srt
variable {α:Type} {lt:α→α→Bool} [Inhabited α]
def Ic (lt:α→α→Bool) (l:List α) (n a:Nat):Prop:=∀c,0<c→c<n→a≤(c-1)/2→lt (at_ l c) (at_ l ((c-1)/2))=false
def Sj (lt:α→α→Bool) (l:List α) (n a i:Nat):Prop:=
 (∀c,0<c→c<n→a≤(c-1)/2→(c-1)/2≠i→lt (at_ l c) (at_ l ((c-1)/2))=false)∧
 (∀c,0<c→c<n→(c-1)/2=i→0<i→a≤(i-1)/2→lt (at_ l c) (at_ l ((i-1)/2))=false)
theorem sZ {l:List α} {n a:Nat} (h:Ic lt l n (a+1)):Sj lt l n a a:=
 ⟨fun c h1 h2 h3 h4=>h c h1 h2 oM,fun c h1 h2 h3 h4 h5=>by omega⟩
theorem tC {l:List α} {n a i:Nat} (h:Sj lt l n a i) (hi:n≤2*i+1):Ic lt l n a:=
 fun c h1 h2 h3=>h.1 c h1 h2 h3 oM
theorem Zw (hs:Swo lt) {l:List α} {n a i j:Nat} (h:Sj lt l n a i) (hm:∀c,0<c→c<n→(c-1)/2=i→lt (at_ l c) (at_ l j)=false) (hj:lt (at_ l j) (at_ l i)=false):Ic lt l n a:=by
 intro c h1 h2 h3;by_cases hp:(c-1)/2=i
 ·rw[hp];exact hs.ntrans _ _ _ (hm c h1 h2 hp) hj
 ·exact h.1 c h1 h2 h3 hp
theorem Zx (hs:Swo lt) {l:List α} {n a i j:Nat} (h:Sj lt l n a i) (ai:a≤i) (hn:n≤l.length) (ah:0<j) (ae:j<n) (ab:(j-1)/2=i) (hm:∀c,0<c→c<n→(c-1)/2=i→lt (at_ l c) (at_ l j)=false) (ag:lt (at_ l j) (at_ l i)=true):Sj lt (sw l i j) n a j:=by
 have aa:∀q,at_ (sw l i j) q=if q=j then at_ l i else if q=i then at_ l j else at_ l q:=fun q=>Jh l i j q oM oM
 obtain⟨g1,g2⟩:=h;refine⟨fun c h1 h2 h3 h4=>?_,fun c h1 h2 h3 h4 h5=>?_⟩
 ·rw[aa c,aa ((c-1)/2)];rw[if_neg h4];by_cases hp:(c-1)/2=i
  ·rw[if_pos hp];by_cases ad:c=j
   ·rw[if_pos ad];exact hs.asym _ _ ag
   ·rw[if_neg ad,if_neg oM];exact hm c h1 h2 hp
  ·rw[if_neg hp];rw[if_neg (by rintro rfl;exact hp ab)];by_cases ac:c=i
   ·rw[if_pos ac];subst ac;exact g2 j ah ae ab h1 h3
   ·rw[if_neg ac];exact g1 c h1 h2 h3 hp
 ·rw[aa c,aa ((j-1)/2),ab];rw[if_neg oM,if_neg oM,if_neg oM,if_pos rfl];have:=g1 c h1 h2 oM oM;rw[h3] at this;exact this
theorem tD (hs:Swo lt) {l:List α} {n:Nat} (h:Ic lt l n 0):∀c,c<n→lt (at_ l c) (at_ l 0)=false:=by
 intro c;induction c using Nat.strongRecOn with
 |_ c ih=>
  intro hc;by_cases h0:c=0
  ·subst h0;exact hs.irr _
  ·exact hs.ntrans _ _ _ (h c oM hc (Nat.zero_le _)) (ih _ oM oM)
theorem Wi {l:List α} {i j:Nat} (hi:i<l.length) (hj:j<l.length):(sw l i j).Perm l:=by unfold sw;rw[List.getD_eq_getElem?_getD,List.getD_eq_getElem?_getD,List.getElem?_eq_getElem hi,List.getElem?_eq_getElem hj];exact List.set_set_perm hi hj
end Go.Srt
namespace Go.Proofs.YtaofijjjheiknaaGreat
open Go.SL Go.Spc Go.Tup Go.Srt
structure Hd where
 t:T5
 run:Nat
 rd:Nat
instance:Inhabited Hd:=⟨⟨default,0,0⟩⟩
def Hd.cells (x:Hd):List Value:=[Z9 Z8 x.t.c0,Z9 Z8 x.t.c1,Z9 Z8 x.t.c2,Z9 Z8 x.t.c3,Z9 Z8 x.t.c4,Z9 Z8 x.run,pv x.rd]
def hcells (l:List Hd):List Value:=l.flatMap Hd.cells
theorem gT (a b:List Hd):hcells (a++b)=hcells a++hcells b:=by simp[hcells]
theorem Ns (l:List Hd):(hcells l).length=l.length*7:=by
 induction l with
 |nil=>rfl
 |cons x l ih=>simp only[hcells,List.flatMap_cons,AH,AJ] at ih⊢;rw[ih];simp[Hd.cells];omega
theorem gU:∀(l:List Hd) (rest:List Value) (i:Nat),i<l.length→∃more,(hcells l++rest).drop (i*7)=(at_ l i).cells++more
 |[],_,i,h=>by simp at h
 |x::l,rest,0,_=>⟨hcells l++rest,by simp[hcells,at_]⟩
 |x::l,rest,i+1,h=>by
  obtain⟨more,hm⟩:=gU l rest i oA15;refine⟨more,?_⟩;have e:(hcells (x::l)++rest)=x.cells++(hcells l++rest):=by simp[hcells]
  rw[e,show(i+1)*7=x.cells.length+i*7 by(have:x.cells.length=7:=rfl);omega,←List.drop_drop,List.drop_left,hm];rfl
def Cq (bh vb cap:Nat) (o:T5) (l:List Hd) (rest:List Value):Hp:=
 [[(bh,row ([.slice (some ⟨vb,0,none⟩) l.length cap,Z9 Z8 o.c0,Z9 Z8 o.c1,Z9 Z8 o.c2,Z9 Z8 o.c3,Z9 Z8 o.c4]) 241)],[(vb,row (hcells l++rest) 243)]]
def ltH (o:T5) (a b:Hd):Bool:=decide (Da o a.t b.t<0∨Da o a.t b.t=0∧a.run<b.run)
theorem gV (o:T5):Swo (ltH o) where
 asym:=fun a b h=>by simp only[ltH,decide_eq_true_eq,decide_eq_false_iff_not] at*;have:=Mz o a.t b.t;omega
 ntrans:=fun a b c h1 h2=>by
  simp only[ltH,decide_eq_false_iff_not] at*;have e1:=Mz o a.t b.t;have e2:=Mz o b.t c.t;have e3:=Mz o a.t c.t;have f1:=Vs o c.t b.t a.t oM oM;have f2:Da o a.t c.t=0→Da o a.t b.t=0:=fun h=>by have:=Vs o a.t c.t b.t;omega
  have f3:Da o a.t c.t=0→Da o b.t c.t=0:=fun h=>by have:=Vs o b.t a.t c.t;omega
  omega
theorem Wj (bh vb cap:Nat) (o:T5) (l:List Hd) (rest:List Value):CtQ AC 236 [pv bh] (Cq bh vb cap o l rest) (Z9 Z8 l.length):=by
 unfold Cq;refine cG func236 fun _=>?_;repeat(refine sA ?_;intros)
 (refine dP [[(bh,row [.slice (some ⟨vb,0,none⟩) l.length cap,Z9 Z8 o.c0,Z9 Z8 o.c1,Z9 Z8 o.c2,Z9 Z8 o.c3,Z9 Z8 o.c4] 241)],[(vb,row (hcells l++rest) 243)]] ?_;exact⟨rfl,rfl⟩)
theorem Qi {l:List Hd} {rest:List Value} {i:Nat} (h:i<l.length):((hcells l++rest).drop (i*7)).take 5=[Z9 Z8 (at_ l i).t.c0,Z9 Z8 (at_ l i).t.c1,Z9 Z8 (at_ l i).t.c2,Z9 Z8 (at_ l i).t.c3,Z9 Z8 (at_ l i).t.c4]∧(hcells l++rest)[i*7+5]? =some (Z9 Z8 ((at_ l i).run:Int))∧(hcells l++rest)[i*7+6]? =some (pv (at_ l i).rd)∧((hcells l++rest).drop (i*7)).take 7=(at_ l i).cells:=by
 obtain⟨more,hm⟩:=gU l rest i h;refine⟨by rw[hm];rfl,?_,?_,by rw[hm];rfl⟩
 ·rw[←BU,hm];rfl
 ·rw[←BU,hm];rfl
theorem Wl (bh vb cap:Nat) (o:T5) (l:List Hd) (rest:List Value) (i j:Nat) (hi:i<l.length) (hj:j<l.length) (hl:l.length≤1000000):CtQ AC 274 [pv bh,Z9 Z8 i,Z9 Z8 j] (Cq bh vb cap o l rest) (.bool (ltH o (at_ l i) (at_ l j))):=by
 obtain⟨a1,a2,a3,a4⟩:=Qi (rest:=rest) hi;obtain⟨b1,b2,b3,b4⟩:=Qi (rest:=rest) hj;have hC:=Zh (at_ l i).t.c0 (at_ l i).t.c1 (at_ l i).t.c2 (at_ l i).t.c3 (at_ l i).t.c4 (at_ l j).t.c0 (at_ l j).t.c1 (at_ l j).t.c2 (at_ l j).t.c3 (at_ l j).t.c4 o.c0 o.c1 o.c2 o.c3 o.c4;have aa:Da ⟨o.c0,o.c1,o.c2,o.c3,o.c4⟩ ⟨(at_ l i).t.c0,(at_ l i).t.c1,(at_ l i).t.c2,(at_ l i).t.c3,(at_ l i).t.c4⟩ ⟨(at_ l j).t.c0,(at_ l j).t.c1,(at_ l j).t.c2,(at_ l j).t.c3,(at_ l j).t.c4⟩=Da o (at_ l i).t (at_ l j).t:=rfl;rw[aa] at hC;unfold ltH Cq;generalize ab:Da o (at_ l i).t (at_ l j).t=cm at*;generalize ac:hcells l++rest=cells at*;generalize at_ l i=x at*
 generalize at_ l j=y at*
 by_cases h1:cm<0
 ·rw[show decide (cm<0∨cm=0∧x.run<y.run)=true from decide_eq_true (.inl h1)];refine cG func274 fun _=>?_;repeat(first|(refine st ?_;intros)|refine G.draw (id:=1) [(20,.quiet)] (h:=?_)|refine G.draw [] (h:=?_)|refine cq hC ?_)
  (refine dP [[(bh,row [.slice (some ⟨vb,0,none⟩) l.length cap,Z9 Z8 o.c0,Z9 Z8 o.c1,Z9 Z8 o.c2,Z9 Z8 o.c3,Z9 Z8 o.c4] 241)],[(vb,row cells 243)]] ?_;exact⟨rfl,rfl⟩)
 ·by_cases h2:cm=0
  ·have h3:decide (cm<0∨cm=0∧x.run<y.run)=dec ((x.run:Int)<(y.run:Int)):=by
    by_cases h4:x.run<y.run
    ·rw[decide_eq_true (.inr ⟨h2,h4⟩),Fj oM]
    ·rw[decide_eq_false oM,Jf oM]
   rw[h3];refine cG func274 fun _=>?_;repeat(first|(refine st ?_;intros)|refine G.draw (id:=1) [(20,.quiet)] (h:=?_)|refine G.draw [] (h:=?_)|refine cq hC ?_)
   (refine dP [[(bh,row [.slice (some ⟨vb,0,none⟩) l.length cap,Z9 Z8 o.c0,Z9 Z8 o.c1,Z9 Z8 o.c2,Z9 Z8 o.c3,Z9 Z8 o.c4] 241)],[(vb,row cells 243)]] ?_;exact⟨rfl,rfl⟩)
  ·rw[show decide (cm<0∨cm=0∧x.run<y.run)=false from decide_eq_false oM];refine cG func274 fun _=>?_;repeat(first|(refine st ?_;intros)|refine G.draw (id:=1) [(20,.quiet)] (h:=?_)|refine G.draw [] (h:=?_)|refine cq hC ?_)
   (refine dP [[(bh,row [.slice (some ⟨vb,0,none⟩) l.length cap,Z9 Z8 o.c0,Z9 Z8 o.c1,Z9 Z8 o.c2,Z9 Z8 o.c3,Z9 Z8 o.c4] 241)],[(vb,row cells 243)]] ?_;exact⟨rfl,rfl⟩)
theorem gW:∀(a:List Value) (vs cs:List Value) (off:Nat),Bs (a++cs) (a.length+off) vs=a++Bs cs off vs:=by
 intro a vs;induction vs with
 |nil=>intro cs off;rfl
 |cons v vs ih=>
  intro cs off;simp only[Bs];rw[List.set_append_right _ _ oM,show a.length+off-a.length=off by omega,show a.length+off+1=a.length+(off+1) by omega,ih]
theorem Zy:∀(l:List Hd) (i:Nat) (x:Hd) (rest:List Value),i<l.length→Bs (hcells l++rest) (i*7) x.cells=hcells (l.set i x)++rest
 |[],_,_,_,h=>by simp at h
 |u::l,0,x,rest,_=>by simp[hcells,Bs,Hd.cells]
 |u::l,i+1,x,rest,h=>by
  have ih:=Zy l i x rest oA15;have e:(hcells (u::l)++rest)=u.cells++(hcells l++rest):=by simp[hcells]
  rw[e,show(i+1)*7=u.cells.length+i*7 by(have:u.cells.length=7:=rfl);omega,gW,ih];simp[hcells]
theorem Wm (bh vb cap:Nat) (o:T5) (l:List Hd) (rest:List Value) (i j:Nat) (hi:i<l.length) (hj:j<l.length) (hl:l.length≤1000000):Ct AC 276 [pv bh,Z9 Z8 i,Z9 Z8 j] (Cq bh vb cap o l rest) fun v H'=>v= .tuple #[]∧H'=Cq bh vb cap o (sw l i j) rest:=by
 obtain⟨a1,a2,a3,a4⟩:=Qi (rest:=rest) hi;obtain⟨b1,b2,b3,b4⟩:=Qi (rest:=rest) hj;have ah:=Zy l i (at_ l j) rest hi;have ac:=Zy (l.set i (at_ l j)) j (at_ l i) rest (by simpa using hj);have ad:(l.set i (at_ l j)).set j (at_ l i)=sw l i j:=rfl;rw[ad] at ac;have ag:(hcells l++rest).length=l.length*7+rest.length:=by rw[AH,Ns]
 have ae:(hcells (l.set i (at_ l j))++rest).length=l.length*7+rest.length:=by rw[AH,Ns,List.length_set]
 unfold Cq;rw[Zq];generalize hcells (sw l i j)++rest=aa at*;generalize hcells (l.set i (at_ l j))++rest=ab at*;generalize hcells l++rest=cells at*;generalize at_ l i=x at*
 generalize at_ l j=y at*
 unfold Hd.cells at*;refine cG func276 fun _=>?_;repeat(refine sA ?_;intros)
 (refine dE [[(bh,row [.slice (some ⟨vb,0,none⟩) l.length cap,Z9 Z8 o.c0,Z9 Z8 o.c1,Z9 Z8 o.c2,Z9 Z8 o.c3,Z9 Z8 o.c4] 241)],[(vb,row aa 243)]] ?_;exact⟨rfl,rfl⟩)
instance:Meth AC 238 "Less" 274:=Meth.of (by kernel_rfl)
instance:Meth AC 238 "Swap" 276:=Meth.of (by kernel_rfl)
instance:Meth AC 238 "Len" 236:=Meth.of (by kernel_rfl)
instance:Meth AC 238 "Pop" 275:=Meth.of (by kernel_rfl)
abbrev Mh (bh:Nat):Value:= .iface 238 (pv bh)
structure DownX where
 i:Nat
 l:List Hd
theorem Zz (bh vb cap:Nat) (o:T5) (l:List Hd) (rest:List Value) (a n:Nat) (hn:n≤l.length) (hl:l.length≤1000000) (hh:Ic (ltH o) l n (a+1)) (ha:a≤1000000):Ct AC 245 [Mh bh,Z9 Z8 a,Z9 Z8 n] (Cq bh vb cap o l rest) fun v H'=> ∃b l',v= .bool b∧H'=Cq bh vb cap o l' rest∧l'.Perm l∧Ic (ltH o) l' n a∧∀q,n≤q→at_ l' q=at_ l q:=by
 have ab:=gV o;refine cG func245 fun _=>?_;repeat(first|(refine st ?_;intros)|refine cq hL ?_|refine cq hL2 ?_)
 refine G.loop (X:=DownX) (fun x=>a≤x.i∧x.l.Perm l∧Sj (ltH o) x.l n a x.i∧(x.i<n∨x.i=a)∧∀q,n≤q→at_ x.l q=at_ l q)
  (fun x=>[(7,Z9 Z8 x.i),(0,Mh bh),(1,Z9 Z8 a),(2,Z9 Z8 n)])
  (fun x=>Cq bh vb cap o x.l rest) (fun x=>n-x.i) ⟨a,l⟩ ⟨AI _,List.Perm.refl _,sZ hh,.inr rfl,fun _ _=>rfl⟩ (body:=?_)
 rintro⟨i,us⟩ ⟨ac,hp,hd,ad,aa⟩;dsimp only at ac hp hd ad aa⊢;have ae:=hp.length_eq;have ag:i≤1000000:=oM;have e1:AL .i64 (2*(i:Int))=((2*i:Nat):Int):=by rw[Ah oM];omega
 have e2:AL .i64 (((2*i:Nat):Int)+1)=((2*i+1:Nat):Int):=by rw[Ah oM];omega
 have e3:AL .i64 (((2*i+1:Nat):Int)+1)=((2*i+2:Nat):Int):=by rw[Ah oM];omega
 by_cases hc:n≤2*i+1
 ·repeat(first|(refine st ?_;intros)|refine cq hL ?_|refine cq hL2 ?_)
  (refine dP (Cq bh vb cap o us rest) ?_;exact⟨_,us,rfl,rfl,hp,tC hd hc,aa⟩)
 ·by_cases ah:2*i+2<n
  ·have hL:=Wl bh vb cap o us rest (2*i+2) (2*i+1) oM oM oM;cases h1:ltH o (at_ us (2*i+2)) (at_ us (2*i+1)) with
   |true=>
    rw[h1] at hL;have hm:∀c,0<c→c<n→(c-1)/2=i→ltH o (at_ us c) (at_ us (2*i+2))=false:=by
     intro c k1 k2 k3;rcases(show c=2*i+1∨c=2*i+2 by omega) with rfl|rfl
     ·exact ab.asym _ _ h1
     ·exact ab.irr _
    have hL2:=Wl bh vb cap o us rest (2*i+2) i oM oM oM;cases h2:ltH o (at_ us (2*i+2)) (at_ us i) with
    |true=>
     rw[h2] at hL2;have hS:=Wm bh vb cap o us rest i (2*i+2) oM oM oM;repeat(first|(refine st ?_;intros)|refine cq hL ?_|refine cq hL2 ?_)
     refine R.invoke (hct:=hS) (h:=?_);rintro _ _ ⟨rfl,rfl⟩;try dsimp only[AA,AB]
     repeat(first|(refine st ?_;intros)|refine cq hL ?_|refine cq hL2 ?_)
     exact Dn.round ⟨2*i+2,sw us i (2*i+2)⟩ ⟨oD,(Wi oM oM).trans hp,Zx ab hd ac oM oM oM oM hm h2,.inl oD,fun q hq=>by
      dsimp only;rw[Jh _ _ _ _ oM oM,if_neg oM,if_neg oM];exact aa q hq⟩ oD
    |false=>
     rw[h2] at hL2;repeat(first|(refine st ?_;intros)|refine cq hL ?_|refine cq hL2 ?_)
     (refine dP (Cq bh vb cap o us rest) ?_;exact⟨_,us,rfl,rfl,hp,Zw ab hd hm h2,aa⟩)
   |false=>
    rw[h1] at hL;have hm:∀c,0<c→c<n→(c-1)/2=i→ltH o (at_ us c) (at_ us (2*i+1))=false:=by
     intro c k1 k2 k3;rcases(show c=2*i+1∨c=2*i+2 by omega) with rfl|rfl
     ·exact ab.irr _
     ·exact h1
    have hL2:=Wl bh vb cap o us rest (2*i+1) i oM oM oM;cases h2:ltH o (at_ us (2*i+1)) (at_ us i) with
    |true=>
     rw[h2] at hL2;have hS:=Wm bh vb cap o us rest i (2*i+1) oM oM oM;repeat(first|(refine st ?_;intros)|refine cq hL ?_|refine cq hL2 ?_)
     refine R.invoke (hct:=hS) (h:=?_);rintro _ _ ⟨rfl,rfl⟩;try dsimp only[AA,AB]
     repeat(first|(refine st ?_;intros)|refine cq hL ?_|refine cq hL2 ?_)
     exact Dn.round ⟨2*i+1,sw us i (2*i+1)⟩ ⟨oD,(Wi oM oM).trans hp,Zx ab hd ac oM oM oM oM hm h2,.inl oD,fun q hq=>by
      dsimp only;rw[Jh _ _ _ _ oM oM,if_neg oM,if_neg oM];exact aa q hq⟩ oD
    |false=>
     rw[h2] at hL2;repeat(first|(refine st ?_;intros)|refine cq hL ?_|refine cq hL2 ?_)
     (refine dP (Cq bh vb cap o us rest) ?_;exact⟨_,us,rfl,rfl,hp,Zw ab hd hm h2,aa⟩)
  ·have hm:∀c,0<c→c<n→(c-1)/2=i→ltH o (at_ us c) (at_ us (2*i+1))=false:=by intro c k1 k2 k3;rcases(show c=2*i+1 by omega) with rfl;exact ab.irr _
   have hL2:=Wl bh vb cap o us rest (2*i+1) i oM oM oM;cases h2:ltH o (at_ us (2*i+1)) (at_ us i) with
   |true=>
    rw[h2] at hL2;have hS:=Wm bh vb cap o us rest i (2*i+1) oM oM oM;repeat(first|(refine st ?_;intros)|refine cq hL ?_|refine cq hL2 ?_)
    refine R.invoke (hct:=hS) (h:=?_);rintro _ _ ⟨rfl,rfl⟩;try dsimp only[AA,AB]
    repeat(first|(refine st ?_;intros)|refine cq hL ?_|refine cq hL2 ?_)
    exact Dn.round ⟨2*i+1,sw us i (2*i+1)⟩ ⟨oD,(Wi oM oM).trans hp,Zx ab hd ac oM oM oM oM hm h2,.inl oD,fun q hq=>by
     dsimp only;rw[Jh _ _ _ _ oM oM,if_neg oM,if_neg oM];exact aa q hq⟩ oD
   |false=>
    rw[h2] at hL2;repeat(first|(refine st ?_;intros)|refine cq hL ?_|refine cq hL2 ?_)
    (refine dP (Cq bh vb cap o us rest) ?_;exact⟨_,us,rfl,rfl,hp,Zw ab hd hm h2,aa⟩)
structure InitX where
 z:Int
 l:List Hd
theorem tE (bh vb cap:Nat) (o:T5) (l:List Hd) (rest:List Value) (hl:l.length≤1000000):Ct AC 235 [Mh bh] (Cq bh vb cap o l rest) fun v H'=>∃l',v= .tuple #[]∧H'=Cq bh vb cap o l' rest∧l'.Perm l∧Ic (ltH o) l' l'.length 0:=by
 have hN:=Wj bh vb cap o l rest;have e1:AL .i64 ((l.length:Int).tdiv 2)=((l.length/2:Nat):Int):=by rw[Int.tdiv_eq_ediv_of_nonneg oM,Ah oM];omega
 have e2:AL .i64 (((l.length/2:Nat):Int)-1)=((l.length/2:Nat):Int)-1:=Ah oM;generalize hn:l.length=n at*;refine cG func235 fun _=>?_;repeat(first|(refine st ?_;intros)|refine cq hN ?_)
 refine G.loop (X:=InitX) (fun x=> -1≤x.z∧x.z<1000001∧x.l.Perm l∧Ic (ltH o) x.l n (x.z+1).toNat)
  (fun x=>[(3,Z9 Z8 x.z),(0,Mh bh),(2,Z9 Z8 n)])
  (fun x=>Cq bh vb cap o x.l rest) (fun x=>(x.z+1).toNat) ⟨((n/2:Nat):Int)-1,l⟩ ⟨oD,oD,List.Perm.refl _,fun c h1 h2 h3=>by dsimp only at h3;omega⟩ (body:=?_)
 rintro⟨z,us⟩ ⟨aa,ab,hp,hh⟩;dsimp only at aa ab hp hh⊢;have ac:=hp.length_eq;by_cases hz:0≤z
 ·obtain⟨i,rfl⟩:=Int.eq_ofNat_of_zero_le hz;have hD:=Zz bh vb cap o us rest i n oM oM (by rw[show i+1=((i:Int)+1).toNat by omega];exact hh) oM;have e3:AL .i64 ((i:Int)-1)=(i:Int)-1:=Ah oM;repeat(first|(refine st ?_;intros)|refine cq hN ?_)
  refine cL hD ?_;rintro _ _ ⟨b,ad,rfl,rfl,ae,ag,ah⟩;try dsimp only[AA,AB]
  repeat(first|(refine st ?_;intros)|refine cq hN ?_)
  exact Dn.round ⟨(i:Int)-1,ad⟩ ⟨oD,oD,ae.trans hp,by dsimp only;rw[show((i:Int)-1+1).toNat=i by omega];exact ag⟩ oD
 ·repeat(first|(refine st ?_;intros)|refine cq hN ?_)
  (refine dE (Cq bh vb cap o us rest) ?_;exact⟨us,rfl,rfl,hp,by rw[ac,hn];rw[show(z+1).toNat=0 by omega] at hh;exact hh⟩)
theorem up_ct (bh vb cap:Nat) (o:T5) (l:List Hd) (rest:List Value):Ct AC 246 [Mh bh,Z9 Z8 0] (Cq bh vb cap o l rest) fun v H'=>v= .tuple #[]∧H'=Cq bh vb cap o l rest:=by
 have e1:AL .i64 ((0:Int)-1)= -1:=by decide
 have e2:AL .i64 ((-1:Int).tdiv 2)=0:=by decide
 refine cG func246 fun _=>?_;repeat(refine sA ?_;intros)
 refine G.loop (X:=Unit) (fun _=>True) (fun _=>[(0,Mh bh),(1,Z9 Z8 0)]) (fun _=>Cq bh vb cap o l rest) (fun _=>0) () trivial (body:=?_);rintro⟨⟩-;repeat(refine sA ?_;intros)
 (refine dE (Cq bh vb cap o l rest) ?_;exact⟨rfl,rfl⟩)
theorem Fix_ct (bh vb cap:Nat) (o:T5) (l:List Hd) (rest:List Value) (hl:l.length≤1000000) (hh:Ic (ltH o) l l.length 1):Ct AC 237 [Mh bh,Z9 Z8 0] (Cq bh vb cap o l rest) fun v H'=>∃l',v= .tuple #[]∧H'=Cq bh vb cap o l' rest∧l'.Perm l∧Ic (ltH o) l' l'.length 0:=by
 have hN:=Wj bh vb cap o l rest;have hD:=Zz bh vb cap o l rest 0 l.length (AI _) hl hh oM;refine cG func237 fun _=>?_;repeat(first|(refine st ?_;intros)|refine cq hN ?_)
 refine cL hD ?_;rintro _ _ ⟨b,us,rfl,rfl,hp,aa,ac⟩;try dsimp only[AA,AB]
 have ab:=hp.length_eq;have hU:=up_ct bh vb cap o us rest;cases b with
 |true=>
  repeat(first|(refine st ?_;intros)|refine cq hN ?_)
  (refine dE (Cq bh vb cap o us rest) ?_;exact⟨us,rfl,rfl,hp,by rw[ab];exact aa⟩)
 |false=>
  repeat(first|(refine st ?_;intros)|refine cq hN ?_)
  refine cL hU ?_;rintro _ _ ⟨rfl,rfl⟩;try dsimp only[AA,AB]
  repeat(first|(refine st ?_;intros)|refine cq hN ?_)
  (refine dE (Cq bh vb cap o us rest) ?_;exact⟨us,rfl,rfl,hp,by rw[ab];exact aa⟩)
theorem tF (bh vb cap:Nat) (o:T5) (l:List Hd) (x:Hd) (rest:List Value) (hl:l.length≤1000000) (ad:l.length+1≤cap):Ct AC 275 [pv bh] (Cq bh vb cap o (l++[x]) rest) fun v H'=>v= .iface 243 (.agg x.cells.toArray)∧H'=Cq bh vb cap o l (x.cells++rest):=by
 obtain⟨a1,a2,a3,a4⟩:=Qi (l:=l++[x]) (rest:=rest) (i:=l.length) oA19;have aa:at_ (l++[x]) l.length=x:=by simp[at_,AM]
 rw[aa] at a1 a2 a3 a4;have ab:hcells l++(x.cells++rest)=hcells (l++[x])++rest:=by rw[gT];simp[hcells]
 have ac:(l++[x]).length=l.length+1:=by simp
 have e1:AL .i64 (((l.length+1:Nat):Int)-1)=(l.length:Int):=by rw[Ah oM];omega
 unfold Cq;rw[ab,ac];generalize hcells (l++[x])++rest=cells at*;generalize l.length=n at*;unfold Hd.cells at*;refine cG func275 fun _=>?_;repeat(refine sv ?_;intros)
 apply R.mkIfaceS
 ·exact rfl
 ·exact underlying243
 ·exact rfl
 ·exact nle rfl
 repeat(refine sv ?_;intros)
 (refine dP [[(bh,row [.slice (some ⟨vb,0,none⟩) n cap,Z9 Z8 o.c0,Z9 Z8 o.c1,Z9 Z8 o.c2,Z9 Z8 o.c3,Z9 Z8 o.c4] 241)],[(vb,row cells 243)]] ?_;exact⟨rfl,rfl⟩)
theorem tG (bh vb cap:Nat) (o:T5) (l:List Hd) (rest:List Value) (hl:l.length≤1000000) (ak:l.length≤cap) (ab:0<l.length) (hh:Ic (ltH o) l l.length 0):Ct AC 238 [Mh bh] (Cq bh vb cap o l rest) fun v H'=>∃l' x,v= .iface 243 (.agg x.cells.toArray)∧x=at_ l 0∧H'=Cq bh vb cap o l' (x.cells++rest)∧(x::l').Perm l∧l'.length+1=l.length∧Ic (ltH o) l' l'.length 0:=by
 have hN:=Wj bh vb cap o l rest;have e1:AL .i64 ((l.length:Int)-1)=((l.length-1:Nat):Int):=by rw[Ah oM];omega
 have hS:=Wm bh vb cap o l rest 0 (l.length-1) ab oM hl;have ag:(sw l 0 (l.length-1)).length=l.length:=Zq _ _ _;have ac:=fun q=>Jh l 0 (l.length-1) q ab oM;have ah:Ic (ltH o) (sw l 0 (l.length-1)) (l.length-1) 1:=by intro c h1 h2 h3;rw[ac,ac,if_neg oM,if_neg oM,if_neg oM,if_neg oM];exact hh c h1 oM (AT _)
 have hD:=Zz bh vb cap o (sw l 0 (l.length-1)) rest 0 (l.length-1) oM oM ah oM;have ai:(sw l 0 (l.length-1)).Perm l:=Wi ab oM;have aa:=ac (l.length-1);rw[if_pos rfl] at aa;refine cG func238 fun _=>?_;repeat(first|(refine st ?_;intros)|refine cq hN ?_)
 refine R.invoke (hct:=hS) (h:=?_);rintro _ _ ⟨rfl,rfl⟩;try dsimp only[AA,AB]
 repeat(first|(refine st ?_;intros)|refine cq hN ?_)
 refine cL hD ?_;rintro _ _ ⟨b,us,rfl,rfl,hp,aj,ae⟩;try dsimp only[AA,AB]
 have ad:us.length=l.length:=hp.length_eq.trans ag;have hx:=(ae (l.length-1) (AI _)).trans aa;obtain⟨vs,y,rfl⟩:∃vs y,us=vs++[y]:=by
  rcases List.eq_nil_or_concat us with rfl|⟨qs,z,rfl⟩
  ·simp at ad;omega
  ·exact⟨qs,z,by simp⟩
 rw[AH,CQ] at ad;have hy:at_ (vs++[y]) (l.length-1)=y:=by rw[show l.length-1=vs.length by omega];simp[at_,AM]
 rw[hy] at hx;subst hx;have hP:=tF bh vb cap o vs (at_ l 0) rest oM oM;repeat(first|(refine st ?_;intros)|refine cq hN ?_)
 refine R.invoke (hct:=hP) (h:=?_);rintro _ _ ⟨rfl,rfl⟩;try dsimp only[AA,AB]
 repeat(first|(refine st ?_;intros)|refine cq hN ?_)
 (refine dP (Cq bh vb cap o vs ((at_ l 0).cells++rest)) ?_;refine⟨vs,at_ l 0,rfl,rfl,rfl,?_,ad,?_⟩)
 ·exact(List.perm_append_comm (l₁:=[at_ l 0]) (l₂:=vs)).trans (hp.trans ai)
 ·intro c h1 h2 h3;have:=aj c h1 oM h3;rw[Ud,Ud,if_pos h2,if_pos oM] at this;exact this
theorem aA {o:T5} {u a:T5} {s:List T5} (h:Sd (ltO o) false (u::s)) (ha:a∈u::s):ltO o a u=false:=by
 rcases AN.1 ha with rfl|ha
 ·exact(Eg o).irr _
 ·unfold Sd at h;have:=List.rel_of_pairwise_cons h ha;simpa using this
theorem Em.merge {o:T5} {once:Bool} {l ps:List T5} {A B:List (List T5)} {t:T5} {r:List T5} (h:Em o once l ps (A++(t::r)::B).flatten) (hA:∀s∈A,Sd (ltO o) false s∧∀u s',s=u::s'→ltO o t u=true) (hB:∀s∈B,Sd (ltO o) false s∧∀u s',s=u::s'→ltO o u t=false) (hr:Sd (ltO o) false (t::r)):Em o once l (Ea o once ps t) (A++r::B).flatten:=by
 have aa:=Eg o;have ab:∀a∈A.flatten,ltO o t a=true:=by
  intro a ha;obtain⟨s,hs,has⟩:=List.mem_flatten.1 ha;cases s with
  |nil=>simp at has
  |cons u s'=>
   obtain⟨h1,h2⟩:=hA _ hs;cases hc:ltO o t a with
   |true=>rfl
   |false=>
    have:=aa.ntrans _ _ _ hc (aA h1 has);rw[h2 u s' rfl] at this;cases this
 have ad:∀b∈B.flatten,ltO o b t=false:=by
  intro b hb;obtain⟨s,hs,ac⟩:=List.mem_flatten.1 hb;cases s with
  |nil=>simp at ac
  |cons u s'=>
   obtain⟨h1,h2⟩:=hB _ hs;exact aa.ntrans _ _ _ (aA h1 ac) (h2 u s' rfl)
 have e1:(A++(t::r)::B).flatten=(A.flatten++[t])++(r++B.flatten):=by simp
 have e2:(A++r::B).flatten=A.flatten++(r++B.flatten):=by simp
 rw[e1] at h;rw[e2];have h2:Em o once l ps (t::(A.flatten++(r++B.flatten))):=by
  refine h.turn ?_ ?_
  ·have:=Go.Srt.Sp.app (once:=once) (Go.Srt.Sp.swap aa (once:=once) (v:=A.flatten) (x:=[t]) (fun b hb a ha=>by simp only[AX] at hb;subst hb;exact ab a ha)) (Go.Srt.Sp.refl (lt:=ltO o) once (r++B.flatten));simpa using this
  ·intro y hy;simp only[AN,AR] at hy⊢;rcases hy with hy|hy|hy|hy
   ·exact .inl (.inr (by simp[hy]))
   ·exact .inl (.inl hy)
   ·exact .inr (.inl hy)
   ·exact .inr (.inr hy)
 refine h2.step fun y hy=>?_;rcases AR.1 hy with hy|hy
 ·exact aa.asym _ _ (ab y hy)
 ·rcases AR.1 hy with hy|hy
  ·exact aA hr (AF _ hy)
  ·exact ad y hy
structure Rdr where
 bx:Nat
 f:Fl
 ts:List T5
 g:Gr
 pos:Nat
 opn:Bool
 cx:Aa
 cb:Aa
def Eh (bw:Nat) (W:Wk) (r:Rdr):Prop:=if r.opn then Df bw r.bx W r.f r.ts r.g r.pos r.cx r.cb else Lg r.bx r.cx
def Cm (rs:List Rdr):Aa:=rs.flatMap fun r=>r.cx++r.cb
def Eb (rs:List Rdr):List Gr:=(rs.filter (·.opn)).map (·.g)
theorem Eh.move {bw:Nat} {W W':Wk} {r:Rdr} (h:Eh bw W r) (hs:W'.δ.size=W.δ.size):Eh bw W' r:=by
 unfold Eh at*;split
 ·rename_i ho;rw[if_pos ho] at h;exact h.move hs
 ·rename_i ho;rw[if_neg ho] at h;exact h
theorem gX {a b:List Rdr} (h:a.Perm b):(Cm a).Perm (Cm b):=h.flatMap_right _
theorem tH {rs:List Rdr} {r:Rdr} (h:r∈rs):∃qs,rs.Perm (r::qs)∧(Cm rs).Perm (r.cx++(r.cb++Cm qs)):=by obtain⟨l1,l2,rfl⟩:=List.append_of_mem h;refine⟨l1++l2,B3,(gX B3).trans ?_⟩;simp[Cm]
theorem aB {a b:List Rdr} (h:a.Perm b):(Eb a).Perm (Eb b):=(h.filter _).map _
def Wn (bc bh:Nat):Aa:=[(bc,row [pv bh] 238)]
def Wo (bh:Nat) (p:Option Addr) (n cap:Nat) (o:T5):Aa:=[(bh,row [.slice p n cap,Z9 Z8 o.c0,Z9 Z8 o.c1,Z9 Z8 o.c2,Z9 Z8 o.c3,Z9 Z8 o.c4] 241)]
structure CloseX where
 i:Nat
 ca:Aa
 α:Ar
 rs:List Rdr
theorem tI (bc bh bw bd ba bs:Nat) (W:Wk) (cd ca cs:Aa) (h:Wc bd ba bs W cd ca cs) (o:T5) (l:List Hd) (p:Option Addr) (cap:Nat) (vc:Aa) (hV:Vec 243 7 p l.length cap (hcells l) vc) (hl:l.length≤1000000) (rs:List Rdr) (ac:List Gr) (hg:W.α.gs.Perm (Eb rs++ac)) (a5:∀r∈rs,Eh bw W r) (a6:∀x∈l,∃r∈rs,r.bx=x.rd) (a8:∀r∈rs,r.opn=true→∃x∈l,x.rd=r.bx) (a7:(rs.map (·.bx)).Nodup):Cb AC 234 [pv bc] [Wn bc bh,Wo bh p l.length cap o,vc,Ab bw bd ba bs,ca,Cm rs] fun v H'=> ∃ca' α' rs',v= .tuple #[]∧H'=[Wn bc bh,Wo bh p l.length cap o,vc,Ab bw bd ba bs,ca',Cm rs']∧Wc bd ba bs {W with α:=α'} cd ca' cs∧Ev W {W with α:=α'} 0 0∧α'.gs.Perm ac:=by
 unfold Wn Wo;refine Cb.intro func234 rfl ntmps234 (nle rfl) fun _=>?_;dsimp only[Dg,AD];repeat(refine sA ?_;intros)
 refine G.loop (X:=CloseX) (fun x=>x.i≤l.length∧Wc bd ba bs {W with α:=x.α} cd x.ca cs∧Ev W {W with α:=x.α} 0 0∧x.α.gs.Perm (Eb x.rs++ac)∧(∀r∈x.rs,Eh bw W r)∧(∀y∈l,∃r∈x.rs,r.bx=y.rd)∧(∀r∈x.rs,r.opn=true→∃j,x.i≤j∧j<l.length∧(at_ l j).rd=r.bx)∧(x.rs.map (·.bx)).Nodup)
  (fun x=>[(8,Z9 Z8 x.i),(7,Z9 Z8 l.length),(6,.slice p l.length cap)])
  (fun x=>[[(bc,row [pv bh] 238)],[(bh,row [.slice p l.length cap,Z9 Z8 o.c0,Z9 Z8 o.c1,Z9 Z8 o.c2,Z9 Z8 o.c3,Z9 Z8 o.c4] 241)],vc,Ab bw bd ba bs,x.ca,Cm x.rs]) (fun x=>l.length-x.i) ⟨0,ca,W.α,rs⟩
  ⟨AT _,h,Ev.refl W,hg,a5,a6,fun r hr ho=>by
   obtain⟨x,hx,he⟩:=a8 r hr ho;obtain⟨j,hj,e⟩:=DC hx;exact⟨j,AT _,hj,by rw[←he,←e];simp[at_,AM,hj]⟩,a7⟩ (body:=?_)
 rintro⟨i,am,α1,ai⟩ ⟨hi,an,ao,aj,ad,ae,ag,au⟩;dsimp only at hi an ao aj ad ae ag au⊢;by_cases ak:i<l.length
 ·have hx:at_ l i∈l:=by unfold at_;rw[AM,AG ak];exact B7 ak
  obtain⟨r,hr,av⟩:=ae _ hx;obtain⟨qs,ab,a9⟩:=tH hr;obtain⟨_,h0|⟨vb,rest,rfl,rfl,_⟩⟩:=hV
  ·omega
  obtain⟨a1,a2,a3,a4⟩:=Qi (rest:=rest) ak;generalize hcells l++rest=cells at*;generalize ay:at_ l i=x at*
  unfold Hd.cells at a4;repeat(refine sA ?_;intros)
  rw[←av];apply R1.open a9
  ·(repeat(first|exact Ae.here|apply Ae.there))
  have al:=ad r hr;unfold Eh at al;have az:∀q∈qs,q∈ai:=fun q hq=>ab.mem_iff.2 (AF _ hq);have aw:(Eb ai).Perm (Eb (r::qs)):=aB ab;have aa:((r::qs).map (·.bx)).Nodup:=(ab.map _).nodup_iff.1 au;cases ho:r.opn with
  |false=>
   rw[ho] at al;have hC:=fU r.bx r.cx al;refine cL hC ?_;rintro _ _ ⟨rfl,rfl⟩;repeat(refine sA ?_;intros)
   apply Dn.join (c1:=r.cx) (c2:=r.cb++Cm qs)
   ·(repeat(first|exact Ae.here|apply Ae.there))
   ·(repeat(first|exact Ae.here|apply Ae.there))
   rw[show r.cx++(r.cb++Cm qs)=Cm (r::qs) by simp[Cm]];refine Dn.round ⟨i+1,am,α1,r::qs⟩ ⟨ak,an,ao,aj.trans (aw.append_right _),fun q hq=>ad q (ab.mem_iff.2 hq),fun y hy=>?_,fun q hq ah=>?_,aa⟩ oD
   ·obtain⟨q,hq,e⟩:=ae y hy;exact⟨q,ab.mem_iff.1 hq,e⟩
   ·obtain⟨j,j1,j2,j3⟩:=ag q (ab.mem_iff.2 hq) ah;refine⟨j,?_,j2,j3⟩;by_cases ax:j=i
    ·exfalso;subst ax;rw[ay] at j3;rcases AN.1 hq with rfl|hq
     ·rw[ho] at ah;cases ah
     ·rw[AZ,CF] at aa;exact aa.1 (by rw[av,j3];exact AO.2 ⟨q,hq,rfl⟩)
    ·dsimp only;omega
  |true=>
   rw[ho] at al;have be:Eb (r::qs)=r.g::Eb qs:=by unfold Eb;rw[List.filter_cons_of_pos ho];rfl
   have hC:=Vv bw bd ba bs {W with α:=α1} cd am cs an r.bx r.f r.ts r.g (Eb qs++ac) (aj.trans (by rw[be] at aw;exact aw.append_right _)) r.pos r.cx r.cb (Df.move al rfl);refine cL hC ?_;rintro _ _ ⟨bf,α2,aq,rfl,rfl,bg,bi,bk,bp⟩;repeat(refine sA ?_;intros)
   apply Dn.join (c1:=aq) (c2:=r.cb++Cm qs)
   ·(repeat(first|exact Ae.here|apply Ae.there))
   ·(repeat(first|exact Ae.here|apply Ae.there))
   rw[show aq++(r.cb++Cm qs)=Cm ({r with opn:=false,cx:=aq}::qs) by simp[Cm]];refine Dn.round ⟨i+1,bf,α2,{r with opn:=false,cx:=aq}::qs⟩ ⟨ak,bg,ao.trans bi,bk,fun q hq=>?_,fun y hy=>?_,fun q hq ah=>?_,aa⟩ oD
   ·rcases AN.1 hq with rfl|hq
    ·exact bp
    ·exact ad q (az q hq)
   ·obtain⟨q,hq,e⟩:=ae y hy;rcases AN.1 (ab.mem_iff.1 hq) with rfl|hq
    ·exact⟨_,AE,e⟩
    ·exact⟨q,AF _ hq,e⟩
   ·rcases AN.1 hq with rfl|a0
    ·cases ah
    ·obtain⟨j,j1,j2,j3⟩:=ag q (az q a0) ah;refine⟨j,?_,j2,j3⟩;by_cases ax:j=i
     ·exfalso;subst ax;rw[ay] at j3;rw[AZ,CF] at aa;exact aa.1 (by rw[av,j3];exact AO.2 ⟨q,a0,rfl⟩)
     ·dsimp only;omega
 ·repeat(refine sA ?_;intros)
  (refine dE [[(bc,row [pv bh] 238)],[(bh,row [.slice p l.length cap,Z9 Z8 o.c0,Z9 Z8 o.c1,Z9 Z8 o.c2,Z9 Z8 o.c3,Z9 Z8 o.c4] 241)],vc,Ab bw bd ba bs,am,Cm ai] ?_;refine⟨am,α1,ai,rfl,rfl,an,ao,?_⟩);have:Eb ai=[]:=by
   unfold Eb;rw[EP.2]
   ·rfl
   ·intro r hr ho;obtain⟨j,j1,j2,_⟩:=ag r hr ho;omega
  rw[this] at aj;exact aj
def Gl (r:Rdr):List T5:=if r.opn then r.ts.drop (r.pos-1) else[]
structure MSt (bw:Nat) (W:Wk) (o:T5) (rds:List Rdr) (hl:List Hd):Prop where
 rd:∀r∈rds,Eh bw W r
 nd:(rds.map (·.bx)).Nodup
 hd:∀x∈hl,∃r,rds[x.run]? =some r∧r.opn=true∧r.bx=x.rd∧0<r.pos∧r.ts[r.pos-1]? =some x.t
 ex:∀j r,rds[j]? =some r→r.opn=true→∃x∈hl,x.run=j
 one:(hl.map (·.run)).Nodup
 sd:∀r∈rds,Sd (ltO o) false r.ts
theorem tJ {o:T5} {s:List T5} (h:Sd (ltO o) false s) (n:Nat):Sd (ltO o) false (s.drop n):=h.sublist (List.drop_sublist n s)
theorem aC {o:T5} {r:Rdr} (h:Sd (ltO o) false r.ts):Sd (ltO o) false (Gl r):=by
 unfold Gl;split
 ·exact tJ h _
 ·exact DJ
theorem tK {r:Rdr} {t u:T5} {s:List T5} (h:r.ts[r.pos-1]? =some t) (he:Gl r=u::s):u=t:=by
 unfold Gl at he;split at he
 ·have h1:(r.ts.drop (r.pos-1))[0]? =some t:=by rw[BU];simpa using h
  rw[he] at h1;simpa using h1
 ·cases he
theorem MSt.top {bw:Nat} {W:Wk} {o:T5} {rds:List Rdr} {hl:List Hd} (h:MSt bw W o rds hl) (aa:0<hl.length) (hh:Ic (ltH o) hl hl.length 0):∃A r B,rds=A++r::B∧A.length=(at_ hl 0).run∧r.opn=true∧r.bx=(at_ hl 0).rd∧0<r.pos∧r.ts[r.pos-1]? =some (at_ hl 0).t∧Gl r=(at_ hl 0).t::r.ts.drop r.pos∧(∀s∈A.map Gl,Sd (ltO o) false s∧∀u s',s=u::s'→ltO o (at_ hl 0).t u=true)∧(∀s∈B.map Gl,Sd (ltO o) false s∧∀u s',s=u::s'→ltO o u (at_ hl 0).t=false):=by
 have hx:at_ hl 0∈hl:=by unfold at_;rw[AM,AG aa];exact B7 aa
 have ab:=tD (gV o) hh;have ac:∀y∈hl,ltH o y (at_ hl 0)=false:=by intro y hy;obtain⟨j,hj,rfl⟩:=DC hy;have:=ab j hj;rwa[show at_ hl j=hl[j] by simp[at_,AM,hj]] at this
 generalize at_ hl 0=x at*
 obtain⟨r,h1,h2,h3,h4,h5⟩:=h.hd x hx;have ad:x.run<rds.length:=(AK.1 h1).1;have ae:rds[x.run]=r:=(AK.1 h1).2;have ag:rds=rds.take x.run++r::rds.drop (x.run+1):=by rw[←ae,←BM ad,BT]
 have key:∀j q u s',rds[j]? =some q→Gl q=u::s'→∃y∈hl,y.run=j∧y.t=u:=by
  intro j q u s' hq he;have ho:q.opn=true:=by
   cases hqo:q.opn with
   |true=>rfl
   |false=>unfold Gl at he;rw[hqo] at he;cases he
  obtain⟨y,hy,rfl⟩:=h.ex j q hq ho;obtain⟨q',k1,k2,k3,k4,k5⟩:=h.hd y hy;rw[hq] at k1;cases k1;exact⟨y,hy,rfl,(tK k5 he).symm⟩
 refine⟨rds.take x.run,r,rds.drop (x.run+1),ag,by rw[BQ];omega,h2,h3,h4,h5,?_,?_,?_⟩
 ·unfold Gl;rw[if_pos h2];obtain⟨k1,k2⟩:=AK.1 h5;rw[BM k1,k2,show r.pos-1+1=r.pos by omega]
 ·intro s hs;obtain⟨q,hq,rfl⟩:=AO.1 hs;refine⟨aC (h.sd q (List.mem_of_mem_take hq)),fun u s' he=>?_⟩;obtain⟨j,hj,e⟩:=DC hq;rw[BQ] at hj;rw[List.getElem_take] at e;obtain⟨y,hy,ah,rfl⟩:=key j q u s' (AK.2 ⟨oM,e⟩) he;have:=ac y hy;simp only[ltH,ltO,decide_eq_false_iff_not,decide_eq_true_eq] at this⊢;have:=Mz o y.t x.t;omega
 ·intro s hs;obtain⟨q,hq,rfl⟩:=AO.1 hs;refine⟨aC (h.sd q (List.mem_of_mem_drop hq)),fun u s' he=>?_⟩;obtain⟨j,hj,e⟩:=DC hq;rw[List.length_drop] at hj;rw[List.getElem_drop] at e;obtain⟨y,hy,ah,rfl⟩:=key (x.run+1+j) q u s' (AK.2 ⟨oM,e⟩) he;have:=ac y hy;simp only[ltH,ltO,decide_eq_false_iff_not] at this⊢;omega
end Go.Proofs.YtaofijjjheiknaaGreat
namespace Go.SL
section apart
variable {Q:Exit→Act→World→Prop} {w0:World} {S:List Nat} {n:Nat} {L:Be} {D:List Deferred} {H:Hp}
theorem Dn.nodup {e:Exit} (h:(Bj H).Nodup→Dn Q w0 S n e L D H):Dn Q w0 S n e L D H:=by unfold Dn at h⊢;exact fun a w hf hD hw=>h hw.nodup a w hf hD hw
theorem tL {H Ha Hb:Hp} {c1 c2:Aa} (h:(Bj H).Nodup) (h1:Ae c1 H Ha) (h2:Ae c2 Ha Hb):∀k∈c1.map (·.1),k∉c2.map (·.1):=by unfold Ae at h1 h2;have h3:H.flatten.Perm (c1++(c2++Hb.flatten)):=h1.trans (List.Perm.append_left _ h2);unfold Bj at h;have h4:=(h3.map (fun p=>p.1)).nodup_iff.1 h;rw[List.map_append,List.map_append] at h4;intro k hk aa;exact(List.nodup_append.1 h4).2.2 k hk k (List.mem_append_left _ aa) rfl
variable {P:Program} {ops:Array Oper} {cls:Nat→Oper→Cls} {k:Nat} {l:List (Nat×Oper)} {qs:List Rd}
theorem gY {c c1 c2:Aa} {Ha Hb:Hp} (h1:Ae c1 H Ha) (h2:Ae c2 Ha Hb) (hp:(c1++c2).Perm c):H.flatten.Perm ((c::Hb).flatten):=by refine(Tr h1 h2).trans ?_;simp only[List.flatten_cons];exact hp.append_right _
theorem R.joinP {c c1 c2:Aa} {Ha Hb:Hp} (hp:(c1++c2).Perm c) (h1:Ae c1 H Ha) (h2:Ae c2 Ha Hb) (h:R P ops Q cls w0 S n l L D (c::Hb) qs):R P ops Q cls w0 S n l L D H qs:=R.recut (gY h1 h2 hp) h
theorem Dn.joinP {e:Exit} {c c1 c2:Aa} {Ha Hb:Hp} (hp:(c1++c2).Perm c) (h1:Ae c1 H Ha) (h2:Ae c2 Ha Hb) (h:Dn Q w0 S n e L D (c::Hb)):Dn Q w0 S n e L D H:=Dn.recut (gY h1 h2 hp) h
end apart
end Go.SL
namespace Go.Proofs.YtaofijjjheiknaaGreat
open Go.SL Go.Spc Go.Tup Go.Srt
def Rdr.src (r:Rdr):Fl×List T5:=(r.f,r.ts)
theorem Eh.bx_mem {bw:Nat} {W:Wk} {r:Rdr} (h:Eh bw W r):r.bx∈r.cx.map (·.1):=by
 unfold Eh at h;split at h
 ·obtain⟨_,buf,n,a,e,_⟩:=h;rw[e];simp
 ·obtain⟨_,_,_,_,_,_,_,e⟩:=h;rw[e];simp
theorem tM {bw:Nat} {W:Wk} {rds:List Rdr} (h:∀r∈rds,Eh bw W r) {b:Nat} (hb:b∉(Cm rds).map (·.1)):b∉rds.map (·.bx):=by intro hm;obtain⟨r,hr,rfl⟩:=AO.1 hm;apply hb;obtain⟨p,hp,e⟩:=AO.1 (h r hr).bx_mem;rw[←e];refine AO.2 ⟨p,?_,rfl⟩;unfold Cm;exact List.mem_flatMap.2 ⟨r,hr,BO _ hp⟩
theorem tN {o:T5} {once:Bool} {l:List T5} (h:Sd (ltO o) once l):Sd (ltO o) false l:=by
 cases once with
 |false=>exact h
 |true=>
  unfold Sd at*;refine h.imp fun aa=>?_;simp only[if_true] at aa;simp only[Bool.false_eq_true,if_false];exact(Eg o).asym _ _ aa
theorem MSt.permH {bw:Nat} {W:Wk} {o:T5} {rds:List Rdr} {hl aa:List Hd} (h:MSt bw W o rds hl) (hp:aa.Perm hl):MSt bw W o rds aa where
 rd:=h.rd
 nd:=h.nd
 hd:=fun x hx=>h.hd x (hp.mem_iff.1 hx)
 ex:=fun j r hj ho=>by obtain⟨x,hx,e⟩:=h.ex j r hj ho;exact⟨x,hp.mem_iff.2 hx,e⟩
 one:=((hp.map _).nodup_iff).2 h.one
 sd:=h.sd
theorem MSt.move {bw:Nat} {W W':Wk} {o:T5} {rds:List Rdr} {hl:List Hd} (h:MSt bw W o rds hl) (hs:W'.δ.size=W.δ.size):MSt bw W' o rds hl:=
 {h with rd:=fun r hr=>(h.rd r hr).move hs}
theorem MSt.nil (bw:Nat) (W:Wk) (o:T5):MSt bw W o [] []:=⟨by simp,by simp,by simp,by simp,by simp,by simp⟩
theorem MSt.add {bw:Nat} {W W':Wk} {o:T5} {rds:List Rdr} {hl:List Hd} {r:Rdr} {t:T5} (h:MSt bw W o rds hl) (hs:W'.δ.size=W.δ.size) (hr:Eh bw W' r) (ho:r.opn=true) (hp:0<r.pos) (ht:r.ts[r.pos-1]? =some t) (hb:r.bx∉rds.map (·.bx)) (ab:Sd (ltO o) false r.ts):MSt bw W' o (rds++[r]) (hl++[⟨t,rds.length,r.bx⟩]) where
 rd:=fun q hq=>by
  rcases AR.1 hq with hq|hq
  ·exact(h.rd q hq).move hs
  ·simp only[AX] at hq;subst hq;exact hr
 nd:=by rw[AY,CC];refine⟨h.nd,by simp,?_⟩;intro a ha b aa e;simp only[AZ,CL,AX] at aa;subst aa;subst e;exact hb ha
 hd:=fun x hx=>by
  rcases AR.1 hx with hx|hx
  ·obtain⟨q,h1,h2⟩:=h.hd x hx;exact⟨q,by rw[BK (AK.1 h1).1];exact h1,h2⟩
  ·simp only[AX] at hx;subst hx;exact⟨r,by simp,ho,rfl,hp,ht⟩
 ex:=fun j q hj hq=>by
  by_cases ac:j<rds.length
  ·rw[BK ac] at hj;obtain⟨x,hx,e⟩:=h.ex j q hj hq;exact⟨x,BO _ hx,e⟩
  ·have ad:=(AK.1 hj).1;rw[AH,CQ] at ad;obtain rfl:j=rds.length:=by omega
   exact⟨_,BN _ AE,rfl⟩
 one:=by rw[AY,CC];refine⟨h.one,by simp,?_⟩;intro a ha b aa e;simp only[AZ,CL,AX] at aa;subst aa;subst e;obtain⟨x,hx,e⟩:=AO.1 ha;obtain⟨q,h1,_⟩:=h.hd x hx;have:=(AK.1 h1).1;omega
 sd:=fun q hq=>by
  rcases AR.1 hq with hq|hq
  ·exact h.sd q hq
  ·simp only[AX] at hq;subst hq;exact ab
theorem mid_get {α:Type} {A B:List α} {r r':α} {j:Nat} (h:j≠A.length):(A++r'::B)[j]? =(A++r::B)[j]? :=by
 by_cases aa:j<A.length
 ·rw[BK aa,BK aa]
 ·rw[BE oM,BE oM];obtain⟨i,hi⟩:∃i,j-A.length=i+1:=⟨j-A.length-1,oM⟩
  rw[hi];simp
theorem gZ {α:Type} {A B:List α} {r:α}:(A++r::B)[A.length]? =some r:=by simp
theorem MSt.step {bw:Nat} {W W':Wk} {o:T5} {A B:List Rdr} {r r':Rdr} {x:Hd} {tl:List Hd} {t:T5} (h:MSt bw W o (A++r::B) (x::tl)) (hA:A.length=x.run) (hs:W'.δ.size=W.δ.size) (hr:Eh bw W' r') (hb:r'.bx=r.bx) (hx:r.bx=x.rd) (hts:r'.ts=r.ts) (ho:r'.opn=true) (hp:0<r'.pos) (ht:r'.ts[r'.pos-1]? =some t):MSt bw W' o (A++r'::B) ({x with t:=t}::tl) where
 rd:=fun q hq=>by
  rcases AR.1 hq with hq|hq
  ·exact(h.rd q (BO _ hq)).move hs
  ·rcases AN.1 hq with rfl|hq
   ·exact hr
   ·exact(h.rd q (BN _ (AF _ hq))).move hs
 nd:=by have:=h.nd;simp only[AY,AZ,hb] at this⊢;exact this
 hd:=fun y hy=>by
  have aa:=h.one;rw[AZ,CF] at aa;rcases AN.1 hy with rfl|hy
  ·exact⟨r',by dsimp only;rw[←hA];exact gZ,ho,hb.trans hx,hp,ht⟩
  ·obtain⟨q,h1,h2⟩:=h.hd y (AF _ hy);refine⟨q,?_,h2⟩;rw[mid_get (r:=r) (by rw[hA];intro e;exact aa.1 (AO.2 ⟨y,hy,e⟩))];exact h1
 ex:=fun j q hj hq=>by
  by_cases e:j=A.length
  ·exact⟨_,AE,oD⟩
  ·rw[mid_get (r:=r) e] at hj;obtain⟨y,hy,e2⟩:=h.ex j q hj hq;rcases AN.1 hy with rfl|hy
   ·omega
   ·exact⟨y,AF _ hy,e2⟩
 one:=by have:=h.one;simpa using this
 sd:=fun q hq=>by
  rcases AR.1 hq with hq|hq
  ·exact h.sd q (BO _ hq)
  ·rcases AN.1 hq with rfl|hq
   ·rw[hts];exact h.sd r oA19
   ·exact h.sd q (BN _ (AF _ hq))
theorem MSt.close {bw:Nat} {W W':Wk} {o:T5} {A B:List Rdr} {r r':Rdr} {x:Hd} {tl:List Hd} (h:MSt bw W o (A++r::B) (x::tl)) (hA:A.length=x.run) (hs:W'.δ.size=W.δ.size) (hr:Eh bw W' r') (hb:r'.bx=r.bx) (hts:r'.ts=r.ts) (ho:r'.opn=false):MSt bw W' o (A++r'::B) tl where
 rd:=fun q hq=>by
  rcases AR.1 hq with hq|hq
  ·exact(h.rd q (BO _ hq)).move hs
  ·rcases AN.1 hq with rfl|hq
   ·exact hr
   ·exact(h.rd q (BN _ (AF _ hq))).move hs
 nd:=by have:=h.nd;simp only[AY,AZ,hb] at this⊢;exact this
 hd:=fun y hy=>by have aa:=h.one;rw[AZ,CF] at aa;obtain⟨q,h1,h2⟩:=h.hd y (AF _ hy);refine⟨q,?_,h2⟩;rw[mid_get (r:=r) (by rw[hA];intro e;exact aa.1 (AO.2 ⟨y,hy,e⟩))];exact h1
 ex:=fun j q hj hq=>by
  by_cases e:j=A.length
  ·subst e;rw[gZ] at hj;cases hj;rw[ho] at hq;cases hq
  ·rw[mid_get (r:=r) e] at hj;obtain⟨y,hy,e2⟩:=h.ex j q hj hq;rcases AN.1 hy with rfl|hy
   ·omega
   ·exact⟨y,hy,e2⟩
 one:=by have:=h.one;rw[AZ,CF] at this;exact this.2
 sd:=fun q hq=>by
  rcases AR.1 hq with hq|hq
  ·exact h.sd q (BO _ hq)
  ·rcases AN.1 hq with rfl|hq
   ·rw[hts];exact h.sd r oA19
   ·exact h.sd q (BN _ (AF _ hq))
structure CSt (bw:Nat) (W:Wk) (rs:List Rdr) (l:List Hd):Prop where
 rd:∀r∈rs,Eh bw W r
 lr:∀x∈l,∃r∈rs,r.bx=x.rd
 rl:∀r∈rs,r.opn=true→∃x∈l,x.rd=r.bx
 nd:(rs.map (·.bx)).Nodup
theorem CSt.move {bw:Nat} {W W':Wk} {rs:List Rdr} {l:List Hd} (h:CSt bw W rs l) (hs:W'.δ.size=W.δ.size):CSt bw W' rs l:={h with rd:=fun r hr=>(h.rd r hr).move hs}
theorem MSt.cst {bw:Nat} {W:Wk} {o:T5} {rds:List Rdr} {hl:List Hd} (h:MSt bw W o rds hl):CSt bw W rds hl where
 rd:=h.rd
 lr:=fun x hx=>by obtain⟨r,h1,_,h2,_⟩:=h.hd x hx;exact⟨r,A0 h1,h2⟩
 rl:=fun r hr ho=>by obtain⟨j,hj,e⟩:=DC hr;obtain⟨x,hx,e2⟩:=h.ex j r (by rw[AG hj,e]) ho;obtain⟨q,h1,_,h2,_⟩:=h.hd x hx;rw[e2,AG hj,e] at h1;cases h1;exact⟨x,hx,h2.symm⟩
 nd:=h.nd
theorem CSt.one {bw:Nat} {W W':Wk} {A B:List Rdr} {r r':Rdr} {l:List Hd} (h:CSt bw W (A++r::B) l) (hs:W'.δ.size=W.δ.size) (hr:Eh bw W' r') (hb:r'.bx=r.bx) (ho:r'.opn=false):CSt bw W' (A++r'::B) l where
 rd:=fun q hq=>by
  rcases AR.1 hq with hq|hq
  ·exact(h.rd q (BO _ hq)).move hs
  ·rcases AN.1 hq with rfl|hq
   ·exact hr
   ·exact(h.rd q (BN _ (AF _ hq))).move hs
 lr:=fun x hx=>by
  obtain⟨q,hq,e⟩:=h.lr x hx;rcases AR.1 hq with hq|hq
  ·exact⟨q,BO _ hq,e⟩
  ·rcases AN.1 hq with rfl|hq
   ·exact⟨r',BN _ AE,hb.trans e⟩
   ·exact⟨q,BN _ (AF _ hq),e⟩
 rl:=fun q hq aa=>by
  rcases AR.1 hq with hq|hq
  ·exact h.rl q (BO _ hq) aa
  ·rcases AN.1 hq with rfl|hq
   ·rw[ho] at aa;cases aa
   ·exact h.rl q (BN _ (AF _ hq)) aa
 nd:=by have:=h.nd;simp only[AY,AZ,hb] at this⊢;exact this
def rdA (s k:Nat) (rds:List Rdr):Nat:=(rds.map fun r=>Ac s k r.pos).sum
def left (rds:List Rdr):List T5:=(rds.map Gl).flatten
theorem Sk (s k:Nat) (A B:List Rdr) (r:Rdr):rdA s k (A++r::B)=rdA s k A+(Ac s k r.pos+rdA s k B):=by simp[rdA,CY]
theorem Ug (A B:List Rdr) (r:Rdr):left (A++r::B)=left A++(Gl r++left B):=by simp[left]
theorem tO (s k:Nat) (A:List Rdr) (r:Rdr):rdA s k (A++[r])=rdA s k A+Ac s k r.pos:=by simp[rdA,CY]
theorem tP (A:List Rdr) (r:Rdr):Eb (A++[r])=Eb A++(if r.opn=true then[r.g] else[]):=by
 unfold Eb;rw[List.filter_append,AY];congr 1;by_cases h:r.opn=true
 ·rw[if_pos h,List.filter_cons_of_pos h];rfl
 ·rw[if_neg h,List.filter_cons_of_neg h];rfl
theorem iA (A B:List Rdr) (r:Rdr):(Cm (A++r::B)).Perm ((r.cx++r.cb)++Cm (A++B)):=by have h:(A++r::B).Perm (r::(A++B)):=B3;refine(gX h).trans ?_;simp[Cm]
theorem iB (A B:List Rdr) (r:Rdr) (ho:r.opn=true):(Eb (A++r::B)).Perm (r.g::Eb (A++B)):=by have h:(A++r::B).Perm (r::(A++B)):=B3;refine(aB h).trans ?_;unfold Eb;rw[List.filter_cons_of_pos ho];exact .refl _
theorem iC (A B:List Rdr) (r:Rdr) (ho:r.opn=false):(Eb (A++r::B)).Perm (Eb (A++B)):=by have h:(A++r::B).Perm (r::(A++B)):=B3;refine(aB h).trans ?_;unfold Eb;rw[List.filter_cons_of_neg (by simp[ho])]
theorem Wp {s k:Nat} {rds:List Rdr} (h:∀r∈rds,r.pos≤r.f.count):rdA s k rds≤((rds.map Rdr.src).map fun r=>Ac s k r.1.count).sum:=by
 induction rds with
 |nil=>simp[rdA]
 |cons r rds ih=>
  have h1:=ih fun q hq=>h q (AF _ hq);have h2:Ac s k r.pos≤Ac s k r.f.count:=Dd (h r AE);simp only[rdA,AZ,DV,Rdr.src] at h1⊢;omega
theorem aD (A B:List Rdr) {r:Rdr} {cx cb:Aa} (h1:r.cx=cx) (h2:r.cb=cb):((cx++cb)++Cm (A++B)).Perm (Cm (A++r::B)):=by subst h1 h2;exact(iA A B r).symm
theorem heap_set {o:T5} {x y:Hd} {tl:List Hd} (h:Ic (ltH o) (x::tl) (x::tl).length 0):Ic (ltH o) (y::tl) (y::tl).length 1:=by
 intro c h1 h2 h3;have e:∀j,0<j→at_ (y::tl) j=at_ (x::tl) j:=fun j hj=>by
  obtain⟨i,rfl⟩:∃i,j=i+1:=⟨j-1,oM⟩
  rfl
 rw[e _ h1,e _ h3];exact h c h1 h2 (AT _)
structure tQ where
 cd:Aa
 ca:Aa
 cs:Aa
 cx:Aa
 cb:Aa
 W:Wk
 rds:List Rdr
 hl:List Hd
 ps:List T5
 last:T5
 sm:Bool
 rest:List Value
structure tT where
 i:Nat
 cnt:Nat
 cd:Aa
 ca:Aa
 W:Wk
 rds:List Rdr
 hl:List Hd
 p:Option Addr
 cap:Nat
 vc:Aa
structure tU (W:Wk) (k:Nat) (o:T5) (once:Bool) (rs:List (Fl×List T5)):Prop where
 k1:1≤k
 k5:k≤5
 two:2≤rs.length
 ok:∀r∈rs,r.1.width=k∧Bg W.δ.disk W.δ.size [r.1.ext] r.1 r.2∧Sd (ltO o) once r.2∧0<r.1.count
 live:∀r∈rs,r.1.ext∈W.live
 room:(rs.length+1)*W.δ.size≤W.α.room-W.α.used
 acts:W.δ.acts≤100000000000
 cnt:(rs.map (·.1.count)).sum≤1000000
def Ci (s k:Nat) (rs:List (Fl×List T5)):Nat:=(rs.map fun r=>Ac s k r.1.count).sum
theorem iD {l:List Nat} {i:Nat}:(l.take i).sum≤l.sum:=by have h:=congrArg List.sum (BT i l);rw[CY] at h;omega
theorem aE {rs:List (Fl×List T5)} (h:∀r∈rs,0<r.1.count):rs.length≤(rs.map (·.1.count)).sum:=by
 induction rs with
 |nil=>simp
 |cons r rs ih=>
  have h1:=ih fun q hq=>h q (AF _ hq);have h2:=h r AE;simp only[AZ,DV,AJ];omega
theorem iE {s k:Nat} (hp:1≤Ad s k) {rs:List (Fl×List T5)}:Ci s k rs≤(rs.map (·.1.count)).sum:=by
 induction rs with
 |nil=>simp[Ci]
 |cons r rs ih=>
  have h2:=En (n:=r.1.count) hp;simp only[Ci,AZ,DV] at ih⊢;omega
theorem tV (bz bw bd ba bs:Nat) (W:Wk) (cd ca cs:Aa) (h:Wc bd ba bs W cd ca cs) (k:Nat) (o:T5) (once:Bool) (rs:List (Fl×List T5)) (ak:tU W k o once rs) (vb off dm:Nat) (cells:List Value) (dp:∀(i:Nat) (r:Fl×List T5),rs[i]? =some r→(cells.drop (off+i*4)).take 4=[Z9 Z8 r.1.first,Z9 Z8 r.1.blocks,Z9 Z8 r.1.width,Z9 Z8 r.1.count]) (p:Option Addr) (n cap:Nat) (last:T5) (sm:Bool):Ct AC 217 [pv bz,.slice (some ⟨vb,off,none⟩) rs.length dm] [Fk bz bw o once p n cap last sm,Ab bw bd ba bs,cd,ca,cs,[(vb,row cells 42)]] fun v H'=> ∃cd' ca' cs' W' last' sm',H'=[Fk bz bw o once p n cap last' sm',Ab bw bd ba bs,cd',ca',cs',[(vb,row cells 42)]]∧Wc bd ba bs W' cd' ca' cs'∧Ev W W' (Ci W.δ.size k rs+Ac W.δ.size k (rs.map (·.1.count)).sum) (Ac W.δ.size k (rs.map (·.1.count)).sum)∧Ax W.live W W'∧W'.α.gs.Perm W.α.gs∧((∃f out,v= .tuple #[flv f,Z9 Z8 0]∧W'.live.Perm (Bc f W.live)∧f.width=k∧0<f.count∧f.count≤(rs.map (·.1.count)).sum∧Bg W'.δ.disk W.δ.size [f.ext] f out∧Sd (ltO o) once out∧Go.Srt.Sp (ltO o) once (rs.flatMap (·.2)) out)∨ (v= .tuple #[flv ⟨0,0,0,0⟩,Z9 Z8 5]∧big W.σ.free<Ac W.δ.size k (rs.map (·.1.count)).sum∧W'.live.Perm W.live)∨ (v= .tuple #[flv ⟨0,0,0,0⟩,Z9 Z8 6]∧W.δ.fault≠-1∧W'.live.Perm W.live)):=by
 obtain⟨⟨iy,kh⟩,kj,kl⟩:=h.dev.num;obtain⟨km,kn,_,ko⟩:=h.ar.num;have ge:=ak.k1;have gf:=ak.k5;have hp:=Bp iy ge gf;have j4:=ak.cnt;have kp:rs.length≤(rs.map (·.1.count)).sum:=aE fun r hr=>(ak.ok r hr).2.2.2;have kq:Ci W.δ.size k rs≤(rs.map (·.1.count)).sum:=iE hp;have j5:=ak.acts;have j6:=ak.two;unfold Fk Li;refine Ct.introD func217 rfl ntmps217 (nle rfl) fun _=>?_;dsimp only[Dg,AD];repeat(first|(refine sv ?_;intros)|refine gD ?_|refine cq hN ?_)
 rename_i b4 bh bc;have iz:=ak.room;have ks:(rs.length+1)*W.δ.size=rs.length*W.δ.size+W.δ.size:=BJ _ _;refine G.loop (X:=tT) (fun x=>x.i≤rs.length∧x.i=x.rds.length∧x.hl.length=x.i∧x.cnt=((rs.take x.i).map (·.1.count)).sum∧Wc bd ba bs x.W x.cd x.ca cs∧Ev W x.W (rdA W.δ.size k x.rds) 0∧x.W.δ.disk=W.δ.disk∧x.W.live=W.live∧x.W.σ=W.σ∧
   x.W.α.gs.Perm (Eb x.rds++W.α.gs)∧x.W.α.used=W.α.used+x.i*W.δ.size∧x.rds.map Rdr.src=rs.take x.i∧(∀r∈x.rds,r.opn=true∧r.pos=1)∧MSt bw x.W o x.rds x.hl∧Vec 243 7 x.p x.i x.cap (hcells x.hl) x.vc)
  (fun x=>[(30,Z9 Z8 x.i),(7,Z9 Z8 x.cnt),(28,.slice (some ⟨vb,off,none⟩) rs.length dm),(29,Z9 Z8 rs.length),(6,pv bc),(4,pv b4),(0,pv bz),(1,.slice (some ⟨vb,off,none⟩) rs.length dm)])
  (fun x=>[[(b4,row [Z9 Z8 0,Z9 Z8 0,Z9 Z8 0,Z9 Z8 0] 42)],[(bc,row [pv bh] 238)],[(bh,row [.slice x.p x.i x.cap,Z9 Z8 o.c0,Z9 Z8 o.c1,Z9 Z8 o.c2,Z9 Z8 o.c3,Z9 Z8 o.c4] 241)],x.vc,Ab bw bd ba bs,x.cd,x.ca,cs,Cm x.rds,[(vb,row cells 42)],[(bz,row [pv bw,Z9 Z8 o.c0,Z9 Z8 o.c1,Z9 Z8 o.c2,Z9 Z8 o.c3,Z9 Z8 o.c4,.bool once,.slice p n cap,Z9 Z8 last.c0,Z9 Z8 last.c1,Z9 Z8 last.c2,Z9 Z8 last.c3,Z9 Z8 last.c4,.bool sm] 200)]])
  (fun x=>rs.length-x.i) ⟨0,0,cd,ca,W,[],[],none,0,[]⟩
  ⟨AT _,rfl,rfl,by simp,h,Ev.refl W,rfl,rfl,rfl,.refl _,by simp,by simp,by simp,MSt.nil _ _ _,Vec.nil _ _⟩ oA7 oA3 ?_
 rintro⟨i,cnt,fd,gg,W1,rds,hl,p1,ae,vc⟩ ⟨hi,em,gh,hct,d7,be,da,db,fg,dq,c6,aq,bq,dr,fh⟩;dsimp only at hi em gh hct d7 be da db fg dq c6 aq bq dr fh⊢;subst gh;have au:=be.size;have en:W1.α.room=W.α.room:=be.room;have j7:=be.acts;have b9:=fun (W':Wk) (cd' ca' cs':Aa) (i0:Wc bd ba bs W' cd' ca' cs') (l:List Hd) (p:Option Addr) (cap:Nat) (vc:Aa) (hV:Vec 243 7 p l.length cap (hcells l) vc) (cg:l.length≤1000000) (rs:List Rdr) (eo:List Gr) (hg:W'.α.gs.Perm (Eb rs++eo)) (hC:CSt bw W' rs l)=>
  tI bc bh bw bd ba bs W' cd' ca' cs' i0 o l p cap vc hV cg rs eo hg hC.rd hC.lr hC.rl hC.nd
 unfold Wn Wo at b9;have j8:rdA W.δ.size k rds≤Ci W.δ.size k rs:=by
  refine Nat.le_trans (Wp fun r hr=>?_) ?_
  ·have h1:r.src∈rs.take hl.length:=by rw[←aq];exact AO.2 ⟨r,hr,rfl⟩
   have h2:=(ak.ok _ (List.mem_of_mem_take h1)).2.2.2;have h3:=(bq r hr).2;unfold Rdr.src at h2;dsimp only at h2;omega
  ·rw[aq,List.map_take];exact iD
 by_cases ds:hl.length<rs.length
 ·have fi:rs[hl.length]? =Option.some rs[hl.length]:=AG ds;have i1:=dp hl.length _ fi;obtain⟨bf,av,dt,du⟩:=ak.ok _ (B7 ds);have bu:=ak.live _ (B7 ds);have gi:(hl.length+1)*W.δ.size≤rs.length*W.δ.size:=Nat.mul_le_mul_right _ oM;rw[BJ] at gi;have fj:((rs.take (hl.length+1)).map (·.1.count)).sum=((rs.take hl.length).map (·.1.count)).sum+rs[hl.length].1.count:=by rw[BP,fi,AY,CY];simp
  have gj:rs.take (hl.length+1)=rs.take hl.length++[rs[hl.length]]:=by rw[BP,fi];rfl
  have j9:((rs.take (hl.length+1)).map (·.1.count)).sum≤(rs.map (·.1.count)).sum:=by rw[List.map_take];exact iD
  generalize i2:rs[hl.length]=r at*;obtain⟨f,ts⟩:=r;dsimp only at i1 bf av dt du bu fj;have gk:Bg W1.δ.disk W1.δ.size [f.ext] f ts:=by rw[da,au];exact av
  have gl:=Ox bw bd ba bs W1 fd gg cs d7 f ts [f.ext] gk (by rw[au,en,c6];omega);have dw:flv f= .agg #[Z9 Z8 f.first,Z9 Z8 f.blocks,Z9 Z8 f.width,Z9 Z8 f.count]:=rfl;rw[dw] at gl;repeat(first|(refine sv ?_;intros)|refine gD ?_|refine cq hN ?_)
  refine cL gl ?_;rintro _ _ ⟨bx,g,i3,α2,cx,cb,rfl,rfl,i4,dc,fk,gm,i5⟩;try dsimp only[AA,AB]
  repeat(first|(refine sv ?_;intros)|refine gD ?_|refine cq hN ?_)
  have i6:=av.len;have gp:ts[0]? =Option.some ts[0]:=AG oM;have dx:=Qg bw bd ba bs {W1 with α:=α2} fd i3 cs i4 bx f ts [f.ext] (by dsimp only;exact gk) (by dsimp only;rw[db];simpa using bu) g (Eb rds++W.α.gs) (fk.trans (dq.cons _)) 0 cx cb i5 _ gp oD;have fm:tv ts[0]= .agg #[Z9 Z8 (ts[0]).c0,Z9 Z8 (ts[0]).c1,Z9 Z8 (ts[0]).c2,Z9 Z8 (ts[0]).c3,Z9 Z8 (ts[0]).c4]:=rfl;have hz:tv T5.zero= .agg #[Z9 Z8 T5.zero.c0,Z9 Z8 T5.zero.c1,Z9 Z8 T5.zero.c2,Z9 Z8 T5.zero.c3,Z9 Z8 T5.zero.c4]:=rfl;rw[fm,hz] at dx;generalize ht:ts[0]=t at*;refine cL dx ?_;rintro _ _ ⟨a0,dd,W3,a5,bv,rfl,ci,aw,gq,i7,gr,⟨rfl,gt,i8⟩|⟨rfl,gu,kt,i9,ja⟩⟩;try dsimp only[AA,AB]
  ·have e1:AL .i64 ((cnt:Int)+(f.count:Int))=((cnt+f.count:Nat):Int):=by rw[Ah oM];rfl
   have e2:AL .i64 ((hl.length:Int)+1)=((hl.length+1:Nat):Int):=by rw[Ah oM];rfl
   have ku:=i2;repeat(first|(refine sv ?_;intros)|refine gD ?_|refine cq hN ?_)
   rename_i p' gx c' jb;apply Dn.nodup;intro jc;have jd:=tL (c1:=a5) (c2:=Cm rds) jc (by(repeat(first|exact Ae.here|apply Ae.there))) (by(repeat(first|exact Ae.here|apply Ae.there)));apply Dn.join (c1:=a5) (c2:=bv)
   ·(repeat(first|exact Ae.here|apply Ae.there))
   ·(repeat(first|exact Ae.here|apply Ae.there))
   apply Dn.join (c1:=Cm rds) (c2:=a5++bv)
   ·(repeat(first|exact Ae.here|apply Ae.there))
   ·(repeat(first|exact Ae.here|apply Ae.there))
   have gy:Df bw bx W3 f ts g 1 a5 bv:=i8;have ep:Eh bw W3 ⟨bx,f,ts,g,1,true,a5,bv⟩:=by unfold Eh;rw[if_pos rfl];exact gy
   have ai:=(be.trans dc).trans aw;rw[show Cm rds++(a5++bv)=Cm (rds++[⟨bx,f,ts,g,1,true,a5,bv⟩]) by simp[Cm]];refine Dn.round ⟨hl.length+1,cnt+f.count,a0,dd,W3,rds++[⟨bx,f,ts,g,1,true,a5,bv⟩],hl++[⟨t,hl.length,bx⟩],p',gx,c'⟩ ⟨ds,by dsimp only;rw[AH,CQ];omega,by dsimp only;rw[AH,CQ],oD,ci,?_,gq.trans da,gr.trans db,i7.trans fg,?_,?_,?_,?_,?_,?_⟩ oD
   ·have h0:Ac W.δ.size k 0=0:=Ry hp;have:=ai;rw[bf] at this;dsimp only at this⊢;rw[tO];refine this.weak ?_ (AI _);show _+0+(Ac W1.δ.size k (0+1)-Ac W1.δ.size k 0)≤_+Ac W.δ.size k 1;rw[au,h0,BR];omega
   ·dsimp only;rw[gt,tP,if_pos rfl];refine(fk.trans (dq.cons _)).trans ?_;rw[AV];exact B3.symm
   ·have e3:=ci.ar.num.2.2.2;have e4:=d7.ar.num.2.2.2;dsimp only at gm⊢;rw[e3,gt,(fk.map (·.n)).sum_nat,AZ,DV,←e4,gm,c6,au,BJ];omega
   ·dsimp only;rw[AY,aq,gj];rfl
   ·intro r hr;rcases AR.1 hr with hr|hr
    ·exact bq r hr
    ·simp only[AX] at hr;subst hr;exact⟨rfl,rfl⟩
   ·have je:bx∉rds.map (·.bx):=tM (W:=W3) (fun r hr=>(dr.rd r hr).move (by rw[aw.size,dc.size])) (jd bx (by have:=ep.bx_mem;exact this));have:=dr.add (W':=W3) (r:=⟨bx,f,ts,g,1,true,a5,bv⟩) (t:=t) (by rw[aw.size,dc.size]) ep rfl Nat.one_pos gp je (tN dt);rw[←em] at this;exact this
   ·rw[gT];exact jb
  ·have fp:=fU bx a5 ja;repeat(first|(refine sv ?_;intros)|refine gD ?_|refine cq hN ?_)
   refine cL fp ?_;rintro _ _ ⟨rfl,rfl⟩;try dsimp only[AA,AB]
   repeat(first|(refine sv ?_;intros)|refine gD ?_|refine cq hN ?_)
   have fq:=b9 W3 a0 dd cs ci hl p1 ae vc fh oM rds W.α.gs i9 (dr.cst.move (by rw[aw.size,dc.size]));refine Go.SL.Lv.call (hc:=fq.2) (h:=?_);rintro _ _ ⟨b2,α4,jf,rfl,rfl,cj,aj,b3⟩;try dsimp only[AA,AB]
   have ai:=be.trans dc;have gz:=aw;(refine lN [[(bz,row [pv bw,Z9 Z8 o.c0,Z9 Z8 o.c1,Z9 Z8 o.c2,Z9 Z8 o.c3,Z9 Z8 o.c4,.bool once,.slice p n cap,Z9 Z8 last.c0,Z9 Z8 last.c1,Z9 Z8 last.c2,Z9 Z8 last.c3,Z9 Z8 last.c4,.bool sm] 200)],Ab bw bd ba bs,a0,b2,cs,[(vb,row cells 42)]] ?_;refine⟨a0,b2,cs,_,last,sm,rfl,cj,?_,?_,b3,.inr (.inr ⟨rfl,?_,?_⟩)⟩)
   ·have h5:=(ai.trans gz).trans aj;rw[bf] at h5;refine h5.weak ?_ (AT _);show _+0+(Ac W1.δ.size k (0+1)-Ac W1.δ.size k 0)+0≤_;rw[au,BR];have h6:Ac W.δ.size k 1≤Ac W.δ.size k (rs.map (·.1.count)).sum:=Dd oM;omega
   ·exact fun x _=>by show W3.δ.disk x=_;rw[gq];dsimp only;rw[da]
   ·intro e;have:=(be.trans dc).fault e;dsimp only at this gu;omega
   ·show W3.live.Perm W.live;rw[gr];dsimp only;rw[db]
 ·obtain cg:hl.length=rs.length:=by omega
  have fj:rs.take hl.length=rs:=by rw[cg,EJ]
  rw[fj] at hct aq;obtain⟨_,h0|⟨hb,rest,rfl,rfl,fr,kv,g0⟩⟩:=fh
  ·omega
  have g1:=tE bh hb ae o hl rest oM;unfold Cq Mh at g1;repeat(first|(refine sv ?_;intros)|refine gD ?_|refine cq hN ?_)
  refine cL g1 ?_;rintro _ _ ⟨de,rfl,rfl,g2,jg⟩;try dsimp only[AA,AB]
  have kw:cells[off+Int.toNat 0+2]? =Option.some (Z9 Z8 k):=by
   have h0:rs[0]? =Option.some rs[0]:=AG oM;have h1:=dp 0 _ h0;have h2:=(ak.ok _ (B7 (show 0<rs.length by omega))).1;have h3:((cells.drop (off+0*4)).take 4)[2]? =Option.some (Z9 Z8 (rs[0].1.width:Int)):=by rw[h1];rfl
   rw[List.getElem?_take_of_lt oM,BU] at h3;rw[←h2];simpa using h3
  have g3:=dr.permH g2;have et:de.length=rs.length:=by rw[g2.length_eq,cg]
  have g4:=Qh bw bd ba bs W1 fd gg cs d7 k cnt ge gf oM (by rw[au,en,c6,cg];omega);rw[au] at g4;repeat(first|(refine sv ?_;intros)|refine gD ?_|refine cq hN ?_)
  apply R.call
  ·exact rfl
  ·exact g4
  ·exact oA4
  ·exact rfl
  ·exact nle rfl
  rintro _ _ (⟨ka,bx,first,gw,a0,dd,dy,W3,cx,cb,rfl,rfl,ci,aw,e3,e4,e5,e6,e7⟩|⟨ft,rfl,a0,dd,dy,W3,rfl,ci,aw,e3,e4,e5⟩)
  ·dsimp only[AA,AB];repeat(first|(refine sv ?_;intros)|refine gD ?_|refine cq hN ?_)
   have c7:left rds=rs.flatMap (·.2):=by unfold left;rw[←aq,List.flatMap_map,List.flatMap];refine congrArg List.flatten (CN fun r hr=>?_);obtain⟨h1,h2⟩:=bq r hr;unfold Gl Rdr.src;rw[if_pos h1,h2];rfl
   refine G.loop (X:=tQ) (fun x=>Wc bd ba bs x.W x.cd x.ca x.cs∧Ev W x.W (rdA W.δ.size k x.rds+x.ps.length/Ad W.δ.size k) (Ac W.δ.size k cnt)∧Ax W.live W x.W∧Bn first (Ac W.δ.size k cnt) W.live x.W.live∧x.W.α.gs.Perm (gw::(Eb x.rds++W.α.gs))∧
     MSt bw x.W o x.rds x.hl∧Ic (ltH o) x.hl x.hl.length 0∧Em o once (rs.flatMap (·.2)) x.ps (left x.rds)∧Dr bw bx x.W first (Ac W.δ.size k cnt) k cnt gw x.ps x.cx x.cb∧Me x.ps x.last x.sm∧
     x.rds.map Rdr.src=rs∧(∀r∈x.rds,r.pos≤r.f.count)∧x.ps.length+(left x.rds).length≤cnt∧ae*7≤x.hl.length*7+x.rest.length∧x.hl.length≤rs.length)
    (fun _=>[(14,pv bx),(6,pv bc),(4,pv b4),(0,pv bz)])
    (fun x=>[Ab bw bd ba bs,x.cd,x.ca,x.cs,x.cx,x.cb,[(bh,row [.slice (some ⟨hb,0,none⟩) x.hl.length ae,Z9 Z8 o.c0,Z9 Z8 o.c1,Z9 Z8 o.c2,Z9 Z8 o.c3,Z9 Z8 o.c4] 241)],[(hb,row (hcells x.hl++x.rest) 243)],
     [(b4,row [Z9 Z8 0,Z9 Z8 0,Z9 Z8 0,Z9 Z8 0] 42)],[(bc,row [pv bh] 238)],Cm x.rds,[(vb,row cells 42)],[(bz,row [pv bw,Z9 Z8 o.c0,Z9 Z8 o.c1,Z9 Z8 o.c2,Z9 Z8 o.c3,Z9 Z8 o.c4,.bool once,.slice p n cap,Z9 Z8 x.last.c0,Z9 Z8 x.last.c1,Z9 Z8 x.last.c2,Z9 Z8 x.last.c3,Z9 Z8 x.last.c4,.bool x.sm] 200)]])
    (fun x=>(left x.rds).length) ⟨a0,dd,dy,cx,cb,W3,rds,de,[],last,false,rest⟩
    ⟨ci,?_,?_,?_,?_,?_,?_,?_,?_,?_,?_,?_,?_,?_,?_⟩ (body:=?_)
   ·exact(be.trans aw).weak (by dsimp only;simp) oM
   ·exact fun y _=>by show W3.δ.disk y=_;rw[e3,da]
   ·dsimp only;rw[←db];exact e6
   ·exact e4.trans (dq.cons _)
   ·exact g3.move aw.size
   ·exact jg
   ·dsimp only;rw[c7];exact Em.start (Go.Srt.Sp.refl _ _)
   ·exact e7
   ·rfl
   ·exact aq
   ·intro r hr;dsimp only at hr;have h1:r.src∈rs:=by rw[←aq];exact AO.2 ⟨r,hr,rfl⟩
    have h2:=(ak.ok _ h1).2.2.2;have h3:=(bq r hr).2;unfold Rdr.src at h2;dsimp only at h2;omega
   ·dsimp only;rw[c7,hct,AS,BR,List.length_flatMap];refine Nat.le_of_eq (congrArg List.sum (CN fun r hr=>(ak.ok r hr).2.1.len))
   ·dsimp only;rw[Ns] at fr;rw[et,←cg];exact fr
   ·dsimp only;omega
   rintro⟨g5,b2,g6,g7,g8,W4,a8,bg,ac,ab,dz,ad⟩ ⟨cj,ai,d0,a6,b3,ax,d8,df,fu,eu,al,ah,bi,bk,c8⟩;dsimp only at cj ai d0 a6 b3 ax d8 df fu eu al ah bi bk c8⊢;have hN:=Wj bh hb ae o bg ad;unfold Cq at hN;have d9:Vec 243 7 (some ⟨hb,0,none⟩) bg.length ae (hcells bg) [(hb,row (hcells bg++ad) 243)]:=⟨by rw[Ns],.inr ⟨hb,ad,rfl,rfl,by rw[Ns];exact bk,oM,g0⟩⟩
   by_cases d1:0<bg.length
   ·obtain⟨x,tl,rfl⟩:∃x tl,bg=x::tl:=by
     cases bg with
     |nil=>simp at d1
     |cons x tl=>exact⟨x,tl,rfl⟩
    obtain⟨a1,a2,a3,a4⟩:=Qi (rest:=ad) d1;obtain⟨A,r,B,rfl,hA,ho,fv,kx,fw,b5,fx,fy⟩:=ax.top d1 d8;have jh:at_ (x::tl) 0=x:=rfl
    rw[jh] at a4 hA fv fw b5 fx fy;obtain⟨xt,kc,ky⟩:=x;dsimp only at hA fv fw b5 fx fy;subst hA fv;unfold Hd.cells at a4;dsimp only at a4;have ew:r.src∈rs:=by rw[←al];exact AO.2 ⟨r,by simp,rfl⟩
    obtain⟨bf,av,dt,du⟩:=ak.ok _ ew;have bu:=ak.live _ ew;unfold Rdr.src at bf av dt du bu;dsimp only at bf av dt du bu;have i6:=av.len;have ji:=ah r oA19;have jj:xt∈r.ts:=A0 fw;have a9:=ai.size;have g9:=ai.acts;have ha:ac.length<cnt:=by have:=congrArg List.length (Ug A B r);rw[b5] at this;simp only[AH,AJ] at this;omega
    have jk:ac.length/Ad W.δ.size k≤ac.length:=CZ _ _;have hh:rdA W.δ.size k (A++r::B)≤Ci W.δ.size k rs:=by rw[←al];exact Wp ah
    have ea:=gQ bz bw bd ba bs W4 g5 b2 g6 cj bx first _ k cnt gw ac g7 g8 fu _ b3 W.live a6 ha xt (by rw[←bf];exact av.fit _ jj) oM o once p n cap ab dz eu
    unfold Fk Li at ea;rw[a9] at ea;have fm:tv xt= .agg #[Z9 Z8 xt.c0,Z9 Z8 xt.c1,Z9 Z8 xt.c2,Z9 Z8 xt.c3,Z9 Z8 xt.c4]:=rfl;rw[fm] at ea;repeat(first|(refine sv ?_;intros)|refine gD ?_|refine cq hN ?_)
    refine cL ea ?_;rintro _ _ ⟨ao,dg,am,W5,b6,d2,aa,dh,rfl,di,aj,d3,⟨rfl,e8,e9,a7,cm,eb⟩|⟨rfl,e8,e9,a7,cm,eb⟩⟩;try dsimp only[AA,AB]
    ·have ay:=aj.size;have kd:=aj.acts;have hj:=Wf o once ac xt;have f0:=Em.merge (A:=A.map Gl) (B:=B.map Gl) (t:=xt) (r:=r.ts.drop r.pos) (by have:=df;unfold left at this;rw[AY,AZ,b5] at this;exact this) fx fy (by rw[←b5];exact aC (ax.sd r oA19));have ke:(Ea o once ac xt).length/Ad W.δ.size k≤(Ea o once ac xt).length:=CZ _ _;have kf:ac.length/Ad W.δ.size k≤(Ea o once ac xt).length/Ad W.δ.size k:=B8 hj.1;have c9:=d0.trans d3;have hs:(Ea o once ac xt).length/Ad W.δ.size k≤Ac W.δ.size k cnt:=by unfold Ac;exact B8 oM
     have hu:r.pos<r.ts.length→rdA W.δ.size k A+(Ac W.δ.size k (r.pos+1)+rdA W.δ.size k B)≤Ci W.δ.size k rs:=fun ds=>by
      have h1:=Wp (s:=W.δ.size) (k:=k) (rds:=A++{r with pos:=r.pos+1}::B) (fun q hq=>by
       rcases AR.1 hq with hq|hq
       ·exact ah q (BO _ hq)
       ·rcases AN.1 hq with rfl|hq
        ·dsimp only;omega
        ·exact ah q (BN _ (AF _ hq)))
      rw[Sk] at h1;have h2:(A++{r with pos:=r.pos+1}::B).map Rdr.src=rs:=by rw[←al,AY,AY];rfl
      rw[h2] at h1;exact h1
     have d4:=ax.rd r oA19;unfold Eh at d4;rw[if_pos ho] at d4;have dj:W5.α.gs.Perm (r.g::gw::(Eb (A++B)++W.α.gs)):=by rw[e8];refine b3.trans ?_;refine(((iB A B r ho).append_right _).cons _).trans ?_;exact CT _ _ _
     have hv:Bg W5.δ.disk W5.δ.size [r.f.ext] r.f r.ts:=by rw[ay,a9];exact av.keep fun y hy=>c9 y (by obtain⟨e,he,h2⟩:=hy;simp only[AX] at he;subst he;exact⟨_,bu,h2⟩)
     have hw:∀e∈[r.f.ext],e∈W5.live:=by
      intro e he;simp only[AX] at he;subst he;rw[a7];unfold Bn at a6;split at a6
      ·exact a6.mem_iff.2 bu
      ·exact a6.mem_iff.2 (AF _ bu)
     have hz:tv T5.zero= .agg #[Z9 Z8 T5.zero.c0,Z9 Z8 T5.zero.c1,Z9 Z8 T5.zero.c2,Z9 Z8 T5.zero.c3,Z9 Z8 T5.zero.c4]:=rfl;have f1:Df bw r.bx W5 r.f r.ts r.g r.pos r.cx r.cb:=d4.move ay;repeat(first|(refine sv ?_;intros)|refine gD ?_|refine cq hN ?_)
     apply R1.open (iA A B r)
     ·(repeat(first|exact Ae.here|apply Ae.there))
     apply R1.open (c:=r.cx++r.cb) (c1:=r.cx) (c2:=r.cb) (.refl _)
     ·(repeat(first|exact Ae.here|apply Ae.there))
     by_cases ey:r.pos<r.ts.length
     ·have h4:r.ts[r.pos]? =Option.some r.ts[r.pos]:=AG ey;have dx:=Qg bw bd ba bs W5 ao dg am di r.bx r.f r.ts [r.f.ext] hv hw r.g _ dj r.pos r.cx r.cb f1 _ h4 oM;have h9:tv r.ts[r.pos]= .agg #[Z9 Z8 (r.ts[r.pos]).c0,Z9 Z8 (r.ts[r.pos]).c1,Z9 Z8 (r.ts[r.pos]).c2,Z9 Z8 (r.ts[r.pos]).c3,Z9 Z8 (r.ts[r.pos]).c4]:=rfl;rw[h9,hz] at dx;generalize k0:r.ts[r.pos]=yt at*;refine cL dx ?_;rintro _ _ ⟨ie,ig,W6,dk,dl,rfl,ih,ec,ee,k2,ez,⟨rfl,jl,jm⟩|⟨rfl,k3,k4,jn,jp⟩⟩;try dsimp only[AA,AB]
      ·have jq:Bs (hcells (⟨xt,A.length,r.bx⟩::tl)++ad) 0 [Z9 Z8 yt.c0,Z9 Z8 yt.c1,Z9 Z8 yt.c2,Z9 Z8 yt.c3,Z9 Z8 yt.c4]=hcells (⟨yt,A.length,r.bx⟩::tl)++ad:=by simp[hcells,Hd.cells,Bs]
       have jr:5≤(hcells (⟨xt,A.length,r.bx⟩::tl)++ad).length:=by rw[AH,Ns,AJ];omega
       have ii:=Fix_ct bh hb ae o (⟨yt,A.length,r.bx⟩::tl) ad (by rw[AJ] at c8⊢;omega) (heap_set d8);unfold Cq Mh at ii;repeat(first|(refine sv ?_;intros)|refine gD ?_|refine cq hN ?_)
       refine cL ii ?_;rintro _ _ ⟨f2,rfl,rfl,ef,f3⟩;try dsimp only[AA,AB]
       repeat(first|(refine sv ?_;intros)|refine gD ?_|refine cq hN ?_)
       apply Dn.join (c1:=dk) (c2:=dl)
       ·(repeat(first|exact Ae.here|apply Ae.there))
       ·(repeat(first|exact Ae.here|apply Ae.there))
       obtain⟨r6,an⟩:∃r6:Rdr,r6={r with pos:=r.pos+1,cx:=dk,cb:=dl}:=⟨_,rfl⟩
       apply Dn.joinP (c:=Cm (A++r6::B)) (c1:=dk++dl) (c2:=Cm (A++B)) (aD A B (by rw[an]) (by rw[an]))
       ·(repeat(first|exact Ae.here|apply Ae.there))
       ·(repeat(first|exact Ae.here|apply Ae.there))
       have b7:=ec.size;have eg:r6.opn=true:=by rw[an];exact ho
       have eh:r6.pos=r.pos+1:=by rw[an]
       have ei:r6.ts=r.ts:=by rw[an]
       have ij:r6.f=r.f:=by rw[an]
       have js:r6.bx=r.bx:=by rw[an]
       have jt:r6.g=r.g:=by rw[an]
       have ik:Eh bw W6 r6:=by unfold Eh;rw[if_pos eg,an];exact jm
       have d5:Gl r6=r.ts.drop r.pos:=by unfold Gl;rw[if_pos eg,eh,ei,CG]
       have il:=ef.length_eq;rw[AJ] at il c8 bk;have f4:(left (A++r6::B)).length+1=(left (A++r::B)).length:=by rw[Ug,Ug,d5,b5];simp only[AH,AJ];omega
       refine Dn.round ⟨ie,ig,am,b6,d2,W6,A++r6::B,f2,Ea o once ac xt,aa,dh,ad⟩ ⟨ih,?_,c9.trans fun y _=>by rw[ee],by rw[ez,a7];exact a6,?_,?_,f3,?_,cm.move b7 fun y _ _=>by rw[ee],eb,?_,?_,?_,?_,?_⟩ oD
       ·have h7:=(ai.trans aj).trans ec;rw[ay,a9,bf] at h7;refine h7.weak ?_ (AI _);dsimp only;rw[Sk,Sk,eh];have:=Dd (s:=W.δ.size) (k:=k) (show r.pos≤r.pos+1 by omega);omega
       ·dsimp only;rw[jl];refine dj.trans ((CT _ _ _).trans (List.Perm.cons _ ?_));have:=(iB A B r6 eg).symm.append_right W.α.gs;rw[jt] at this;exact this
       ·exact(ax.step rfl (by rw[b7,ay]) ik js rfl ei eg oM (by rw[ei,eh,CG];exact h4)).permH ef
       ·dsimp only;unfold left;rw[AY,AZ,d5];exact f0
       ·dsimp only;rw[←al,AY,AY,AZ,AZ];unfold Rdr.src;rw[ei,ij]
       ·intro q hq;dsimp only at hq;rcases AR.1 hq with hq|hq
        ·exact ah q (BO _ hq)
        ·rcases AN.1 hq with rfl|hq
         ·rw[eh,ij];omega
         ·exact ah q (BN _ (AF _ hq))
       ·dsimp only;omega
       ·dsimp only;omega
       ·dsimp only;omega
      ·obtain⟨rc,ag⟩:∃rc:Rdr,rc={r with opn:=false,cx:=dk,cb:=dl}:=⟨_,rfl⟩
       have bp:rc.opn=false:=by rw[ag]
       have b8:Eh bw W6 rc:=by unfold Eh;rw[if_neg (by rw[bp];simp),ag];exact jp
       apply R.join (c1:=dk) (c2:=dl)
       ·(repeat(first|exact Ae.here|apply Ae.there))
       ·(repeat(first|exact Ae.here|apply Ae.there))
       apply R.joinP (c:=Cm (A++rc::B)) (c1:=dk++dl) (c2:=Cm (A++B)) (aD A B (by rw[ag]) (by rw[ag]))
       ·(repeat(first|exact Ae.here|apply Ae.there))
       ·(repeat(first|exact Ae.here|apply Ae.there))
       have b7:=ec.size;have ju:Dr bw bx W6 first (Ac W.δ.size k cnt) k cnt gw (Ea o once ac xt) b6 d2:=cm.move b7 fun y _ _=>by rw[ee]
       have jv:=Zp bw bd ba bs W6 ie ig am ih bx first _ k cnt gw _ b6 d2 ju _ jn W.live (by rw[ez,a7];exact a6)
       repeat(first|(refine sv ?_;intros)|refine gD ?_|refine cq hN ?_)
       refine Go.SL.Lv.call (hc:=jv.2) (h:=?_);rintro _ _ ⟨f5,f9,ga,W7,ej,k6,rfl,rfl,gb,ek,jw,gc,jx,im⟩;try dsimp only[AA,AB]
       have cu:=b9 W7 f5 f9 ga gb _ _ ae _ d9 oM (A++rc::B) W.α.gs (gc.trans ((iC A B rc bp).symm.append_right _)) ((ax.cst.move (W':=W5) ay).one (by rw[ek.size,b7]) (by unfold Eh at b8⊢;rw[if_neg (by rw[bp];simp)] at b8⊢;exact b8) (by rw[ag]) bp);refine Go.SL.Lv.call (hc:=cu.2) (h:=?_);rintro _ _ ⟨az,α8,gd,rfl,rfl,cw,cz,c5⟩;try dsimp only[AA,AB]
       (refine lN [[(bz,row [pv bw,Z9 Z8 o.c0,Z9 Z8 o.c1,Z9 Z8 o.c2,Z9 Z8 o.c3,Z9 Z8 o.c4,.bool once,.slice p n cap,Z9 Z8 aa.c0,Z9 Z8 aa.c1,Z9 Z8 aa.c2,Z9 Z8 aa.c3,Z9 Z8 aa.c4,.bool dh] 200)],Ab bw bd ba bs,f5,az,ga,[(vb,row cells 42)]] ?_;refine⟨f5,az,ga,_,aa,dh,rfl,cw,?_,?_,c5,.inr (.inr ⟨rfl,?_,jx⟩)⟩)
       ·have h7:=(((ai.trans aj).trans ec).trans ek).trans cz;rw[ay,a9,bf] at h7;rw[←hct];refine h7.weak ?_ (AI _);have h8:=hu ey;rw[Sk];have:=Dd (s:=W.δ.size) (k:=k) (show r.pos≤r.pos+1 by omega);omega
       ·exact fun y hy=>by show W7.δ.disk y=_;rw[jw];rw[ee];exact c9 y hy
       ·intro e;have:=(ai.trans aj).fault e;omega
     ·have jy:r.pos=r.f.count:=oM;have io:=Sb bw r.bx W5 r.f r.ts r.g r.cx r.cb (by rw[←jy];exact f1);rw[hz] at io;refine cL io ?_;rintro _ _ ⟨rfl,rfl⟩;try dsimp only[AA,AB]
      have ip:=tG bh hb ae o (⟨xt,A.length,r.bx⟩::tl) ad oM oM d1 d8;unfold Cq Mh at ip;have fp:=Vv bw bd ba bs W5 ao dg am di r.bx r.f r.ts r.g _ dj r.pos r.cx r.cb f1;repeat(first|(refine sv ?_;intros)|refine gD ?_|refine cq hN ?_)
      refine cL ip ?_;rintro _ _ ⟨f2,y6,rfl,jz,rfl,ef,ir,f3⟩;try dsimp only[AA,AB]
      have j0:y6=⟨xt,A.length,r.bx⟩:=jz;subst j0;repeat(first|(refine sv ?_;intros)|refine gD ?_|refine cq hN ?_)
      refine cL fp ?_;rintro _ _ ⟨f9,α7,ej,rfl,rfl,gb,ek,gc,im⟩;try dsimp only[AA,AB]
      repeat(first|(refine sv ?_;intros)|refine gD ?_|refine cq hN ?_)
      obtain⟨rc,ag⟩:∃rc:Rdr,rc={r with opn:=false,cx:=ej}:=⟨_,rfl⟩
      have bp:rc.opn=false:=by rw[ag]
      have e0:rc.ts=r.ts:=by rw[ag]
      have fa:rc.f=r.f:=by rw[ag]
      have fb:rc.pos=r.pos:=by rw[ag]
      have iu:rc.bx=r.bx:=by rw[ag]
      have b8:Eh bw {W5 with α:=α7} rc:=by unfold Eh;rw[if_neg (by rw[bp];simp),ag];exact im
      apply Dn.join (c1:=ej) (c2:=r.cb)
      ·(repeat(first|exact Ae.here|apply Ae.there))
      ·(repeat(first|exact Ae.here|apply Ae.there))
      apply Dn.joinP (c:=Cm (A++rc::B)) (c1:=ej++r.cb) (c2:=Cm (A++B)) (aD A B (by rw[ag]) (by rw[ag]))
      ·(repeat(first|exact Ae.here|apply Ae.there))
      ·(repeat(first|exact Ae.here|apply Ae.there))
      have d6:Gl rc=[]:=by unfold Gl;rw[bp];rfl
      have j1:r.ts.drop r.pos=[]:=List.drop_of_length_le oM;rw[j1] at f0 b5;have f4:(left (A++rc::B)).length+1=(left (A++r::B)).length:=by rw[Ug,Ug,d6,b5];simp only[AH,AJ,AS];omega
      rw[AJ] at ir c8 bk;have iv:=(ai.trans aj).trans ek;refine Dn.round ⟨ao,f9,am,b6,d2,{W5 with α:=α7},A++rc::B,f2,Ea o once ac xt,aa,dh,Hd.cells ⟨xt,A.length,r.bx⟩++ad⟩ ⟨gb,?_,c9,by dsimp only;rw[a7];exact a6,?_,?_,f3,?_,cm.move rfl fun _ _ _=>rfl,eb,?_,?_,?_,?_,?_⟩ oD
      ·refine iv.weak ?_ (AI _);dsimp only;rw[Sk,Sk,fb];omega
      ·dsimp only;exact gc.trans (((iC A B rc bp).symm.append_right _).cons _)
      ·refine(MSt.close (W':={W5 with α:=α7}) (ax.permH ef) rfl ay b8 iu e0 bp)
      ·dsimp only;unfold left;rw[AY,AZ,d6];exact f0
      ·dsimp only;rw[←al,AY,AY,AZ,AZ];unfold Rdr.src;rw[e0,fa]
      ·intro q hq;dsimp only at hq;rcases AR.1 hq with hq|hq
       ·exact ah q (BO _ hq)
       ·rcases AN.1 hq with rfl|hq
        ·rw[fb,fa];omega
        ·exact ah q (BN _ (AF _ hq))
      ·dsimp only;omega
      ·dsimp only;rw[AH,show(Hd.cells ⟨xt,A.length,r.bx⟩).length=7 from rfl];omega
      ·dsimp only;omega
    ·repeat(first|(refine sv ?_;intros)|refine gD ?_|refine cq hN ?_)
     refine Go.SL.Lv.call (hc:=(Ow bx b6 eb).2) (h:=?_);rintro _ _ ⟨rfl,rfl⟩;try dsimp only[AA,AB]
     have cu:=b9 W5 ao dg am di _ _ ae _ d9 oM (A++r::B) W.α.gs a7 (ax.cst.move aj.size);refine Go.SL.Lv.call (hc:=cu.2) (h:=?_);rintro _ _ ⟨az,α8,gd,rfl,rfl,cw,cz,c5⟩;try dsimp only[AA,AB]
     (refine lN [[(bz,row [pv bw,Z9 Z8 o.c0,Z9 Z8 o.c1,Z9 Z8 o.c2,Z9 Z8 o.c3,Z9 Z8 o.c4,.bool once,.slice p n cap,Z9 Z8 aa.c0,Z9 Z8 aa.c1,Z9 Z8 aa.c2,Z9 Z8 aa.c3,Z9 Z8 aa.c4,.bool dh] 200)],Ab bw bd ba bs,ao,az,am,[(vb,row cells 42)]] ?_;refine⟨ao,az,am,_,aa,dh,rfl,cw,?_,?_,c5,.inr (.inr ⟨rfl,?_,cm⟩)⟩)
     ·have h7:=(ai.trans aj).trans cz;rw[←hct];refine h7.weak ?_ (AI _);have hj:=Wf o once ac xt;have hs:(Ea o once ac xt).length/Ad W.δ.size k≤Ac W.δ.size k cnt:=by unfold Ac;exact B8 oM
      have k7:ac.length/Ad W.δ.size k≤Ac W.δ.size k cnt:=by unfold Ac;exact B8 oM
      omega
     ·exact d0.trans d3
     ·intro e;have:=ai.fault e;omega
   ·have j2:bg=[]:=by
     cases bg with
     |nil=>rfl
     |cons x tl=>simp at d1
    subst j2;have fc:∀r∈a8,r.opn=false:=by
     intro r hr;cases ho:r.opn with
     |false=>rfl
     |true=>
      obtain⟨x,hx,_⟩:=ax.cst.rl r hr ho;simp at hx
    have el:left a8=[]:=by unfold left;rw[List.flatten_eq_nil_iff];intro l hl;obtain⟨r,hr,rfl⟩:=AO.1 hl;unfold Gl;rw[fc r hr];rfl
    have kg:Eb a8=[]:=by unfold Eb;rw[EP.2 (fun r hr=>by rw[fc r hr];simp)];rfl
    rw[el] at df bi;rw[AS,Nat.add_zero] at bi;have a9:=ai.size;have g9:=ai.acts;have jk:ac.length/Ad W.δ.size k≤ac.length:=CZ _ _;have hh:rdA W.δ.size k a8≤Ci W.δ.size k rs:=by rw[←al];exact Wp ah
    have iw:=Rz bw bd ba bs W4 g5 b2 g6 cj bx first _ k cnt gw ac g7 g8 fu _ b3 W.live a6 oM
    rw[a9] at iw;have k8:Ac W.δ.size k ac.length≤Ac W.δ.size k cnt:=Dd bi;have k9:ac.length/Ad W.δ.size k≤Ac W.δ.size k ac.length:=by unfold Ac;exact B8 oM
    repeat(first|(refine sv ?_;intros)|refine gD ?_|refine cq hN ?_)
    refine cL iw ?_;rintro _ _ ⟨ao,dg,am,W5,b6,d2,rfl,di,aj,d3,dj,ix,⟨f,rfl,e8,e9,a7,cm⟩|⟨rfl,e8,e9,a7⟩⟩;try dsimp only[AA,AB]
    ·have dw:flv f= .agg #[Z9 Z8 f.first,Z9 Z8 f.blocks,Z9 Z8 f.width,Z9 Z8 f.count]:=rfl;rw[dw];repeat(first|(refine sv ?_;intros)|refine gD ?_|refine cq hN ?_)
     refine Go.SL.Lv.call (hc:=(Ow bx b6 ix).2) (h:=?_);rintro _ _ ⟨rfl,rfl⟩;try dsimp only[AA,AB]
     have cu:=b9 W5 ao dg am di _ _ ae _ d9 oM a8 W.α.gs dj (ax.cst.move aj.size);refine Go.SL.Lv.call (hc:=cu.2) (h:=?_);rintro _ _ ⟨az,α8,gd,rfl,rfl,cw,cz,c5⟩;try dsimp only[AA,AB]
     (refine lN [[(bz,row [pv bw,Z9 Z8 o.c0,Z9 Z8 o.c1,Z9 Z8 o.c2,Z9 Z8 o.c3,Z9 Z8 o.c4,.bool once,.slice p n cap,Z9 Z8 ab.c0,Z9 Z8 ab.c1,Z9 Z8 ab.c2,Z9 Z8 ab.c3,Z9 Z8 ab.c4,.bool dz] 200)],Ab bw bd ba bs,ao,az,am,[(vb,row cells 42)]] ?_;refine⟨ao,az,am,_,ab,dz,rfl,cw,?_,?_,c5,.inl ⟨f,ac,rfl,?_,e9,?_,oM,cm,?_,?_⟩⟩)
     ·rw[←hct];exact((ai.trans aj).trans cz).weak oM (AI _)
     ·exact d0.trans d3
     ·show W5.live.Perm _;rw[e8];exact .refl _
     ·rw[a7];cases hps:ac with
      |cons a b=>simp
      |nil=>
       exfalso;have h1:=Zv df.fin.2 hps;have h0:rs[0]∈rs:=B7 oM;obtain⟨_,av,_,du⟩:=ak.ok _ h0;have:=av.len;rw[List.flatMap_eq_nil_iff] at h1;have h3:=h1 _ h0;rw[h3] at this;simp at this;omega
     ·exact df.fin.1
     ·exact df.fin.2
    ·repeat(first|(refine sv ?_;intros)|refine gD ?_|refine cq hN ?_)
     refine Go.SL.Lv.call (hc:=(Ow bx b6 ix).2) (h:=?_);rintro _ _ ⟨rfl,rfl⟩;try dsimp only[AA,AB]
     have cu:=b9 W5 ao dg am di _ _ ae _ d9 oM a8 W.α.gs dj (ax.cst.move aj.size);refine Go.SL.Lv.call (hc:=cu.2) (h:=?_);rintro _ _ ⟨az,α8,gd,rfl,rfl,cw,cz,c5⟩;try dsimp only[AA,AB]
     (refine lN [[(bz,row [pv bw,Z9 Z8 o.c0,Z9 Z8 o.c1,Z9 Z8 o.c2,Z9 Z8 o.c3,Z9 Z8 o.c4,.bool once,.slice p n cap,Z9 Z8 ab.c0,Z9 Z8 ab.c1,Z9 Z8 ab.c2,Z9 Z8 ab.c3,Z9 Z8 ab.c4,.bool dz] 200)],Ab bw bd ba bs,ao,az,am,[(vb,row cells 42)]] ?_;refine⟨ao,az,am,_,ab,dz,rfl,cw,?_,?_,c5,.inr (.inr ⟨rfl,?_,a7⟩)⟩)
     ·rw[←hct];exact((ai.trans aj).trans cz).weak oM (AI _)
     ·exact d0.trans d3
     ·intro e;have:=ai.fault e;omega
  ·dsimp only[AA,AB];repeat(first|(refine sv ?_;intros)|refine gD ?_|refine cq hN ?_)
   have j3:Vec 243 7 (some ⟨hb,0,none⟩) de.length ae (hcells de) [(hb,row (hcells de++rest) 243)]:=⟨by rw[Ns],.inr ⟨hb,rest,rfl,rfl,by rw[Ns,et,←cg,←Ns];exact fr,oM,g0⟩⟩
   have fq:=b9 W3 a0 dd dy ci de _ ae _ j3 oM rds W.α.gs (e5.trans dq) (g3.cst.move aw.size);refine Go.SL.Lv.call (hc:=fq.2) (h:=?_);rintro _ _ ⟨b2,α4,jf,rfl,rfl,cj,aj,b3⟩;try dsimp only[AA,AB]
   (refine lN [[(bz,row [pv bw,Z9 Z8 o.c0,Z9 Z8 o.c1,Z9 Z8 o.c2,Z9 Z8 o.c3,Z9 Z8 o.c4,.bool once,.slice p n cap,Z9 Z8 last.c0,Z9 Z8 last.c1,Z9 Z8 last.c2,Z9 Z8 last.c3,Z9 Z8 last.c4,.bool sm] 200)],Ab bw bd ba bs,a0,b2,dy,[(vb,row cells 42)]] ?_;refine⟨a0,b2,dy,_,last,sm,rfl,cj,?_,?_,b3,.inr (.inl ⟨rfl,?_,?_⟩)⟩)
   ·exact((be.trans aw).trans aj).weak oM (AT _)
   ·exact fun x _=>by show W3.δ.disk x=_;rw[e3,da]
   ·rw[←hct,←fg];exact ft
   ·show W3.live.Perm W.live;rw[e4,db]
end Go.Proofs.YtaofijjjheiknaaGreat
