/-
  Parts of the proof, put together (8). No condition.
-/
import Derived.Test.YtaofijjjheiknaaGreatM7
set_option linter.unusedVariables false
set_option linter.unusedSimpArgs false
set_option linter.unnecessarySimpa false
set_option maxHeartbeats 4000000
open Go.IntKind renaming wrap→AJ
open Go.Proofs.Tryz renaming prog→AC
open List renaming cons_append→AA,nil_append→AB,getElem?_eq_getElem→AE,length_append→AF,mem_cons_self→AH,mem_cons_of_mem→AI,getElem?_eq_some_iff→AK,length_cons→AL,mem_cons→AM,getD_eq_getElem?_getD→AN,mem_append→AO,append_assoc→AP,append_nil→AQ,mem_singleton→AT,mem_map→AU,length_nil→AV,map_append→AX,map_cons→AZ,mem_of_getElem?→A3,getElem?_append_right→A9,getElem?_append_left→BI,mem_append_right→BM,length_take→BN,mem_append_left→BO,take_add_one→BP,drop_eq_getElem_cons→BQ,getElem?_drop→BR,take_append_drop→BV,perm_middle→B4,getElem_mem→B5,nodup_append→B8,nodup_cons→CB,singleton_append→CM,length_singleton→CO,getElem_of_mem→CU,sum_append→CV,map_congr_left→CZ,take_length→DF,sum_cons→DM,map_nil→D7,filter_eq_nil_iff→EM
open List.Pairwise renaming nil→CI
open List.Perm renaming swap→CQ
open Nat renaming reduceAdd→AD,le_refl→AG,zero_le→AS,succ_mul→BG,zero_add→BT,div_le_div_right→BX,div_le_self→CW,add_sub_cancel→DK
namespace Go.Proofs.YtaofijjjheiknaaGreat
open Go.SL Go.Spc Go.Tup
structure EachR (K:Type) where
 k:K
 ps:List T5
 cx:aAc
 cb:aAc
 op:Bool
def aBm (W:Wk) (x:Fl×List T5):Prop:=∃Lv,aAq W.δ.disk W.δ.size Lv x.1 x.2∧∀e∈Lv,e∈W.live
theorem aDv.mem {first nb:Nat} {Lv live:List Ext} (h:aDv first nb Lv live) {e:Ext} (he:e∈Lv):e∈live:=by
 unfold aDv at h
 split at h
 ·exact h.mem_iff.2 he
 ·exact h.mem_iff.2 (AI _ he)
def aPg {K:Type} (M:aAt K) (W0:Wk) (k0:K) (ps0 ts:List T5) (bw bx first width bound size κ:Nat) (g:Gr) (Lv:List Ext) (cc:Hp):Seer (EachR K) where
 own r:=if r.op then[g] else[]
 C r:=(r.cx::r.cb::(cc++[(M.C r.k).flatten])).flatten
 J W r i:=r.op=true∧aHy bw bx W first (aAb size width bound) width bound g r.ps r.cx r.cb∧aDv first (aAb size width bound) Lv W.live∧aBv Lv W0 W∧(W0.δ.fault= -1→W.δ.fault= -1)∧
  r.k=M.st k0 (ts.take i)∧r.ps=ps0++M.all k0 (ts.take i)∧M.bad k0 (ts.take i)=none
 B W r e:=aBv Lv W0 W∧((r.op=true∧aDv first (aAb size width bound) Lv W.live∧∃ps,aHy bw bx W first (aAb size width bound) width bound g ps r.cx r.cb)∨(r.op=false∧aEg bx r.cx∧W.live.Perm Lv))∧
  ((e=6∧W0.δ.fault≠-1)∨∃n:Nat,M.bad k0 ts=some n∧n≠0∧e=(n:Int))
 κ:=κ
theorem bMb {K:Type} (M:aAt K) (W0:Wk) (k0:K) (aa ts:List T5) (bw bx first width bound size κ:Nat) (g:Gr) (Lv:List Ext) (cc:Hp):(aPg M W0 k0 aa ts bw bx first width bound size κ g Lv cc).Ok where
 stay:=by
  rintro W W' r i ⟨h0,h1,h2,h3,h4,h5⟩ hs hd _ hl hf
  exact⟨h0,h1.move hs (fun x _ _=>by rw[hd]),by rw[hl];exact h2,fun x hx=>by rw[hd];exact h3 x hx,fun e=>hf (h4 e),h5⟩
 flt:=by
  rintro W W' r i ⟨h0,h1,h2,h3,h4,h5⟩ hf hd _ hl
  have e1:W'.δ.disk=W.δ.disk:=by rw[hd];rfl
  exact⟨fun x hx=>by rw[e1];exact h3 x hx,.inl ⟨h0,by rw[hl];exact h2,r.ps,h1.move (by rw[hd];rfl) (fun x _ _=>by rw[e1])⟩,.inl ⟨rfl,fun e=>by have:=h4 e;omega⟩⟩
 stayB:=by
  rintro W α r e ⟨h1,h2,h3⟩
  refine⟨h1,?_,h3⟩
  rcases h2 with⟨a,b,ps,c⟩|⟨a,b,c⟩
  ·exact .inl ⟨a,b,ps,c.move rfl (fun _ _ _=>rfl)⟩
  ·exact .inr ⟨a,b,c⟩
theorem aKz (A B D:Hp) (m:aAc):(A++[(D++(B++[m])).flatten]).flatten.Perm ((B++[(A++D).flatten,m]).flatten):=by
 classical
 refine List.perm_iff_count.2 fun z=> ?_
 simp only[List.flatten_append,List.flatten_cons,List.flatten_nil,AQ,List.count_append]
 omega
theorem putter (bw bd ba bs bx first width bound:Nat) (g:Gr) (aa:List Gr) (Lv:List Ext) (W:Wk) (n0 nn:Nat) (hs:1≤aAf W.δ.size width) (hn:n0+nn≤bound) (am:W.δ.acts+nn≤1000000000000):
  bGw bx width (fun ps X=>∃cd ca cs cx cb W1,X=[aAi bw bd ba bs,cd,ca,cs,cx,cb].flatten∧Wc bd ba bs W1 cd ca cs∧W1.α.gs.Perm (g::aa)∧aHy bw bx W1 first (aAb W.δ.size width bound) width bound g ps cx cb∧aDv first (aAb W.δ.size width bound) Lv W1.live∧
    aBv Lv W W1∧n0≤ps.length∧ps.length≤n0+nn∧Ev W W1 (ps.length-n0) 0)
   (fun X=>∃cd ca cs cx cb W1,X=[aAi bw bd ba bs,cd,ca,cs,cx,cb].flatten∧Wc bd ba bs W1 cd ca cs∧W1.α.gs.Perm aa∧W1.live.Perm Lv∧aEg bx cx∧aBv Lv W W1∧Ev W W1 nn 0∧W.δ.fault≠-1) (n0+nn):=by
 rintro ps X t ⟨cd,ca,cs,cx,cb,W1,rfl,hW,hg,hw,hl,hK,h1,h2,hE⟩ ht an
 have ak:=hE.acts.2
 have hP:=bLr bw bd ba bs W1 cd ca cs hW bx first _ width bound g ps cx cb hw aa hg Lv hl oM t ht oM
 refine Ct.convP hP oA15 ?_
 rintro v H' ⟨ab,ac,ad,W',ae,ag,rfl,ah,al,ai,hc⟩
 have aj:Ev W1 W' 1 0:=al.weak (by
  have h2:(ps.length+1)/aAf W1.δ.size width≤ps.length/aAf W1.δ.size width+1:=by
   rw[hE.size]
   calc (ps.length+1)/aAf W.δ.size width≤(ps.length+aAf W.δ.size width)/aAf W.δ.size width:=BX oM
    _=ps.length/aAf W.δ.size width+1:=Nat.add_div_right _ oM
  omega) (AG _)
 refine⟨[[aAi bw bd ba bs,ab,ac,ad,ae,ag].flatten],⟨_,rfl,?_⟩,by simp⟩
 rcases hc with⟨rfl,e1,e2,e3,e4⟩|⟨rfl,e1,e2,e3,e4,e5⟩
 ·exact .inl ⟨rfl,ab,ac,ad,ae,ag,W',rfl,ah,by rw[e1];exact hg,e4,by rw[e3];exact hl,hK.trans ai,by simp;omega,by simp;omega,(hE.trans aj).weak oA12 (AG _)⟩
 ·refine .inr ⟨rfl,ab,ac,ad,ae,ag,W',rfl,ah,e3,e4,e5,hK.trans ai,(hE.trans aj).weak oM (AG _),fun hf=> ?_⟩
  have:=hE.fault hf
  omega
theorem bHp {K:Type} (M:aAt K) (W0:Wk) (k0:K) (au ts:List T5) (bw bd ba bs bx bm bx2 first width bound size room κ:Nat) (g:Gr) (Lv:List Ext) (f:Fl) (mk:Nat) (aq:Callable AC mk) (fs us:List Value) (ok:K→T5→Prop) (hM:aFt M width ok mk fs us)
  (hκ:∀k t,ok k t→(M.outs k t).length≤κ) (a0:M.oks ok k0 ts) (a6:au.length+(M.all k0 ts).length≤bound) (hh:1≤aAf size width) (a7:κ≤1000000000):
  SeeCt bw bd ba bs (aPg M W0 k0 au ts bw bx first width bound size κ g Lv (aVz bm bx2 mk fs us bx)) size room f ts 171 [] [pv bm,pv bx2]:=by
 rintro av W cd ca cs r i t hW hg a8 aw ⟨a1,a2,hl,hK,an,hk,ax,ah⟩ ht a9
 have ao:ok r.k t:=by rw[hk];exact aAt.oks_at a0 ah ht
 have ay:r.ps.length+(M.outs r.k t).length≤bound:=by
  have h1:=aAt.all_le (M:=M) (ts:=ts) (k:=k0) (i+1)
  rw[aAt.take_succ ht,aAt.all_app,AF,←hk] at h1
  simp only[aAt.all,AQ] at h1
  rw[ax,AF]
  omega
 have a3:=hκ r.k t ao
 simp only[aPg,a1,if_true,CM] at hg
 have hP:=putter bw bd ba bs bx first width bound g av Lv W r.ps.length (M.outs r.k t).length (by rw[aw];exact hh) ay oM
 rw[aw] at hP
 have hC:=bQh M width ok mk aq fs us hM bm bx2 bx _ _ _ hP r.ps ([aAi bw bd ba bs,cd,ca,cs,r.cx,r.cb].flatten) r.k t
  ⟨cd,ca,cs,r.cx,r.cb,W,rfl,hW,hg,a2,hl,aBv.refl _ _,AG _,oM,by simpa using Ev.refl W⟩ ao (AG _)
 refine Ct.convP hC ?_ ?_
 ·exact aKz [aAi bw bd ba bs,cd,ca,cs] (aVz bm bx2 mk fs us bx) [r.cx,r.cb] _
 rintro v H' ⟨X',k',rfl,hc⟩
 rcases hc with⟨rfl,ai,rfl,aa,ab,ac,ad,ae,W',rfl,aj,ak,ap,al,am,h1,h2,ag⟩|⟨rfl,aa,ab,ac,ad,ae,W',rfl,aj,ak,al,a4,am,ag,a5⟩|⟨n,ai,hn,rfl,az,aa,ab,ac,ad,ae,W',rfl,aj,ak,ap,al,am,h1,h2,ag⟩
 ·refine⟨_,⟨aa,ab,ac,W',⟨_,r.ps++M.outs r.k t,ad,ae,true⟩,0,rfl,rfl,aj,ag.weak (by simp[aPg];omega) (AG _),ak,fun _=>⟨rfl,ap,al,hK.trans am,fun e=>ag.fault (an e),?_,?_,?_⟩,fun h=>absurd rfl h⟩,(aKz [aAi bw bd ba bs,aa,ab,ac] (aVz bm bx2 mk fs us bx) [ad,ae] _).symm⟩
  ·rw[aAt.take_succ ht,aAt.st_app,←hk];rfl
  ·rw[aAt.take_succ ht,aAt.all_app,←hk,←AP,←ax];simp[aAt.all]
  ·rw[aAt.take_succ ht,aAt.bad_app,ah,←hk];simp[aAt.bad,ai]
 ·refine⟨_,⟨aa,ab,ac,W',⟨k',[],ad,ae,false⟩,6,rfl,rfl,aj,ag.weak a3 (AG _),ak,fun h=>by omega,fun _=>⟨hK.trans am,.inr ⟨rfl,a4,al⟩,.inl ⟨rfl,fun e=>a5 (an e)⟩⟩⟩,(aKz [aAi bw bd ba bs,aa,ab,ac] (aVz bm bx2 mk fs us bx) [ad,ae] _).symm⟩
 ·refine⟨_,⟨aa,ab,ac,W',⟨k',az,ad,ae,true⟩,n,rfl,rfl,aj,ag.weak (by simp[aPg];omega) (AG _),ak,fun h=>by omega,fun _=>⟨hK.trans am,.inl ⟨rfl,al,az,ap⟩,.inr ⟨n,?_,hn,rfl⟩⟩⟩,(aKz [aAi bw bd ba bs,aa,ab,ac] (aVz bm bx2 mk fs us bx) [ad,ae] _).symm⟩
  apply aAt.bad_take (i:=i+1)
  rw[aAt.take_succ ht,aAt.bad_app,ah,←hk];simp[aAt.bad,ai]
theorem aYw (bw bd ba bs:Nat) {K:Type} (M:aAt K) (k0:K) (ab:List T5) (W:Wk) (cd ca cs:aAc) (h:Wc bd ba bs W cd ca cs) (bx bm bx2 first width bound κ:Nat) (g:Gr) (aa:List Gr) (Lv:List Ext) (cx cb:aAc) (hg:W.α.gs.Perm (g::aa))
  (hw:aHy bw bx W first (aAb W.δ.size width bound) width bound g ab cx cb) (hl:aDv first (aAb W.δ.size width bound) Lv W.live) (f:Fl) (ts:List T5) (LvF:List Ext) (ad:aAq W.δ.disk W.δ.size LvF f ts) (ae:∀e∈LvF,e∈Lv)
  (mk:Nat) (ai:Callable AC mk) (fs us:List Value) (ok:K→T5→Prop) (hM:aFt M width ok mk fs us) (hκ:∀k t,ok k t→(M.outs k t).length≤κ) (an:κ≤10000) (al:M.oks ok k0 ts) (ak:ab.length+(M.all k0 ts).length≤bound) (am:1≤width) (ah:width≤5)
  (hr:W.δ.size≤W.α.room-W.α.used) (au:W.δ.acts≤10000000000) (ag:f.count≤1000000):
  Ct AC 91 [pv bw,flv f,.func (.func 171) #[] #[pv bm,pv bx2]] [aAi bw bd ba bs,cd,ca,cs,cx,cb,[(bm,row [.func (.func mk) fs.toArray us.toArray] 91)],[(bx2,row [pv bx] 122)],(M.C k0).flatten] fun v H'=>
   ∃cd' ca' cs' W' k' cx' cb' e,v= .int .i64 e∧H'=[aAi bw bd ba bs,cd',ca',cs',cx',cb',[(bm,row [.func (.func mk) fs.toArray us.toArray] 91)],[(bx2,row [pv bx] 122)],(M.C k').flatten]∧
    Wc bd ba bs W' cd' ca' cs'∧Ev W W' (f.blocks+f.count*κ) 0∧aBv Lv W W'∧
    ((e=0∧W'.α.gs.Perm (g::aa)∧aDv first (aAb W.δ.size width bound) Lv W'.live∧aHy bw bx W' first (aAb W.δ.size width bound) width bound g (ab++M.all k0 ts) cx' cb'∧k'=M.st k0 ts∧M.bad k0 ts=none)∨
     (e≠0∧((W'.α.gs.Perm (g::aa)∧aDv first (aAb W.δ.size width bound) Lv W'.live∧∃ps,aHy bw bx W' first (aAb W.δ.size width bound) width bound g ps cx' cb')∨(W'.α.gs.Perm aa∧W'.live.Perm Lv∧aEg bx cx'))∧
      ((e=6∧W.δ.fault≠-1)∨∃n:Nat,M.bad k0 ts=some n∧e=(n:Int)))):=by
 obtain⟨⟨aj,av⟩,_⟩:=h.dev.num
 have hh:=aAl aj am ah
 have aw:=aAx (n:=f.count) (aAl aj ad.w1 ad.w2)
 have ax:f.count*κ≤1000000*10000:=Nat.mul_le_mul ag an
 have hO:=bGv bw bd ba bs (aPg M W k0 ab ts bw bx first width bound W.δ.size κ g Lv (aVz bm bx2 mk fs us bx)) (bMb M W k0 ab ts bw bx first width bound W.δ.size κ g Lv _) f ts LvF 171 inferInstance [] [pv bm,pv bx2] W.δ.size W.α.room
  (bHp M W k0 ab ts bw bd ba bs bx bm bx2 first width bound W.δ.size W.α.room κ g Lv f mk ai fs us ok hM hκ al ak hh oM) W cd ca cs h ⟨k0,ab,cx,cb,true⟩ aa hg rfl rfl
  ⟨rfl,hw,hl,aBv.refl _ _,id,by simp[aAt.st],by simp[aAt.all],by simp[aAt.bad]⟩ (fun W' r i hJ=>⟨ad.keep (fun x ⟨e,he,h2⟩=>hJ.2.2.2.1 x ⟨e,ae e he,h2⟩),fun e he=>hJ.2.2.1.mem (ae e he)⟩) hr (by show _+_+_*κ≤_;omega) ag
 refine Ct.convP hO (by simp[aPg,aVz]) ?_
 rintro v H' ⟨cd',ca',cs',W',r',e,rfl,rfl,ao,ap,ac,hJ,hB⟩
 refine⟨[aAi bw bd ba bs,cd',ca',cs',r'.cx,r'.cb,[(bm,row [.func (.func mk) fs.toArray us.toArray] 91)],[(bx2,row [pv bx] 122)],(M.C r'.k).flatten],⟨cd',ca',cs',W',r'.k,r'.cx,r'.cb,e,rfl,rfl,ao,?_,?_⟩,by simp[aPg,aVz]⟩
 ·rw[ad.blk];exact ap
 by_cases he:e=0
 ·obtain⟨h0,h1,h2,h3,_,h5,h6,h7⟩:=hJ he
  have aq:ts.take f.count=ts:=by rw[←ad.len,DF]
  rw[aq] at h5 h6 h7
  simp only[aPg,h0,if_true,CM] at ac
  exact⟨h3,.inl ⟨he,ac,h2,by rw[←h6];exact h1,h5,h7⟩⟩
 ·obtain⟨h1,h2,h3⟩:=hB he
  refine⟨h1,.inr ⟨he,?_,?_⟩⟩
  ·rcases h2 with⟨a,b,c⟩|⟨a,b,c⟩
   ·simp only[aPg,a,if_true,CM] at ac
    exact .inl ⟨ac,b,c⟩
   ·simp only[aPg,a,AB] at ac
    exact .inr ⟨by simpa using ac,c,b⟩
  ·rcases h3 with h3|⟨n,a,_,b⟩
   ·exact .inl h3
   ·exact .inr ⟨n,a,b⟩
end Go.Proofs.YtaofijjjheiknaaGreat
namespace Go.Srt
variable {α:Type} {lt:α→α→Bool} [Inhabited α]
def aCi (lt:α→α→Bool) (l:List α) (n a:Nat):Prop:=∀c,0<c→c<n→a≤(c-1)/2→lt (at_ l c) (at_ l ((c-1)/2))=false
def bEb (lt:α→α→Bool) (l:List α) (n a i:Nat):Prop:=
 (∀c,0<c→c<n→a≤(c-1)/2→(c-1)/2≠i→lt (at_ l c) (at_ l ((c-1)/2))=false)∧
 (∀c,0<c→c<n→(c-1)/2=i→0<i→a≤(i-1)/2→lt (at_ l c) (at_ l ((i-1)/2))=false)
theorem aYx {l:List α} {n a:Nat} (h:aCi lt l n (a+1)):bEb lt l n a a:=
 ⟨fun c h1 h2 h3 h4=>h c h1 h2 oM,fun c h1 h2 h3 h4 h5=>by omega⟩
theorem bEc {l:List α} {n a i:Nat} (h:bEb lt l n a i) (hi:n≤2*i+1):aCi lt l n a:=
 fun c h1 h2 h3=>h.1 c h1 h2 h3 oM
theorem aMe (hs:Swo lt) {l:List α} {n a i j:Nat} (h:bEb lt l n a i) (hm:∀c,0<c→c<n→(c-1)/2=i→lt (at_ l c) (at_ l j)=false) (hj:lt (at_ l j) (at_ l i)=false):aCi lt l n a:=by
 intro c h1 h2 h3
 by_cases hp:(c-1)/2=i
 ·rw[hp];exact hs.ntrans _ _ _ (hm c h1 h2 hp) hj
 ·exact h.1 c h1 h2 h3 hp
theorem aMf (hs:Swo lt) {l:List α} {n a i j:Nat} (h:bEb lt l n a i) (ai:a≤i) (hn:n≤l.length) (ag:0<j) (ae:j<n) (ab:(j-1)/2=i) (hm:∀c,0<c→c<n→(c-1)/2=i→lt (at_ l c) (at_ l j)=false)
  (ah:lt (at_ l j) (at_ l i)=true):bEb lt (sw l i j) n a j:=by
 have aa:∀q,at_ (sw l i j) q=if q=j then at_ l i else if q=i then at_ l j else at_ l q:=fun q=>aKe l i j q oM oM
 obtain⟨g1,g2⟩:=h
 refine⟨fun c h1 h2 h3 h4=> ?_,fun c h1 h2 h3 h4 h5=> ?_⟩
 ·rw[aa c,aa ((c-1)/2)]
  rw[if_neg h4]
  by_cases hp:(c-1)/2=i
  ·rw[if_pos hp]
   by_cases ad:c=j
   ·rw[if_pos ad];exact hs.asym _ _ ah
   ·rw[if_neg ad,if_neg oM];exact hm c h1 h2 hp
  ·rw[if_neg hp]
   rw[if_neg (by rintro rfl;exact hp ab)]
   by_cases ac:c=i
   ·rw[if_pos ac]
    subst ac
    exact g2 j ag ae ab h1 h3
   ·rw[if_neg ac];exact g1 c h1 h2 h3 hp
 ·rw[aa c,aa ((j-1)/2),ab]
  rw[if_neg oM,if_neg oM,if_neg oM,if_pos rfl]
  have:=g1 c h1 h2 oM oM
  rw[h3] at this;exact this
theorem bMc (hs:Swo lt) {l:List α} {n:Nat} (h:aCi lt l n 0):∀c,c<n→lt (at_ l c) (at_ l 0)=false:=by
 intro c
 induction c using Nat.strongRecOn with
 |_ c ih=>
  intro hc
  by_cases h0:c=0
  ·subst h0;exact hs.irr _
  ·exact hs.ntrans _ _ _ (h c oM hc (Nat.zero_le _)) (ih _ oM oM)
theorem aSx {l:List α} {i j:Nat} (hi:i<l.length) (hj:j<l.length):(sw l i j).Perm l:=by
 unfold sw
 rw[List.getD_eq_getElem?_getD,List.getD_eq_getElem?_getD,List.getElem?_eq_getElem hi,List.getElem?_eq_getElem hj]
 exact List.set_set_perm hi hj
end Go.Srt
namespace Go.Proofs.YtaofijjjheiknaaGreat
open Go.SL Go.Spc Go.Tup Go.Srt
structure Hd where
 t:T5
 run:Nat
 rd:Nat
instance:Inhabited Hd:=⟨⟨default,0,0⟩⟩
def Hd.cells (x:Hd):List Value:=[.int .i64 x.t.c0,.int .i64 x.t.c1,.int .i64 x.t.c2,.int .i64 x.t.c3,.int .i64 x.t.c4,.int .i64 (x.run:Int),pv x.rd]
def hcells (l:List Hd):List Value:=l.flatMap Hd.cells
theorem aRr (a b:List Hd):hcells (a++b)=hcells a++hcells b:=by simp[hcells]
theorem aCb (l:List Hd):(hcells l).length=l.length*7:=by
 induction l with
 |nil=>rfl
 |cons x l ih=>simp only[hcells,List.flatMap_cons,AF,AL] at ih⊢;rw[ih];simp[Hd.cells];omega
theorem aPh:∀(l:List Hd) (rest:List Value) (i:Nat),i<l.length→∃more,(hcells l++rest).drop (i*7)=(at_ l i).cells++more
 |[],_,i,h=>by simp at h
 |x::l,rest,0,_=>⟨hcells l++rest,by simp[hcells,at_]⟩
 |x::l,rest,i+1,h=>by
  obtain⟨more,hm⟩:=aPh l rest i oA11
  refine⟨more,?_⟩
  have e:(hcells (x::l)++rest)=x.cells++(hcells l++rest):=by simp[hcells]
  rw[e,show(i+1)*7=x.cells.length+i*7 by(have:x.cells.length=7:=rfl);omega,←List.drop_drop,List.drop_left,hm]
  rfl
def aBt (bh vb cap:Nat) (o:T5) (l:List Hd) (rest:List Value):Hp:=
 [[(bh,row ([.slice (some ⟨vb,0,none⟩) l.length cap,.int .i64 o.c0,.int .i64 o.c1,.int .i64 o.c2,.int .i64 o.c3,.int .i64 o.c4]) 241)],[(vb,row (hcells l++rest) 243)]]
def ltH (o:T5) (a b:Hd):Bool:=decide (aJs o a.t b.t<0∨aJs o a.t b.t=0∧a.run<b.run)
theorem bHq (o:T5):Swo (ltH o) where
 asym:=fun a b h=>by
  simp only[ltH,decide_eq_true_eq,decide_eq_false_iff_not] at*
  have:=aEd o a.t b.t;omega
 ntrans:=fun a b c h1 h2=>by
  simp only[ltH,decide_eq_false_iff_not] at*
  have e1:=aEd o a.t b.t
  have e2:=aEd o b.t c.t
  have e3:=aEd o a.t c.t
  have f1:=aJd o c.t b.t a.t oM oM
  have f2:aJs o a.t c.t=0→aJs o a.t b.t=0:=fun h=>by
   have:=aJd o a.t c.t b.t
   omega
  have f3:aJs o a.t c.t=0→aJs o b.t c.t=0:=fun h=>by
   have:=aJd o b.t a.t c.t
   omega
  omega
theorem aSy (bh vb cap:Nat) (o:T5) (l:List Hd) (rest:List Value):CtQ AC 236 [pv bh] (aBt bh vb cap o l rest) (.int .i64 (l.length:Int)):=by
 unfold aBt
 refine Ct.go Tryz.func236 Tryz.ntmps236 fun w0=> ?_
 repeat(refine st ?_;intros)
 (refine Dn.post (Hr:=[[(bh,row [.slice (some ⟨vb,0,none⟩) l.length cap,.int .i64 o.c0,.int .i64 o.c1,.int .i64 o.c2,.int .i64 o.c3,.int .i64 o.c4] 241)],[(vb,row (hcells l++rest) 243)]]) Tryz.results236 (hR:= ?_);exact⟨rfl,rfl⟩)
theorem aPi {l:List Hd} {rest:List Value} {i:Nat} (h:i<l.length):
  ((hcells l++rest).drop (i*7)).take 5=[.int .i64 (at_ l i).t.c0,.int .i64 (at_ l i).t.c1,.int .i64 (at_ l i).t.c2,.int .i64 (at_ l i).t.c3,.int .i64 (at_ l i).t.c4]∧
  (hcells l++rest)[i*7+5]? =some (.int .i64 ((at_ l i).run:Int))∧(hcells l++rest)[i*7+6]? =some (pv (at_ l i).rd)∧
  ((hcells l++rest).drop (i*7)).take 7=(at_ l i).cells:=by
 obtain⟨more,hm⟩:=aPh l rest i h
 refine⟨by rw[hm];rfl,?_,?_,by rw[hm];rfl⟩
 ·rw[←BR,hm];rfl
 ·rw[←BR,hm];rfl
theorem aNv (bh vb cap:Nat) (o:T5) (l:List Hd) (rest:List Value) (i j:Nat) (hi:i<l.length) (hj:j<l.length) (hl:l.length≤1000000):
  CtQ AC 274 [pv bh,.int .i64 (i:Int),.int .i64 (j:Int)] (aBt bh vb cap o l rest) (.bool (ltH o (at_ l i) (at_ l j))):=by
 obtain⟨a1,a2,a3,a4⟩:=aPi (rest:=rest) hi
 obtain⟨b1,b2,b3,b4⟩:=aPi (rest:=rest) hj
 have hC:=aMb (at_ l i).t.c0 (at_ l i).t.c1 (at_ l i).t.c2 (at_ l i).t.c3 (at_ l i).t.c4 (at_ l j).t.c0 (at_ l j).t.c1 (at_ l j).t.c2 (at_ l j).t.c3 (at_ l j).t.c4 o.c0 o.c1 o.c2 o.c3 o.c4
 have aa:aJs ⟨o.c0,o.c1,o.c2,o.c3,o.c4⟩ ⟨(at_ l i).t.c0,(at_ l i).t.c1,(at_ l i).t.c2,(at_ l i).t.c3,(at_ l i).t.c4⟩ ⟨(at_ l j).t.c0,(at_ l j).t.c1,(at_ l j).t.c2,(at_ l j).t.c3,(at_ l j).t.c4⟩=aJs o (at_ l i).t (at_ l j).t:=rfl
 rw[aa] at hC
 unfold ltH aBt
 generalize ab:aJs o (at_ l i).t (at_ l j).t=cm at*
 generalize ac:hcells l++rest=cells at*
 generalize at_ l i=x at*
 generalize at_ l j=y at*
 by_cases h1:cm<0
 ·rw[show decide (cm<0∨cm=0∧x.run<y.run)=true from decide_eq_true (.inl h1)]
  refine Ct.go Tryz.func274 Tryz.ntmps274 fun w0=> ?_
  repeat(first|(refine st ?_;intros)|refine G.draw (id:=1) [(20,.quiet)] (h:= ?_)|refine G.draw [] (h:= ?_)|refine cq hC ?_)
  (refine Dn.post (Hr:=[[(bh,row [.slice (some ⟨vb,0,none⟩) l.length cap,.int .i64 o.c0,.int .i64 o.c1,.int .i64 o.c2,.int .i64 o.c3,.int .i64 o.c4] 241)],[(vb,row cells 243)]]) Tryz.results274 (hR:= ?_);exact⟨rfl,rfl⟩)
 ·by_cases h2:cm=0
  ·have h3:decide (cm<0∨cm=0∧x.run<y.run)=dec ((x.run:Int)<(y.run:Int)):=by
    by_cases h4:x.run<y.run
    ·rw[decide_eq_true (.inr ⟨h2,h4⟩),aBf oM]
    ·rw[decide_eq_false oM,aBu oM]
   rw[h3]
   refine Ct.go Tryz.func274 Tryz.ntmps274 fun w0=> ?_
   repeat(first|(refine st ?_;intros)|refine G.draw (id:=1) [(20,.quiet)] (h:= ?_)|refine G.draw [] (h:= ?_)|refine cq hC ?_)
   (refine Dn.post (Hr:=[[(bh,row [.slice (some ⟨vb,0,none⟩) l.length cap,.int .i64 o.c0,.int .i64 o.c1,.int .i64 o.c2,.int .i64 o.c3,.int .i64 o.c4] 241)],[(vb,row cells 243)]]) Tryz.results274 (hR:= ?_);exact⟨rfl,rfl⟩)
  ·rw[show decide (cm<0∨cm=0∧x.run<y.run)=false from decide_eq_false oM]
   refine Ct.go Tryz.func274 Tryz.ntmps274 fun w0=> ?_
   repeat(first|(refine st ?_;intros)|refine G.draw (id:=1) [(20,.quiet)] (h:= ?_)|refine G.draw [] (h:= ?_)|refine cq hC ?_)
   (refine Dn.post (Hr:=[[(bh,row [.slice (some ⟨vb,0,none⟩) l.length cap,.int .i64 o.c0,.int .i64 o.c1,.int .i64 o.c2,.int .i64 o.c3,.int .i64 o.c4] 241)],[(vb,row cells 243)]]) Tryz.results274 (hR:= ?_);exact⟨rfl,rfl⟩)
theorem aWg:∀(a:List Value) (vs cs:List Value) (off:Nat),aFm (a++cs) (a.length+off) vs=a++aFm cs off vs:=by
 intro a vs
 induction vs with
 |nil=>intro cs off;rfl
 |cons v vs ih=>
  intro cs off
  simp only[aFm]
  rw[List.set_append_right _ _ oM,show a.length+off-a.length=off by omega,show a.length+off+1=a.length+(off+1) by omega,ih]
theorem bHr:∀(l:List Hd) (i:Nat) (x:Hd) (rest:List Value),i<l.length→aFm (hcells l++rest) (i*7) x.cells=hcells (l.set i x)++rest
 |[],_,_,_,h=>by simp at h
 |u::l,0,x,rest,_=>by simp[hcells,aFm,Hd.cells]
 |u::l,i+1,x,rest,h=>by
  have ih:=bHr l i x rest oA11
  have e:(hcells (u::l)++rest)=u.cells++(hcells l++rest):=by simp[hcells]
  rw[e,show(i+1)*7=u.cells.length+i*7 by(have:u.cells.length=7:=rfl);omega,aWg,ih]
  simp[hcells]
theorem aNw (bh vb cap:Nat) (o:T5) (l:List Hd) (rest:List Value) (i j:Nat) (hi:i<l.length) (hj:j<l.length) (hl:l.length≤1000000):
  Ct AC 276 [pv bh,.int .i64 (i:Int),.int .i64 (j:Int)] (aBt bh vb cap o l rest) fun v H'=>v= .tuple #[]∧H'=aBt bh vb cap o (sw l i j) rest:=by
 obtain⟨a1,a2,a3,a4⟩:=aPi (rest:=rest) hi
 obtain⟨b1,b2,b3,b4⟩:=aPi (rest:=rest) hj
 have ah:=bHr l i (at_ l j) rest hi
 have ac:=bHr (l.set i (at_ l j)) j (at_ l i) rest (by simpa using hj)
 have ad:(l.set i (at_ l j)).set j (at_ l i)=sw l i j:=rfl
 rw[ad] at ac
 have ag:(hcells l++rest).length=l.length*7+rest.length:=by rw[AF,aCb]
 have ae:(hcells (l.set i (at_ l j))++rest).length=l.length*7+rest.length:=by rw[AF,aCb,List.length_set]
 unfold aBt
 rw[aPe]
 generalize hcells (sw l i j)++rest=aa at*
 generalize hcells (l.set i (at_ l j))++rest=ab at*
 generalize hcells l++rest=cells at*
 generalize at_ l i=x at*
 generalize at_ l j=y at*
 unfold Hd.cells at*
 refine Ct.go Tryz.func276 Tryz.ntmps276 fun w0=> ?_
 repeat(refine sv ?_;intros)
 (refine Dn.postEnd (Hr:=[[(bh,row [.slice (some ⟨vb,0,none⟩) l.length cap,.int .i64 o.c0,.int .i64 o.c1,.int .i64 o.c2,.int .i64 o.c3,.int .i64 o.c4] 241)],[(vb,row aa 243)]]) Tryz.results276 (hR:= ?_);exact⟨rfl,rfl⟩)
instance:Meth AC 238 "Less" 274:=Meth.of (by kernel_rfl)
instance:Meth AC 238 "Swap" 276:=Meth.of (by kernel_rfl)
instance:Meth AC 238 "Len" 236:=Meth.of (by kernel_rfl)
instance:Meth AC 238 "Pop" 275:=Meth.of (by kernel_rfl)
abbrev aPj (bh:Nat):Value:= .iface 238 (pv bh)
structure DownX where
 i:Nat
 l:List Hd
theorem aYy (bh vb cap:Nat) (o:T5) (l:List Hd) (rest:List Value) (a n:Nat) (hn:n≤l.length) (hl:l.length≤1000000) (hh:aCi (ltH o) l n (a+1)) (ha:a≤1000000):
  Ct AC 245 [aPj bh,.int .i64 (a:Int),.int .i64 (n:Int)] (aBt bh vb cap o l rest) fun v H'=>
   ∃b l',v= .bool b∧H'=aBt bh vb cap o l' rest∧l'.Perm l∧aCi (ltH o) l' n a∧∀q,n≤q→at_ l' q=at_ l q:=by
 have ab:=bHq o
 refine Ct.go Tryz.func245 Tryz.ntmps245 fun w0=> ?_
 repeat(first|(refine st ?_;intros)|refine cq hL ?_|refine cq hL2 ?_)
 refine G.loop (X:=DownX) (fun x=>a≤x.i∧x.l.Perm l∧bEb (ltH o) x.l n a x.i∧(x.i<n∨x.i=a)∧∀q,n≤q→at_ x.l q=at_ l q)
  (fun x=>[(7,.int .i64 (x.i:Int)),(0,aPj bh),(1,.int .i64 (a:Int)),(2,.int .i64 (n:Int))])
  (fun x=>aBt bh vb cap o x.l rest) (fun x=>n-x.i) ⟨a,l⟩ ⟨AG _,List.Perm.refl _,aYx hh,.inr rfl,fun _ _=>rfl⟩ (body:= ?_)
 rintro⟨i,us⟩ ⟨ac,hp,hd,ad,aa⟩
 dsimp only at ac hp hd ad aa⊢
 have ae:=hp.length_eq
 have ag:i≤1000000:=oM
 have e1:AJ .i64 (2*(i:Int))=((2*i:Nat):Int):=by rw[aAd oM];omega
 have e2:AJ .i64 (((2*i:Nat):Int)+1)=((2*i+1:Nat):Int):=by rw[aAd oM];omega
 have e3:AJ .i64 (((2*i+1:Nat):Int)+1)=((2*i+2:Nat):Int):=by rw[aAd oM];omega
 by_cases hc:n≤2*i+1
 ·repeat(first|(refine st ?_;intros)|refine cq hL ?_|refine cq hL2 ?_)
  (refine Dn.post (Hr:=aBt bh vb cap o us rest) Tryz.results245 (hR:= ?_);exact⟨_,us,rfl,rfl,hp,bEc hd hc,aa⟩)
 ·by_cases ah:2*i+2<n
  ·have hL:=aNv bh vb cap o us rest (2*i+2) (2*i+1) oM oM oM
   cases h1:ltH o (at_ us (2*i+2)) (at_ us (2*i+1)) with
   |true=>
    rw[h1] at hL
    have hm:∀c,0<c→c<n→(c-1)/2=i→ltH o (at_ us c) (at_ us (2*i+2))=false:=by
     intro c k1 k2 k3
     rcases(show c=2*i+1∨c=2*i+2 by omega) with rfl|rfl
     ·exact ab.asym _ _ h1
     ·exact ab.irr _
    have hL2:=aNv bh vb cap o us rest (2*i+2) i oM oM oM
    cases h2:ltH o (at_ us (2*i+2)) (at_ us i) with
    |true=>
     rw[h2] at hL2
     have hS:=aNw bh vb cap o us rest i (2*i+2) oM oM oM
     repeat(first|(refine st ?_;intros)|refine cq hL ?_|refine cq hL2 ?_)
     refine R.invoke (hct:=hS) (h:= ?_)
     rintro _ _ ⟨rfl,rfl⟩
     try dsimp only[AA,AB]
     repeat(first|(refine st ?_;intros)|refine cq hL ?_|refine cq hL2 ?_)
     exact Dn.round ⟨2*i+2,sw us i (2*i+2)⟩ ⟨oD,(aSx oM oM).trans hp,aMf ab hd ac oM oM oM oM hm h2,.inl oD,fun q hq=>by
      dsimp only
      rw[aKe _ _ _ _ oM oM,if_neg oM,if_neg oM];exact aa q hq⟩ oD
    |false=>
     rw[h2] at hL2
     repeat(first|(refine st ?_;intros)|refine cq hL ?_|refine cq hL2 ?_)
     (refine Dn.post (Hr:=aBt bh vb cap o us rest) Tryz.results245 (hR:= ?_);exact⟨_,us,rfl,rfl,hp,aMe ab hd hm h2,aa⟩)
   |false=>
    rw[h1] at hL
    have hm:∀c,0<c→c<n→(c-1)/2=i→ltH o (at_ us c) (at_ us (2*i+1))=false:=by
     intro c k1 k2 k3
     rcases(show c=2*i+1∨c=2*i+2 by omega) with rfl|rfl
     ·exact ab.irr _
     ·exact h1
    have hL2:=aNv bh vb cap o us rest (2*i+1) i oM oM oM
    cases h2:ltH o (at_ us (2*i+1)) (at_ us i) with
    |true=>
     rw[h2] at hL2
     have hS:=aNw bh vb cap o us rest i (2*i+1) oM oM oM
     repeat(first|(refine st ?_;intros)|refine cq hL ?_|refine cq hL2 ?_)
     refine R.invoke (hct:=hS) (h:= ?_)
     rintro _ _ ⟨rfl,rfl⟩
     try dsimp only[AA,AB]
     repeat(first|(refine st ?_;intros)|refine cq hL ?_|refine cq hL2 ?_)
     exact Dn.round ⟨2*i+1,sw us i (2*i+1)⟩ ⟨oD,(aSx oM oM).trans hp,aMf ab hd ac oM oM oM oM hm h2,.inl oD,fun q hq=>by
      dsimp only
      rw[aKe _ _ _ _ oM oM,if_neg oM,if_neg oM];exact aa q hq⟩ oD
    |false=>
     rw[h2] at hL2
     repeat(first|(refine st ?_;intros)|refine cq hL ?_|refine cq hL2 ?_)
     (refine Dn.post (Hr:=aBt bh vb cap o us rest) Tryz.results245 (hR:= ?_);exact⟨_,us,rfl,rfl,hp,aMe ab hd hm h2,aa⟩)
  ·have hm:∀c,0<c→c<n→(c-1)/2=i→ltH o (at_ us c) (at_ us (2*i+1))=false:=by
    intro c k1 k2 k3
    rcases(show c=2*i+1 by omega) with rfl
    exact ab.irr _
   have hL2:=aNv bh vb cap o us rest (2*i+1) i oM oM oM
   cases h2:ltH o (at_ us (2*i+1)) (at_ us i) with
   |true=>
    rw[h2] at hL2
    have hS:=aNw bh vb cap o us rest i (2*i+1) oM oM oM
    repeat(first|(refine st ?_;intros)|refine cq hL ?_|refine cq hL2 ?_)
    refine R.invoke (hct:=hS) (h:= ?_)
    rintro _ _ ⟨rfl,rfl⟩
    try dsimp only[AA,AB]
    repeat(first|(refine st ?_;intros)|refine cq hL ?_|refine cq hL2 ?_)
    exact Dn.round ⟨2*i+1,sw us i (2*i+1)⟩ ⟨oD,(aSx oM oM).trans hp,aMf ab hd ac oM oM oM oM hm h2,.inl oD,fun q hq=>by
     dsimp only
     rw[aKe _ _ _ _ oM oM,if_neg oM,if_neg oM];exact aa q hq⟩ oD
   |false=>
    rw[h2] at hL2
    repeat(first|(refine st ?_;intros)|refine cq hL ?_|refine cq hL2 ?_)
    (refine Dn.post (Hr:=aBt bh vb cap o us rest) Tryz.results245 (hR:= ?_);exact⟨_,us,rfl,rfl,hp,aMe ab hd hm h2,aa⟩)
structure InitX where
 z:Int
 l:List Hd
theorem bQp (bh vb cap:Nat) (o:T5) (l:List Hd) (rest:List Value) (hl:l.length≤1000000):
  Ct AC 235 [aPj bh] (aBt bh vb cap o l rest) fun v H'=>∃l',v= .tuple #[]∧H'=aBt bh vb cap o l' rest∧l'.Perm l∧aCi (ltH o) l' l'.length 0:=by
 have hN:=aSy bh vb cap o l rest
 have e1:AJ .i64 ((l.length:Int).tdiv 2)=((l.length/2:Nat):Int):=by
  rw[Int.tdiv_eq_ediv_of_nonneg oM,aAd oM];omega
 have e2:AJ .i64 (((l.length/2:Nat):Int)-1)=((l.length/2:Nat):Int)-1:=aAd oM
 generalize hn:l.length=n at*
 refine Ct.go Tryz.func235 Tryz.ntmps235 fun w0=> ?_
 repeat(first|(refine st ?_;intros)|refine cq hN ?_)
 refine G.loop (X:=InitX) (fun x=> -1≤x.z∧x.z<1000001∧x.l.Perm l∧aCi (ltH o) x.l n (x.z+1).toNat)
  (fun x=>[(3,.int .i64 x.z),(0,aPj bh),(2,.int .i64 (n:Int))])
  (fun x=>aBt bh vb cap o x.l rest) (fun x=>(x.z+1).toNat) ⟨((n/2:Nat):Int)-1,l⟩ ⟨oD,oD,List.Perm.refl _,fun c h1 h2 h3=>by dsimp only at h3;omega⟩ (body:= ?_)
 rintro⟨z,us⟩ ⟨aa,ab,hp,hh⟩
 dsimp only at aa ab hp hh⊢
 have ac:=hp.length_eq
 by_cases hz:0≤z
 ·obtain⟨i,rfl⟩:=Int.eq_ofNat_of_zero_le hz
  have hD:=aYy bh vb cap o us rest i n oM oM (by rw[show i+1=((i:Int)+1).toNat by omega];exact hh) oM
  have e3:AJ .i64 ((i:Int)-1)=(i:Int)-1:=aAd oM
  repeat(first|(refine st ?_;intros)|refine cq hN ?_)
  refine R.call (hct:=hD) (h:= ?_)
  rintro _ _ ⟨b,ad,rfl,rfl,ae,ag,ah⟩
  try dsimp only[AA,AB]
  repeat(first|(refine st ?_;intros)|refine cq hN ?_)
  exact Dn.round ⟨(i:Int)-1,ad⟩ ⟨oD,oD,ae.trans hp,by dsimp only;rw[show((i:Int)-1+1).toNat=i by omega];exact ag⟩ oD
 ·repeat(first|(refine st ?_;intros)|refine cq hN ?_)
  (refine Dn.postEnd (Hr:=aBt bh vb cap o us rest) Tryz.results235 (hR:= ?_);exact⟨us,rfl,rfl,hp,by rw[ac,hn];rw[show(z+1).toNat=0 by omega] at hh;exact hh⟩)
theorem up_ct (bh vb cap:Nat) (o:T5) (l:List Hd) (rest:List Value):
  Ct AC 246 [aPj bh,.int .i64 0] (aBt bh vb cap o l rest) fun v H'=>v= .tuple #[]∧H'=aBt bh vb cap o l rest:=by
 have e1:AJ .i64 ((0:Int)-1)= -1:=by decide
 have e2:AJ .i64 ((-1:Int).tdiv 2)=0:=by decide
 refine Ct.go Tryz.func246 Tryz.ntmps246 fun w0=> ?_
 repeat(refine st ?_;intros)
 refine G.loop (X:=Unit) (fun _=>True) (fun _=>[(0,aPj bh),(1,.int .i64 0)]) (fun _=>aBt bh vb cap o l rest) (fun _=>0) () trivial (body:= ?_)
 rintro⟨⟩-
 repeat(refine st ?_;intros)
 (refine Dn.postEnd (Hr:=aBt bh vb cap o l rest) Tryz.results246 (hR:= ?_);exact⟨rfl,rfl⟩)
theorem Fix_ct (bh vb cap:Nat) (o:T5) (l:List Hd) (rest:List Value) (hl:l.length≤1000000) (hh:aCi (ltH o) l l.length 1):
  Ct AC 237 [aPj bh,.int .i64 0] (aBt bh vb cap o l rest) fun v H'=>∃l',v= .tuple #[]∧H'=aBt bh vb cap o l' rest∧l'.Perm l∧aCi (ltH o) l' l'.length 0:=by
 have hN:=aSy bh vb cap o l rest
 have hD:=aYy bh vb cap o l rest 0 l.length (AG _) hl hh oM
 refine Ct.go Tryz.func237 Tryz.ntmps237 fun w0=> ?_
 repeat(first|(refine st ?_;intros)|refine cq hN ?_)
 refine R.call (hct:=hD) (h:= ?_)
 rintro _ _ ⟨b,us,rfl,rfl,hp,aa,ac⟩
 try dsimp only[AA,AB]
 have ab:=hp.length_eq
 have hU:=up_ct bh vb cap o us rest
 cases b with
 |true=>
  repeat(first|(refine st ?_;intros)|refine cq hN ?_)
  (refine Dn.postEnd (Hr:=aBt bh vb cap o us rest) Tryz.results237 (hR:= ?_);exact⟨us,rfl,rfl,hp,by rw[ab];exact aa⟩)
 |false=>
  repeat(first|(refine st ?_;intros)|refine cq hN ?_)
  refine R.call (hct:=hU) (h:= ?_)
  rintro _ _ ⟨rfl,rfl⟩
  try dsimp only[AA,AB]
  repeat(first|(refine st ?_;intros)|refine cq hN ?_)
  (refine Dn.postEnd (Hr:=aBt bh vb cap o us rest) Tryz.results237 (hR:= ?_);exact⟨us,rfl,rfl,hp,by rw[ab];exact aa⟩)
theorem bQq (bh vb cap:Nat) (o:T5) (l:List Hd) (x:Hd) (rest:List Value) (hl:l.length≤1000000) (ad:l.length+1≤cap):
  Ct AC 275 [pv bh] (aBt bh vb cap o (l++[x]) rest) fun v H'=>v= .iface 243 (.agg x.cells.toArray)∧H'=aBt bh vb cap o l (x.cells++rest):=by
 obtain⟨a1,a2,a3,a4⟩:=aPi (l:=l++[x]) (rest:=rest) (i:=l.length) oA15
 have aa:at_ (l++[x]) l.length=x:=by simp[at_,AN]
 rw[aa] at a1 a2 a3 a4
 have ab:hcells l++(x.cells++rest)=hcells (l++[x])++rest:=by rw[aRr];simp[hcells]
 have ac:(l++[x]).length=l.length+1:=by simp
 have e1:AJ .i64 (((l.length+1:Nat):Int)-1)=(l.length:Int):=by rw[aAd oM];omega
 unfold aBt
 rw[ab,ac]
 generalize hcells (l++[x])++rest=cells at*
 generalize l.length=n at*
 unfold Hd.cells at*
 refine Ct.go Tryz.func275 Tryz.ntmps275 fun w0=> ?_
 repeat(refine sv ?_;intros)
 apply R.mkIfaceS
 ·exact rfl
 ·exact Tryz.underlying243
 ·exact rfl
 ·exact nle rfl
 repeat(refine sv ?_;intros)
 (refine Dn.post (Hr:=[[(bh,row [.slice (some ⟨vb,0,none⟩) n cap,.int .i64 o.c0,.int .i64 o.c1,.int .i64 o.c2,.int .i64 o.c3,.int .i64 o.c4] 241)],[(vb,row cells 243)]]) Tryz.results275 (hR:= ?_);exact⟨rfl,rfl⟩)
theorem bQr (bh vb cap:Nat) (o:T5) (l:List Hd) (rest:List Value) (hl:l.length≤1000000) (ak:l.length≤cap) (ab:0<l.length) (hh:aCi (ltH o) l l.length 0):
  Ct AC 238 [aPj bh] (aBt bh vb cap o l rest) fun v H'=>∃l' x,v= .iface 243 (.agg x.cells.toArray)∧x=at_ l 0∧H'=aBt bh vb cap o l' (x.cells++rest)∧(x::l').Perm l∧l'.length+1=l.length∧aCi (ltH o) l' l'.length 0:=by
 have hN:=aSy bh vb cap o l rest
 have e1:AJ .i64 ((l.length:Int)-1)=((l.length-1:Nat):Int):=by rw[aAd oM];omega
 have hS:=aNw bh vb cap o l rest 0 (l.length-1) ab oM hl
 have ag:(sw l 0 (l.length-1)).length=l.length:=aPe _ _ _
 have ac:=fun q=>aKe l 0 (l.length-1) q ab oM
 have ah:aCi (ltH o) (sw l 0 (l.length-1)) (l.length-1) 1:=by
  intro c h1 h2 h3
  rw[ac,ac,if_neg oM,if_neg oM,if_neg oM,if_neg oM]
  exact hh c h1 oM (AS _)
 have hD:=aYy bh vb cap o (sw l 0 (l.length-1)) rest 0 (l.length-1) oM oM ah oM
 have ai:(sw l 0 (l.length-1)).Perm l:=aSx ab oM
 have aa:=ac (l.length-1)
 rw[if_pos rfl] at aa
 refine Ct.go Tryz.func238 Tryz.ntmps238 fun w0=> ?_
 repeat(first|(refine st ?_;intros)|refine cq hN ?_)
 refine R.invoke (hct:=hS) (h:= ?_)
 rintro _ _ ⟨rfl,rfl⟩
 try dsimp only[AA,AB]
 repeat(first|(refine st ?_;intros)|refine cq hN ?_)
 refine R.call (hct:=hD) (h:= ?_)
 rintro _ _ ⟨b,us,rfl,rfl,hp,aj,ae⟩
 try dsimp only[AA,AB]
 have ad:us.length=l.length:=hp.length_eq.trans ag
 have hx:=(ae (l.length-1) (AG _)).trans aa
 obtain⟨vs,y,rfl⟩:∃vs y,us=vs++[y]:=by
  rcases List.eq_nil_or_concat us with rfl|⟨qs,z,rfl⟩
  ·simp at ad;omega
  ·exact⟨qs,z,by simp⟩
 rw[AF,CO] at ad
 have hy:at_ (vs++[y]) (l.length-1)=y:=by
  rw[show l.length-1=vs.length by omega];simp[at_,AN]
 rw[hy] at hx
 subst hx
 have hP:=bQq bh vb cap o vs (at_ l 0) rest oM oM
 repeat(first|(refine st ?_;intros)|refine cq hN ?_)
 refine R.invoke (hct:=hP) (h:= ?_)
 rintro _ _ ⟨rfl,rfl⟩
 try dsimp only[AA,AB]
 repeat(first|(refine st ?_;intros)|refine cq hN ?_)
 (refine Dn.post (Hr:=aBt bh vb cap o vs ((at_ l 0).cells++rest)) Tryz.results238 (hR:= ?_);refine⟨vs,at_ l 0,rfl,rfl,rfl,?_,ad,?_⟩)
 ·exact(List.perm_append_comm (l₁:=[at_ l 0]) (l₂:=vs)).trans (hp.trans ai)
 ·intro c h1 h2 h3
  have:=aj c h1 oM h3
  rw[aWc,aWc,if_pos h2,if_pos oM] at this
  exact this
theorem aYz {o:T5} {u a:T5} {s:List T5} (h:Sd (ltO o) false (u::s)) (ha:a∈u::s):ltO o a u=false:=by
 rcases AM.1 ha with rfl|ha
 ·exact(aBy o).irr _
 ·unfold Sd at h
  have:=List.rel_of_pairwise_cons h ha
  simpa using this
theorem Em.merge {o:T5} {once:Bool} {l ps:List T5} {A B:List (List T5)} {t:T5} {r:List T5} (h:Em o once l ps (A++(t::r)::B).flatten)
  (hA:∀s∈A,Sd (ltO o) false s∧∀u s',s=u::s'→ltO o t u=true) (hB:∀s∈B,Sd (ltO o) false s∧∀u s',s=u::s'→ltO o u t=false) (hr:Sd (ltO o) false (t::r)):
  Em o once l (aLq o once ps t) (A++r::B).flatten:=by
 have aa:=aBy o
 have ab:∀a∈A.flatten,ltO o t a=true:=by
  intro a ha
  obtain⟨s,hs,has⟩:=List.mem_flatten.1 ha
  cases s with
  |nil=>simp at has
  |cons u s'=>
   obtain⟨h1,h2⟩:=hA _ hs
   cases hc:ltO o t a with
   |true=>rfl
   |false=>
    have:=aa.ntrans _ _ _ hc (aYz h1 has)
    rw[h2 u s' rfl] at this;cases this
 have ad:∀b∈B.flatten,ltO o b t=false:=by
  intro b hb
  obtain⟨s,hs,ac⟩:=List.mem_flatten.1 hb
  cases s with
  |nil=>simp at ac
  |cons u s'=>
   obtain⟨h1,h2⟩:=hB _ hs
   exact aa.ntrans _ _ _ (aYz h1 ac) (h2 u s' rfl)
 have e1:(A++(t::r)::B).flatten=(A.flatten++[t])++(r++B.flatten):=by simp
 have e2:(A++r::B).flatten=A.flatten++(r++B.flatten):=by simp
 rw[e1] at h
 rw[e2]
 have h2:Em o once l ps (t::(A.flatten++(r++B.flatten))):=by
  refine h.turn ?_ ?_
  ·have:=Go.Srt.Sp.app (once:=once) (Go.Srt.Sp.swap aa (once:=once) (v:=A.flatten) (x:=[t]) (fun b hb a ha=>by simp only[AT] at hb;subst hb;exact ab a ha)) (Go.Srt.Sp.refl (lt:=ltO o) once (r++B.flatten))
   simpa using this
  ·intro y hy
   simp only[AM,AO] at hy⊢
   rcases hy with hy|hy|hy|hy
   ·exact .inl (.inr (by simp[hy]))
   ·exact .inl (.inl hy)
   ·exact .inr (.inl hy)
   ·exact .inr (.inr hy)
 refine h2.step fun y hy=> ?_
 rcases AO.1 hy with hy|hy
 ·exact aa.asym _ _ (ab y hy)
 ·rcases AO.1 hy with hy|hy
  ·exact aYz hr (AI _ hy)
  ·exact ad y hy
structure Rdr where
 bx:Nat
 f:Fl
 ts:List T5
 g:Gr
 pos:Nat
 opn:Bool
 cx:aAc
 cb:aAc
def aMg (bw:Nat) (W:Wk) (r:Rdr):Prop:=if r.opn then aGt bw r.bx W r.f r.ts r.g r.pos r.cx r.cb else aDj r.bx r.cx
def aDe (rs:List Rdr):aAc:=rs.flatMap fun r=>r.cx++r.cb
def aBd (rs:List Rdr):List Gr:=(rs.filter (·.opn)).map (·.g)
theorem aMg.move {bw:Nat} {W W':Wk} {r:Rdr} (h:aMg bw W r) (hs:W'.δ.size=W.δ.size):aMg bw W' r:=by
 unfold aMg at*
 split
 ·rename_i ho;rw[if_pos ho] at h;exact h.move hs
 ·rename_i ho;rw[if_neg ho] at h;exact h
theorem aRs {a b:List Rdr} (h:a.Perm b):(aDe a).Perm (aDe b):=h.flatMap_right _
theorem bHs {rs:List Rdr} {r:Rdr} (h:r∈rs):∃qs,rs.Perm (r::qs)∧(aDe rs).Perm (r.cx++(r.cb++aDe qs)):=by
 obtain⟨l1,l2,rfl⟩:=List.append_of_mem h
 refine⟨l1++l2,B4,(aRs B4).trans ?_⟩
 simp[aDe]
theorem aHr {a b:List Rdr} (h:a.Perm b):(aBd a).Perm (aBd b):=(h.filter _).map _
def bMd (bc bh:Nat):aAc:=[(bc,row [pv bh] 238)]
def aNx (bh:Nat) (p:Option Addr) (n cap:Nat) (o:T5):aAc:=[(bh,row [.slice p n cap,.int .i64 o.c0,.int .i64 o.c1,.int .i64 o.c2,.int .i64 o.c3,.int .i64 o.c4] 241)]
structure CloseX where
 i:Nat
 ca:aAc
 α:Ar
 rs:List Rdr
theorem aZa (bc bh bw bd ba bs:Nat) (W:Wk) (cd ca cs:aAc) (h:Wc bd ba bs W cd ca cs) (o:T5) (l:List Hd) (p:Option Addr) (cap:Nat) (vc:aAc) (hV:Vec 243 7 p l.length cap (hcells l) vc) (hl:l.length≤1000000)
  (rs:List Rdr) (ac:List Gr) (hg:W.α.gs.Perm (aBd rs++ac)) (a5:∀r∈rs,aMg bw W r) (a0:∀x∈l,∃r∈rs,r.bx=x.rd) (a6:∀r∈rs,r.opn=true→∃x∈l,x.rd=r.bx) (a7:(rs.map (·.bx)).Nodup):
  Cb AC 234 [pv bc] [bMd bc bh,aNx bh p l.length cap o,vc,aAi bw bd ba bs,ca,aDe rs] fun v H'=>
   ∃ca' α' rs',v= .tuple #[]∧H'=[bMd bc bh,aNx bh p l.length cap o,vc,aAi bw bd ba bs,ca',aDe rs']∧Wc bd ba bs {W with α:=α'} cd ca' cs∧Ev W {W with α:=α'} 0 0∧α'.gs.Perm ac:=by
 unfold bMd aNx
 refine Cb.intro Tryz.func234 rfl Tryz.ntmps234 (nle rfl) fun w0=> ?_;dsimp only[aAa,AD]
 repeat(refine st ?_;intros)
 refine G.loop (X:=CloseX) (fun x=>x.i≤l.length∧Wc bd ba bs {W with α:=x.α} cd x.ca cs∧Ev W {W with α:=x.α} 0 0∧x.α.gs.Perm (aBd x.rs++ac)∧(∀r∈x.rs,aMg bw W r)∧(∀y∈l,∃r∈x.rs,r.bx=y.rd)∧(∀r∈x.rs,r.opn=true→∃j,x.i≤j∧j<l.length∧(at_ l j).rd=r.bx)∧(x.rs.map (·.bx)).Nodup)
  (fun x=>[(8,.int .i64 (x.i:Int)),(7,.int .i64 (l.length:Int)),(6,.slice p l.length cap)])
  (fun x=>[[(bc,row [pv bh] 238)],[(bh,row [.slice p l.length cap,.int .i64 o.c0,.int .i64 o.c1,.int .i64 o.c2,.int .i64 o.c3,.int .i64 o.c4] 241)],vc,aAi bw bd ba bs,x.ca,aDe x.rs]) (fun x=>l.length-x.i) ⟨0,ca,W.α,rs⟩
  ⟨AS _,h,Ev.refl W,hg,a5,a0,fun r hr ho=>by
   obtain⟨x,hx,he⟩:=a6 r hr ho
   obtain⟨j,hj,e⟩:=CU hx
   exact⟨j,AS _,hj,by rw[←he,←e];simp[at_,AN,hj]⟩,a7⟩ (body:= ?_)
 rintro⟨i,am,α1,ai⟩ ⟨hi,an,ao,aj,ad,ae,ag,aq⟩
 dsimp only at hi an ao aj ad ae ag aq⊢
 by_cases ak:i<l.length
 ·have hx:at_ l i∈l:=by unfold at_;rw[AN,AE ak];exact B5 ak
  obtain⟨r,hr,au⟩:=ae _ hx
  obtain⟨qs,ab,a8⟩:=bHs hr
  obtain⟨_,h0|⟨vb,rest,rfl,rfl,_⟩⟩:=hV
  ·omega
  obtain⟨a1,a2,a3,a4⟩:=aPi (rest:=rest) ak
  generalize hcells l++rest=cells at*
  generalize ax:at_ l i=x at*
  unfold Hd.cells at a4
  repeat(refine st ?_;intros)
  rw[←au]
  apply R1.open a8
  ·(repeat(first|exact aAn.here|apply aAn.there))
  have al:=ad r hr
  unfold aMg at al
  have ay:∀q∈qs,q∈ai:=fun q hq=>ab.mem_iff.2 (AI _ hq)
  have av:(aBd ai).Perm (aBd (r::qs)):=aHr ab
  have aa:((r::qs).map (·.bx)).Nodup:=(ab.map _).nodup_iff.1 aq
  cases ho:r.opn with
  |false=>
   rw[ho] at al
   have hC:=aVy r.bx r.cx al
   refine R.call (hct:=hC) (h:= ?_)
   rintro _ _ ⟨rfl,rfl⟩
   try dsimp only[AA,AB]
   repeat(refine st ?_;intros)
   apply Dn.join (c1:=r.cx) (c2:=r.cb++aDe qs)
   ·(repeat(first|exact aAn.here|apply aAn.there))
   ·(repeat(first|exact aAn.here|apply aAn.there))
   rw[show r.cx++(r.cb++aDe qs)=aDe (r::qs) by simp[aDe]]
   refine Dn.round ⟨i+1,am,α1,r::qs⟩ ⟨ak,an,ao,aj.trans (av.append_right _),fun q hq=>ad q (ab.mem_iff.2 hq),fun y hy=> ?_,fun q hq ah=> ?_,aa⟩ oD
   ·obtain⟨q,hq,e⟩:=ae y hy
    exact⟨q,ab.mem_iff.1 hq,e⟩
   ·obtain⟨j,j1,j2,j3⟩:=ag q (ab.mem_iff.2 hq) ah
    refine⟨j,?_,j2,j3⟩
    by_cases aw:j=i
    ·exfalso
     subst aw
     rw[ax] at j3
     rcases AM.1 hq with rfl|hq
     ·rw[ho] at ah;cases ah
     ·rw[AZ,CB] at aa
      exact aa.1 (by rw[au,j3];exact AU.2 ⟨q,hq,rfl⟩)
    ·dsimp only;omega
  |true=>
   rw[ho] at al
   have a9:aBd (r::qs)=r.g::aBd qs:=by unfold aBd;rw[List.filter_cons_of_pos ho];rfl
   have hC:=aNr bw bd ba bs {W with α:=α1} cd am cs an r.bx r.f r.ts r.g (aBd qs++ac) (aj.trans (by rw[a9] at av;exact av.append_right _)) r.pos r.cx r.cb (aGt.move al rfl)
   refine R.call (hct:=hC) (h:= ?_)
   rintro _ _ ⟨be,α2,ap,rfl,rfl,bf,bg,bi,bk⟩
   try dsimp only[AA,AB]
   repeat(refine st ?_;intros)
   apply Dn.join (c1:=ap) (c2:=r.cb++aDe qs)
   ·(repeat(first|exact aAn.here|apply aAn.there))
   ·(repeat(first|exact aAn.here|apply aAn.there))
   rw[show ap++(r.cb++aDe qs)=aDe ({r with opn:=false,cx:=ap}::qs) by simp[aDe]]
   refine Dn.round ⟨i+1,be,α2,{r with opn:=false,cx:=ap}::qs⟩ ⟨ak,bf,ao.trans bg,bi,fun q hq=> ?_,fun y hy=> ?_,fun q hq ah=> ?_,aa⟩ oD
   ·rcases AM.1 hq with rfl|hq
    ·exact bk
    ·exact ad q (ay q hq)
   ·obtain⟨q,hq,e⟩:=ae y hy
    rcases AM.1 (ab.mem_iff.1 hq) with rfl|hq
    ·exact⟨_,AH,e⟩
    ·exact⟨q,AI _ hq,e⟩
   ·rcases AM.1 hq with rfl|az
    ·cases ah
    ·obtain⟨j,j1,j2,j3⟩:=ag q (ay q az) ah
     refine⟨j,?_,j2,j3⟩
     by_cases aw:j=i
     ·exfalso
      subst aw
      rw[ax] at j3
      rw[AZ,CB] at aa
      exact aa.1 (by rw[au,j3];exact AU.2 ⟨q,az,rfl⟩)
     ·dsimp only;omega
 ·repeat(refine st ?_;intros)
  (refine Dn.postEnd (Hr:=[[(bc,row [pv bh] 238)],[(bh,row [.slice p l.length cap,.int .i64 o.c0,.int .i64 o.c1,.int .i64 o.c2,.int .i64 o.c3,.int .i64 o.c4] 241)],vc,aAi bw bd ba bs,am,aDe ai]) Tryz.results234 (hR:= ?_);refine⟨am,α1,ai,rfl,rfl,an,ao,?_⟩)
  have:aBd ai=[]:=by
   unfold aBd
   rw[EM.2]
   ·rfl
   ·intro r hr ho
    obtain⟨j,j1,j2,_⟩:=ag r hr ho
    omega
  rw[this] at aj;exact aj
def aHb (r:Rdr):List T5:=if r.opn then r.ts.drop (r.pos-1) else[]
structure MSt (bw:Nat) (W:Wk) (o:T5) (rds:List Rdr) (hl:List Hd):Prop where
 rd:∀r∈rds,aMg bw W r
 nd:(rds.map (·.bx)).Nodup
 hd:∀x∈hl,∃r,rds[x.run]? =some r∧r.opn=true∧r.bx=x.rd∧0<r.pos∧r.ts[r.pos-1]? =some x.t
 ex:∀j r,rds[j]? =some r→r.opn=true→∃x∈hl,x.run=j
 one:(hl.map (·.run)).Nodup
 sd:∀r∈rds,Sd (ltO o) false r.ts
theorem bQs {o:T5} {s:List T5} (h:Sd (ltO o) false s) (n:Nat):Sd (ltO o) false (s.drop n):=h.sublist (List.drop_sublist n s)
theorem aSz {o:T5} {r:Rdr} (h:Sd (ltO o) false r.ts):Sd (ltO o) false (aHb r):=by
 unfold aHb;split
 ·exact bQs h _
 ·exact CI
theorem bEd {r:Rdr} {t u:T5} {s:List T5} (h:r.ts[r.pos-1]? =some t) (he:aHb r=u::s):u=t:=by
 unfold aHb at he
 split at he
 ·have h1:(r.ts.drop (r.pos-1))[0]? =some t:=by rw[BR];simpa using h
  rw[he] at h1
  simpa using h1
 ·cases he
theorem MSt.top {bw:Nat} {W:Wk} {o:T5} {rds:List Rdr} {hl:List Hd} (h:MSt bw W o rds hl) (aa:0<hl.length) (hh:aCi (ltH o) hl hl.length 0):
  ∃A r B,rds=A++r::B∧A.length=(at_ hl 0).run∧r.opn=true∧r.bx=(at_ hl 0).rd∧0<r.pos∧r.ts[r.pos-1]? =some (at_ hl 0).t∧aHb r=(at_ hl 0).t::r.ts.drop r.pos∧
   (∀s∈A.map aHb,Sd (ltO o) false s∧∀u s',s=u::s'→ltO o (at_ hl 0).t u=true)∧(∀s∈B.map aHb,Sd (ltO o) false s∧∀u s',s=u::s'→ltO o u (at_ hl 0).t=false):=by
 have hx:at_ hl 0∈hl:=by unfold at_;rw[AN,AE aa];exact B5 aa
 have ab:=bMc (bHq o) hh
 have ac:∀y∈hl,ltH o y (at_ hl 0)=false:=by
  intro y hy
  obtain⟨j,hj,rfl⟩:=CU hy
  have:=ab j hj
  rwa[show at_ hl j=hl[j] by simp[at_,AN,hj]] at this
 generalize at_ hl 0=x at*
 obtain⟨r,h1,h2,h3,h4,h5⟩:=h.hd x hx
 have ad:x.run<rds.length:=(AK.1 h1).1
 have ae:rds[x.run]=r:=(AK.1 h1).2
 have ag:rds=rds.take x.run++r::rds.drop (x.run+1):=by
  rw[←ae,←BQ ad,BV]
 have key:∀j q u s',rds[j]? =some q→aHb q=u::s'→∃y∈hl,y.run=j∧y.t=u:=by
  intro j q u s' hq he
  have ho:q.opn=true:=by
   cases hqo:q.opn with
   |true=>rfl
   |false=>unfold aHb at he;rw[hqo] at he;cases he
  obtain⟨y,hy,rfl⟩:=h.ex j q hq ho
  obtain⟨q',k1,k2,k3,k4,k5⟩:=h.hd y hy
  rw[hq] at k1;cases k1
  exact⟨y,hy,rfl,(bEd k5 he).symm⟩
 refine⟨rds.take x.run,r,rds.drop (x.run+1),ag,by rw[BN];omega,h2,h3,h4,h5,?_,?_,?_⟩
 ·unfold aHb
  rw[if_pos h2]
  obtain⟨k1,k2⟩:=AK.1 h5
  rw[BQ k1,k2,show r.pos-1+1=r.pos by omega]
 ·intro s hs
  obtain⟨q,hq,rfl⟩:=AU.1 hs
  refine⟨aSz (h.sd q (List.mem_of_mem_take hq)),fun u s' he=> ?_⟩
  obtain⟨j,hj,e⟩:=CU hq
  rw[BN] at hj
  rw[List.getElem_take] at e
  obtain⟨y,hy,ah,rfl⟩:=key j q u s' (AK.2 ⟨oM,e⟩) he
  have:=ac y hy
  simp only[ltH,ltO,decide_eq_false_iff_not,decide_eq_true_eq] at this⊢
  have:=aEd o y.t x.t
  omega
 ·intro s hs
  obtain⟨q,hq,rfl⟩:=AU.1 hs
  refine⟨aSz (h.sd q (List.mem_of_mem_drop hq)),fun u s' he=> ?_⟩
  obtain⟨j,hj,e⟩:=CU hq
  rw[List.length_drop] at hj
  rw[List.getElem_drop] at e
  obtain⟨y,hy,ah,rfl⟩:=key (x.run+1+j) q u s' (AK.2 ⟨oM,e⟩) he
  have:=ac y hy
  simp only[ltH,ltO,decide_eq_false_iff_not] at this⊢
  omega
end Go.Proofs.YtaofijjjheiknaaGreat
namespace Go.SL
section apart
variable {Q:Exit→Act→World→Prop} {w0:World} {S:List Nat} {n:Nat} {L:aBk} {D:List Deferred} {H:Hp}
theorem Dn.nodup {e:Exit} (h:(keys H).Nodup→Dn Q w0 S n e L D H):Dn Q w0 S n e L D H:=by
 unfold Dn at h⊢
 exact fun a w hf hD hw=>h hw.nodup a w hf hD hw
theorem bEe {H Ha Hb:Hp} {c1 c2:aAc} (h:(keys H).Nodup) (h1:aAn c1 H Ha) (h2:aAn c2 Ha Hb):∀k∈c1.map (·.1),k∉c2.map (·.1):=by
 unfold aAn at h1 h2
 have h3:H.flatten.Perm (c1++(c2++Hb.flatten)):=h1.trans (List.Perm.append_left _ h2)
 unfold keys at h
 have h4:=(h3.map (fun p=>p.1)).nodup_iff.1 h
 rw[List.map_append,List.map_append] at h4
 intro k hk aa
 exact(List.nodup_append.1 h4).2.2 k hk k (List.mem_append_left _ aa) rfl
variable {P:Program} {ops:Array Oper} {cls:Nat→Oper→Cls} {k:Nat} {l:List (Nat×Oper)} {qs:List Rd}
theorem aWh {c c1 c2:aAc} {Ha Hb:Hp} (h1:aAn c1 H Ha) (h2:aAn c2 Ha Hb) (hp:(c1++c2).Perm c):H.flatten.Perm ((c::Hb).flatten):=by
 refine(aKt h1 h2).trans ?_
 simp only[List.flatten_cons]
 exact hp.append_right _
theorem R.joinP {c c1 c2:aAc} {Ha Hb:Hp} (hp:(c1++c2).Perm c) (h1:aAn c1 H Ha) (h2:aAn c2 Ha Hb) (h:R P ops Q cls w0 S n l L D (c::Hb) qs):R P ops Q cls w0 S n l L D H qs:=R.recut (aWh h1 h2 hp) h
theorem Dn.joinP {e:Exit} {c c1 c2:aAc} {Ha Hb:Hp} (hp:(c1++c2).Perm c) (h1:aAn c1 H Ha) (h2:aAn c2 Ha Hb) (h:Dn Q w0 S n e L D (c::Hb)):Dn Q w0 S n e L D H:=Dn.recut (aWh h1 h2 hp) h
end apart
end Go.SL
namespace Go.Proofs.YtaofijjjheiknaaGreat
open Go.SL Go.Spc Go.Tup Go.Srt
def Rdr.src (r:Rdr):Fl×List T5:=(r.f,r.ts)
theorem aMg.bx_mem {bw:Nat} {W:Wk} {r:Rdr} (h:aMg bw W r):r.bx∈r.cx.map (·.1):=by
 unfold aMg at h
 split at h
 ·obtain⟨_,buf,n,a,e,_⟩:=h
  rw[e];simp
 ·obtain⟨_,_,_,_,_,_,_,e⟩:=h
  rw[e];simp
theorem bMe {bw:Nat} {W:Wk} {rds:List Rdr} (h:∀r∈rds,aMg bw W r) {b:Nat} (hb:b∉(aDe rds).map (·.1)):b∉rds.map (·.bx):=by
 intro hm
 obtain⟨r,hr,rfl⟩:=AU.1 hm
 apply hb
 obtain⟨p,hp,e⟩:=AU.1 (h r hr).bx_mem
 rw[←e]
 refine AU.2 ⟨p,?_,rfl⟩
 unfold aDe
 exact List.mem_flatMap.2 ⟨r,hr,BO _ hp⟩
theorem bQt {o:T5} {once:Bool} {l:List T5} (h:Sd (ltO o) once l):Sd (ltO o) false l:=by
 cases once with
 |false=>exact h
 |true=>
  unfold Sd at*
  refine h.imp fun aa=> ?_
  simp only[if_true] at aa
  simp only[Bool.false_eq_true,if_false]
  exact(aBy o).asym _ _ aa
theorem MSt.permH {bw:Nat} {W:Wk} {o:T5} {rds:List Rdr} {hl aa:List Hd} (h:MSt bw W o rds hl) (hp:aa.Perm hl):MSt bw W o rds aa where
 rd:=h.rd
 nd:=h.nd
 hd:=fun x hx=>h.hd x (hp.mem_iff.1 hx)
 ex:=fun j r hj ho=>by
  obtain⟨x,hx,e⟩:=h.ex j r hj ho
  exact⟨x,hp.mem_iff.2 hx,e⟩
 one:=((hp.map _).nodup_iff).2 h.one
 sd:=h.sd
theorem MSt.move {bw:Nat} {W W':Wk} {o:T5} {rds:List Rdr} {hl:List Hd} (h:MSt bw W o rds hl) (hs:W'.δ.size=W.δ.size):MSt bw W' o rds hl:=
 {h with rd:=fun r hr=>(h.rd r hr).move hs}
theorem MSt.nil (bw:Nat) (W:Wk) (o:T5):MSt bw W o [] []:=⟨by simp,by simp,by simp,by simp,by simp,by simp⟩
theorem MSt.add {bw:Nat} {W W':Wk} {o:T5} {rds:List Rdr} {hl:List Hd} {r:Rdr} {t:T5} (h:MSt bw W o rds hl) (hs:W'.δ.size=W.δ.size) (hr:aMg bw W' r) (ho:r.opn=true) (hp:0<r.pos) (ht:r.ts[r.pos-1]? =some t)
  (hb:r.bx∉rds.map (·.bx)) (ab:Sd (ltO o) false r.ts):MSt bw W' o (rds++[r]) (hl++[⟨t,rds.length,r.bx⟩]) where
 rd:=fun q hq=>by
  rcases AO.1 hq with hq|hq
  ·exact(h.rd q hq).move hs
  ·simp only[AT] at hq;subst hq;exact hr
 nd:=by
  rw[AX,B8]
  refine⟨h.nd,by simp,?_⟩
  intro a ha b aa e
  simp only[AZ,D7,AT] at aa
  subst aa;subst e;exact hb ha
 hd:=fun x hx=>by
  rcases AO.1 hx with hx|hx
  ·obtain⟨q,h1,h2⟩:=h.hd x hx
   exact⟨q,by rw[BI (AK.1 h1).1];exact h1,h2⟩
  ·simp only[AT] at hx;subst hx
   exact⟨r,by simp,ho,rfl,hp,ht⟩
 ex:=fun j q hj hq=>by
  by_cases ac:j<rds.length
  ·rw[BI ac] at hj
   obtain⟨x,hx,e⟩:=h.ex j q hj hq
   exact⟨x,BO _ hx,e⟩
  ·have ad:=(AK.1 hj).1
   rw[AF,CO] at ad
   obtain rfl:j=rds.length:=by omega
   exact⟨_,BM _ AH,rfl⟩
 one:=by
  rw[AX,B8]
  refine⟨h.one,by simp,?_⟩
  intro a ha b aa e
  simp only[AZ,D7,AT] at aa
  subst aa;subst e
  obtain⟨x,hx,e⟩:=AU.1 ha
  obtain⟨q,h1,_⟩:=h.hd x hx
  have:=(AK.1 h1).1
  omega
 sd:=fun q hq=>by
  rcases AO.1 hq with hq|hq
  ·exact h.sd q hq
  ·simp only[AT] at hq;subst hq;exact ab
theorem mid_get {α:Type} {A B:List α} {r r':α} {j:Nat} (h:j≠A.length):(A++r'::B)[j]? =(A++r::B)[j]? :=by
 by_cases aa:j<A.length
 ·rw[BI aa,BI aa]
 ·rw[A9 oM,A9 oM]
  obtain⟨i,hi⟩:∃i,j-A.length=i+1:=⟨j-A.length-1,oM⟩
  rw[hi];simp
theorem bOq {α:Type} {A B:List α} {r:α}:(A++r::B)[A.length]? =some r:=by simp
theorem MSt.step {bw:Nat} {W W':Wk} {o:T5} {A B:List Rdr} {r r':Rdr} {x:Hd} {tl:List Hd} {t:T5} (h:MSt bw W o (A++r::B) (x::tl)) (hA:A.length=x.run) (hs:W'.δ.size=W.δ.size) (hr:aMg bw W' r') (hb:r'.bx=r.bx) (hx:r.bx=x.rd) (hts:r'.ts=r.ts) (ho:r'.opn=true) (hp:0<r'.pos)
  (ht:r'.ts[r'.pos-1]? =some t):MSt bw W' o (A++r'::B) ({x with t:=t}::tl) where
 rd:=fun q hq=>by
  rcases AO.1 hq with hq|hq
  ·exact(h.rd q (BO _ hq)).move hs
  ·rcases AM.1 hq with rfl|hq
   ·exact hr
   ·exact(h.rd q (BM _ (AI _ hq))).move hs
 nd:=by have:=h.nd;simp only[AX,AZ,hb] at this⊢;exact this
 hd:=fun y hy=>by
  have aa:=h.one
  rw[AZ,CB] at aa
  rcases AM.1 hy with rfl|hy
  ·exact⟨r',by dsimp only;rw[←hA];exact bOq,ho,hb.trans hx,hp,ht⟩
  ·obtain⟨q,h1,h2⟩:=h.hd y (AI _ hy)
   refine⟨q,?_,h2⟩
   rw[mid_get (r:=r) (by rw[hA];intro e;exact aa.1 (AU.2 ⟨y,hy,e⟩))]
   exact h1
 ex:=fun j q hj hq=>by
  by_cases e:j=A.length
  ·exact⟨_,AH,oD⟩
  ·rw[mid_get (r:=r) e] at hj
   obtain⟨y,hy,e2⟩:=h.ex j q hj hq
   rcases AM.1 hy with rfl|hy
   ·omega
   ·exact⟨y,AI _ hy,e2⟩
 one:=by have:=h.one;simpa using this
 sd:=fun q hq=>by
  rcases AO.1 hq with hq|hq
  ·exact h.sd q (BO _ hq)
  ·rcases AM.1 hq with rfl|hq
   ·rw[hts];exact h.sd r oA15
   ·exact h.sd q (BM _ (AI _ hq))
theorem MSt.close {bw:Nat} {W W':Wk} {o:T5} {A B:List Rdr} {r r':Rdr} {x:Hd} {tl:List Hd} (h:MSt bw W o (A++r::B) (x::tl)) (hA:A.length=x.run) (hs:W'.δ.size=W.δ.size) (hr:aMg bw W' r') (hb:r'.bx=r.bx) (hts:r'.ts=r.ts) (ho:r'.opn=false):
  MSt bw W' o (A++r'::B) tl where
 rd:=fun q hq=>by
  rcases AO.1 hq with hq|hq
  ·exact(h.rd q (BO _ hq)).move hs
  ·rcases AM.1 hq with rfl|hq
   ·exact hr
   ·exact(h.rd q (BM _ (AI _ hq))).move hs
 nd:=by have:=h.nd;simp only[AX,AZ,hb] at this⊢;exact this
 hd:=fun y hy=>by
  have aa:=h.one
  rw[AZ,CB] at aa
  obtain⟨q,h1,h2⟩:=h.hd y (AI _ hy)
  refine⟨q,?_,h2⟩
  rw[mid_get (r:=r) (by rw[hA];intro e;exact aa.1 (AU.2 ⟨y,hy,e⟩))]
  exact h1
 ex:=fun j q hj hq=>by
  by_cases e:j=A.length
  ·subst e;rw[bOq] at hj;cases hj;rw[ho] at hq;cases hq
  ·rw[mid_get (r:=r) e] at hj
   obtain⟨y,hy,e2⟩:=h.ex j q hj hq
   rcases AM.1 hy with rfl|hy
   ·omega
   ·exact⟨y,hy,e2⟩
 one:=by have:=h.one;rw[AZ,CB] at this;exact this.2
 sd:=fun q hq=>by
  rcases AO.1 hq with hq|hq
  ·exact h.sd q (BO _ hq)
  ·rcases AM.1 hq with rfl|hq
   ·rw[hts];exact h.sd r oA15
   ·exact h.sd q (BM _ (AI _ hq))
structure CSt (bw:Nat) (W:Wk) (rs:List Rdr) (l:List Hd):Prop where
 rd:∀r∈rs,aMg bw W r
 lr:∀x∈l,∃r∈rs,r.bx=x.rd
 rl:∀r∈rs,r.opn=true→∃x∈l,x.rd=r.bx
 nd:(rs.map (·.bx)).Nodup
theorem CSt.move {bw:Nat} {W W':Wk} {rs:List Rdr} {l:List Hd} (h:CSt bw W rs l) (hs:W'.δ.size=W.δ.size):CSt bw W' rs l:={h with rd:=fun r hr=>(h.rd r hr).move hs}
theorem MSt.cst {bw:Nat} {W:Wk} {o:T5} {rds:List Rdr} {hl:List Hd} (h:MSt bw W o rds hl):CSt bw W rds hl where
 rd:=h.rd
 lr:=fun x hx=>by
  obtain⟨r,h1,_,h2,_⟩:=h.hd x hx
  exact⟨r,A3 h1,h2⟩
 rl:=fun r hr ho=>by
  obtain⟨j,hj,e⟩:=CU hr
  obtain⟨x,hx,e2⟩:=h.ex j r (by rw[AE hj,e]) ho
  obtain⟨q,h1,_,h2,_⟩:=h.hd x hx
  rw[e2,AE hj,e] at h1
  cases h1
  exact⟨x,hx,h2.symm⟩
 nd:=h.nd
theorem CSt.one {bw:Nat} {W W':Wk} {A B:List Rdr} {r r':Rdr} {l:List Hd} (h:CSt bw W (A++r::B) l) (hs:W'.δ.size=W.δ.size) (hr:aMg bw W' r') (hb:r'.bx=r.bx) (ho:r'.opn=false):CSt bw W' (A++r'::B) l where
 rd:=fun q hq=>by
  rcases AO.1 hq with hq|hq
  ·exact(h.rd q (BO _ hq)).move hs
  ·rcases AM.1 hq with rfl|hq
   ·exact hr
   ·exact(h.rd q (BM _ (AI _ hq))).move hs
 lr:=fun x hx=>by
  obtain⟨q,hq,e⟩:=h.lr x hx
  rcases AO.1 hq with hq|hq
  ·exact⟨q,BO _ hq,e⟩
  ·rcases AM.1 hq with rfl|hq
   ·exact⟨r',BM _ AH,hb.trans e⟩
   ·exact⟨q,BM _ (AI _ hq),e⟩
 rl:=fun q hq aa=>by
  rcases AO.1 hq with hq|hq
  ·exact h.rl q (BO _ hq) aa
  ·rcases AM.1 hq with rfl|hq
   ·rw[ho] at aa;cases aa
   ·exact h.rl q (BM _ (AI _ hq)) aa
 nd:=by have:=h.nd;simp only[AX,AZ,hb] at this⊢;exact this
def rdA (s k:Nat) (rds:List Rdr):Nat:=(rds.map fun r=>aAb s k r.pos).sum
def left (rds:List Rdr):List T5:=(rds.map aHb).flatten
theorem aMh (s k:Nat) (A B:List Rdr) (r:Rdr):rdA s k (A++r::B)=rdA s k A+(aAb s k r.pos+rdA s k B):=by simp[rdA,CV]
theorem aLa (A B:List Rdr) (r:Rdr):left (A++r::B)=left A++(aHb r++left B):=by simp[left]
theorem bQu (s k:Nat) (A:List Rdr) (r:Rdr):rdA s k (A++[r])=rdA s k A+aAb s k r.pos:=by simp[rdA,CV]
theorem aWi (A:List Rdr) (r:Rdr):aBd (A++[r])=aBd A++(if r.opn=true then[r.g] else[]):=by
 unfold aBd
 rw[List.filter_append,AX]
 congr 1
 by_cases h:r.opn=true
 ·rw[if_pos h,List.filter_cons_of_pos h];rfl
 ·rw[if_neg h,List.filter_cons_of_neg h];rfl
theorem aWj (A B:List Rdr) (r:Rdr):(aDe (A++r::B)).Perm ((r.cx++r.cb)++aDe (A++B)):=by
 have h:(A++r::B).Perm (r::(A++B)):=B4
 refine(aRs h).trans ?_
 simp[aDe]
theorem aNb (A B:List Rdr) (r:Rdr) (ho:r.opn=true):(aBd (A++r::B)).Perm (r.g::aBd (A++B)):=by
 have h:(A++r::B).Perm (r::(A++B)):=B4
 refine(aHr h).trans ?_
 unfold aBd;rw[List.filter_cons_of_pos ho];exact .refl _
theorem aLb (A B:List Rdr) (r:Rdr) (ho:r.opn=false):(aBd (A++r::B)).Perm (aBd (A++B)):=by
 have h:(A++r::B).Perm (r::(A++B)):=B4
 refine(aHr h).trans ?_
 unfold aBd;rw[List.filter_cons_of_neg (by simp[ho])]
theorem bBt {s k:Nat} {rds:List Rdr} (h:∀r∈rds,r.pos≤r.f.count):rdA s k rds≤((rds.map Rdr.src).map fun r=>aAb s k r.1.count).sum:=by
 induction rds with
 |nil=>simp[rdA]
 |cons r rds ih=>
  have h1:=ih fun q hq=>h q (AI _ hq)
  have h2:aAb s k r.pos≤aAb s k r.f.count:=aAm (h r AH)
  simp only[rdA,AZ,DM,Rdr.src] at h1⊢
  omega
theorem aMi (A B:List Rdr) {r:Rdr} {cx cb:aAc} (h1:r.cx=cx) (h2:r.cb=cb):((cx++cb)++aDe (A++B)).Perm (aDe (A++r::B)):=by
 subst h1 h2;exact(aWj A B r).symm
theorem heap_set {o:T5} {x y:Hd} {tl:List Hd} (h:aCi (ltH o) (x::tl) (x::tl).length 0):aCi (ltH o) (y::tl) (y::tl).length 1:=by
 intro c h1 h2 h3
 have e:∀j,0<j→at_ (y::tl) j=at_ (x::tl) j:=fun j hj=>by
  obtain⟨i,rfl⟩:∃i,j=i+1:=⟨j-1,oM⟩
  rfl
 rw[e _ h1,e _ h3]
 exact h c h1 h2 (AS _)
structure bQv where
 cd:aAc
 ca:aAc
 cs:aAc
 cx:aAc
 cb:aAc
 W:Wk
 rds:List Rdr
 hl:List Hd
 ps:List T5
 last:T5
 sm:Bool
 rest:List Value
structure bQw where
 i:Nat
 cnt:Nat
 cd:aAc
 ca:aAc
 W:Wk
 rds:List Rdr
 hl:List Hd
 p:Option Addr
 cap:Nat
 vc:aAc
structure bQx (W:Wk) (k:Nat) (o:T5) (once:Bool) (rs:List (Fl×List T5)):Prop where
 k1:1≤k
 k5:k≤5
 two:2≤rs.length
 ok:∀r∈rs,r.1.width=k∧aAq W.δ.disk W.δ.size [r.1.ext] r.1 r.2∧Sd (ltO o) once r.2∧0<r.1.count
 live:∀r∈rs,r.1.ext∈W.live
 room:(rs.length+1)*W.δ.size≤W.α.room-W.α.used
 acts:W.δ.acts≤100000000000
 cnt:(rs.map (·.1.count)).sum≤1000000
def aBp (s k:Nat) (rs:List (Fl×List T5)):Nat:=(rs.map fun r=>aAb s k r.1.count).sum
theorem aPk {l:List Nat} {i:Nat}:(l.take i).sum≤l.sum:=by
 have h:=congrArg List.sum (BV i l)
 rw[CV] at h;omega
theorem aMj {rs:List (Fl×List T5)} (h:∀r∈rs,0<r.1.count):rs.length≤(rs.map (·.1.count)).sum:=by
 induction rs with
 |nil=>simp
 |cons r rs ih=>
  have h1:=ih fun q hq=>h q (AI _ hq)
  have h2:=h r AH
  simp only[AZ,DM,AL];omega
theorem aWk {s k:Nat} (hp:1≤aAf s k) {rs:List (Fl×List T5)}:aBp s k rs≤(rs.map (·.1.count)).sum:=by
 induction rs with
 |nil=>simp[aBp]
 |cons r rs ih=>
  have h2:=aAx (n:=r.1.count) hp
  simp only[aBp,AZ,DM] at ih⊢;omega
theorem bMf (bz bw bd ba bs:Nat) (W:Wk) (cd ca cs:aAc) (h:Wc bd ba bs W cd ca cs) (k:Nat) (o:T5) (once:Bool) (rs:List (Fl×List T5)) (ak:bQx W k o once rs) (vb off di:Nat) (cells:List Value)
  (dj:∀(i:Nat) (r:Fl×List T5),rs[i]? =some r→(cells.drop (off+i*4)).take 4=[.int .i64 (r.1.first:Int),.int .i64 (r.1.blocks:Int),.int .i64 (r.1.width:Int),.int .i64 (r.1.count:Int)]) (p:Option Addr) (n cap:Nat) (last:T5) (sm:Bool):
  Ct AC 217 [pv bz,.slice (some ⟨vb,off,none⟩) rs.length di] [aQp bz bw o once p n cap last sm,aAi bw bd ba bs,cd,ca,cs,[(vb,row cells 42)]] fun v H'=>
   ∃cd' ca' cs' W' last' sm',H'=[aQp bz bw o once p n cap last' sm',aAi bw bd ba bs,cd',ca',cs',[(vb,row cells 42)]]∧Wc bd ba bs W' cd' ca' cs'∧
    Ev W W' (aBp W.δ.size k rs+aAb W.δ.size k (rs.map (·.1.count)).sum) (aAb W.δ.size k (rs.map (·.1.count)).sum)∧aBv W.live W W'∧W'.α.gs.Perm W.α.gs∧
    ((∃f out,v= .tuple #[flv f,.int .i64 0]∧W'.live.Perm (aCj f W.live)∧f.width=k∧0<f.count∧f.count≤(rs.map (·.1.count)).sum∧aAq W'.δ.disk W.δ.size [f.ext] f out∧Sd (ltO o) once out∧Go.Srt.Sp (ltO o) once (rs.flatMap (·.2)) out)∨
     (v= .tuple #[flv ⟨0,0,0,0⟩,.int .i64 5]∧big W.σ.free<aAb W.δ.size k (rs.map (·.1.count)).sum∧W'.live.Perm W.live)∨
     (v= .tuple #[flv ⟨0,0,0,0⟩,.int .i64 6]∧W.δ.fault≠-1∧W'.live.Perm W.live)):=by
 obtain⟨⟨iy,kh⟩,ki,kj⟩:=h.dev.num
 obtain⟨kl,km,_,kn⟩:=h.ar.num
 have ga:=ak.k1
 have gb:=ak.k5
 have hp:=aAl iy ga gb
 have j4:=ak.cnt
 have ko:rs.length≤(rs.map (·.1.count)).sum:=aMj fun r hr=>(ak.ok r hr).2.2.2
 have kq:aBp W.δ.size k rs≤(rs.map (·.1.count)).sum:=aWk hp
 have j5:=ak.acts
 have j6:=ak.two
 unfold aQp aHt
 refine Ct.introD Tryz.func217 rfl Tryz.ntmps217 (nle rfl) fun w0=> ?_;dsimp only[aAa,AD]
 repeat(first|(refine sv ?_;intros)|refine G.draw (id:=15) [(10,.eff [0])] (h:= ?_)|refine cq hN ?_)
 rename_i b4 bh bc
 have iz:=ak.room
 have kr:(rs.length+1)*W.δ.size=rs.length*W.δ.size+W.δ.size:=BG _ _
 refine G.loop (X:=bQw) (fun x=>x.i≤rs.length∧x.i=x.rds.length∧x.hl.length=x.i∧x.cnt=((rs.take x.i).map (·.1.count)).sum∧Wc bd ba bs x.W x.cd x.ca cs∧Ev W x.W (rdA W.δ.size k x.rds) 0∧x.W.δ.disk=W.δ.disk∧x.W.live=W.live∧x.W.σ=W.σ∧
   x.W.α.gs.Perm (aBd x.rds++W.α.gs)∧x.W.α.used=W.α.used+x.i*W.δ.size∧x.rds.map Rdr.src=rs.take x.i∧(∀r∈x.rds,r.opn=true∧r.pos=1)∧MSt bw x.W o x.rds x.hl∧Vec 243 7 x.p x.i x.cap (hcells x.hl) x.vc)
  (fun x=>[(30,.int .i64 (x.i:Int)),(7,.int .i64 (x.cnt:Int)),(28,.slice (some ⟨vb,off,none⟩) rs.length di),(29,.int .i64 (rs.length:Int)),(6,pv bc),(4,pv b4),(0,pv bz),(1,.slice (some ⟨vb,off,none⟩) rs.length di)])
  (fun x=>[[(b4,row [.int .i64 0,.int .i64 0,.int .i64 0,.int .i64 0] 42)],[(bc,row [pv bh] 238)],[(bh,row [.slice x.p x.i x.cap,.int .i64 o.c0,.int .i64 o.c1,.int .i64 o.c2,.int .i64 o.c3,.int .i64 o.c4] 241)],x.vc,aAi bw bd ba bs,x.cd,x.ca,cs,aDe x.rds,[(vb,row cells 42)],[(bz,row [pv bw,.int .i64 o.c0,.int .i64 o.c1,.int .i64 o.c2,.int .i64 o.c3,.int .i64 o.c4,.bool once,.slice p n cap,.int .i64 last.c0,.int .i64 last.c1,.int .i64 last.c2,.int .i64 last.c3,.int .i64 last.c4,.bool sm] 200)]])
  (fun x=>rs.length-x.i) ⟨0,0,cd,ca,W,[],[],none,0,[]⟩
  ⟨AS _,rfl,rfl,by simp,h,Ev.refl W,rfl,rfl,rfl,.refl _,by simp,by simp,by simp,MSt.nil _ _ _,Vec.nil _ _⟩ oA3 oA0 ?_
 rintro⟨i,cnt,e0,gc,W1,rds,hl,p1,ae,vc⟩ ⟨hi,ei,gd,hct,d3,a9,c6,c7,fa,dk,cv,ap,bo,dl,fb⟩
 dsimp only at hi ei gd hct d3 a9 c6 c7 fa dk cv ap bo dl fb⊢
 subst gd
 have aq:=a9.size
 have ej:W1.α.room=W.α.room:=a9.room
 have j7:=a9.acts
 have b6:=fun (W':Wk) (cd' ca' cs':aAc) (i0:Wc bd ba bs W' cd' ca' cs') (l:List Hd) (p:Option Addr) (cap:Nat) (vc:aAc) (hV:Vec 243 7 p l.length cap (hcells l) vc) (b7:l.length≤1000000) (rs:List Rdr) (ek:List Gr) (hg:W'.α.gs.Perm (aBd rs++ek)) (hC:CSt bw W' rs l)=>
  aZa bc bh bw bd ba bs W' cd' ca' cs' i0 o l p cap vc hV b7 rs ek hg hC.rd hC.lr hC.rl hC.nd
 unfold bMd aNx at b6
 have j8:rdA W.δ.size k rds≤aBp W.δ.size k rs:=by
  refine Nat.le_trans (bBt fun r hr=> ?_) ?_
  ·have h1:r.src∈rs.take hl.length:=by rw[←ap];exact AU.2 ⟨r,hr,rfl⟩
   have h2:=(ak.ok _ (List.mem_of_mem_take h1)).2.2.2
   have h3:=(bo r hr).2
   unfold Rdr.src at h2
   dsimp only at h2
   omega
  ·rw[ap,List.map_take];exact aPk
 by_cases dm:hl.length<rs.length
 ·have fc:rs[hl.length]? =Option.some rs[hl.length]:=AE dm
  have i1:=dj hl.length _ fc
  obtain⟨be,au,dp,dq⟩:=ak.ok _ (B5 dm)
  have bp:=ak.live _ (B5 dm)
  have ge:(hl.length+1)*W.δ.size≤rs.length*W.δ.size:=Nat.mul_le_mul_right _ oM
  rw[BG] at ge
  have fd:((rs.take (hl.length+1)).map (·.1.count)).sum=((rs.take hl.length).map (·.1.count)).sum+rs[hl.length].1.count:=by rw[BP,fc,AX,CV];simp
  have gf:rs.take (hl.length+1)=rs.take hl.length++[rs[hl.length]]:=by rw[BP,fc];rfl
  have j9:((rs.take (hl.length+1)).map (·.1.count)).sum≤(rs.map (·.1.count)).sum:=by rw[List.map_take];exact aPk
  generalize i2:rs[hl.length]=r at*
  obtain⟨f,ts⟩:=r
  dsimp only at i1 be au dp dq bp fd
  have gg:aAq W1.δ.disk W1.δ.size [f.ext] f ts:=by rw[c6,aq];exact au
  have gh:=aIk bw bd ba bs W1 e0 gc cs d3 f ts [f.ext] gg (by rw[aq,ej,cv];omega)
  have dr:flv f= .agg #[.int .i64 (f.first:Int),.int .i64 (f.blocks:Int),.int .i64 (f.width:Int),.int .i64 (f.count:Int)]:=rfl
  rw[dr] at gh
  repeat(first|(refine sv ?_;intros)|refine G.draw (id:=15) [(10,.eff [0])] (h:= ?_)|refine cq hN ?_)
  refine R.call (hct:=gh) (h:= ?_)
  rintro _ _ ⟨bx,g,i3,α2,cx,cb,rfl,rfl,i4,c8,fe,gi,i5⟩
  try dsimp only[AA,AB]
  repeat(first|(refine sv ?_;intros)|refine G.draw (id:=15) [(10,.eff [0])] (h:= ?_)|refine cq hN ?_)
  have i6:=au.len
  have gj:ts[0]? =Option.some ts[0]:=AE oM
  have ds:=aJt bw bd ba bs {W1 with α:=α2} e0 i3 cs i4 bx f ts [f.ext] (by dsimp only;exact gg) (by dsimp only;rw[c7];simpa using bp) g (aBd rds++W.α.gs) (fe.trans (dk.cons _)) 0 cx cb i5 _ gj oD
  have fg:tv ts[0]= .agg #[.int .i64 (ts[0]).c0,.int .i64 (ts[0]).c1,.int .i64 (ts[0]).c2,.int .i64 (ts[0]).c3,.int .i64 (ts[0]).c4]:=rfl
  have hz:tv T5.zero= .agg #[.int .i64 T5.zero.c0,.int .i64 T5.zero.c1,.int .i64 T5.zero.c2,.int .i64 T5.zero.c3,.int .i64 T5.zero.c4]:=rfl
  rw[fg,hz] at ds
  generalize ht:ts[0]=t at*
  refine R.call (hct:=ds) (h:= ?_)
  rintro _ _ ⟨az,c9,W3,a0,bq,rfl,b8,av,gk,i7,gl,⟨rfl,gm,i8⟩|⟨rfl,gp,ks,i9,ja⟩⟩
  try dsimp only[AA,AB]
  ·have e1:AJ .i64 ((cnt:Int)+(f.count:Int))=((cnt+f.count:Nat):Int):=by rw[aAd oM];rfl
   have e2:AJ .i64 ((hl.length:Int)+1)=((hl.length+1:Nat):Int):=by rw[aAd oM];rfl
   have kt:=i2
   repeat(first|(refine sv ?_;intros)|refine G.draw (id:=15) [(10,.eff [0])] (h:= ?_)|refine cq hN ?_)
   rename_i p' gq c' jb
   apply Dn.nodup;intro jc
   have jd:=bEe (c1:=a0) (c2:=aDe rds) jc (by(repeat(first|exact aAn.here|apply aAn.there))) (by(repeat(first|exact aAn.here|apply aAn.there)))
   apply Dn.join (c1:=a0) (c2:=bq)
   ·(repeat(first|exact aAn.here|apply aAn.there))
   ·(repeat(first|exact aAn.here|apply aAn.there))
   apply Dn.join (c1:=aDe rds) (c2:=a0++bq)
   ·(repeat(first|exact aAn.here|apply aAn.there))
   ·(repeat(first|exact aAn.here|apply aAn.there))
   have gr:aGt bw bx W3 f ts g 1 a0 bq:=i8
   have el:aMg bw W3 ⟨bx,f,ts,g,1,true,a0,bq⟩:=by unfold aMg;rw[if_pos rfl];exact gr
   have ai:=(a9.trans c8).trans av
   rw[show aDe rds++(a0++bq)=aDe (rds++[⟨bx,f,ts,g,1,true,a0,bq⟩]) by simp[aDe]]
   refine Dn.round ⟨hl.length+1,cnt+f.count,az,c9,W3,rds++[⟨bx,f,ts,g,1,true,a0,bq⟩],hl++[⟨t,hl.length,bx⟩],p',gq,c'⟩ ⟨dm,by dsimp only;rw[AF,CO];omega,by dsimp only;rw[AF,CO],oD,b8,?_,gk.trans c6,gl.trans c7,i7.trans fa,?_,?_,?_,?_,?_,?_⟩ oD
   ·have h0:aAb W.δ.size k 0=0:=aEk hp
    have:=ai
    rw[be] at this
    dsimp only at this⊢
    rw[bQu]
    refine this.weak ?_ (AG _)
    show _+0+(aAb W1.δ.size k (0+1)-aAb W1.δ.size k 0)≤_+aAb W.δ.size k 1
    rw[aq,h0,BT];omega
   ·dsimp only
    rw[gm,aWi,if_pos rfl]
    refine(fe.trans (dk.cons _)).trans ?_
    rw[AP]
    exact B4.symm
   ·have e3:=b8.ar.num.2.2.2
    have e4:=d3.ar.num.2.2.2
    dsimp only at gi⊢
    rw[e3,gm,(fe.map (·.n)).sum_nat,AZ,DM,←e4,gi,cv,aq,BG];omega
   ·dsimp only
    rw[AX,ap,gf];rfl
   ·intro r hr
    rcases AO.1 hr with hr|hr
    ·exact bo r hr
    ·simp only[AT] at hr;subst hr;exact⟨rfl,rfl⟩
   ·have je:bx∉rds.map (·.bx):=bMe (W:=W3) (fun r hr=>(dl.rd r hr).move (by rw[av.size,c8.size])) (jd bx (by have:=el.bx_mem;exact this))
    have:=dl.add (W':=W3) (r:=⟨bx,f,ts,g,1,true,a0,bq⟩) (t:=t) (by rw[av.size,c8.size]) el rfl Nat.one_pos gj je (bQt dp)
    rw[←ei] at this
    exact this
   ·rw[aRr];exact jb
  ·have fh:=aVy bx a0 ja
   repeat(first|(refine sv ?_;intros)|refine G.draw (id:=15) [(10,.eff [0])] (h:= ?_)|refine cq hN ?_)
   refine R.call (hct:=fh) (h:= ?_)
   rintro _ _ ⟨rfl,rfl⟩
   try dsimp only[AA,AB]
   repeat(first|(refine sv ?_;intros)|refine G.draw (id:=15) [(10,.eff [0])] (h:= ?_)|refine cq hN ?_)
   have fi:=b6 W3 az c9 cs b8 hl p1 ae vc fb oM rds W.α.gs i9 (dl.cst.move (by rw[av.size,c8.size]))
   refine Go.SL.Lv.call (hc:=fi.2) (h:= ?_)
   rintro _ _ ⟨bu,α4,jf,rfl,rfl,b9,aj,bv⟩
   try dsimp only[AA,AB]
   have ai:=a9.trans c8
   have gt:=av
   (refine Go.SL.Lv.nil (Hr:=[[(bz,row [pv bw,.int .i64 o.c0,.int .i64 o.c1,.int .i64 o.c2,.int .i64 o.c3,.int .i64 o.c4,.bool once,.slice p n cap,.int .i64 last.c0,.int .i64 last.c1,.int .i64 last.c2,.int .i64 last.c3,.int .i64 last.c4,.bool sm] 200)],aAi bw bd ba bs,az,bu,cs,[(vb,row cells 42)]]) Tryz.results217 (hR:= ?_);refine⟨az,bu,cs,_,last,sm,rfl,b9,?_,?_,bv,.inr (.inr ⟨rfl,?_,?_⟩)⟩)
   ·have h5:=(ai.trans gt).trans aj
    rw[be] at h5
    refine h5.weak ?_ (AS _)
    show _+0+(aAb W1.δ.size k (0+1)-aAb W1.δ.size k 0)+0≤_
    rw[aq,BT]
    have h6:aAb W.δ.size k 1≤aAb W.δ.size k (rs.map (·.1.count)).sum:=aAm oM
    omega
   ·exact fun x _=>by show W3.δ.disk x=_;rw[gk];dsimp only;rw[c6]
   ·intro e
    have:=(a9.trans c8).fault e
    dsimp only at this gp
    omega
   ·show W3.live.Perm W.live
    rw[gl];dsimp only;rw[c7]
 ·obtain b7:hl.length=rs.length:=by omega
  have fd:rs.take hl.length=rs:=by rw[b7,DF]
  rw[fd] at hct ap
  obtain⟨_,h0|⟨hb,rest,rfl,rfl,fj,ku,gu⟩⟩:=fb
  ·omega
  have gx:=bQp bh hb ae o hl rest oM
  unfold aBt aPj at gx
  repeat(first|(refine sv ?_;intros)|refine G.draw (id:=15) [(10,.eff [0])] (h:= ?_)|refine cq hN ?_)
  refine R.call (hct:=gx) (h:= ?_)
  rintro _ _ ⟨da,rfl,rfl,gy,jg⟩
  try dsimp only[AA,AB]
  have kv:cells[off+Int.toNat 0+2]? =Option.some (.int .i64 (k:Int)):=by
   have h0:rs[0]? =Option.some rs[0]:=AE oM
   have h1:=dj 0 _ h0
   have h2:=(ak.ok _ (B5 (show 0<rs.length by omega))).1
   have h3:((cells.drop (off+0*4)).take 4)[2]? =Option.some (.int .i64 (rs[0].1.width:Int)):=by rw[h1];rfl
   rw[List.getElem?_take_of_lt oM,BR] at h3
   rw[←h2];simpa using h3
  have gz:=dl.permH gy
  have em:da.length=rs.length:=by rw[gy.length_eq,b7]
  have g0:=aKd bw bd ba bs W1 e0 gc cs d3 k cnt ga gb oM (by rw[aq,ej,cv,b7];omega)
  rw[aq] at g0
  repeat(first|(refine sv ?_;intros)|refine G.draw (id:=15) [(10,.eff [0])] (h:= ?_)|refine cq hN ?_)
  apply R.call
  ·exact rfl
  ·exact g0
  ·exact oA1
  ·exact rfl
  ·exact nle rfl
  rintro _ _ (⟨ka,bx,first,gw,az,c9,dt,W3,cx,cb,rfl,rfl,b8,av,e3,e4,e5,e6,e7⟩|⟨fk,rfl,az,c9,dt,W3,rfl,b8,av,e3,e4,e5⟩)
  ·dsimp only[AA,AB]
   repeat(first|(refine sv ?_;intros)|refine G.draw (id:=15) [(10,.eff [0])] (h:= ?_)|refine cq hN ?_)
   have cw:left rds=rs.flatMap (·.2):=by
    unfold left
    rw[←ap,List.flatMap_map,List.flatMap]
    refine congrArg List.flatten (CZ fun r hr=> ?_)
    obtain⟨h1,h2⟩:=bo r hr
    unfold aHb Rdr.src
    rw[if_pos h1,h2];rfl
   refine G.loop (X:=bQv) (fun x=>Wc bd ba bs x.W x.cd x.ca x.cs∧Ev W x.W (rdA W.δ.size k x.rds+x.ps.length/aAf W.δ.size k) (aAb W.δ.size k cnt)∧aBv W.live W x.W∧aDv first (aAb W.δ.size k cnt) W.live x.W.live∧x.W.α.gs.Perm (gw::(aBd x.rds++W.α.gs))∧
     MSt bw x.W o x.rds x.hl∧aCi (ltH o) x.hl x.hl.length 0∧Em o once (rs.flatMap (·.2)) x.ps (left x.rds)∧aHy bw bx x.W first (aAb W.δ.size k cnt) k cnt gw x.ps x.cx x.cb∧bHk x.ps x.last x.sm∧
     x.rds.map Rdr.src=rs∧(∀r∈x.rds,r.pos≤r.f.count)∧x.ps.length+(left x.rds).length≤cnt∧ae*7≤x.hl.length*7+x.rest.length∧x.hl.length≤rs.length)
    (fun _=>[(14,pv bx),(6,pv bc),(4,pv b4),(0,pv bz)])
    (fun x=>[aAi bw bd ba bs,x.cd,x.ca,x.cs,x.cx,x.cb,[(bh,row [.slice (some ⟨hb,0,none⟩) x.hl.length ae,.int .i64 o.c0,.int .i64 o.c1,.int .i64 o.c2,.int .i64 o.c3,.int .i64 o.c4] 241)],[(hb,row (hcells x.hl++x.rest) 243)],
     [(b4,row [.int .i64 0,.int .i64 0,.int .i64 0,.int .i64 0] 42)],[(bc,row [pv bh] 238)],aDe x.rds,[(vb,row cells 42)],[(bz,row [pv bw,.int .i64 o.c0,.int .i64 o.c1,.int .i64 o.c2,.int .i64 o.c3,.int .i64 o.c4,.bool once,.slice p n cap,.int .i64 x.last.c0,.int .i64 x.last.c1,.int .i64 x.last.c2,.int .i64 x.last.c3,.int .i64 x.last.c4,.bool x.sm] 200)]])
    (fun x=>(left x.rds).length) ⟨az,c9,dt,cx,cb,W3,rds,da,[],last,false,rest⟩
    ⟨b8,?_,?_,?_,?_,?_,?_,?_,?_,?_,?_,?_,?_,?_,?_⟩ (body:= ?_)
   ·exact(a9.trans av).weak (by dsimp only;simp) oM
   ·exact fun y _=>by show W3.δ.disk y=_;rw[e3,c6]
   ·dsimp only;rw[←c7];exact e6
   ·exact e4.trans (dk.cons _)
   ·exact gz.move av.size
   ·exact jg
   ·dsimp only
    rw[cw];exact Em.start (Go.Srt.Sp.refl _ _)
   ·exact e7
   ·rfl
   ·exact ap
   ·intro r hr
    dsimp only at hr
    have h1:r.src∈rs:=by rw[←ap];exact AU.2 ⟨r,hr,rfl⟩
    have h2:=(ak.ok _ h1).2.2.2
    have h3:=(bo r hr).2
    unfold Rdr.src at h2
    dsimp only at h2
    omega
   ·dsimp only
    rw[cw,hct,AV,BT,List.length_flatMap]
    refine Nat.le_of_eq (congrArg List.sum (CZ fun r hr=>(ak.ok r hr).2.1.len))
   ·dsimp only
    rw[aCb] at fj
    rw[em,←b7];exact fj
   ·dsimp only;omega
   rintro⟨g1,bu,g3,g4,g5,W4,a7,bf,ac,ab,du,ad⟩ ⟨b9,ai,dw,a5,bv,aw,d4,db,fm,en,al,ah,bg,bi,cz⟩
   dsimp only at b9 ai dw a5 bv aw d4 db fm en al ah bg bi cz⊢
   have hN:=aSy bh hb ae o bf ad
   unfold aBt at hN
   have d5:Vec 243 7 (some ⟨hb,0,none⟩) bf.length ae (hcells bf) [(hb,row (hcells bf++ad) 243)]:=⟨by rw[aCb],.inr ⟨hb,ad,rfl,rfl,by rw[aCb];exact bi,oM,gu⟩⟩
   by_cases dx:0<bf.length
   ·obtain⟨x,tl,rfl⟩:∃x tl,bf=x::tl:=by
     cases bf with
     |nil=>simp at dx
     |cons x tl=>exact⟨x,tl,rfl⟩
    obtain⟨a1,a2,a3,a4⟩:=aPi (rest:=ad) dx
    obtain⟨A,r,B,rfl,hA,ho,fp,kw,fq,b1,fr,ft⟩:=aw.top dx d4
    have jh:at_ (x::tl) 0=x:=rfl
    rw[jh] at a4 hA fp fq b1 fr ft
    obtain⟨xt,kc,kx⟩:=x
    dsimp only at hA fp fq b1 fr ft
    subst hA fp
    unfold Hd.cells at a4
    dsimp only at a4
    have eo:r.src∈rs:=by rw[←al];exact AU.2 ⟨r,by simp,rfl⟩
    obtain⟨be,au,dp,dq⟩:=ak.ok _ eo
    have bp:=ak.live _ eo
    unfold Rdr.src at be au dp dq bp
    dsimp only at be au dp dq bp
    have i6:=au.len
    have ji:=ah r oA15
    have jj:xt∈r.ts:=A3 fq
    have a8:=ai.size
    have g6:=ai.acts
    have g7:ac.length<cnt:=by
     have:=congrArg List.length (aLa A B r)
     rw[b1] at this
     simp only[AF,AL] at this
     omega
    have jk:ac.length/aAf W.δ.size k≤ac.length:=CW _ _
    have g8:rdA W.δ.size k (A++r::B)≤aBp W.δ.size k rs:=by
     rw[←al];exact bBt ah
    have d6:=bOp bz bw bd ba bs W4 g1 bu g3 b9 bx first _ k cnt gw ac g4 g5 fm _ bv W.live a5 g7 xt (by rw[←be];exact au.fit _ jj) oM o once p n cap ab du en
    unfold aQp aHt at d6
    rw[a8] at d6
    have fg:tv xt= .agg #[.int .i64 xt.c0,.int .i64 xt.c1,.int .i64 xt.c2,.int .i64 xt.c3,.int .i64 xt.c4]:=rfl
    rw[fg] at d6
    repeat(first|(refine sv ?_;intros)|refine G.draw (id:=15) [(10,.eff [0])] (h:= ?_)|refine cq hN ?_)
    refine R.call (hct:=d6) (h:= ?_)
    rintro _ _ ⟨ao,dc,am,W5,b2,dy,aa,dd,rfl,de,aj,dz,⟨rfl,e8,e9,a6,cg,d7⟩|⟨rfl,e8,e9,a6,cg,d7⟩⟩
    try dsimp only[AA,AB]
    ·have ax:=aj.size
     have kd:=aj.acts
     have g9:=aNu o once ac xt
     have fu:=Em.merge (A:=A.map aHb) (B:=B.map aHb) (t:=xt) (r:=r.ts.drop r.pos) (by have:=db;unfold left at this;rw[AX,AZ,b1] at this;exact this) fr ft (by rw[←b1];exact aSz (aw.sd r oA15))
     have ke:(aLq o once ac xt).length/aAf W.δ.size k≤(aLq o once ac xt).length:=CW _ _
     have kf:ac.length/aAf W.δ.size k≤(aLq o once ac xt).length/aAf W.δ.size k:=BX g9.1
     have c5:=dw.trans dz
     have ha:(aLq o once ac xt).length/aAf W.δ.size k≤aAb W.δ.size k cnt:=by unfold aAb;exact BX oM
     have hh:r.pos<r.ts.length→rdA W.δ.size k A+(aAb W.δ.size k (r.pos+1)+rdA W.δ.size k B)≤aBp W.δ.size k rs:=fun dm=>by
      have h1:=bBt (s:=W.δ.size) (k:=k) (rds:=A++{r with pos:=r.pos+1}::B) (fun q hq=>by
       rcases AO.1 hq with hq|hq
       ·exact ah q (BO _ hq)
       ·rcases AM.1 hq with rfl|hq
        ·dsimp only;omega
        ·exact ah q (BM _ (AI _ hq)))
      rw[aMh] at h1
      have h2:(A++{r with pos:=r.pos+1}::B).map Rdr.src=rs:=by rw[←al,AX,AX];rfl
      rw[h2] at h1;exact h1
     have d0:=aw.rd r oA15
     unfold aMg at d0
     rw[if_pos ho] at d0
     have df:W5.α.gs.Perm (r.g::gw::(aBd (A++B)++W.α.gs)):=by
      rw[e8]
      refine bv.trans ?_
      refine(((aNb A B r ho).append_right _).cons _).trans ?_
      exact CQ _ _ _
     have hj:aAq W5.δ.disk W5.δ.size [r.f.ext] r.f r.ts:=by
      rw[ax,a8]
      exact au.keep fun y hy=>c5 y (by obtain⟨e,he,h2⟩:=hy;simp only[AT] at he;subst he;exact⟨_,bp,h2⟩)
     have hk:∀e∈[r.f.ext],e∈W5.live:=by
      intro e he
      simp only[AT] at he
      subst he
      rw[a6]
      unfold aDv at a5
      split at a5
      ·exact a5.mem_iff.2 bp
      ·exact a5.mem_iff.2 (AI _ bp)
     have hz:tv T5.zero= .agg #[.int .i64 T5.zero.c0,.int .i64 T5.zero.c1,.int .i64 T5.zero.c2,.int .i64 T5.zero.c3,.int .i64 T5.zero.c4]:=rfl
     have fv:aGt bw r.bx W5 r.f r.ts r.g r.pos r.cx r.cb:=d0.move ax
     repeat(first|(refine sv ?_;intros)|refine G.draw (id:=15) [(10,.eff [0])] (h:= ?_)|refine cq hN ?_)
     apply R1.open (aWj A B r)
     ·(repeat(first|exact aAn.here|apply aAn.there))
     apply R1.open (c:=r.cx++r.cb) (c1:=r.cx) (c2:=r.cb) (.refl _)
     ·(repeat(first|exact aAn.here|apply aAn.there))
     by_cases ep:r.pos<r.ts.length
     ·have hw:r.ts[r.pos]? =Option.some r.ts[r.pos]:=AE ep
      have ds:=aJt bw bd ba bs W5 ao dc am de r.bx r.f r.ts [r.f.ext] hj hk r.g _ df r.pos r.cx r.cb fv _ hw oM
      have h4:tv r.ts[r.pos]= .agg #[.int .i64 (r.ts[r.pos]).c0,.int .i64 (r.ts[r.pos]).c1,.int .i64 (r.ts[r.pos]).c2,.int .i64 (r.ts[r.pos]).c3,.int .i64 (r.ts[r.pos]).c4]:=rfl
      rw[h4,hz] at ds
      generalize ky:r.ts[r.pos]=yt at*
      refine R.call (hct:=ds) (h:= ?_)
      rintro _ _ ⟨h9,ie,W6,dg,dh,rfl,ig,d8,d9,k0,et,⟨rfl,jl,jm⟩|⟨rfl,k2,k3,jn,jp⟩⟩
      try dsimp only[AA,AB]
      ·have jq:aFm (hcells (⟨xt,A.length,r.bx⟩::tl)++ad) 0 [.int .i64 yt.c0,.int .i64 yt.c1,.int .i64 yt.c2,.int .i64 yt.c3,.int .i64 yt.c4]=hcells (⟨yt,A.length,r.bx⟩::tl)++ad:=by simp[hcells,Hd.cells,aFm]
       have jr:5≤(hcells (⟨xt,A.length,r.bx⟩::tl)++ad).length:=by rw[AF,aCb,AL];omega
       have ih:=Fix_ct bh hb ae o (⟨yt,A.length,r.bx⟩::tl) ad (by rw[AL] at cz⊢;omega) (heap_set d4)
       unfold aBt aPj at ih
       repeat(first|(refine sv ?_;intros)|refine G.draw (id:=15) [(10,.eff [0])] (h:= ?_)|refine cq hN ?_)
       refine R.call (hct:=ih) (h:= ?_)
       rintro _ _ ⟨fw,rfl,rfl,ea,fx⟩
       try dsimp only[AA,AB]
       repeat(first|(refine sv ?_;intros)|refine G.draw (id:=15) [(10,.eff [0])] (h:= ?_)|refine cq hN ?_)
       apply Dn.join (c1:=dg) (c2:=dh)
       ·(repeat(first|exact aAn.here|apply aAn.there))
       ·(repeat(first|exact aAn.here|apply aAn.there))
       obtain⟨r6,an⟩:∃r6:Rdr,r6={r with pos:=r.pos+1,cx:=dg,cb:=dh}:=⟨_,rfl⟩
       apply Dn.joinP (c:=aDe (A++r6::B)) (c1:=dg++dh) (c2:=aDe (A++B)) (aMi A B (by rw[an]) (by rw[an]))
       ·(repeat(first|exact aAn.here|apply aAn.there))
       ·(repeat(first|exact aAn.here|apply aAn.there))
       have b3:=d8.size
       have eb:r6.opn=true:=by rw[an];exact ho
       have ec:r6.pos=r.pos+1:=by rw[an]
       have ee:r6.ts=r.ts:=by rw[an]
       have ii:r6.f=r.f:=by rw[an]
       have js:r6.bx=r.bx:=by rw[an]
       have jt:r6.g=r.g:=by rw[an]
       have ij:aMg bw W6 r6:=by unfold aMg;rw[if_pos eb,an];exact jm
       have d1:aHb r6=r.ts.drop r.pos:=by unfold aHb;rw[if_pos eb,ec,ee,DK]
       have ik:=ea.length_eq
       rw[AL] at ik cz bi
       have fy:(left (A++r6::B)).length+1=(left (A++r::B)).length:=by
        rw[aLa,aLa,d1,b1];simp only[AF,AL];omega
       refine Dn.round ⟨h9,ie,am,b2,dy,W6,A++r6::B,fw,aLq o once ac xt,aa,dd,ad⟩ ⟨ig,?_,c5.trans fun y _=>by rw[d9],by rw[et,a6];exact a5,?_,?_,fx,?_,cg.move b3 fun y _ _=>by rw[d9],d7,?_,?_,?_,?_,?_⟩ oD
       ·have h7:=(ai.trans aj).trans d8
        rw[ax,a8,be] at h7
        refine h7.weak ?_ (AG _)
        dsimp only
        rw[aMh,aMh,ec]
        have:=aAm (s:=W.δ.size) (k:=k) (show r.pos≤r.pos+1 by omega)
        omega
       ·dsimp only
        rw[jl]
        refine df.trans ((CQ _ _ _).trans (List.Perm.cons _ ?_))
        have:=(aNb A B r6 eb).symm.append_right W.α.gs
        rw[jt] at this
        exact this
       ·exact(aw.step rfl (by rw[b3,ax]) ij js rfl ee eb oM (by rw[ee,ec,DK];exact hw)).permH ea
       ·dsimp only
        unfold left
        rw[AX,AZ,d1];exact fu
       ·dsimp only
        rw[←al,AX,AX,AZ,AZ]
        unfold Rdr.src;rw[ee,ii]
       ·intro q hq
        dsimp only at hq
        rcases AO.1 hq with hq|hq
        ·exact ah q (BO _ hq)
        ·rcases AM.1 hq with rfl|hq
         ·rw[ec,ii];omega
         ·exact ah q (BM _ (AI _ hq))
       ·dsimp only;omega
       ·dsimp only;omega
       ·dsimp only;omega
      ·obtain⟨rc,ag⟩:∃rc:Rdr,rc={r with opn:=false,cx:=dg,cb:=dh}:=⟨_,rfl⟩
       have bk:rc.opn=false:=by rw[ag]
       have b5:aMg bw W6 rc:=by unfold aMg;rw[if_neg (by rw[bk];simp),ag];exact jp
       apply R.join (c1:=dg) (c2:=dh)
       ·(repeat(first|exact aAn.here|apply aAn.there))
       ·(repeat(first|exact aAn.here|apply aAn.there))
       apply R.joinP (c:=aDe (A++rc::B)) (c1:=dg++dh) (c2:=aDe (A++B)) (aMi A B (by rw[ag]) (by rw[ag]))
       ·(repeat(first|exact aAn.here|apply aAn.there))
       ·(repeat(first|exact aAn.here|apply aAn.there))
       have b3:=d8.size
       have ju:aHy bw bx W6 first (aAb W.δ.size k cnt) k cnt gw (aLq o once ac xt) b2 dy:=cg.move b3 fun y _ _=>by rw[d9]
       have jv:=aYt bw bd ba bs W6 h9 ie am ig bx first _ k cnt gw _ b2 dy ju _ jn W.live (by rw[et,a6];exact a5)
       repeat(first|(refine sv ?_;intros)|refine G.draw (id:=15) [(10,.eff [0])] (h:= ?_)|refine cq hN ?_)
       refine Go.SL.Lv.call (hc:=jv.2) (h:= ?_)
       rintro _ _ ⟨f0,f1,f2,W7,ef,k4,rfl,rfl,f6,eg,jw,f7,jx,im⟩
       try dsimp only[AA,AB]
       have ci:=b6 W7 f0 f1 f2 f6 _ _ ae _ d5 oM (A++rc::B) W.α.gs (f7.trans ((aLb A B rc bk).symm.append_right _)) ((aw.cst.move (W':=W5) ax).one (by rw[eg.size,b3]) (by unfold aMg at b5⊢;rw[if_neg (by rw[bk];simp)] at b5⊢;exact b5) (by rw[ag]) bk)
       refine Go.SL.Lv.call (hc:=ci.2) (h:= ?_)
       rintro _ _ ⟨ay,α8,f8,rfl,rfl,cj,cm,cu⟩
       try dsimp only[AA,AB]
       (refine Go.SL.Lv.nil (Hr:=[[(bz,row [pv bw,.int .i64 o.c0,.int .i64 o.c1,.int .i64 o.c2,.int .i64 o.c3,.int .i64 o.c4,.bool once,.slice p n cap,.int .i64 aa.c0,.int .i64 aa.c1,.int .i64 aa.c2,.int .i64 aa.c3,.int .i64 aa.c4,.bool dd] 200)],aAi bw bd ba bs,f0,ay,f2,[(vb,row cells 42)]]) Tryz.results217 (hR:= ?_);refine⟨f0,ay,f2,_,aa,dd,rfl,cj,?_,?_,cu,.inr (.inr ⟨rfl,?_,jx⟩)⟩)
       ·have h7:=(((ai.trans aj).trans d8).trans eg).trans cm
        rw[ax,a8,be] at h7
        rw[←hct]
        refine h7.weak ?_ (AG _)
        have h8:=hh ep
        rw[aMh]
        have:=aAm (s:=W.δ.size) (k:=k) (show r.pos≤r.pos+1 by omega)
        omega
       ·exact fun y hy=>by show W7.δ.disk y=_;rw[jw];rw[d9];exact c5 y hy
       ·intro e
        have:=(ai.trans aj).fault e
        omega
     ·have jy:r.pos=r.f.count:=oM
      have io:=aGf bw r.bx W5 r.f r.ts r.g r.cx r.cb (by rw[←jy];exact fv)
      rw[hz] at io
      refine R.call (hct:=io) (h:= ?_)
      rintro _ _ ⟨rfl,rfl⟩
      try dsimp only[AA,AB]
      have ip:=bQr bh hb ae o (⟨xt,A.length,r.bx⟩::tl) ad oM oM dx d4
      unfold aBt aPj at ip
      have fh:=aNr bw bd ba bs W5 ao dc am de r.bx r.f r.ts r.g _ df r.pos r.cx r.cb fv
      repeat(first|(refine sv ?_;intros)|refine G.draw (id:=15) [(10,.eff [0])] (h:= ?_)|refine cq hN ?_)
      refine R.call (hct:=ip) (h:= ?_)
      rintro _ _ ⟨fw,y6,rfl,jz,rfl,ea,ir,fx⟩
      try dsimp only[AA,AB]
      have j0:y6=⟨xt,A.length,r.bx⟩:=jz
      subst j0
      repeat(first|(refine sv ?_;intros)|refine G.draw (id:=15) [(10,.eff [0])] (h:= ?_)|refine cq hN ?_)
      refine R.call (hct:=fh) (h:= ?_)
      rintro _ _ ⟨f1,α7,ef,rfl,rfl,f6,eg,f7,im⟩
      try dsimp only[AA,AB]
      repeat(first|(refine sv ?_;intros)|refine G.draw (id:=15) [(10,.eff [0])] (h:= ?_)|refine cq hN ?_)
      obtain⟨rc,ag⟩:∃rc:Rdr,rc={r with opn:=false,cx:=ef}:=⟨_,rfl⟩
      have bk:rc.opn=false:=by rw[ag]
      have eu:rc.ts=r.ts:=by rw[ag]
      have ew:rc.f=r.f:=by rw[ag]
      have ey:rc.pos=r.pos:=by rw[ag]
      have iu:rc.bx=r.bx:=by rw[ag]
      have b5:aMg bw {W5 with α:=α7} rc:=by unfold aMg;rw[if_neg (by rw[bk];simp),ag];exact im
      apply Dn.join (c1:=ef) (c2:=r.cb)
      ·(repeat(first|exact aAn.here|apply aAn.there))
      ·(repeat(first|exact aAn.here|apply aAn.there))
      apply Dn.joinP (c:=aDe (A++rc::B)) (c1:=ef++r.cb) (c2:=aDe (A++B)) (aMi A B (by rw[ag]) (by rw[ag]))
      ·(repeat(first|exact aAn.here|apply aAn.there))
      ·(repeat(first|exact aAn.here|apply aAn.there))
      have d2:aHb rc=[]:=by unfold aHb;rw[bk];rfl
      have j1:r.ts.drop r.pos=[]:=List.drop_of_length_le oM
      rw[j1] at fu b1
      have fy:(left (A++rc::B)).length+1=(left (A++r::B)).length:=by
       rw[aLa,aLa,d2,b1];simp only[AF,AL,AV];omega
      rw[AL] at ir cz bi
      have iv:=(ai.trans aj).trans eg
      refine Dn.round ⟨ao,f1,am,b2,dy,{W5 with α:=α7},A++rc::B,fw,aLq o once ac xt,aa,dd,Hd.cells ⟨xt,A.length,r.bx⟩++ad⟩ ⟨f6,?_,c5,by dsimp only;rw[a6];exact a5,?_,?_,fx,?_,cg.move rfl fun _ _ _=>rfl,d7,?_,?_,?_,?_,?_⟩ oD
      ·refine iv.weak ?_ (AG _)
       dsimp only
       rw[aMh,aMh,ey]
       omega
      ·dsimp only
       exact f7.trans (((aLb A B rc bk).symm.append_right _).cons _)
      ·refine(MSt.close (W':={W5 with α:=α7}) (aw.permH ea) rfl ax b5 iu eu bk)
      ·dsimp only
       unfold left
       rw[AX,AZ,d2];exact fu
      ·dsimp only
       rw[←al,AX,AX,AZ,AZ]
       unfold Rdr.src;rw[eu,ew]
      ·intro q hq
       dsimp only at hq
       rcases AO.1 hq with hq|hq
       ·exact ah q (BO _ hq)
       ·rcases AM.1 hq with rfl|hq
        ·rw[ey,ew];omega
        ·exact ah q (BM _ (AI _ hq))
      ·dsimp only;omega
      ·dsimp only
       rw[AF,show(Hd.cells ⟨xt,A.length,r.bx⟩).length=7 from rfl];omega
      ·dsimp only;omega
    ·repeat(first|(refine sv ?_;intros)|refine G.draw (id:=15) [(10,.eff [0])] (h:= ?_)|refine cq hN ?_)
     refine Go.SL.Lv.call (hc:=(aEy bx b2 d7).2) (h:= ?_)
     rintro _ _ ⟨rfl,rfl⟩
     try dsimp only[AA,AB]
     have ci:=b6 W5 ao dc am de _ _ ae _ d5 oM (A++r::B) W.α.gs a6 (aw.cst.move aj.size)
     refine Go.SL.Lv.call (hc:=ci.2) (h:= ?_)
     rintro _ _ ⟨ay,α8,f8,rfl,rfl,cj,cm,cu⟩
     try dsimp only[AA,AB]
     (refine Go.SL.Lv.nil (Hr:=[[(bz,row [pv bw,.int .i64 o.c0,.int .i64 o.c1,.int .i64 o.c2,.int .i64 o.c3,.int .i64 o.c4,.bool once,.slice p n cap,.int .i64 aa.c0,.int .i64 aa.c1,.int .i64 aa.c2,.int .i64 aa.c3,.int .i64 aa.c4,.bool dd] 200)],aAi bw bd ba bs,ao,ay,am,[(vb,row cells 42)]]) Tryz.results217 (hR:= ?_);refine⟨ao,ay,am,_,aa,dd,rfl,cj,?_,?_,cu,.inr (.inr ⟨rfl,?_,cg⟩)⟩)
     ·have h7:=(ai.trans aj).trans cm
      rw[←hct]
      refine h7.weak ?_ (AG _)
      have g9:=aNu o once ac xt
      have ha:(aLq o once ac xt).length/aAf W.δ.size k≤aAb W.δ.size k cnt:=by unfold aAb;exact BX oM
      have k6:ac.length/aAf W.δ.size k≤aAb W.δ.size k cnt:=by unfold aAb;exact BX oM
      omega
     ·exact dw.trans dz
     ·intro e
      have:=ai.fault e
      omega
   ·have j2:bf=[]:=by
     cases bf with
     |nil=>rfl
     |cons x tl=>simp at dx
    subst j2
    have ez:∀r∈a7,r.opn=false:=by
     intro r hr
     cases ho:r.opn with
     |false=>rfl
     |true=>
      obtain⟨x,hx,_⟩:=aw.cst.rl r hr ho
      simp at hx
    have eh:left a7=[]:=by
     unfold left
     rw[List.flatten_eq_nil_iff]
     intro l hl
     obtain⟨r,hr,rfl⟩:=AU.1 hl
     unfold aHb;rw[ez r hr];rfl
    have kg:aBd a7=[]:=by
     unfold aBd
     rw[EM.2 (fun r hr=>by rw[ez r hr];simp)];rfl
    rw[eh] at db bg
    rw[AV,Nat.add_zero] at bg
    have a8:=ai.size
    have g6:=ai.acts
    have jk:ac.length/aAf W.δ.size k≤ac.length:=CW _ _
    have g8:rdA W.δ.size k a7≤aBp W.δ.size k rs:=by
     rw[←al];exact bBt ah
    have iw:=aPc bw bd ba bs W4 g1 bu g3 b9 bx first _ k cnt gw ac g4 g5 fm _ bv W.live a5 oM
    rw[a8] at iw
    have k7:aAb W.δ.size k ac.length≤aAb W.δ.size k cnt:=aAm bg
    have k8:ac.length/aAf W.δ.size k≤aAb W.δ.size k ac.length:=by unfold aAb;exact BX oM
    repeat(first|(refine sv ?_;intros)|refine G.draw (id:=15) [(10,.eff [0])] (h:= ?_)|refine cq hN ?_)
    refine R.call (hct:=iw) (h:= ?_)
    rintro _ _ ⟨ao,dc,am,W5,b2,dy,rfl,de,aj,dz,df,ix,⟨f,rfl,e8,e9,a6,cg⟩|⟨rfl,e8,e9,a6⟩⟩
    try dsimp only[AA,AB]
    ·have dr:flv f= .agg #[.int .i64 (f.first:Int),.int .i64 (f.blocks:Int),.int .i64 (f.width:Int),.int .i64 (f.count:Int)]:=rfl
     rw[dr]
     repeat(first|(refine sv ?_;intros)|refine G.draw (id:=15) [(10,.eff [0])] (h:= ?_)|refine cq hN ?_)
     refine Go.SL.Lv.call (hc:=(aEy bx b2 ix).2) (h:= ?_)
     rintro _ _ ⟨rfl,rfl⟩
     try dsimp only[AA,AB]
     have ci:=b6 W5 ao dc am de _ _ ae _ d5 oM a7 W.α.gs df (aw.cst.move aj.size)
     refine Go.SL.Lv.call (hc:=ci.2) (h:= ?_)
     rintro _ _ ⟨ay,α8,f8,rfl,rfl,cj,cm,cu⟩
     try dsimp only[AA,AB]
     (refine Go.SL.Lv.nil (Hr:=[[(bz,row [pv bw,.int .i64 o.c0,.int .i64 o.c1,.int .i64 o.c2,.int .i64 o.c3,.int .i64 o.c4,.bool once,.slice p n cap,.int .i64 ab.c0,.int .i64 ab.c1,.int .i64 ab.c2,.int .i64 ab.c3,.int .i64 ab.c4,.bool du] 200)],aAi bw bd ba bs,ao,ay,am,[(vb,row cells 42)]]) Tryz.results217 (hR:= ?_);refine⟨ao,ay,am,_,ab,du,rfl,cj,?_,?_,cu,.inl ⟨f,ac,rfl,?_,e9,?_,oM,cg,?_,?_⟩⟩)
     ·rw[←hct]
      exact((ai.trans aj).trans cm).weak oM (AG _)
     ·exact dw.trans dz
     ·show W5.live.Perm _
      rw[e8];exact .refl _
     ·rw[a6]
      cases hps:ac with
      |cons a b=>simp
      |nil=>
       exfalso
       have h1:=bHo db.fin.2 hps
       have h0:rs[0]∈rs:=B5 oM
       obtain⟨_,au,_,dq⟩:=ak.ok _ h0
       have:=au.len
       rw[List.flatMap_eq_nil_iff] at h1
       have h3:=h1 _ h0
       rw[h3] at this
       simp at this;omega
     ·exact db.fin.1
     ·exact db.fin.2
    ·repeat(first|(refine sv ?_;intros)|refine G.draw (id:=15) [(10,.eff [0])] (h:= ?_)|refine cq hN ?_)
     refine Go.SL.Lv.call (hc:=(aEy bx b2 ix).2) (h:= ?_)
     rintro _ _ ⟨rfl,rfl⟩
     try dsimp only[AA,AB]
     have ci:=b6 W5 ao dc am de _ _ ae _ d5 oM a7 W.α.gs df (aw.cst.move aj.size)
     refine Go.SL.Lv.call (hc:=ci.2) (h:= ?_)
     rintro _ _ ⟨ay,α8,f8,rfl,rfl,cj,cm,cu⟩
     try dsimp only[AA,AB]
     (refine Go.SL.Lv.nil (Hr:=[[(bz,row [pv bw,.int .i64 o.c0,.int .i64 o.c1,.int .i64 o.c2,.int .i64 o.c3,.int .i64 o.c4,.bool once,.slice p n cap,.int .i64 ab.c0,.int .i64 ab.c1,.int .i64 ab.c2,.int .i64 ab.c3,.int .i64 ab.c4,.bool du] 200)],aAi bw bd ba bs,ao,ay,am,[(vb,row cells 42)]]) Tryz.results217 (hR:= ?_);refine⟨ao,ay,am,_,ab,du,rfl,cj,?_,?_,cu,.inr (.inr ⟨rfl,?_,a6⟩)⟩)
     ·rw[←hct]
      exact((ai.trans aj).trans cm).weak oM (AG _)
     ·exact dw.trans dz
     ·intro e
      have:=ai.fault e
      omega
  ·dsimp only[AA,AB]
   repeat(first|(refine sv ?_;intros)|refine G.draw (id:=15) [(10,.eff [0])] (h:= ?_)|refine cq hN ?_)
   have j3:Vec 243 7 (some ⟨hb,0,none⟩) da.length ae (hcells da) [(hb,row (hcells da++rest) 243)]:=⟨by rw[aCb],.inr ⟨hb,rest,rfl,rfl,by rw[aCb,em,←b7,←aCb];exact fj,oM,gu⟩⟩
   have fi:=b6 W3 az c9 dt b8 da _ ae _ j3 oM rds W.α.gs (e5.trans dk) (gz.cst.move av.size)
   refine Go.SL.Lv.call (hc:=fi.2) (h:= ?_)
   rintro _ _ ⟨bu,α4,jf,rfl,rfl,b9,aj,bv⟩
   try dsimp only[AA,AB]
   (refine Go.SL.Lv.nil (Hr:=[[(bz,row [pv bw,.int .i64 o.c0,.int .i64 o.c1,.int .i64 o.c2,.int .i64 o.c3,.int .i64 o.c4,.bool once,.slice p n cap,.int .i64 last.c0,.int .i64 last.c1,.int .i64 last.c2,.int .i64 last.c3,.int .i64 last.c4,.bool sm] 200)],aAi bw bd ba bs,az,bu,dt,[(vb,row cells 42)]]) Tryz.results217 (hR:= ?_);refine⟨az,bu,dt,_,last,sm,rfl,b9,?_,?_,bv,.inr (.inl ⟨rfl,?_,?_⟩)⟩)
   ·exact((a9.trans av).trans aj).weak oM (AS _)
   ·exact fun x _=>by show W3.δ.disk x=_;rw[e3,c6]
   ·rw[←hct,←fa];exact fk
   ·show W3.live.Perm W.live
    rw[e4,c7]
end Go.Proofs.YtaofijjjheiknaaGreat
