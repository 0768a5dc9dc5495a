/-
  Parts of the proof, put together: Each, HeapPlain, Heads, Heap, HeapPop, MergePlain, Readers, CloseAll, MergeSt. No condition.
-/
import Derived.Test.YtammjnjpheobaaaGreatK15
set_option linter.unusedVariables false
set_option linter.unusedSimpArgs false
set_option linter.unnecessarySimpa false
set_option maxHeartbeats 4000000
namespace Go.Proofs.YtammjnjpheobaaaGreat
open Go.SL Go.Spc Go.Tup
structure EachR (K:Type) where
 k:K
 ps:List T5
 cx:Chunk
 cb:Chunk
 op:Bool
def FileIn (W:Wk) (x:Fl×List T5):Prop:=∃Lv,FileOk W.δ.disk W.δ.size Lv x.1 x.2∧∀e∈Lv,e∈W.live
theorem LvOf.mem {first nb:Nat} {Lv live:List Ext} (h:LvOf first nb Lv live) {e:Ext} (he:e∈Lv):e∈live:=by
 unfold LvOf at h
 split at h
 ·exact h.mem_iff.2 he
 ·exact h.mem_iff.2 (List.mem_cons_of_mem _ he)
def eachZ {K:Type} (M:Maker K) (W0:Wk) (k0:K) (ps0 ts:List T5) (bw bx first width bound size κ:Nat) (g:Gr) (Lv:List Ext) (cc:Hp):Seer (EachR K) where
 own r:=if r.op then[g] else[]
 C r:=(r.cx::r.cb::(cc++[(M.C r.k).flatten])).flatten
 J W r i:=r.op=true∧IsWr bw bx W first (nblocks size width bound) width bound g r.ps r.cx r.cb∧LvOf first (nblocks size width bound) Lv W.live∧Keep Lv W0 W∧(W0.δ.fault= -1→W.δ.fault= -1)∧
  r.k=M.st k0 (ts.take i)∧r.ps=ps0++M.all k0 (ts.take i)∧M.bad k0 (ts.take i)=none
 B W r e:=Keep Lv W0 W∧((r.op=true∧LvOf first (nblocks size width bound) Lv W.live∧∃ps,IsWr bw bx W first (nblocks size width bound) width bound g ps r.cx r.cb)∨(r.op=false∧ClosedWr bx r.cx∧W.live.Perm Lv))∧
  ((e=6∧W0.δ.fault≠-1)∨∃n:Nat,M.bad k0 ts=some n∧n≠0∧e=(n:Int))
 κ:=κ
theorem eachZ_ok {K:Type} (M:Maker K) (W0:Wk) (k0:K) (ps0 ts:List T5) (bw bx first width bound size κ:Nat) (g:Gr) (Lv:List Ext) (cc:Hp):(eachZ M W0 k0 ps0 ts bw bx first width bound size κ g Lv cc).Ok where
 stay:=by
  rintro W W' r i ⟨h0,h1,h2,h3,h4,h5⟩ hs hd _ hl hf
  exact⟨h0,h1.move hs (fun x _ _=>by rw[hd]),by rw[hl];exact h2,fun x hx=>by rw[hd];exact h3 x hx,fun e=>hf (h4 e),h5⟩
 flt:=by
  rintro W W' r i ⟨h0,h1,h2,h3,h4,h5⟩ hf hd _ hl
  have e1:W'.δ.disk=W.δ.disk:=by rw[hd];rfl
  exact⟨fun x hx=>by rw[e1];exact h3 x hx,.inl ⟨h0,by rw[hl];exact h2,r.ps,h1.move (by rw[hd];rfl) (fun x _ _=>by rw[e1])⟩,.inl ⟨rfl,fun e=>by have:=h4 e;omega⟩⟩
 stayB:=by
  rintro W α r e ⟨h1,h2,h3⟩
  refine⟨h1,?_,h3⟩
  rcases h2 with⟨a,b,ps,c⟩|⟨a,b,c⟩
  ·exact .inl ⟨a,b,ps,c.move rfl (fun _ _ _=>rfl)⟩
  ·exact .inr ⟨a,b,c⟩
theorem perm_each (A B D:Hp) (m:Chunk):(A++[(D++(B++[m])).flatten]).flatten.Perm ((B++[(A++D).flatten,m]).flatten):=by
 classical
 refine List.perm_iff_count.2 fun z=> ?_
 simp only[List.flatten_append,List.flatten_cons,List.flatten_nil,List.append_nil,List.count_append]
 omega
theorem putter (bw bd ba bs bx first width bound:Nat) (g:Gr) (base:List Gr) (Lv:List Ext) (W:Wk) (n0 nn:Nat) (hs:1≤holds W.δ.size width) (hn:n0+nn≤bound) (hac:W.δ.acts+nn≤1000000000000):
  Putter bx width (fun ps X=>∃cd ca cs cx cb W1,X=[wrow bw bd ba bs,cd,ca,cs,cx,cb].flatten∧Wc bd ba bs W1 cd ca cs∧W1.α.gs.Perm (g::base)∧IsWr bw bx W1 first (nblocks W.δ.size width bound) width bound g ps cx cb∧LvOf first (nblocks W.δ.size width bound) Lv W1.live∧
    Keep Lv W W1∧n0≤ps.length∧ps.length≤n0+nn∧Ev W W1 (ps.length-n0) 0)
   (fun X=>∃cd ca cs cx cb W1,X=[wrow bw bd ba bs,cd,ca,cs,cx,cb].flatten∧Wc bd ba bs W1 cd ca cs∧W1.α.gs.Perm base∧W1.live.Perm Lv∧ClosedWr bx cx∧Keep Lv W W1∧Ev W W1 nn 0∧W.δ.fault≠-1) (n0+nn):=by
 rintro ps X t ⟨cd,ca,cs,cx,cb,W1,rfl,hW,hg,hw,hl,hK,h1,h2,hE⟩ ht hlt
 have hacts:=hE.acts.2
 have hP:=Put_u bw bd ba bs W1 cd ca cs hW bx first _ width bound g ps cx cb hw base hg Lv hl (by omega) t ht (by omega)
 refine Ct.convP hP (by simp) ?_
 rintro v H' ⟨cd',ca',cs',W',cx',cb',rfl,hW',hE',hK',hc⟩
 have hE1:Ev W1 W' 1 0:=hE'.weak (by
  have h2:(ps.length+1)/holds W1.δ.size width≤ps.length/holds W1.δ.size width+1:=by
   rw[hE.size]
   calc (ps.length+1)/holds W.δ.size width≤(ps.length+holds W.δ.size width)/holds W.δ.size width:=Nat.div_le_div_right (by omega)
    _=ps.length/holds W.δ.size width+1:=Nat.add_div_right _ (by omega)
  omega) (Nat.le_refl _)
 refine⟨[[wrow bw bd ba bs,cd',ca',cs',cx',cb'].flatten],⟨_,rfl,?_⟩,by simp⟩
 rcases hc with⟨rfl,e1,e2,e3,e4⟩|⟨rfl,e1,e2,e3,e4,e5⟩
 ·exact .inl ⟨rfl,cd',ca',cs',cx',cb',W',rfl,hW',by rw[e1];exact hg,e4,by rw[e3];exact hl,hK.trans hK',by simp;omega,by simp;omega,(hE.trans hE1).weak (by simp;omega) (Nat.le_refl _)⟩
 ·refine .inr ⟨rfl,cd',ca',cs',cx',cb',W',rfl,hW',e3,e4,e5,hK.trans hK',(hE.trans hE1).weak (by omega) (Nat.le_refl _),fun hf=> ?_⟩
  have:=hE.fault hf
  omega
theorem eachZ_see {K:Type} (M:Maker K) (W0:Wk) (k0:K) (ps0 ts:List T5) (bw bd ba bs bx bm bx2 first width bound size room κ:Nat) (g:Gr) (Lv:List Ext) (f:Fl) (mk:Nat) (hcal:Callable Tryz.prog mk) (fs us:List Value) (ok:K→T5→Prop) (hM:MakeU M width ok mk fs us)
  (hκ:∀k t,ok k t→(M.outs k t).length≤κ) (hok:M.oks ok k0 ts) (hbd:ps0.length+(M.all k0 ts).length≤bound) (hh:1≤holds size width) (hκb:κ≤1000000000):
  SeeCt bw bd ba bs (eachZ M W0 k0 ps0 ts bw bx first width bound size κ g Lv (eachC bm bx2 mk fs us bx)) size room f ts 126 [] [pv bm,pv bx2]:=by
 rintro base W cd ca cs r i t hW hg hrm hsz ⟨hop,hwr,hl,hK,hflt,hk,hps,hbad⟩ ht hac
 have hokt:ok r.k t:=by rw[hk];exact Maker.oks_at hok hbad ht
 have hlen:r.ps.length+(M.outs r.k t).length≤bound:=by
  have h1:=Maker.all_le (M:=M) (ts:=ts) (k:=k0) (i+1)
  rw[Maker.take_succ ht,Maker.all_app,List.length_append,←hk] at h1
  simp only[Maker.all,List.append_nil] at h1
  rw[hps,List.length_append]
  omega
 have hκt:=hκ r.k t hokt
 simp only[eachZ,hop,if_true,List.singleton_append] at hg
 have hP:=putter bw bd ba bs bx first width bound g base Lv W r.ps.length (M.outs r.k t).length (by rw[hsz];exact hh) hlen (by omega)
 rw[hsz] at hP
 have hC:=Each1ct M width ok mk hcal fs us hM bm bx2 bx _ _ _ hP r.ps ([wrow bw bd ba bs,cd,ca,cs,r.cx,r.cb].flatten) r.k t
  ⟨cd,ca,cs,r.cx,r.cb,W,rfl,hW,hg,hwr,hl,Keep.refl _ _,Nat.le_refl _,by omega,by simpa using Ev.refl W⟩ hokt (Nat.le_refl _)
 refine Ct.convP hC ?_ ?_
 ·exact perm_each [wrow bw bd ba bs,cd,ca,cs] (eachC bm bx2 mk fs us bx) [r.cx,r.cb] _
 rintro v H' ⟨X',k',rfl,hc⟩
 rcases hc with⟨rfl,herr,rfl,cd',ca',cs',cx',cb',W',rfl,hW',hg',hw',hl',hK',h1,h2,hE'⟩|⟨rfl,cd',ca',cs',cx',cb',W',rfl,hW',hg',hl',hx',hK',hE',hf'⟩|⟨n,herr,hn,rfl,ps',cd',ca',cs',cx',cb',W',rfl,hW',hg',hw',hl',hK',h1,h2,hE'⟩
 ·refine⟨_,⟨cd',ca',cs',W',⟨_,r.ps++M.outs r.k t,cx',cb',true⟩,0,rfl,rfl,hW',hE'.weak (by simp[eachZ];omega) (Nat.le_refl _),hg',fun _=>⟨rfl,hw',hl',hK.trans hK',fun e=>hE'.fault (hflt e),?_,?_,?_⟩,fun h=>absurd rfl h⟩,(perm_each [wrow bw bd ba bs,cd',ca',cs'] (eachC bm bx2 mk fs us bx) [cx',cb'] _).symm⟩
  ·rw[Maker.take_succ ht,Maker.st_app,←hk];rfl
  ·rw[Maker.take_succ ht,Maker.all_app,←hk,←List.append_assoc,←hps];simp[Maker.all]
  ·rw[Maker.take_succ ht,Maker.bad_app,hbad,←hk];simp[Maker.bad,herr]
 ·refine⟨_,⟨cd',ca',cs',W',⟨k',[],cx',cb',false⟩,6,rfl,rfl,hW',hE'.weak hκt (Nat.le_refl _),hg',fun h=>by omega,fun _=>⟨hK.trans hK',.inr ⟨rfl,hx',hl'⟩,.inl ⟨rfl,fun e=>hf' (hflt e)⟩⟩⟩,(perm_each [wrow bw bd ba bs,cd',ca',cs'] (eachC bm bx2 mk fs us bx) [cx',cb'] _).symm⟩
 ·refine⟨_,⟨cd',ca',cs',W',⟨k',ps',cx',cb',true⟩,n,rfl,rfl,hW',hE'.weak (by simp[eachZ];omega) (Nat.le_refl _),hg',fun h=>by omega,fun _=>⟨hK.trans hK',.inl ⟨rfl,hl',ps',hw'⟩,.inr ⟨n,?_,hn,rfl⟩⟩⟩,(perm_each [wrow bw bd ba bs,cd',ca',cs'] (eachC bm bx2 mk fs us bx) [cx',cb'] _).symm⟩
  apply Maker.bad_take (i:=i+1)
  rw[Maker.take_succ ht,Maker.bad_app,hbad,←hk];simp[Maker.bad,herr]
theorem EachOver_ct (bw bd ba bs:Nat) {K:Type} (M:Maker K) (k0:K) (ps0:List T5) (W:Wk) (cd ca cs:Chunk) (h:Wc bd ba bs W cd ca cs) (bx bm bx2 first width bound κ:Nat) (g:Gr) (base:List Gr) (Lv:List Ext) (cx cb:Chunk) (hg:W.α.gs.Perm (g::base))
  (hw:IsWr bw bx W first (nblocks W.δ.size width bound) width bound g ps0 cx cb) (hl:LvOf first (nblocks W.δ.size width bound) Lv W.live) (f:Fl) (ts:List T5) (LvF:List Ext) (hfo:FileOk W.δ.disk W.δ.size LvF f ts) (hsub:∀e∈LvF,e∈Lv)
  (mk:Nat) (hcal:Callable Tryz.prog mk) (fs us:List Value) (ok:K→T5→Prop) (hM:MakeU M width ok mk fs us) (hκ:∀k t,ok k t→(M.outs k t).length≤κ) (hκb:κ≤10000) (hok:M.oks ok k0 ts) (hbd:ps0.length+(M.all k0 ts).length≤bound) (hwd:1≤width) (hwd2:width≤5)
  (hr:W.δ.size≤W.α.room-W.α.used) (hac:W.δ.acts≤10000000000) (hcn:f.count≤1000000):
  Ct Tryz.prog 90 [pv bw,flv f,.func (.func 126) #[] #[pv bm,pv bx2]] [wrow bw bd ba bs,cd,ca,cs,cx,cb,[(bm,row [.func (.func mk) fs.toArray us.toArray] 88)],[(bx2,row [pv bx] 120)],(M.C k0).flatten] fun v H'=>
   ∃cd' ca' cs' W' k' cx' cb' e,v= .int .i64 e∧H'=[wrow bw bd ba bs,cd',ca',cs',cx',cb',[(bm,row [.func (.func mk) fs.toArray us.toArray] 88)],[(bx2,row [pv bx] 120)],(M.C k').flatten]∧
    Wc bd ba bs W' cd' ca' cs'∧Ev W W' (f.blocks+f.count*κ) 0∧Keep Lv W W'∧
    ((e=0∧W'.α.gs.Perm (g::base)∧LvOf first (nblocks W.δ.size width bound) Lv W'.live∧IsWr bw bx W' first (nblocks W.δ.size width bound) width bound g (ps0++M.all k0 ts) cx' cb'∧k'=M.st k0 ts∧M.bad k0 ts=none)∨
     (e≠0∧((W'.α.gs.Perm (g::base)∧LvOf first (nblocks W.δ.size width bound) Lv W'.live∧∃ps,IsWr bw bx W' first (nblocks W.δ.size width bound) width bound g ps cx' cb')∨(W'.α.gs.Perm base∧W'.live.Perm Lv∧ClosedWr bx cx'))∧
      ((e=6∧W.δ.fault≠-1)∨∃n:Nat,M.bad k0 ts=some n∧e=(n:Int)))):=by
 obtain⟨⟨hs1,hs2⟩,_⟩:=h.dev.num
 have hh:=holds_pos hs1 hwd hwd2
 have hnb:=nblocks_le (n:=f.count) (holds_pos hs1 hfo.w1 hfo.w2)
 have hmk:f.count*κ≤1000000*10000:=Nat.mul_le_mul hcn hκb
 have hO:=Over_ct bw bd ba bs (eachZ M W k0 ps0 ts bw bx first width bound W.δ.size κ g Lv (eachC bm bx2 mk fs us bx)) (eachZ_ok M W k0 ps0 ts bw bx first width bound W.δ.size κ g Lv _) f ts LvF 126 inferInstance [] [pv bm,pv bx2] W.δ.size W.α.room
  (eachZ_see M W k0 ps0 ts bw bd ba bs bx bm bx2 first width bound W.δ.size W.α.room κ g Lv f mk hcal fs us ok hM hκ hok hbd hh (by omega)) W cd ca cs h ⟨k0,ps0,cx,cb,true⟩ base hg rfl rfl
  ⟨rfl,hw,hl,Keep.refl _ _,id,by simp[Maker.st],by simp[Maker.all],by simp[Maker.bad]⟩ (fun W' r i hJ=>⟨hfo.keep (fun x ⟨e,he,h2⟩=>hJ.2.2.2.1 x ⟨e,hsub e he,h2⟩),fun e he=>hJ.2.2.1.mem (hsub e he)⟩) hr (by show _+_+_*κ≤_;omega) hcn
 refine Ct.convP hO (by simp[eachZ,eachC]) ?_
 rintro v H' ⟨cd',ca',cs',W',r',e,rfl,rfl,hW',hE',hg',hJ,hB⟩
 refine⟨[wrow bw bd ba bs,cd',ca',cs',r'.cx,r'.cb,[(bm,row [.func (.func mk) fs.toArray us.toArray] 88)],[(bx2,row [pv bx] 120)],(M.C r'.k).flatten],⟨cd',ca',cs',W',r'.k,r'.cx,r'.cb,e,rfl,rfl,hW',?_,?_⟩,by simp[eachZ,eachC]⟩
 ·rw[hfo.blk];exact hE'
 by_cases he:e=0
 ·obtain⟨h0,h1,h2,h3,_,h5,h6,h7⟩:=hJ he
  have htk:ts.take f.count=ts:=by rw[←hfo.len,List.take_length]
  rw[htk] at h5 h6 h7
  simp only[eachZ,h0,if_true,List.singleton_append] at hg'
  exact⟨h3,.inl ⟨he,hg',h2,by rw[←h6];exact h1,h5,h7⟩⟩
 ·obtain⟨h1,h2,h3⟩:=hB he
  refine⟨h1,.inr ⟨he,?_,?_⟩⟩
  ·rcases h2 with⟨a,b,c⟩|⟨a,b,c⟩
   ·simp only[eachZ,a,if_true,List.singleton_append] at hg'
    exact .inl ⟨hg',b,c⟩
   ·simp only[eachZ,a,List.nil_append] at hg'
    exact .inr ⟨by simpa using hg',c,b⟩
  ·rcases h3 with h3|⟨n,a,_,b⟩
   ·exact .inl h3
   ·exact .inr ⟨n,a,b⟩
end Go.Proofs.YtammjnjpheobaaaGreat
namespace Go.Srt
variable {α:Type} {lt:α→α→Bool} [Inhabited α]
def HeapFrom (lt:α→α→Bool) (l:List α) (n a:Nat):Prop:=∀c,0<c→c<n→a≤(c-1)/2→lt (at_ l c) (at_ l ((c-1)/2))=false
def DownH (lt:α→α→Bool) (l:List α) (n a i:Nat):Prop:=
 (∀c,0<c→c<n→a≤(c-1)/2→(c-1)/2≠i→lt (at_ l c) (at_ l ((c-1)/2))=false)∧
 (∀c,0<c→c<n→(c-1)/2=i→0<i→a≤(i-1)/2→lt (at_ l c) (at_ l ((i-1)/2))=false)
theorem downH_start {l:List α} {n a:Nat} (h:HeapFrom lt l n (a+1)):DownH lt l n a a:=
 ⟨fun c h1 h2 h3 h4=>h c h1 h2 (by omega),fun c h1 h2 h3 h4 h5=>by omega⟩
theorem downH_none {l:List α} {n a i:Nat} (h:DownH lt l n a i) (hi:n≤2*i+1):HeapFrom lt l n a:=
 fun c h1 h2 h3=>h.1 c h1 h2 h3 (by omega)
theorem downH_stop (hs:Swo lt) {l:List α} {n a i j:Nat} (h:DownH lt l n a i) (hm:∀c,0<c→c<n→(c-1)/2=i→lt (at_ l c) (at_ l j)=false) (hj:lt (at_ l j) (at_ l i)=false):HeapFrom lt l n a:=by
 intro c h1 h2 h3
 by_cases hp:(c-1)/2=i
 ·rw[hp];exact hs.ntrans _ _ _ (hm c h1 h2 hp) hj
 ·exact h.1 c h1 h2 h3 hp
theorem downH_step (hs:Swo lt) {l:List α} {n a i j:Nat} (h:DownH lt l n a i) (hai:a≤i) (hn:n≤l.length) (hj1:0<j) (hj2:j<n) (hji:(j-1)/2=i) (hm:∀c,0<c→c<n→(c-1)/2=i→lt (at_ l c) (at_ l j)=false)
  (hlt:lt (at_ l j) (at_ l i)=true):DownH lt (sw l i j) n a j:=by
 have hsw:∀q,at_ (sw l i j) q=if q=j then at_ l i else if q=i then at_ l j else at_ l q:=fun q=>sw_at l i j q (by omega) (by omega)
 obtain⟨g1,g2⟩:=h
 refine⟨fun c h1 h2 h3 h4=> ?_,fun c h1 h2 h3 h4 h5=> ?_⟩
 ·rw[hsw c,hsw ((c-1)/2)]
  rw[if_neg h4]
  by_cases hp:(c-1)/2=i
  ·rw[if_pos hp]
   by_cases hcj:c=j
   ·rw[if_pos hcj];exact hs.asym _ _ hlt
   ·rw[if_neg hcj,if_neg (by omega)];exact hm c h1 h2 hp
  ·rw[if_neg hp]
   rw[if_neg (by rintro rfl;exact hp hji)]
   by_cases hci:c=i
   ·rw[if_pos hci]
    subst hci
    exact g2 j hj1 hj2 hji h1 h3
   ·rw[if_neg hci];exact g1 c h1 h2 h3 hp
 ·rw[hsw c,hsw ((j-1)/2),hji]
  rw[if_neg (by omega),if_neg (by omega),if_neg (by omega),if_pos rfl]
  have:=g1 c h1 h2 (by omega) (by omega)
  rw[h3] at this;exact this
theorem heap_top (hs:Swo lt) {l:List α} {n:Nat} (h:HeapFrom lt l n 0):∀c,c<n→lt (at_ l c) (at_ l 0)=false:=by
 intro c
 induction c using Nat.strongRecOn with
 |_ c ih=>
  intro hc
  by_cases h0:c=0
  ·subst h0;exact hs.irr _
  ·exact hs.ntrans _ _ _ (h c (by omega) hc (Nat.zero_le _)) (ih _ (by omega) (by omega))
theorem sw_perm {l:List α} {i j:Nat} (hi:i<l.length) (hj:j<l.length):(sw l i j).Perm l:=by
 unfold sw
 rw[List.getD_eq_getElem?_getD,List.getD_eq_getElem?_getD,List.getElem?_eq_getElem hi,List.getElem?_eq_getElem hj]
 exact List.set_set_perm hi hj
end Go.Srt
namespace Go.Proofs.YtammjnjpheobaaaGreat
open Go.SL Go.Spc Go.Tup Go.Srt
structure Hd where
 t:T5
 run:Nat
 rd:Nat
instance:Inhabited Hd:=⟨⟨default,0,0⟩⟩
def Hd.cells (x:Hd):List Value:=[.int .i64 x.t.c0,.int .i64 x.t.c1,.int .i64 x.t.c2,.int .i64 x.t.c3,.int .i64 x.t.c4,.int .i64 (x.run:Int),pv x.rd]
def hcells (l:List Hd):List Value:=l.flatMap Hd.cells
theorem hcells_app (a b:List Hd):hcells (a++b)=hcells a++hcells b:=by simp[hcells]
theorem hcells_length (l:List Hd):(hcells l).length=l.length*7:=by
 induction l with
 |nil=>rfl
 |cons x l ih=>simp only[hcells,List.flatMap_cons,List.length_append,List.length_cons] at ih⊢;rw[ih];simp[Hd.cells];omega
theorem hcells_drop:∀(l:List Hd) (rest:List Value) (i:Nat),i<l.length→∃more,(hcells l++rest).drop (i*7)=(at_ l i).cells++more
 |[],_,i,h=>by simp at h
 |x::l,rest,0,_=>⟨hcells l++rest,by simp[hcells,at_]⟩
 |x::l,rest,i+1,h=>by
  obtain⟨more,hm⟩:=hcells_drop l rest i (by simpa using h)
  refine⟨more,?_⟩
  have e:(hcells (x::l)++rest)=x.cells++(hcells l++rest):=by simp[hcells]
  rw[e,show(i+1)*7=x.cells.length+i*7 by(have:x.cells.length=7:=rfl);omega,←List.drop_drop,List.drop_left,hm]
  rfl
def HeadsH (bh vb cap:Nat) (o:T5) (l:List Hd) (rest:List Value):Hp:=
 [[(bh,row ([.slice (some ⟨vb,0,none⟩) l.length cap,.int .i64 o.c0,.int .i64 o.c1,.int .i64 o.c2,.int .i64 o.c3,.int .i64 o.c4]) 235)],[(vb,row (hcells l++rest) 237)]]
def ltH (o:T5) (a b:Hd):Bool:=decide (cmpT o a.t b.t<0∨cmpT o a.t b.t=0∧a.run<b.run)
theorem ltH_swo (o:T5):Swo (ltH o) where
 asym:=fun a b h=>by
  simp only[ltH,decide_eq_true_eq,decide_eq_false_iff_not] at*
  have:=cmpT_swap o a.t b.t;omega
 ntrans:=fun a b c h1 h2=>by
  simp only[ltH,decide_eq_false_iff_not] at*
  have e1:=cmpT_swap o a.t b.t
  have e2:=cmpT_swap o b.t c.t
  have e3:=cmpT_swap o a.t c.t
  have f1:=cmpT_trans o c.t b.t a.t (by omega) (by omega)
  have f2:cmpT o a.t c.t=0→cmpT o a.t b.t=0:=fun h=>by
   have:=cmpT_trans o a.t c.t b.t
   omega
  have f3:cmpT o a.t c.t=0→cmpT o b.t c.t=0:=fun h=>by
   have:=cmpT_trans o b.t a.t c.t
   omega
  omega
theorem HLen_ct (bh vb cap:Nat) (o:T5) (l:List Hd) (rest:List Value):CtQ Tryz.prog 185 [pv bh] (HeadsH bh vb cap o l rest) (.int .i64 (l.length:Int)):=by
 unfold HeadsH
 refine Ct.intro Tryz.func185 rfl Tryz.ntmps185 (nle rfl) fun w0=> ?_;dsimp only[argSlots,Nat.reduceAdd]
 repeat(refine st ?_;intros)
 (refine Dn.post (Hr:=[[(bh,row [.slice (some ⟨vb,0,none⟩) l.length cap,.int .i64 o.c0,.int .i64 o.c1,.int .i64 o.c2,.int .i64 o.c3,.int .i64 o.c4] 235)],[(vb,row (hcells l++rest) 237)]]) Tryz.results185 (hR:= ?_);exact⟨rfl,rfl⟩)
theorem hfacts {l:List Hd} {rest:List Value} {i:Nat} (h:i<l.length):
  ((hcells l++rest).drop (i*7)).take 5=[.int .i64 (at_ l i).t.c0,.int .i64 (at_ l i).t.c1,.int .i64 (at_ l i).t.c2,.int .i64 (at_ l i).t.c3,.int .i64 (at_ l i).t.c4]∧
  (hcells l++rest)[i*7+5]? =some (.int .i64 ((at_ l i).run:Int))∧(hcells l++rest)[i*7+6]? =some (pv (at_ l i).rd)∧
  ((hcells l++rest).drop (i*7)).take 7=(at_ l i).cells:=by
 obtain⟨more,hm⟩:=hcells_drop l rest i h
 refine⟨by rw[hm];rfl,?_,?_,by rw[hm];rfl⟩
 ·rw[←List.getElem?_drop,hm];rfl
 ·rw[←List.getElem?_drop,hm];rfl
theorem HLess_ct (bh vb cap:Nat) (o:T5) (l:List Hd) (rest:List Value) (i j:Nat) (hi:i<l.length) (hj:j<l.length) (hl:l.length≤1000000):
  CtQ Tryz.prog 223 [pv bh,.int .i64 (i:Int),.int .i64 (j:Int)] (HeadsH bh vb cap o l rest) (.bool (ltH o (at_ l i) (at_ l j))):=by
 obtain⟨a1,a2,a3,a4⟩:=hfacts (rest:=rest) hi
 obtain⟨b1,b2,b3,b4⟩:=hfacts (rest:=rest) hj
 have hC:=Compare_ct (at_ l i).t.c0 (at_ l i).t.c1 (at_ l i).t.c2 (at_ l i).t.c3 (at_ l i).t.c4 (at_ l j).t.c0 (at_ l j).t.c1 (at_ l j).t.c2 (at_ l j).t.c3 (at_ l j).t.c4 o.c0 o.c1 o.c2 o.c3 o.c4
 have hCc:cmpT ⟨o.c0,o.c1,o.c2,o.c3,o.c4⟩ ⟨(at_ l i).t.c0,(at_ l i).t.c1,(at_ l i).t.c2,(at_ l i).t.c3,(at_ l i).t.c4⟩ ⟨(at_ l j).t.c0,(at_ l j).t.c1,(at_ l j).t.c2,(at_ l j).t.c3,(at_ l j).t.c4⟩=cmpT o (at_ l i).t (at_ l j).t:=rfl
 rw[hCc] at hC
 unfold ltH HeadsH
 generalize hcm:cmpT o (at_ l i).t (at_ l j).t=cm at*
 generalize hcl:hcells l++rest=cells at*
 generalize at_ l i=x at*
 generalize at_ l j=y at*
 by_cases h1:cm<0
 ·rw[show decide (cm<0∨cm=0∧x.run<y.run)=true from decide_eq_true (.inl h1)]
  refine Ct.intro Tryz.func223 rfl Tryz.ntmps223 (nle rfl) fun w0=> ?_;dsimp only[argSlots,Nat.reduceAdd]
  repeat(first|(refine st ?_;intros)|refine G.draw (id:=1) [(20,.quiet)] (h:= ?_)|refine G.draw [] (h:= ?_)|(refine cq hC ?_))
  (refine Dn.post (Hr:=[[(bh,row [.slice (some ⟨vb,0,none⟩) l.length cap,.int .i64 o.c0,.int .i64 o.c1,.int .i64 o.c2,.int .i64 o.c3,.int .i64 o.c4] 235)],[(vb,row cells 237)]]) Tryz.results223 (hR:= ?_);exact⟨rfl,rfl⟩)
 ·by_cases h2:cm=0
  ·have h3:decide (cm<0∨cm=0∧x.run<y.run)=dec ((x.run:Int)<(y.run:Int)):=by
    by_cases h4:x.run<y.run
    ·rw[decide_eq_true (.inr ⟨h2,h4⟩),dec_true (by omega)]
    ·rw[decide_eq_false (by omega),dec_false (by omega)]
   rw[h3]
   refine Ct.intro Tryz.func223 rfl Tryz.ntmps223 (nle rfl) fun w0=> ?_;dsimp only[argSlots,Nat.reduceAdd]
   repeat(first|(refine st ?_;intros)|refine G.draw (id:=1) [(20,.quiet)] (h:= ?_)|refine G.draw [] (h:= ?_)|(refine cq hC ?_))
   (refine Dn.post (Hr:=[[(bh,row [.slice (some ⟨vb,0,none⟩) l.length cap,.int .i64 o.c0,.int .i64 o.c1,.int .i64 o.c2,.int .i64 o.c3,.int .i64 o.c4] 235)],[(vb,row cells 237)]]) Tryz.results223 (hR:= ?_);exact⟨rfl,rfl⟩)
  ·rw[show decide (cm<0∨cm=0∧x.run<y.run)=false from decide_eq_false (by omega)]
   refine Ct.intro Tryz.func223 rfl Tryz.ntmps223 (nle rfl) fun w0=> ?_;dsimp only[argSlots,Nat.reduceAdd]
   repeat(first|(refine st ?_;intros)|refine G.draw (id:=1) [(20,.quiet)] (h:= ?_)|refine G.draw [] (h:= ?_)|(refine cq hC ?_))
   (refine Dn.post (Hr:=[[(bh,row [.slice (some ⟨vb,0,none⟩) l.length cap,.int .i64 o.c0,.int .i64 o.c1,.int .i64 o.c2,.int .i64 o.c3,.int .i64 o.c4] 235)],[(vb,row cells 237)]]) Tryz.results223 (hR:= ?_);exact⟨rfl,rfl⟩)
theorem setL_skip:∀(a:List Value) (vs cs:List Value) (off:Nat),setL (a++cs) (a.length+off) vs=a++setL cs off vs:=by
 intro a vs
 induction vs with
 |nil=>intro cs off;rfl
 |cons v vs ih=>
  intro cs off
  simp only[setL]
  rw[List.set_append_right _ _ (by omega),show a.length+off-a.length=off by omega,show a.length+off+1=a.length+(off+1) by omega,ih]
theorem setL_h:∀(l:List Hd) (i:Nat) (x:Hd) (rest:List Value),i<l.length→setL (hcells l++rest) (i*7) x.cells=hcells (l.set i x)++rest
 |[],_,_,_,h=>by simp at h
 |u::l,0,x,rest,_=>by simp[hcells,setL,Hd.cells]
 |u::l,i+1,x,rest,h=>by
  have ih:=setL_h l i x rest (by simpa using h)
  have e:(hcells (u::l)++rest)=u.cells++(hcells l++rest):=by simp[hcells]
  rw[e,show(i+1)*7=u.cells.length+i*7 by(have:u.cells.length=7:=rfl);omega,setL_skip,ih]
  simp[hcells]
theorem HSwap_ct (bh vb cap:Nat) (o:T5) (l:List Hd) (rest:List Value) (i j:Nat) (hi:i<l.length) (hj:j<l.length) (hl:l.length≤1000000):
  Ct Tryz.prog 225 [pv bh,.int .i64 (i:Int),.int .i64 (j:Int)] (HeadsH bh vb cap o l rest) fun v H'=>v= .tuple #[]∧H'=HeadsH bh vb cap o (sw l i j) rest:=by
 obtain⟨a1,a2,a3,a4⟩:=hfacts (rest:=rest) hi
 obtain⟨b1,b2,b3,b4⟩:=hfacts (rest:=rest) hj
 have hs1:=setL_h l i (at_ l j) rest hi
 have hs2:=setL_h (l.set i (at_ l j)) j (at_ l i) rest (by simpa using hj)
 have hsw:(l.set i (at_ l j)).set j (at_ l i)=sw l i j:=rfl
 rw[hsw] at hs2
 have hlen:(hcells l++rest).length=l.length*7+rest.length:=by rw[List.length_append,hcells_length]
 have hlen2:(hcells (l.set i (at_ l j))++rest).length=l.length*7+rest.length:=by rw[List.length_append,hcells_length,List.length_set]
 unfold HeadsH
 rw[sw_length]
 generalize hcells (sw l i j)++rest=cells3 at*
 generalize hcells (l.set i (at_ l j))++rest=cells2 at*
 generalize hcells l++rest=cells at*
 generalize at_ l i=x at*
 generalize at_ l j=y at*
 unfold Hd.cells at*
 refine Ct.intro Tryz.func225 rfl Tryz.ntmps225 (nle rfl) fun w0=> ?_;dsimp only[argSlots,Nat.reduceAdd]
 repeat(first|(refine st ?_;intros)|refine G.draw [] (h:= ?_))
 (refine Dn.postEnd (Hr:=[[(bh,row [.slice (some ⟨vb,0,none⟩) l.length cap,.int .i64 o.c0,.int .i64 o.c1,.int .i64 o.c2,.int .i64 o.c3,.int .i64 o.c4] 235)],[(vb,row cells3 237)]]) Tryz.results225 (hR:= ?_);exact⟨rfl,rfl⟩)
instance:Meth Tryz.prog 232 "Less" 223:=Meth.of (by kernel_rfl)
instance:Meth Tryz.prog 232 "Swap" 225:=Meth.of (by kernel_rfl)
instance:Meth Tryz.prog 232 "Len" 185:=Meth.of (by kernel_rfl)
instance:Meth Tryz.prog 232 "Pop" 224:=Meth.of (by kernel_rfl)
abbrev headV (bh:Nat):Value:= .iface 232 (pv bh)
structure DownX where
 i:Nat
 l:List Hd
theorem down_ct (bh vb cap:Nat) (o:T5) (l:List Hd) (rest:List Value) (a n:Nat) (hn:n≤l.length) (hl:l.length≤1000000) (hh:HeapFrom (ltH o) l n (a+1)) (ha:a≤1000000):
  Ct Tryz.prog 194 [headV bh,.int .i64 (a:Int),.int .i64 (n:Int)] (HeadsH bh vb cap o l rest) fun v H'=>
   ∃b l',v= .bool b∧H'=HeadsH bh vb cap o l' rest∧l'.Perm l∧HeapFrom (ltH o) l' n a∧∀q,n≤q→at_ l' q=at_ l q:=by
 have hsw:=ltH_swo o
 refine Ct.intro Tryz.func194 rfl Tryz.ntmps194 (nle rfl) fun w0=> ?_;dsimp only[argSlots,Nat.reduceAdd]
 repeat(first|(refine st ?_;intros)|(refine cq hL ?_)|(refine cq hL2 ?_))
 refine G.loop (X:=DownX) (fun x=>a≤x.i∧x.l.Perm l∧DownH (ltH o) x.l n a x.i∧(x.i<n∨x.i=a)∧∀q,n≤q→at_ x.l q=at_ l q)
  (fun x=>[(7,.int .i64 (x.i:Int)),(0,headV bh),(1,.int .i64 (a:Int)),(2,.int .i64 (n:Int))])
  (fun x=>HeadsH bh vb cap o x.l rest) (fun x=>n-x.i) ⟨a,l⟩ ⟨Nat.le_refl _,List.Perm.refl _,downH_start hh,.inr rfl,fun _ _=>rfl⟩ (body:= ?_)
 rintro⟨i,us⟩ ⟨hai,hp,hd,hin,hout⟩
 dsimp only at hai hp hd hin hout⊢
 have hul:=hp.length_eq
 have hi6:i≤1000000:=by omega
 have e1:IntKind.wrap .i64 (2*(i:Int))=((2*i:Nat):Int):=by rw[wrap_i64 (by omega)];omega
 have e2:IntKind.wrap .i64 (((2*i:Nat):Int)+1)=((2*i+1:Nat):Int):=by rw[wrap_i64 (by omega)];omega
 have e3:IntKind.wrap .i64 (((2*i+1:Nat):Int)+1)=((2*i+2:Nat):Int):=by rw[wrap_i64 (by omega)];omega
 by_cases hc:n≤2*i+1
 ·repeat(first|(refine st ?_;intros)|(refine cq hL ?_)|(refine cq hL2 ?_))
  (refine Dn.post (Hr:=HeadsH bh vb cap o us rest) Tryz.results194 (hR:= ?_);exact⟨_,us,rfl,rfl,hp,downH_none hd hc,hout⟩)
 ·by_cases hc2:2*i+2<n
  ·have hL:=HLess_ct bh vb cap o us rest (2*i+2) (2*i+1) (by omega) (by omega) (by omega)
   cases h1:ltH o (at_ us (2*i+2)) (at_ us (2*i+1)) with
   |true=>
    rw[h1] at hL
    have hm:∀c,0<c→c<n→(c-1)/2=i→ltH o (at_ us c) (at_ us (2*i+2))=false:=by
     intro c k1 k2 k3
     rcases(show c=2*i+1∨c=2*i+2 by omega) with rfl|rfl
     ·exact hsw.asym _ _ h1
     ·exact hsw.irr _
    have hL2:=HLess_ct bh vb cap o us rest (2*i+2) i (by omega) (by omega) (by omega)
    cases h2:ltH o (at_ us (2*i+2)) (at_ us i) with
    |true=>
     rw[h2] at hL2
     have hS:=HSwap_ct bh vb cap o us rest i (2*i+2) (by omega) (by omega) (by omega)
     repeat(first|(refine st ?_;intros)|(refine cq hL ?_)|(refine cq hL2 ?_))
     refine R.invoke (hct:=hS) (h:= ?_)
     rintro _ _ ⟨rfl,rfl⟩
     try dsimp only[List.cons_append,List.nil_append]
     repeat(first|(refine st ?_;intros)|(refine cq hL ?_)|(refine cq hL2 ?_))
     exact Dn.round ⟨2*i+2,sw us i (2*i+2)⟩ ⟨by dsimp only;omega,(sw_perm (by omega) (by omega)).trans hp,downH_step hsw hd hai (by omega) (by omega) (by omega) (by omega) hm h2,.inl (by dsimp only;omega),fun q hq=>by
      dsimp only
      rw[sw_at _ _ _ _ (by omega) (by omega),if_neg (by omega),if_neg (by omega)];exact hout q hq⟩ (by dsimp only;omega)
    |false=>
     rw[h2] at hL2
     repeat(first|(refine st ?_;intros)|(refine cq hL ?_)|(refine cq hL2 ?_))
     (refine Dn.post (Hr:=HeadsH bh vb cap o us rest) Tryz.results194 (hR:= ?_);exact⟨_,us,rfl,rfl,hp,downH_stop hsw hd hm h2,hout⟩)
   |false=>
    rw[h1] at hL
    have hm:∀c,0<c→c<n→(c-1)/2=i→ltH o (at_ us c) (at_ us (2*i+1))=false:=by
     intro c k1 k2 k3
     rcases(show c=2*i+1∨c=2*i+2 by omega) with rfl|rfl
     ·exact hsw.irr _
     ·exact h1
    have hL2:=HLess_ct bh vb cap o us rest (2*i+1) i (by omega) (by omega) (by omega)
    cases h2:ltH o (at_ us (2*i+1)) (at_ us i) with
    |true=>
     rw[h2] at hL2
     have hS:=HSwap_ct bh vb cap o us rest i (2*i+1) (by omega) (by omega) (by omega)
     repeat(first|(refine st ?_;intros)|(refine cq hL ?_)|(refine cq hL2 ?_))
     refine R.invoke (hct:=hS) (h:= ?_)
     rintro _ _ ⟨rfl,rfl⟩
     try dsimp only[List.cons_append,List.nil_append]
     repeat(first|(refine st ?_;intros)|(refine cq hL ?_)|(refine cq hL2 ?_))
     exact Dn.round ⟨2*i+1,sw us i (2*i+1)⟩ ⟨by dsimp only;omega,(sw_perm (by omega) (by omega)).trans hp,downH_step hsw hd hai (by omega) (by omega) (by omega) (by omega) hm h2,.inl (by dsimp only;omega),fun q hq=>by
      dsimp only
      rw[sw_at _ _ _ _ (by omega) (by omega),if_neg (by omega),if_neg (by omega)];exact hout q hq⟩ (by dsimp only;omega)
    |false=>
     rw[h2] at hL2
     repeat(first|(refine st ?_;intros)|(refine cq hL ?_)|(refine cq hL2 ?_))
     (refine Dn.post (Hr:=HeadsH bh vb cap o us rest) Tryz.results194 (hR:= ?_);exact⟨_,us,rfl,rfl,hp,downH_stop hsw hd hm h2,hout⟩)
  ·have hm:∀c,0<c→c<n→(c-1)/2=i→ltH o (at_ us c) (at_ us (2*i+1))=false:=by
    intro c k1 k2 k3
    rcases(show c=2*i+1 by omega) with rfl
    exact hsw.irr _
   have hL2:=HLess_ct bh vb cap o us rest (2*i+1) i (by omega) (by omega) (by omega)
   cases h2:ltH o (at_ us (2*i+1)) (at_ us i) with
   |true=>
    rw[h2] at hL2
    have hS:=HSwap_ct bh vb cap o us rest i (2*i+1) (by omega) (by omega) (by omega)
    repeat(first|(refine st ?_;intros)|(refine cq hL ?_)|(refine cq hL2 ?_))
    refine R.invoke (hct:=hS) (h:= ?_)
    rintro _ _ ⟨rfl,rfl⟩
    try dsimp only[List.cons_append,List.nil_append]
    repeat(first|(refine st ?_;intros)|(refine cq hL ?_)|(refine cq hL2 ?_))
    exact Dn.round ⟨2*i+1,sw us i (2*i+1)⟩ ⟨by dsimp only;omega,(sw_perm (by omega) (by omega)).trans hp,downH_step hsw hd hai (by omega) (by omega) (by omega) (by omega) hm h2,.inl (by dsimp only;omega),fun q hq=>by
     dsimp only
     rw[sw_at _ _ _ _ (by omega) (by omega),if_neg (by omega),if_neg (by omega)];exact hout q hq⟩ (by dsimp only;omega)
   |false=>
    rw[h2] at hL2
    repeat(first|(refine st ?_;intros)|(refine cq hL ?_)|(refine cq hL2 ?_))
    (refine Dn.post (Hr:=HeadsH bh vb cap o us rest) Tryz.results194 (hR:= ?_);exact⟨_,us,rfl,rfl,hp,downH_stop hsw hd hm h2,hout⟩)
structure InitX where
 z:Int
 l:List Hd
theorem Init_ct (bh vb cap:Nat) (o:T5) (l:List Hd) (rest:List Value) (hl:l.length≤1000000):
  Ct Tryz.prog 184 [headV bh] (HeadsH bh vb cap o l rest) fun v H'=>∃l',v= .tuple #[]∧H'=HeadsH bh vb cap o l' rest∧l'.Perm l∧HeapFrom (ltH o) l' l'.length 0:=by
 have hN:=HLen_ct bh vb cap o l rest
 have e1:IntKind.wrap .i64 ((l.length:Int).tdiv 2)=((l.length/2:Nat):Int):=by
  rw[Int.tdiv_eq_ediv_of_nonneg (by omega),wrap_i64 (by omega)];omega
 have e2:IntKind.wrap .i64 (((l.length/2:Nat):Int)-1)=((l.length/2:Nat):Int)-1:=wrap_i64 (by omega)
 generalize hn:l.length=n at*
 refine Ct.intro Tryz.func184 rfl Tryz.ntmps184 (nle rfl) fun w0=> ?_;dsimp only[argSlots,Nat.reduceAdd]
 repeat(first|(refine st ?_;intros)|(refine cq hN ?_))
 refine G.loop (X:=InitX) (fun x=> -1≤x.z∧x.z<1000001∧x.l.Perm l∧HeapFrom (ltH o) x.l n (x.z+1).toNat)
  (fun x=>[(3,.int .i64 x.z),(0,headV bh),(2,.int .i64 (n:Int))])
  (fun x=>HeadsH bh vb cap o x.l rest) (fun x=>(x.z+1).toNat) ⟨((n/2:Nat):Int)-1,l⟩ ⟨by dsimp only;omega,by dsimp only;omega,List.Perm.refl _,fun c h1 h2 h3=>by dsimp only at h3;omega⟩ (body:= ?_)
 rintro⟨z,us⟩ ⟨hz1,hz2,hp,hh⟩
 dsimp only at hz1 hz2 hp hh⊢
 have hul:=hp.length_eq
 by_cases hz:0≤z
 ·obtain⟨i,rfl⟩:=Int.eq_ofNat_of_zero_le hz
  have hD:=down_ct bh vb cap o us rest i n (by omega) (by omega) (by rw[show i+1=((i:Int)+1).toNat by omega];exact hh) (by omega)
  have e3:IntKind.wrap .i64 ((i:Int)-1)=(i:Int)-1:=wrap_i64 (by omega)
  repeat(first|(refine st ?_;intros)|(refine cq hN ?_))
  refine R.call (hct:=hD) (h:= ?_)
  rintro _ _ ⟨b,us',rfl,rfl,hp2,hh2,hout⟩
  try dsimp only[List.cons_append,List.nil_append]
  repeat(first|(refine st ?_;intros)|(refine cq hN ?_))
  exact Dn.round ⟨(i:Int)-1,us'⟩ ⟨by dsimp only;omega,by dsimp only;omega,hp2.trans hp,by dsimp only;rw[show((i:Int)-1+1).toNat=i by omega];exact hh2⟩ (by dsimp only;omega)
 ·repeat(first|(refine st ?_;intros)|(refine cq hN ?_))
  (refine Dn.postEnd (Hr:=HeadsH bh vb cap o us rest) Tryz.results184 (hR:= ?_);exact⟨us,rfl,rfl,hp,by rw[hul,hn];rw[show(z+1).toNat=0 by omega] at hh;exact hh⟩)
theorem up_ct (bh vb cap:Nat) (o:T5) (l:List Hd) (rest:List Value):
  Ct Tryz.prog 195 [headV bh,.int .i64 0] (HeadsH bh vb cap o l rest) fun v H'=>v= .tuple #[]∧H'=HeadsH bh vb cap o l rest:=by
 have e1:IntKind.wrap .i64 ((0:Int)-1)= -1:=by decide
 have e2:IntKind.wrap .i64 ((-1:Int).tdiv 2)=0:=by decide
 refine Ct.intro Tryz.func195 rfl Tryz.ntmps195 (nle rfl) fun w0=> ?_;dsimp only[argSlots,Nat.reduceAdd]
 repeat(refine st ?_;intros)
 refine G.loop (X:=Unit) (fun _=>True) (fun _=>[(0,headV bh),(1,.int .i64 0)]) (fun _=>HeadsH bh vb cap o l rest) (fun _=>0) () trivial (body:= ?_)
 rintro⟨⟩-
 repeat(refine st ?_;intros)
 (refine Dn.postEnd (Hr:=HeadsH bh vb cap o l rest) Tryz.results195 (hR:= ?_);exact⟨rfl,rfl⟩)
theorem Fix_ct (bh vb cap:Nat) (o:T5) (l:List Hd) (rest:List Value) (hl:l.length≤1000000) (hh:HeapFrom (ltH o) l l.length 1):
  Ct Tryz.prog 186 [headV bh,.int .i64 0] (HeadsH bh vb cap o l rest) fun v H'=>∃l',v= .tuple #[]∧H'=HeadsH bh vb cap o l' rest∧l'.Perm l∧HeapFrom (ltH o) l' l'.length 0:=by
 have hN:=HLen_ct bh vb cap o l rest
 have hD:=down_ct bh vb cap o l rest 0 l.length (Nat.le_refl _) hl hh (by omega)
 refine Ct.intro Tryz.func186 rfl Tryz.ntmps186 (nle rfl) fun w0=> ?_;dsimp only[argSlots,Nat.reduceAdd]
 repeat(first|(refine st ?_;intros)|(refine cq hN ?_))
 refine R.call (hct:=hD) (h:= ?_)
 rintro _ _ ⟨b,us,rfl,rfl,hp,hh2,hout⟩
 try dsimp only[List.cons_append,List.nil_append]
 have hul:=hp.length_eq
 have hU:=up_ct bh vb cap o us rest
 cases b with
 |true=>
  repeat(first|(refine st ?_;intros)|(refine cq hN ?_))
  (refine Dn.postEnd (Hr:=HeadsH bh vb cap o us rest) Tryz.results186 (hR:= ?_);exact⟨us,rfl,rfl,hp,by rw[hul];exact hh2⟩)
 |false=>
  repeat(first|(refine st ?_;intros)|(refine cq hN ?_))
  refine R.call (hct:=hU) (h:= ?_)
  rintro _ _ ⟨rfl,rfl⟩
  try dsimp only[List.cons_append,List.nil_append]
  repeat(first|(refine st ?_;intros)|(refine cq hN ?_))
  (refine Dn.postEnd (Hr:=HeadsH bh vb cap o us rest) Tryz.results186 (hR:= ?_);exact⟨us,rfl,rfl,hp,by rw[hul];exact hh2⟩)
theorem HPop_ct (bh vb cap:Nat) (o:T5) (l:List Hd) (x:Hd) (rest:List Value) (hl:l.length≤1000000) (hcap:l.length+1≤cap):
  Ct Tryz.prog 224 [pv bh] (HeadsH bh vb cap o (l++[x]) rest) fun v H'=>v= .iface 237 (.agg x.cells.toArray)∧H'=HeadsH bh vb cap o l (x.cells++rest):=by
 obtain⟨a1,a2,a3,a4⟩:=hfacts (l:=l++[x]) (rest:=rest) (i:=l.length) (by simp)
 have hax:at_ (l++[x]) l.length=x:=by simp[at_,List.getD_eq_getElem?_getD]
 rw[hax] at a1 a2 a3 a4
 have hap:hcells l++(x.cells++rest)=hcells (l++[x])++rest:=by rw[hcells_app];simp[hcells]
 have hln:(l++[x]).length=l.length+1:=by simp
 have e1:IntKind.wrap .i64 (((l.length+1:Nat):Int)-1)=(l.length:Int):=by rw[wrap_i64 (by omega)];omega
 unfold HeadsH
 rw[hap,hln]
 generalize hcells (l++[x])++rest=cells at*
 generalize l.length=n at*
 unfold Hd.cells at*
 refine Ct.intro Tryz.func224 rfl Tryz.ntmps224 (nle rfl) fun w0=> ?_;dsimp only[argSlots,Nat.reduceAdd]
 repeat(first|(refine st ?_;intros)|refine G.draw [] (h:= ?_))
 apply R.mkIfaceS
 ·exact rfl
 ·exact Tryz.underlying237
 ·exact rfl
 ·exact nle rfl
 repeat(first|(refine st ?_;intros)|refine G.draw [] (h:= ?_))
 (refine Dn.post (Hr:=[[(bh,row [.slice (some ⟨vb,0,none⟩) n cap,.int .i64 o.c0,.int .i64 o.c1,.int .i64 o.c2,.int .i64 o.c3,.int .i64 o.c4] 235)],[(vb,row cells 237)]]) Tryz.results224 (hR:= ?_);exact⟨rfl,rfl⟩)
theorem PopH_ct (bh vb cap:Nat) (o:T5) (l:List Hd) (rest:List Value) (hl:l.length≤1000000) (hcap:l.length≤cap) (hne:0<l.length) (hh:HeapFrom (ltH o) l l.length 0):
  Ct Tryz.prog 187 [headV bh] (HeadsH bh vb cap o l rest) fun v H'=>∃l' x,v= .iface 237 (.agg x.cells.toArray)∧x=at_ l 0∧H'=HeadsH bh vb cap o l' (x.cells++rest)∧(x::l').Perm l∧l'.length+1=l.length∧HeapFrom (ltH o) l' l'.length 0:=by
 have hN:=HLen_ct bh vb cap o l rest
 have e1:IntKind.wrap .i64 ((l.length:Int)-1)=((l.length-1:Nat):Int):=by rw[wrap_i64 (by omega)];omega
 have hS:=HSwap_ct bh vb cap o l rest 0 (l.length-1) hne (by omega) hl
 have hsl:(sw l 0 (l.length-1)).length=l.length:=sw_length _ _ _
 have hat:=fun q=>sw_at l 0 (l.length-1) q hne (by omega)
 have hh1:HeapFrom (ltH o) (sw l 0 (l.length-1)) (l.length-1) 1:=by
  intro c h1 h2 h3
  rw[hat,hat,if_neg (by omega),if_neg (by omega),if_neg (by omega),if_neg (by omega)]
  exact hh c h1 (by omega) (Nat.zero_le _)
 have hD:=down_ct bh vb cap o (sw l 0 (l.length-1)) rest 0 (l.length-1) (by omega) (by omega) hh1 (by omega)
 have hpm:(sw l 0 (l.length-1)).Perm l:=sw_perm hne (by omega)
 have hlast:=hat (l.length-1)
 rw[if_pos rfl] at hlast
 refine Ct.intro Tryz.func187 rfl Tryz.ntmps187 (nle rfl) fun w0=> ?_;dsimp only[argSlots,Nat.reduceAdd]
 repeat(first|(refine st ?_;intros)|(refine cq hN ?_))
 refine R.invoke (hct:=hS) (h:= ?_)
 rintro _ _ ⟨rfl,rfl⟩
 try dsimp only[List.cons_append,List.nil_append]
 repeat(first|(refine st ?_;intros)|(refine cq hN ?_))
 refine R.call (hct:=hD) (h:= ?_)
 rintro _ _ ⟨b,us,rfl,rfl,hp,hh2,hout⟩
 try dsimp only[List.cons_append,List.nil_append]
 have hul:us.length=l.length:=hp.length_eq.trans hsl
 have hx:=(hout (l.length-1) (Nat.le_refl _)).trans hlast
 obtain⟨vs,y,rfl⟩:∃vs y,us=vs++[y]:=by
  rcases List.eq_nil_or_concat us with rfl|⟨qs,z,rfl⟩
  ·simp at hul;omega
  ·exact⟨qs,z,by simp⟩
 rw[List.length_append,List.length_singleton] at hul
 have hy:at_ (vs++[y]) (l.length-1)=y:=by
  rw[show l.length-1=vs.length by omega];simp[at_,List.getD_eq_getElem?_getD]
 rw[hy] at hx
 subst hx
 have hP:=HPop_ct bh vb cap o vs (at_ l 0) rest (by omega) (by omega)
 repeat(first|(refine st ?_;intros)|(refine cq hN ?_))
 refine R.invoke (hct:=hP) (h:= ?_)
 rintro _ _ ⟨rfl,rfl⟩
 try dsimp only[List.cons_append,List.nil_append]
 repeat(first|(refine st ?_;intros)|(refine cq hN ?_))
 (refine Dn.post (Hr:=HeadsH bh vb cap o vs ((at_ l 0).cells++rest)) Tryz.results187 (hR:= ?_);refine⟨vs,at_ l 0,rfl,rfl,rfl,?_,hul,?_⟩)
 ·exact(List.perm_append_comm (l₁:=[at_ l 0]) (l₂:=vs)).trans (hp.trans hpm)
 ·intro c h1 h2 h3
  have:=hh2 c h1 (by omega) h3
  rw[at_app,at_app,if_pos h2,if_pos (by omega)] at this
  exact this
theorem sd_head {o:T5} {u a:T5} {s:List T5} (h:Sd (ltO o) false (u::s)) (ha:a∈u::s):ltO o a u=false:=by
 rcases List.mem_cons.1 ha with rfl|ha
 ·exact(ltO_swo o).irr _
 ·unfold Sd at h
  have:=List.rel_of_pairwise_cons h ha
  simpa using this
theorem Em.merge {o:T5} {once:Bool} {l ps:List T5} {A B:List (List T5)} {t:T5} {r:List T5} (h:Em o once l ps (A++(t::r)::B).flatten)
  (hA:∀s∈A,Sd (ltO o) false s∧∀u s',s=u::s'→ltO o t u=true) (hB:∀s∈B,Sd (ltO o) false s∧∀u s',s=u::s'→ltO o u t=false) (hr:Sd (ltO o) false (t::r)):
  Em o once l (emit o once ps t) (A++r::B).flatten:=by
 have hsw:=ltO_swo o
 have hAa:∀a∈A.flatten,ltO o t a=true:=by
  intro a ha
  obtain⟨s,hs,has⟩:=List.mem_flatten.1 ha
  cases s with
  |nil=>simp at has
  |cons u s'=>
   obtain⟨h1,h2⟩:=hA _ hs
   cases hc:ltO o t a with
   |true=>rfl
   |false=>
    have:=hsw.ntrans _ _ _ hc (sd_head h1 has)
    rw[h2 u s' rfl] at this;cases this
 have hBb:∀b∈B.flatten,ltO o b t=false:=by
  intro b hb
  obtain⟨s,hs,hbs⟩:=List.mem_flatten.1 hb
  cases s with
  |nil=>simp at hbs
  |cons u s'=>
   obtain⟨h1,h2⟩:=hB _ hs
   exact hsw.ntrans _ _ _ (sd_head h1 hbs) (h2 u s' rfl)
 have e1:(A++(t::r)::B).flatten=(A.flatten++[t])++(r++B.flatten):=by simp
 have e2:(A++r::B).flatten=A.flatten++(r++B.flatten):=by simp
 rw[e1] at h
 rw[e2]
 have h2:Em o once l ps (t::(A.flatten++(r++B.flatten))):=by
  refine h.turn ?_ ?_
  ·have:=Go.Srt.Sp.app (once:=once) (Go.Srt.Sp.swap hsw (once:=once) (v:=A.flatten) (x:=[t]) (fun b hb a ha=>by simp only[List.mem_singleton] at hb;subst hb;exact hAa a ha)) (Go.Srt.Sp.refl (lt:=ltO o) once (r++B.flatten))
   simpa using this
  ·intro y hy
   simp only[List.mem_cons,List.mem_append] at hy⊢
   rcases hy with hy|hy|hy|hy
   ·exact .inl (.inr (by simp[hy]))
   ·exact .inl (.inl hy)
   ·exact .inr (.inl hy)
   ·exact .inr (.inr hy)
 refine h2.step fun y hy=> ?_
 rcases List.mem_append.1 hy with hy|hy
 ·exact hsw.asym _ _ (hAa y hy)
 ·rcases List.mem_append.1 hy with hy|hy
  ·exact sd_head hr (List.mem_cons_of_mem _ hy)
  ·exact hBb y hy
structure Rdr where
 bx:Nat
 f:Fl
 ts:List T5
 g:Gr
 pos:Nat
 opn:Bool
 cx:Chunk
 cb:Chunk
def RdSt (bw:Nat) (W:Wk) (r:Rdr):Prop:=if r.opn then IsRd bw r.bx W r.f r.ts r.g r.pos r.cx r.cb else ClosedRd r.bx r.cx
def rdAll (rs:List Rdr):Chunk:=rs.flatMap fun r=>r.cx++r.cb
def rdGrants (rs:List Rdr):List Gr:=(rs.filter (·.opn)).map (·.g)
theorem RdSt.move {bw:Nat} {W W':Wk} {r:Rdr} (h:RdSt bw W r) (hs:W'.δ.size=W.δ.size):RdSt bw W' r:=by
 unfold RdSt at*
 split
 ·rename_i ho;rw[if_pos ho] at h;exact h.move hs
 ·rename_i ho;rw[if_neg ho] at h;exact h
theorem rdAll_perm {a b:List Rdr} (h:a.Perm b):(rdAll a).Perm (rdAll b):=h.flatMap_right _
theorem rdAll_cut {rs:List Rdr} {r:Rdr} (h:r∈rs):∃qs,rs.Perm (r::qs)∧(rdAll rs).Perm (r.cx++(r.cb++rdAll qs)):=by
 obtain⟨l1,l2,rfl⟩:=List.append_of_mem h
 refine⟨l1++l2,List.perm_middle,(rdAll_perm List.perm_middle).trans ?_⟩
 simp[rdAll]
theorem rdGrants_perm {a b:List Rdr} (h:a.Perm b):(rdGrants a).Perm (rdGrants b):=(h.filter _).map _
def cellH (bc bh:Nat):Chunk:=[(bc,row [pv bh] 232)]
def headsRow (bh:Nat) (p:Option Addr) (n cap:Nat) (o:T5):Chunk:=[(bh,row [.slice p n cap,.int .i64 o.c0,.int .i64 o.c1,.int .i64 o.c2,.int .i64 o.c3,.int .i64 o.c4] 235)]
structure CloseX where
 i:Nat
 ca:Chunk
 α:Ar
 rs:List Rdr
theorem closeAll_cb (bc bh bw bd ba bs:Nat) (W:Wk) (cd ca cs:Chunk) (h:Wc bd ba bs W cd ca cs) (o:T5) (l:List Hd) (p:Option Addr) (cap:Nat) (vc:Chunk) (hV:Vec 237 7 p l.length cap (hcells l) vc) (hl:l.length≤1000000)
  (rs:List Rdr) (base:List Gr) (hg:W.α.gs.Perm (rdGrants rs++base)) (hrs:∀r∈rs,RdSt bw W r) (hlr:∀x∈l,∃r∈rs,r.bx=x.rd) (hrl:∀r∈rs,r.opn=true→∃x∈l,x.rd=r.bx) (hnd:(rs.map (·.bx)).Nodup):
  Cb Tryz.prog 183 [pv bc] [cellH bc bh,headsRow bh p l.length cap o,vc,wrow bw bd ba bs,ca,rdAll rs] fun v H'=>
   ∃ca' α' rs',v= .tuple #[]∧H'=[cellH bc bh,headsRow bh p l.length cap o,vc,wrow bw bd ba bs,ca',rdAll rs']∧Wc bd ba bs {W with α:=α'} cd ca' cs∧Ev W {W with α:=α'} 0 0∧α'.gs.Perm base:=by
 unfold cellH headsRow
 refine Cb.intro Tryz.func183 rfl Tryz.ntmps183 (nle rfl) fun w0=> ?_;dsimp only[argSlots,Nat.reduceAdd]
 repeat(refine st ?_;intros)
 refine G.loop (X:=CloseX) (fun x=>x.i≤l.length∧Wc bd ba bs {W with α:=x.α} cd x.ca cs∧Ev W {W with α:=x.α} 0 0∧x.α.gs.Perm (rdGrants x.rs++base)∧(∀r∈x.rs,RdSt bw W r)∧(∀y∈l,∃r∈x.rs,r.bx=y.rd)∧(∀r∈x.rs,r.opn=true→∃j,x.i≤j∧j<l.length∧(at_ l j).rd=r.bx)∧(x.rs.map (·.bx)).Nodup)
  (fun x=>[(8,.int .i64 (x.i:Int)),(7,.int .i64 (l.length:Int)),(6,.slice p l.length cap)])
  (fun x=>[[(bc,row [pv bh] 232)],[(bh,row [.slice p l.length cap,.int .i64 o.c0,.int .i64 o.c1,.int .i64 o.c2,.int .i64 o.c3,.int .i64 o.c4] 235)],vc,wrow bw bd ba bs,x.ca,rdAll x.rs]) (fun x=>l.length-x.i) ⟨0,ca,W.α,rs⟩
  ⟨Nat.zero_le _,h,Ev.refl W,hg,hrs,hlr,fun r hr ho=>by
   obtain⟨x,hx,he⟩:=hrl r hr ho
   obtain⟨j,hj,e⟩:=List.getElem_of_mem hx
   exact⟨j,Nat.zero_le _,hj,by rw[←he,←e];simp[at_,List.getD_eq_getElem?_getD,hj]⟩,hnd⟩ (body:= ?_)
 rintro⟨i,ca1,α1,rs1⟩ ⟨hi,hW1,hE1,hg1,hrs1,hlr1,hop1,hnd1⟩
 dsimp only at hi hW1 hE1 hg1 hrs1 hlr1 hop1 hnd1⊢
 by_cases hin:i<l.length
 ·have hx:at_ l i∈l:=by unfold at_;rw[List.getD_eq_getElem?_getD,List.getElem?_eq_getElem hin];exact List.getElem_mem hin
  obtain⟨r,hr,hbx⟩:=hlr1 _ hx
  obtain⟨qs,hp1,hp2⟩:=rdAll_cut hr
  obtain⟨_,h0|⟨vb,rest,rfl,rfl,_⟩⟩:=hV
  ·omega
  obtain⟨a1,a2,a3,a4⟩:=hfacts (rest:=rest) hin
  generalize hcells l++rest=cells at*
  generalize hxe:at_ l i=x at*
  unfold Hd.cells at a4
  repeat(refine st ?_;intros)
  rw[←hbx]
  apply R1.open hp2
  ·(repeat(first|exact Take.here|apply Take.there))
  have hst:=hrs1 r hr
  unfold RdSt at hst
  have hqs:∀q∈qs,q∈rs1:=fun q hq=>hp1.mem_iff.2 (List.mem_cons_of_mem _ hq)
  have hgp:(rdGrants rs1).Perm (rdGrants (r::qs)):=rdGrants_perm hp1
  have hnd2:((r::qs).map (·.bx)).Nodup:=(hp1.map _).nodup_iff.1 hnd1
  cases ho:r.opn with
  |false=>
   rw[ho] at hst
   have hC:=RClosed_u r.bx r.cx hst
   refine R.call (hct:=hC) (h:= ?_)
   rintro _ _ ⟨rfl,rfl⟩
   try dsimp only[List.cons_append,List.nil_append]
   repeat(refine st ?_;intros)
   apply Dn.join (c1:=r.cx) (c2:=r.cb++rdAll qs)
   ·(repeat(first|exact Take.here|apply Take.there))
   ·(repeat(first|exact Take.here|apply Take.there))
   rw[show r.cx++(r.cb++rdAll qs)=rdAll (r::qs) by simp[rdAll]]
   refine Dn.round ⟨i+1,ca1,α1,r::qs⟩ ⟨hin,hW1,hE1,hg1.trans (hgp.append_right _),fun q hq=>hrs1 q (hp1.mem_iff.2 hq),fun y hy=> ?_,fun q hq hqo=> ?_,hnd2⟩ (by dsimp only;omega)
   ·obtain⟨q,hq,e⟩:=hlr1 y hy
    exact⟨q,hp1.mem_iff.1 hq,e⟩
   ·obtain⟨j,j1,j2,j3⟩:=hop1 q (hp1.mem_iff.2 hq) hqo
    refine⟨j,?_,j2,j3⟩
    by_cases hji:j=i
    ·exfalso
     subst hji
     rw[hxe] at j3
     rcases List.mem_cons.1 hq with rfl|hq
     ·rw[ho] at hqo;cases hqo
     ·rw[List.map_cons,List.nodup_cons] at hnd2
      exact hnd2.1 (by rw[hbx,j3];exact List.mem_map.2 ⟨q,hq,rfl⟩)
    ·dsimp only;omega
  |true=>
   rw[ho] at hst
   have hgr:rdGrants (r::qs)=r.g::rdGrants qs:=by unfold rdGrants;rw[List.filter_cons_of_pos ho];rfl
   have hC:=RClose_u bw bd ba bs {W with α:=α1} cd ca1 cs hW1 r.bx r.f r.ts r.g (rdGrants qs++base) (hg1.trans (by rw[hgr] at hgp;exact hgp.append_right _)) r.pos r.cx r.cb (IsRd.move hst rfl)
   refine R.call (hct:=hC) (h:= ?_)
   rintro _ _ ⟨ca2,α2,cx2,rfl,rfl,hW2,hE2,hg2,hx2⟩
   try dsimp only[List.cons_append,List.nil_append]
   repeat(refine st ?_;intros)
   apply Dn.join (c1:=cx2) (c2:=r.cb++rdAll qs)
   ·(repeat(first|exact Take.here|apply Take.there))
   ·(repeat(first|exact Take.here|apply Take.there))
   rw[show cx2++(r.cb++rdAll qs)=rdAll ({r with opn:=false,cx:=cx2}::qs) by simp[rdAll]]
   refine Dn.round ⟨i+1,ca2,α2,{r with opn:=false,cx:=cx2}::qs⟩ ⟨hin,hW2,hE1.trans hE2,hg2,fun q hq=> ?_,fun y hy=> ?_,fun q hq hqo=> ?_,hnd2⟩ (by dsimp only;omega)
   ·rcases List.mem_cons.1 hq with rfl|hq
    ·exact hx2
    ·exact hrs1 q (hqs q hq)
   ·obtain⟨q,hq,e⟩:=hlr1 y hy
    rcases List.mem_cons.1 (hp1.mem_iff.1 hq) with rfl|hq
    ·exact⟨_,List.mem_cons_self,e⟩
    ·exact⟨q,List.mem_cons_of_mem _ hq,e⟩
   ·rcases List.mem_cons.1 hq with rfl|hq3
    ·cases hqo
    ·obtain⟨j,j1,j2,j3⟩:=hop1 q (hqs q hq3) hqo
     refine⟨j,?_,j2,j3⟩
     by_cases hji:j=i
     ·exfalso
      subst hji
      rw[hxe] at j3
      rw[List.map_cons,List.nodup_cons] at hnd2
      exact hnd2.1 (by rw[hbx,j3];exact List.mem_map.2 ⟨q,hq3,rfl⟩)
     ·dsimp only;omega
 ·repeat(refine st ?_;intros)
  (refine Dn.postEnd (Hr:=[[(bc,row [pv bh] 232)],[(bh,row [.slice p l.length cap,.int .i64 o.c0,.int .i64 o.c1,.int .i64 o.c2,.int .i64 o.c3,.int .i64 o.c4] 235)],vc,wrow bw bd ba bs,ca1,rdAll rs1]) Tryz.results183 (hR:= ?_);refine⟨ca1,α1,rs1,rfl,rfl,hW1,hE1,?_⟩)
  have:rdGrants rs1=[]:=by
   unfold rdGrants
   rw[List.filter_eq_nil_iff.2]
   ·rfl
   ·intro r hr ho
    obtain⟨j,j1,j2,_⟩:=hop1 r hr ho
    omega
  rw[this] at hg1;exact hg1
def remOf (r:Rdr):List T5:=if r.opn then r.ts.drop (r.pos-1) else[]
structure MSt (bw:Nat) (W:Wk) (o:T5) (rds:List Rdr) (hl:List Hd):Prop where
 rd:∀r∈rds,RdSt bw W r
 nd:(rds.map (·.bx)).Nodup
 hd:∀x∈hl,∃r,rds[x.run]? =some r∧r.opn=true∧r.bx=x.rd∧0<r.pos∧r.ts[r.pos-1]? =some x.t
 ex:∀j r,rds[j]? =some r→r.opn=true→∃x∈hl,x.run=j
 one:(hl.map (·.run)).Nodup
 sd:∀r∈rds,Sd (ltO o) false r.ts
theorem sd_drop {o:T5} {s:List T5} (h:Sd (ltO o) false s) (n:Nat):Sd (ltO o) false (s.drop n):=h.sublist (List.drop_sublist n s)
theorem remOf_sd {o:T5} {r:Rdr} (h:Sd (ltO o) false r.ts):Sd (ltO o) false (remOf r):=by
 unfold remOf;split
 ·exact sd_drop h _
 ·exact List.Pairwise.nil
theorem remOf_head {r:Rdr} {t u:T5} {s:List T5} (h:r.ts[r.pos-1]? =some t) (he:remOf r=u::s):u=t:=by
 unfold remOf at he
 split at he
 ·have h1:(r.ts.drop (r.pos-1))[0]? =some t:=by rw[List.getElem?_drop];simpa using h
  rw[he] at h1
  simpa using h1
 ·cases he
theorem MSt.top {bw:Nat} {W:Wk} {o:T5} {rds:List Rdr} {hl:List Hd} (h:MSt bw W o rds hl) (hne:0<hl.length) (hh:HeapFrom (ltH o) hl hl.length 0):
  ∃A r B,rds=A++r::B∧A.length=(at_ hl 0).run∧r.opn=true∧r.bx=(at_ hl 0).rd∧0<r.pos∧r.ts[r.pos-1]? =some (at_ hl 0).t∧remOf r=(at_ hl 0).t::r.ts.drop r.pos∧
   (∀s∈A.map remOf,Sd (ltO o) false s∧∀u s',s=u::s'→ltO o (at_ hl 0).t u=true)∧(∀s∈B.map remOf,Sd (ltO o) false s∧∀u s',s=u::s'→ltO o u (at_ hl 0).t=false):=by
 have hx:at_ hl 0∈hl:=by unfold at_;rw[List.getD_eq_getElem?_getD,List.getElem?_eq_getElem hne];exact List.getElem_mem hne
 have htop:=heap_top (ltH_swo o) hh
 have hle:∀y∈hl,ltH o y (at_ hl 0)=false:=by
  intro y hy
  obtain⟨j,hj,rfl⟩:=List.getElem_of_mem hy
  have:=htop j hj
  rwa[show at_ hl j=hl[j] by simp[at_,List.getD_eq_getElem?_getD,hj]] at this
 generalize at_ hl 0=x at*
 obtain⟨r,h1,h2,h3,h4,h5⟩:=h.hd x hx
 have hlt:x.run<rds.length:=(List.getElem?_eq_some_iff.1 h1).1
 have hre:rds[x.run]=r:=(List.getElem?_eq_some_iff.1 h1).2
 have hsp:rds=rds.take x.run++r::rds.drop (x.run+1):=by
  rw[←hre,←List.drop_eq_getElem_cons hlt,List.take_append_drop]
 have key:∀j q u s',rds[j]? =some q→remOf q=u::s'→∃y∈hl,y.run=j∧y.t=u:=by
  intro j q u s' hq he
  have ho:q.opn=true:=by
   cases hqo:q.opn with
   |true=>rfl
   |false=>unfold remOf at he;rw[hqo] at he;cases he
  obtain⟨y,hy,rfl⟩:=h.ex j q hq ho
  obtain⟨q',k1,k2,k3,k4,k5⟩:=h.hd y hy
  rw[hq] at k1;cases k1
  exact⟨y,hy,rfl,(remOf_head k5 he).symm⟩
 refine⟨rds.take x.run,r,rds.drop (x.run+1),hsp,by rw[List.length_take];omega,h2,h3,h4,h5,?_,?_,?_⟩
 ·unfold remOf
  rw[if_pos h2]
  obtain⟨k1,k2⟩:=List.getElem?_eq_some_iff.1 h5
  rw[List.drop_eq_getElem_cons k1,k2,show r.pos-1+1=r.pos by omega]
 ·intro s hs
  obtain⟨q,hq,rfl⟩:=List.mem_map.1 hs
  refine⟨remOf_sd (h.sd q (List.mem_of_mem_take hq)),fun u s' he=> ?_⟩
  obtain⟨j,hj,e⟩:=List.getElem_of_mem hq
  rw[List.length_take] at hj
  rw[List.getElem_take] at e
  obtain⟨y,hy,hyj,rfl⟩:=key j q u s' (List.getElem?_eq_some_iff.2 ⟨by omega,e⟩) he
  have:=hle y hy
  simp only[ltH,ltO,decide_eq_false_iff_not,decide_eq_true_eq] at this⊢
  have:=cmpT_swap o y.t x.t
  omega
 ·intro s hs
  obtain⟨q,hq,rfl⟩:=List.mem_map.1 hs
  refine⟨remOf_sd (h.sd q (List.mem_of_mem_drop hq)),fun u s' he=> ?_⟩
  obtain⟨j,hj,e⟩:=List.getElem_of_mem hq
  rw[List.length_drop] at hj
  rw[List.getElem_drop] at e
  obtain⟨y,hy,hyj,rfl⟩:=key (x.run+1+j) q u s' (List.getElem?_eq_some_iff.2 ⟨by omega,e⟩) he
  have:=hle y hy
  simp only[ltH,ltO,decide_eq_false_iff_not] at this⊢
  omega
end Go.Proofs.YtammjnjpheobaaaGreat
