/-
  Parts of the proof, put together: CmpL, Row, RowTup, RowIn, RowI, RowsIn, CmpT, GraphIn, LawP, CompM. No condition.
-/
import Derived.Below
import Derived.Carry
import Derived.Deep.SlicePairs
import Derived.Deep.Slices
import Derived.OpenShut
import Derived.ProofKit
import Derived.Test.YtpckicjfigmjkaaGreatRows
import Derived.Test.YtpckicjfigmjkaaGreatJ29
set_option linter.unusedVariables false
set_option linter.unusedSimpArgs false
set_option linter.unnecessarySimpa false
set_option maxHeartbeats 4000000
namespace Go.Proofs.YtpckicjfigmjkaaGreat
open Go.SL Go.Spc Go.Tup Go.Srt
theorem Components_ons (bw bd ba bs:Nat) (ro:Nat) (hro:80≤ro) (W:Wk) (cd ca cs:Chunk) (h:Wc bd ba bs W cd ca cs) (N:Nat) (f:Fl) (l:List T5) (fs:List Fl) (hin:FileIn W (f,l)) (hfw:f.width=3) (hfc:f.count=l.length) (hO:Ons 9000 ro W fs) (q m:Nat) (hl:l.length≤q) (hN:N≤q) (hq:q≤130) (hqm:2*q≤m) (hT:sortT q≤m) (hroom:m*(fs.length+9)+(16*q+sumB fs)≤9000) (hac:W.δ.acts≤400000000):
  Ct Tryz.prog 16 [pv bw,.int .i64 (N:Int),flv f] [wrow bw bd ba bs,cd,ca,cs] fun v H'=>∃x y e cd' ca' cs' W',v= .tuple #[flv x,flv y,.int .i64 e]∧H'=[wrow bw bd ba bs,cd',ca',cs']∧Wc bd ba bs W' cd' ca' cs'∧W'.δ.acts≤W.δ.acts+compA∧(W.δ.fault= -1→W'.δ.fault= -1)∧Keep W.live W W'∧(∀z∈W.live,z∈W'.live)∧
   ((e=0∧edgesOk N l∧(∃a b,compSpec N l a b∧FileIn W' (x,a)∧FileIn W' (y,b)∧x.count=a.length∧y.count=b.length)∧x.width=2∧y.width=3∧Ons 9000 ro W' (fs++[x,y]))∨
    (e≠0∧x=⟨0,0,0,0⟩∧y=⟨0,0,0,0⟩∧Ons 9000 ro W' fs∧((e=6∧W.δ.fault≠-1)∨(¬edgesOk N l∧e=3)))):=by
 have hll:=hO.live.length_eq
 have hl3:=length_addFs fs []
 have htt:total W.live=_:=(total_perm hO.live).trans (total_addFs _ _)
 rw[show total []=0 from rfl] at htt
 rw[show([]:List Ext).length=0 from rfl] at hl3
 have hmul:m*(W.live.length+9)≤m*(fs.length+9):=Nat.mul_le_mul_left _ (by omega)
 refine(Components_ct bw bd ba bs W cd ca cs h N f l hin hfw q m (by omega) hN hq hqm hT (by rw[hO.n,htt];unfold sumB at hroom;omega) hac).mono ?_
 rintro v H' (⟨_,x,y,e,cd3,ca3,cs3,W3,rfl,rfl,hW3,hS3⟩|⟨hsm,_⟩)
 rotate_left
 ·exfalso
  have h3:=hO.room
  have h4:=hO.used
  have h5:=hO.size
  omega
 have hac3:=hS3.acts
 have hac4:W3.δ.acts≤1000000000:=by unfold compA at hac3;omega
 have hOn:∀gs,W3.live.Perm (addFs gs [])→Ons 9000 ro W3 gs:=fun gs hl=>⟨hS3.size.trans hO.size,hS3.room.trans hO.room,(used_eq h hW3 hS3.gs).trans hO.used,hac4,hS3.n.trans hO.n,hl⟩
 rcases hS3.res with⟨rfl,her,hw1,hw2,hl,a,b,hPr,hfa,hfb⟩|⟨he,rfl,rfl,hl,hr⟩
 ·rw[hO.size] at hfa hfb
  have ho:edgesOk N l:=by
   unfold errC at her
   split at her
   ·assumption
   ·cases her
  have hl2:W3.live.Perm (addF y (addF x W.live)):=hl
  refine⟨x,y,0,cd3,ca3,cs3,W3,rfl,rfl,hW3,hac3,hS3.fault,hS3.keep,fun z hz=>hl2.mem_iff.2 (addF_mem (addF_mem hz)),.inl ⟨rfl,ho,⟨a,b,hPr,FileIn.new hfa (hS3.size.trans hO.size) (hl2.trans (addF_swap _ _ _)),FileIn.new hfb (hS3.size.trans hO.size) hl2,hfa.len.symm,hfb.len.symm⟩,hw1,hw2,hOn _ ?_⟩⟩
  refine hl2.trans ((addF_perm (addF_perm hO.live)).trans ?_)
  rw[←addFs_app,←addFs_app,List.append_assoc]
  exact .refl _
 ·refine⟨⟨0,0,0,0⟩,⟨0,0,0,0⟩,e,cd3,ca3,cs3,W3,rfl,rfl,hW3,hac3,hS3.fault,hS3.keep,fun z hz=>hl.mem_iff.2 hz,.inr ⟨he,rfl,rfl,hOn _ (hl.trans hO.live),hr.imp id ?_⟩⟩
  rintro⟨k,h1,h2⟩
  unfold errC at h1
  split at h1
  ·cases h1
  ·cases h1
   exact⟨by assumption,h2⟩
theorem labT_len (l:List Int):(labT l).length=l.length:=by simp[labT]
theorem comp_one {a b:List T5} (h:compSpec 2 [⟨4,1,0,0,0⟩] a b):a.length=2∧b.length=1:=by
 have ho1:edgesOk ((2:Nat):Int) [⟨4,1,0,0,0⟩]:=by decide+kernel
 obtain⟨fl,lab,h1,⟨h2,h3⟩,rfl,rfl⟩:=h.at_ ho1 (.refl _) (by simp)
 refine⟨by rw[labT_len,h1.len],?_⟩
 match fl,h2,h3 with
 |[b0],_,h3=>
  have h4:b0=true:=(h3 0 b0 rfl).2 ⟨by decide,fun hc=>by
   have:=hc.stay (X:=fun x=>x=(gE (([⟨4,1,0,0,0⟩]:List T5).map eOf) 0).1) rfl (fun i hi=>absurd hi.2 (Nat.not_lt_zero _))
   revert this;decide⟩
  subst h4;rfl
theorem Components_width (N:Int) (f:Fl) (hw:f.width≠3) (x:Value):CtQ Tryz.prog 16 [x,.int .i64 N,flv f] [] (.tuple #[flv ⟨0,0,0,0⟩,flv ⟨0,0,0,0⟩,.int .i64 1]):=by
 have hflv:∀f:Fl,flv f= .agg #[.int .i64 (f.first:Int),.int .i64 (f.blocks:Int),.int .i64 (f.width:Int),.int .i64 (f.count:Int)]:=fun _=>rfl
 rw[hflv]
 by_cases h0:N<0
 ·refine Ct.intro Tryz.func16 rfl Tryz.ntmps16 (nle rfl) fun w0=> ?_;dsimp only[argSlots,Nat.reduceAdd]
  repeat(first|(refine st ?_;intros)|refine G.drawOrd (id:=14) [0,1,2,3,5,4,6,7] [(4,.eff [5])] (h:= ?_)|refine G.drawOrd (id:=19) [0,1,2,3,5,4,6,7,8] [(4,.eff [5])] (h:= ?_)|refine G.draw (id:=23) [(2,.eff [1])] (h:= ?_))
  (refine Dn.post (Hr:=[]) Tryz.results16 (hR:= ?_);exact⟨rfl,rfl⟩)
 by_cases h1:1073741824<N
 ·refine Ct.intro Tryz.func16 rfl Tryz.ntmps16 (nle rfl) fun w0=> ?_;dsimp only[argSlots,Nat.reduceAdd]
  repeat(first|(refine st ?_;intros)|refine G.drawOrd (id:=14) [0,1,2,3,5,4,6,7] [(4,.eff [5])] (h:= ?_)|refine G.drawOrd (id:=19) [0,1,2,3,5,4,6,7,8] [(4,.eff [5])] (h:= ?_)|refine G.draw (id:=23) [(2,.eff [1])] (h:= ?_))
  (refine Dn.post (Hr:=[]) Tryz.results16 (hR:= ?_);exact⟨rfl,rfl⟩)
 refine Ct.intro Tryz.func16 rfl Tryz.ntmps16 (nle rfl) fun w0=> ?_;dsimp only[argSlots,Nat.reduceAdd]
 repeat(first|(refine st ?_;intros)|refine G.drawOrd (id:=14) [0,1,2,3,5,4,6,7] [(4,.eff [5])] (h:= ?_)|refine G.drawOrd (id:=19) [0,1,2,3,5,4,6,7,8] [(4,.eff [5])] (h:= ?_)|refine G.draw (id:=23) [(2,.eff [1])] (h:= ?_))
 (refine Dn.post (Hr:=[]) Tryz.results16 (hR:= ?_);exact⟨rfl,rfl⟩)
theorem Components_range (N:Int) (hN:N<0∨1073741824<N) (f:Fl) (x:Value):CtQ Tryz.prog 16 [x,.int .i64 N,flv f] [] (.tuple #[flv ⟨0,0,0,0⟩,flv ⟨0,0,0,0⟩,.int .i64 1]):=by
 have hflv:∀f:Fl,flv f= .agg #[.int .i64 (f.first:Int),.int .i64 (f.blocks:Int),.int .i64 (f.width:Int),.int .i64 (f.count:Int)]:=fun _=>rfl
 rw[hflv]
 by_cases h0:N<0
 ·refine Ct.intro Tryz.func16 rfl Tryz.ntmps16 (nle rfl) fun w0=> ?_;dsimp only[argSlots,Nat.reduceAdd]
  repeat(first|(refine st ?_;intros)|refine G.drawOrd (id:=14) [0,1,2,3,5,4,6,7] [(4,.eff [5])] (h:= ?_)|refine G.drawOrd (id:=19) [0,1,2,3,5,4,6,7,8] [(4,.eff [5])] (h:= ?_)|refine G.draw (id:=23) [(2,.eff [1])] (h:= ?_))
  (refine Dn.post (Hr:=[]) Tryz.results16 (hR:= ?_);exact⟨rfl,rfl⟩)
 have h1:1073741824<N:=by omega
 refine Ct.intro Tryz.func16 rfl Tryz.ntmps16 (nle rfl) fun w0=> ?_;dsimp only[argSlots,Nat.reduceAdd]
 repeat(first|(refine st ?_;intros)|refine G.drawOrd (id:=14) [0,1,2,3,5,4,6,7] [(4,.eff [5])] (h:= ?_)|refine G.drawOrd (id:=19) [0,1,2,3,5,4,6,7,8] [(4,.eff [5])] (h:= ?_)|refine G.draw (id:=23) [(2,.eff [1])] (h:= ?_))
 (refine Dn.post (Hr:=[]) Tryz.results16 (hR:= ?_);exact⟨rfl,rfl⟩)
theorem Components_nil (N:Int) (h0:0≤N) (h1:N≤1073741824) (f:Fl) (hw:f.width=3):CtQ Tryz.prog 16 [.pointer none,.int .i64 N,flv f] [] (.tuple #[flv ⟨0,0,0,0⟩,flv ⟨0,0,0,0⟩,.int .i64 1]):=by
 have hflv:∀f:Fl,flv f= .agg #[.int .i64 (f.first:Int),.int .i64 (f.blocks:Int),.int .i64 (f.width:Int),.int .i64 (f.count:Int)]:=fun _=>rfl
 have hwi:(f.width:Int)=3:=by rw[hw];rfl
 rw[hflv]
 refine Ct.intro Tryz.func16 rfl Tryz.ntmps16 (nle rfl) fun w0=> ?_;dsimp only[argSlots,Nat.reduceAdd]
 repeat(first|(refine st ?_;intros)|refine G.drawOrd (id:=14) [0,1,2,3,5,4,6,7] [(4,.eff [5])] (h:= ?_)|refine G.drawOrd (id:=19) [0,1,2,3,5,4,6,7,8] [(4,.eff [5])] (h:= ?_)|refine G.draw (id:=23) [(2,.eff [1])] (h:= ?_))
 refine R.call (hct:=Begin_nil _) (h:= ?_)
 rintro _ _ ⟨rfl,rfl⟩
 try dsimp only[List.cons_append,List.nil_append]
 repeat(first|(refine st ?_;intros)|refine G.drawOrd (id:=14) [0,1,2,3,5,4,6,7] [(4,.eff [5])] (h:= ?_)|refine G.drawOrd (id:=19) [0,1,2,3,5,4,6,7,8] [(4,.eff [5])] (h:= ?_)|refine G.draw (id:=23) [(2,.eff [1])] (h:= ?_))
 (refine Dn.post (Hr:=[]) Tryz.results16 (hR:= ?_);exact⟨rfl,rfl⟩)
theorem Components_arg (bw bd ba bs:Nat) (cd ca cs:Chunk) (N:Int) (h0:0≤N) (h1:N≤1073741824) (f:Fl) (hw:f.width=3) (hR:CtQ Tryz.prog 68 [pv bw,flv f] [wrow bw bd ba bs,cd,ca,cs] (.tuple #[.pointer none,.int .i64 1])):
  CtQ Tryz.prog 16 [pv bw,.int .i64 N,flv f] [wrow bw bd ba bs,cd,ca,cs] (.tuple #[flv ⟨0,0,0,0⟩,flv ⟨0,0,0,0⟩,.int .i64 1]):=by
 have hflv:∀f:Fl,flv f= .agg #[.int .i64 (f.first:Int),.int .i64 (f.blocks:Int),.int .i64 (f.width:Int),.int .i64 (f.count:Int)]:=fun _=>rfl
 have hwi:(f.width:Int)=3:=by rw[hw];rfl
 rw[hflv] at hR⊢
 have hB:=fun b=>Begin_arg bw bd ba bs cd ca cs b 1 1 _ _ _ _ (fl4 f) rfl (by omega) (by omega) hR
 simp only[fl4] at hB
 refine Ct.intro Tryz.func16 rfl Tryz.ntmps16 (nle rfl) fun w0=> ?_;dsimp only[argSlots,Nat.reduceAdd]
 repeat(first|(refine st ?_;intros)|refine G.drawOrd (id:=14) [0,1,2,3,5,4,6,7] [(4,.eff [5])] (h:= ?_)|refine G.drawOrd (id:=19) [0,1,2,3,5,4,6,7,8] [(4,.eff [5])] (h:= ?_)|refine G.draw (id:=23) [(2,.eff [1])] (h:= ?_))
 refine R.call (hct:=hB _) (h:= ?_)
 rintro _ _ ⟨rfl,rfl⟩
 try dsimp only[List.cons_append,List.nil_append]
 repeat(first|(refine st ?_;intros)|refine G.drawOrd (id:=14) [0,1,2,3,5,4,6,7] [(4,.eff [5])] (h:= ?_)|refine G.drawOrd (id:=19) [0,1,2,3,5,4,6,7,8] [(4,.eff [5])] (h:= ?_)|refine G.draw (id:=23) [(2,.eff [1])] (h:= ?_))
 (refine Dn.post (Hr:=[wrow bw bd ba bs,cd,ca,cs]) Tryz.results16 (hR:= ?_);exact⟨rfl,rfl⟩)
theorem awake15ct:CtQ Tryz.prog 14 [] [] (.bool true):=by
 have hWk:Ct Tryz.prog 15 [.int .i64 9] [] fun v H'=>
  ∃bw bd ba bs cd ca cs,v=pv bw∧H'=[wrow bw bd ba bs,cd,ca,cs]∧Wc bd ba bs (wk0 10 9000 90) cd ca cs:=work15ct 9 (by omega)
 have hflv:∀f:Fl,flv f= .agg #[.int .i64 (f.first:Int),.int .i64 (f.blocks:Int),.int .i64 (f.width:Int),.int .i64 (f.count:Int)]:=fun _=>rfl
 refine Ct.intro Tryz.func14 rfl Tryz.ntmps14 (nle rfl) fun w0=> ?_;dsimp only[argSlots,Nat.reduceAdd]
 repeat(refine st ?_;intros)
 refine R.call (hct:=hWk) (h:= ?_)
 rintro _ _ ⟨bw,bd,ba,bs,cd,ca,cs,rfl,rfl,hW⟩
 try dsimp only[List.cons_append,List.nil_append]
 repeat(refine st ?_;intros)
 rename_i bl
 have hRV:RV (some ⟨bl,0,none⟩) 1 [⟨4,1,0,0,0⟩] [(bl,row [.int .i64 4,.int .i64 1,.int .i64 0,.int .i64 0,.int .i64 0] 49)]:=⟨rfl,.inr ⟨bl,0,_,_,_,rfl,rfl,rfl⟩⟩
 have hok1:∀t∈([⟨4,1,0,0,0⟩]:List T5),okT 3 t:=by
  intro t ht
  simp only[List.mem_singleton] at ht;subst ht
  exact okT3 ⟨by decide,by decide⟩ ⟨by decide,by decide⟩ ⟨by decide,by decide⟩
 have hLy:=Lay_k bw bd ba bs _ cd ca cs hW 3 (by omega) (by omega) _ 1 1 _ _ hRV (by omega) hok1 (by decide) rfl (by decide) (by rw[big0];decide)
 rw[show(wk0 10 9000 90).δ.size=10 from rfl] at hLy
 refine R.call (hct:=hLy) (h:= ?_)
 rintro _ _ ⟨cd1,ca1,cs1,W1,f,rfl,rfl,hW1,hE1,hK1,hg1,hl1,hf1,hc1,hb1,hfo1⟩
 try dsimp only[List.cons_append,List.nil_append]
 obtain⟨hO,hin⟩:=(Ons.fresh 9000 90).lay hW hW1 hE1 hg1 hl1 hfo1 (by decide)
 have hac1:=hE1.acts.2
 have hn1:nblocks 10 3 1=1:=by decide
 rw[show(wk0 10 9000 90).δ.acts=0 from rfl] at hac1
 rw[hflv]
 have hT:=Components_ons bw bd ba bs 90 (by omega) W1 cd1 ca1 cs1 hW1 2 f _ _ hin hf1 hc1 hO 2 10 (by decide) (by decide) (by decide) (by decide) (by decide+kernel) (by simp[sumB,hb1,hn1]) (by omega)
 rw[hflv] at hT
 repeat(refine st ?_;intros)
 refine R.call (hct:=hT) (h:= ?_)
 rintro _ _ ⟨x,y,e,cd3,ca3,cs3,W3,rfl,rfl,hW3,_,_,_,_,hc⟩
 dsimp only[List.cons_append,List.nil_append]
 have ho1:edgesOk ((2:Nat):Int) [⟨4,1,0,0,0⟩]:=by decide+kernel
 rcases hc with⟨rfl,ho,⟨a,b,hsp,_,_,hxc,hyc⟩,_⟩|⟨_,_,_,_,⟨_,h6⟩|⟨h6,_⟩⟩
 ·have hxc1:(x.count:Int)=2:=by rw[hxc,(comp_one hsp).1];rfl
  have hyc1:(y.count:Int)=1:=by rw[hyc,(comp_one hsp).2];rfl
  rw[hflv,hflv,hxc1,hyc1]
  repeat(refine st ?_;intros)
  (refine Dn.post (Hr:=[]) Tryz.results14 (hR:= ?_);exact⟨congrArg Value.bool (dec_true rfl),rfl⟩)
 ·exact absurd (hE1.fault rfl) h6
 ·exact absurd ho1 h6
end Go.Proofs.YtpckicjfigmjkaaGreat
namespace Go.Proofs.YtpckicjfigmjkaaGreat
open Go.ChangeShapes Go.WideShapes Go.ChangeAt Go.RowKit Go.SL
theorem own:ownKnob Tryz.prog.godebug=none:=by kernel_rfl
theorem laidOut:laidOutB Tryz.prog=true:=by kernel_rfl
theorem below_of_st {W W':World} {H:Hp} (h:St W [] W' H):Below W.heap.size W W':=
 ⟨h.os,h.tape,h.output,h.size,fun k hk=>h.frame k hk (by simp)⟩
theorem trodAll_below {H:Type} {enc:TypeId×Value→H} {P:Program} {W W':World} (hl:laidOutB P=true) (hb:Below W.heap.size W W') {sp:Nat→Bool}:
  ∀(ts:List TypeId) (vs:List Value) (ds:List (DataW H)) (ps:List MemPlace),(∀t∈ts,P.readableRec t=true∧t<P.types.size)→
   DataW.TrodAll enc P W 0 (fun _=>true) true ts vs ds ps→(∀p∈ps,p.block<W.heap.size)→(∀p∈ps,sp p.block=true)→DataW.TrodAll enc P W' 0 sp true ts vs ds ps
 |[],vs,ds,ps,_,h,_,_=>by
  cases vs<;>cases ds<;>simp[DataW.TrodAll] at h⊢
  exact h
 |t::ts,vs,ds,ps,hr,h,hlt,hsp=>by
  obtain⟨v,vs',d,ds',p,q,rfl,rfl,rfl,h0,r0⟩:=trodAll_cons h
  have h1:=WideElems.Trod_stays hl (hr t List.mem_cons_self).1 (hr t List.mem_cons_self).2 h0 (fun x hx=>hb.same (hlt x (List.mem_append_left _ hx))) (fun x hx=>hsp x (List.mem_append_left _ hx))
  exact trodAll_cons_mk h1 (trodAll_below hl hb ts vs' ds' q (fun t ht=>hr t (List.mem_cons_of_mem _ ht)) r0 (fun x hx=>hlt x (List.mem_append_right _ hx)) (fun x hx=>hsp x (List.mem_append_right _ hx)))
theorem post_same {H:Type} {enc:TypeId×Value→H} {P:Program} {f:Func} {s:ChangeSpec} {apart fresh handsOn again:Bool} {W W':World} {args:Array Value} {v:Value} {ds gs:List (DataW H)} {before pa pv:List MemPlace}
  (hW:DataW.Whole enc P f.params.toList s.vars apart W args.toList ds gs before)
  (hres:∀(b:Nat) (sp:Nat→Bool) (hd:Bool),DataW.TrodAll enc P W' b sp hd f.resultTypes.toList (v.resultList f.resultTypes.size) (s.fn H (ds++gs)).results [])
  (hargs:∀sp:Nat→Bool,(∀p∈before,sp p.block=true)→DataW.TrodAll enc P W' 0 sp true f.params.toList args.toList (s.fn H (ds++gs)).args pa)
  (hvars:∀sp:Nat→Bool,(∀p∈before,sp p.block=true)→DataW.TrodVars enc P W' sp s.vars (s.fn H (ds++gs)).vars pv)
  (hps:before=pa++pv) (hk:W.keptBut W' (·∈before)) (hfz:∀a:Addr,a.block<W.heap.size→W'.frozen? a=W.frozen? a)
  (hok:∀(j:Nat) (t:TypeId) (r:Value),f.resultTypes[j]? =some t→(v.resultList f.resultTypes.size)[j]? =some r→Value.okWide P W' .any 0 t r):
  s.post enc P f apart fresh handsOn again W args v W':=by
 have hold:∀p∈before,(fun b=>decide (b<W.heap.size)) p.block=true:=fun p hp=>by simpa using hW.lt p hp
 have hltb:∀p∈before,p.block<W.heap.size:=fun p hp=>hW.lt p hp
 refine⟨ds,gs,before,[],pa,pv,hW,hres _ _ _,hargs _ hold,hvars _ hold,World.keptBut_mono (fun p hp=>⟨hp,?_⟩) hk,fun _=> ?_⟩
 ·rw[hps,List.mem_append] at hp
  exact Or.inr hp
 ·obtain⟨_,_,_,_,_,hz,hn⟩:=hW
  refine⟨hok,_,_,([]++pa)++pv,⟨[]++pa,pv,trodAll_append (hargs _ (fun _ _=>rfl)) (hres _ _ _),hvars _ (fun _ _=>rfl),rfl,?_,?_⟩,?_⟩
  ·intro b off hp
   have hp':MemPlace.cell b off∈before:=by rw[hps];simpa using hp
   rw[hfz _ (hltb _ hp')]
   exact hz b off hp'
  ·intro ha
   have:=hn ha
   rw[hps] at this
   simpa using this
  ·intro p hp _
   rw[hps]
   simpa using hp
theorem lawPost {H:Type} {enc:TypeId×Value→H} {P:Program} {f:Func} {s:ChangeSpec} {b:TypeId} {W W':World} {args:Array Value} {ds gs:List (DataW H)} {before:List MemPlace}
  (hW:DataW.Whole enc P f.params.toList s.vars false W args.toList ds gs before) (hv:s.vars=[]) (hres:f.resultTypes= #[b]) (hb:P.underlying b=some .bool) (hl:laidOutB P=true)
  (hr:∀t∈f.params.toList,P.readableRec t=true∧t<P.types.size) (hfn:s.fn H (ds++gs)={results:=[.lit (.bool true)],args:=ds}) (hbel:Below W.heap.size W W'):
  s.post enc P f false true false false W args (.bool true) W':=by
 have hW':=hW
 have hlt:∀p∈before,p.block<W.heap.size:=fun p hp=>hW'.lt p hp
 obtain⟨p,q,hA,hV,rfl,hfz,hnd⟩:=hW
 rw[hv] at hV
 have hq:q=[]:=by cases gs<;>simp[DataW.TrodVars] at hV;exact hV
 subst hq
 have hgs:gs=[]:=by cases gs<;>simp[DataW.TrodVars] at hV⊢
 subst hgs
 simp only[List.append_nil] at hW' hlt hfn
 refine post_same (pa:=p) (pv:=[]) hW' ?_ ?_ ?_ (by simp) ?_ ?_ ?_
 ·intro base sp hd
  simp only[List.append_nil,hfn,hres]
  exact trodAll_mk1 (shut_bool hb true)
 ·intro sp hsp
  simp only[List.append_nil,hfn]
  exact trodAll_below hl hbel _ _ _ _ hr hA hlt hsp
 ·intro sp _
  simp only[List.append_nil,hfn,hv]
  rfl
 ·exact hbel.frame _
 ·exact fun a ha=>hbel.frozen ha
 ·exact ok_one hres rfl (okWide_bool_mk hb true)
theorem st_nil (W:World):St W (keys []) W []:=
 ⟨by simp[keys],by simp,by simp[keys],fun _ _ _=>rfl,Nat.le_refl _,rfl,rfl,rfl⟩
theorem law_calls {P:Program} {f:FuncId} {args:List Value} (h:CtQ P f args [] (.bool true)) (W:World):
  Calls P f args.toArray W fun e W'=>e= .returned (.bool true)∧Below W.heap.size W W':=by
 unfold CtQ Ct at h
 refine(h W (st_nil W)).mono fun e W' ⟨v,H',h1,⟨h2,h3⟩,h4⟩=> ?_
 subst h2
 exact⟨h1,below_of_st h4⟩
theorem cellInt {P:Program} {W:World} {base:Nat} {e:TypeId} {k:IntKind} {v:Value} (he:P.underlying e=some (.int k)) (h:Cell.okWide P W .any base e v):∃n,v= .int k n∧k.has n=true:=by
 simp only[Cell.okWide,he] at h
 cases v<;>simp_all [Cell.ok]
end Go.Proofs.YtpckicjfigmjkaaGreat
namespace Go.Proofs.YtpckicjfigmjkaaGreat
open Go.ChangeShapes Go.WideShapes Go.ChangeAt Go.RowKit Go.SL Go.Tup
theorem below_of_st1 {W W':World} {c:Chunk} (hc:∀q∈c,W.heap[q.1]? =some q.2) (h:St W (keys [c]) W' [c]):Below W.heap.size W W':=
 ⟨h.os,h.tape,h.output,h.size,fun k hk=>by
  by_cases hm:k∈keys [c]
  ·simp only[keys,List.flatten_cons,List.flatten_nil,List.append_nil,List.mem_map] at hm
   obtain⟨q,hq,rfl⟩:=hm
   rw[hc q hq]
   exact h.sat q (by simpa using hq)
  ·exact h.frame k hk hm⟩
theorem law_calls1 {P:Program} {f:FuncId} {args:List Value} {c:Chunk} {W:World} (hc:∀q∈c,W.heap[q.1]? =some q.2) (hnd:(c.map (·.1)).Nodup) (h:CtQ P f args [c] (.bool true)):
  Calls P f args.toArray W fun e W'=>e= .returned (.bool true)∧Below W.heap.size W W':=by
 unfold CtQ Ct at h
 have hst:St W (keys [c]) W [c]:=by
  refine⟨by simpa[keys] using hnd,by simpa using hc,fun k hk=> .inl hk,fun _ _ _=>rfl,Nat.le_refl _,rfl,rfl,rfl⟩
 refine(h W hst).mono fun e W' ⟨v,H',h1,⟨h2,h3⟩,h4⟩=> ?_
 subst h2 h3
 exact⟨h1,below_of_st1 hc h4⟩
end Go.Proofs.YtpckicjfigmjkaaGreat
namespace Go.Proofs.YtpckicjfigmjkaaGreat
open Go.ChangeShapes Go.WideShapes Go.ChangeAt Go.RowKit Go.SL Go.Tup Go.Spc
def InT (ts:List T5):Prop:=∀t∈ts,∀c∈t.toList,inI64 c
theorem lit_i64 {x:Int} (h:(Lit.int .i64 x).wf=true):inI64 x:=by
 simp[Lit.wf,IntKind.min,IntKind.max,IntKind.bits,IntKind.signed] at h
 unfold inI64;omega
theorem openNat8 {P:Program} {W:World} {base:Nat} {e:TypeId} {v:Value} (he:P.underlying e=some (.int .u8)) (h:Value.okWide P W .any base e v):∃x:Nat,x<256∧v= .int .u8 (x:Int):=by
 have h':Cell.okWide P W .any base e v:=by simpa only[Value.okWide,he] using h
 obtain⟨x,hx,hr⟩:=cellInt he h'
 simp[IntKind.has,IntKind.min,IntKind.max,IntKind.bits,IntKind.signed] at hr
 exact⟨x.toNat,by omega,by rw[hx,Int.toNat_of_nonneg (by omega)]⟩
theorem openNat16 {P:Program} {W:World} {base:Nat} {e:TypeId} {v:Value} (he:P.underlying e=some (.int .u16)) (h:Value.okWide P W .any base e v):∃x:Nat,x<65536∧v= .int .u16 (x:Int):=by
 have h':Cell.okWide P W .any base e v:=by simpa only[Value.okWide,he] using h
 obtain⟨x,hx,hr⟩:=cellInt he h'
 simp[IntKind.has,IntKind.min,IntKind.max,IntKind.bits,IntKind.signed] at hr
 exact⟨x.toNat,by omega,by rw[hx,Int.toNat_of_nonneg (by omega)]⟩
theorem flat_ofR (cs:List Value):∀(len off:Nat),(∀i,i<len→∃t:T5,(∀c∈t.toList,inI64 c)∧∀j,j<5→cs[off+i*5+j]? =(tcells t)[j]?)→∃ts:List T5,ts.length=len∧InT ts∧(cs.drop off).take (len*5)=flat ts
 |0,off,_=>⟨[],rfl,fun t ht=>by simp at ht,by simp[flat]⟩
 |len+1,off,h=>by
  obtain⟨t,htr,ht⟩:=h 0 (by omega)
  obtain⟨ts,hl,hin,he⟩:=flat_ofR cs len (off+5) (fun i hi=>by
   obtain⟨t,htr,ht⟩:=h (i+1) (by omega)
   exact⟨t,htr,fun j hj=>by rw[←ht j hj];congr 1;omega⟩)
  refine⟨t::ts,by simp[hl],fun u hu=>by
   rcases List.mem_cons.1 hu with rfl|hu
   ·exact htr
   ·exact hin u hu,?_⟩
  have hd:cs.drop off=tcells t++cs.drop (off+5):=by
   apply List.ext_getElem?
   intro j
   rw[List.getElem?_drop]
   by_cases hj:j<5
   ·rw[List.getElem?_append_left (by simpa[tcells] using hj),←ht j hj];simp
   ·rw[List.getElem?_append_right (by simp[tcells];omega),List.getElem?_drop]
    congr 1
    simp[tcells];omega
  rw[hd,flat,←he,List.take_append]
  rw[List.take_of_length_le (by simp[tcells];omega)]
  congr 2
  simp[tcells];omega
theorem open_tuplesR {H:Type} {enc:TypeId×Value→H} {P:Program} {w:World} {base:Nat} {t E e:TypeId} {v:Value} {d:DataW H} {ps:List MemPlace} (ht:P.underlying t=some (.slice E)) (hE:P.underlying E=some (.array 5 e))
  (he:P.underlying e=some (.int .i64)) (hcE:P.cellsOf E=5) (hce:P.cellsOf e=1) (h:DataW.Trod enc P w 0 (fun _=>true) true t v d ps) (hok:Value.okWide P w .any base t v):
  ∃p n cap ts c,v= .slice p n cap∧RV p n ts c∧InT ts∧n≤maxLen∧(∀q∈c,w.heap[q.1]? =some q.2)∧(c.map (·.1)).Nodup:=by
 obtain⟨a,len,cap,rfl⟩:=okWide_slice ht hok
 obtain⟨fuel,h⟩:=h
 rcases Deep.open_slice ht h with⟨h0,_⟩|⟨a',len',cap',m,n,D,Pl,h0,hb,hl,hm,hmm,_,hx⟩
 ·simp[Value.cells] at h0
  obtain⟨rfl,rfl,rfl⟩:=h0
  exact⟨none,0,0,[],[],rfl,⟨rfl,.inl ⟨rfl,rfl⟩⟩,fun t ht=>by simp at ht,by decide,by simp,by simp⟩
 ·simp[Value.cells] at h0
  obtain⟨rfl,rfl,rfl⟩:=h0
  by_cases hz:len=0
  ·subst hz
   exact⟨some a',0,cap,[],[],rfl,⟨rfl,.inl ⟨rfl,rfl⟩⟩,fun t ht=>by simp at ht,by decide,by simp,by simp⟩
  ·simp only[if_true] at hmm
   subst hmm
   have each:∀i,i<len→∃t:T5,(∀c∈t.toList,inI64 c)∧∀j,j<5→w.cell? ((a'.add (i*5)).add j)=(tcells t)[j]? :=by
    intro i hi
    obtain⟨cs',h1,h2⟩:=hx i (by omega)
    rw[hcE] at h1
    obtain⟨xs,k,_,_,hlen,hxl,hxe⟩:=DataW.trod_array hE h2
    rw[hcE] at hlen
    have hcell:∀j,j<5→w.cell? ((a'.add (i*5)).add j)=cs'[j]? :=by
     intro j hj
     simp only[World.cells?,Nat.zero_le,if_true] at h1
     exact mapM_some_get h1 j j (by simp[hj])
    have hint:∀j,j<5→∃x,inI64 x∧cs'[j]? =some (.int .i64 x):=by
     intro j hj
     have hj':=hxe j hj
     rw[hce,Nat.mul_one] at hj'
     rw[List.getElem?_eq_getElem (by omega)] at hj'
     obtain⟨x,hx1,_,hx3⟩:=DataW.trod_int he hj'
     refine⟨x,lit_i64 hx3,?_⟩
     have:=congrArg (·[0]?) hx1
     simpa[List.getElem?_take,List.getElem?_drop] using this
    obtain⟨x0,r0,h0⟩:=hint 0 (by omega)
    obtain⟨x1,r1,h1⟩:=hint 1 (by omega)
    obtain⟨x2,r2,h2⟩:=hint 2 (by omega)
    obtain⟨x3,r3,h3⟩:=hint 3 (by omega)
    obtain⟨x4,r4,h4⟩:=hint 4 (by omega)
    refine⟨⟨x0,x1,x2,x3,x4⟩,fun c hc=>by
     simp only[T5.toList,List.mem_cons,List.not_mem_nil,or_false] at hc
     rcases hc with rfl|rfl|rfl|rfl|rfl<;>assumption,fun j hj=> ?_⟩
    rw[hcell j hj]
    match j,hj with
    |0,_=>exact h0
    |1,_=>exact h1
    |2,_=>exact h2
    |3,_=>exact h3
    |4,_=>exact h4
   obtain⟨b,off,spot⟩:=a'
   obtain⟨t0,_,ht0⟩:=each 0 (by omega)
   have hc0:=ht0 0 (by omega)
   have hs:spot=none:=by
    cases spot with
    |none=>rfl
    |some s=>
     exfalso
     simp only[Addr.add,World.cell?,tcells,List.getElem?_cons_zero] at hc0
     revert hc0
     split<;>simp
   subst hs
   have hadd:∀i j,((⟨b,off,none⟩:Addr).add i).add j=⟨b,off+i+j,none⟩:=fun i j=>by rw[Addr.add_mk,Addr.add_mk]
   cases hbk:w.heap[b]? with
   |none=>rw[hadd] at hc0;simp[World.cell?,hbk,tcells] at hc0
   |some ob=>
    cases ob with
    |cells arr T fz=>
     obtain⟨ts,hts,hin,hflat⟩:=flat_ofR arr.toList len off (fun i hi=>by
      obtain⟨t,htr,ht⟩:=each i hi
      refine⟨t,htr,fun j hj=> ?_⟩
      rw[←ht j hj,hadd,cell_of_row w b _ arr T fz hbk]
      simp)
     refine⟨_,len,_,ts,[(b,rowf arr.toList T fz)],rfl,⟨hts,.inr ⟨b,off,arr.toList,T,fz,rfl,rfl,hflat⟩⟩,hin,by omega,?_,by simp⟩
     intro q hq
     simp only[List.mem_singleton] at hq
     subst hq
     simpa[rowf] using hbk
    |_=>rw[hadd] at hc0;simp[World.cell?,hbk,tcells] at hc0
theorem openI64 {P:Program} {W:World} {base:Nat} {e:TypeId} {v:Value} (he:P.underlying e=some (.int .i64)) (h:Value.okWide P W .any base e v):∃x:Int,inI64 x∧v= .int .i64 x:=by
 have h':Cell.okWide P W .any base e v:=by simpa only[Value.okWide,he] using h
 obtain⟨x,hx,hr⟩:=cellInt he h'
 simp[IntKind.has,IntKind.min,IntKind.max,IntKind.bits,IntKind.signed] at hr
 exact⟨x,⟨by omega,by omega⟩,hx⟩
end Go.Proofs.YtpckicjfigmjkaaGreat
namespace Go.Proofs.YtpckicjfigmjkaaGreat
open Go.SL Go.Spc Go.Tup Go.Srt Go.Gr
structure TuX where
 i:Nat
 p:Option Addr
 cap:Nat
 ch:Chunk
theorem edT3take {es:List IE} {i:Nat} {e:IE} (h:es[i]? =some e):(edT3 es).take (i+1)=(edT3 es).take i++[⟨3*(i:Int),e.1,e.2,0,0⟩]:=by
 rw[List.take_add_one,edT3get h];rfl
theorem tuples15ct (N:Int) (p:Option Addr) (m cap:Nat) (es:List IE) (c:Chunk) (hv:Rw ecl 2 p m es c) (hm:m≤1000):
  Ct Tryz.prog 25 [gv N p m cap] [c] fun v H'=>∃q qc ch,v= .slice q m qc∧H'=[c,ch]∧Vec 49 5 q m qc (flat (edT3 es)) ch:=by
 have hl:=hv.1
 unfold gv
 refine Ct.intro Tryz.func25 rfl Tryz.ntmps25 (nle rfl) fun w0=> ?_;dsimp only[argSlots,Nat.reduceAdd]
 repeat(first|(refine st ?_;intros)|refine G.draw [] (h:= ?_))
 rename_i b1
 refine G.loop (X:=TuX) (fun x=>x.i≤m∧Vec 49 5 x.p x.i x.cap (flat ((edT3 es).take x.i)) x.ch)
  (fun x=>[(4,.int .i64 (x.i:Int)),(3,.slice x.p x.i x.cap),(1,pv b1)])
  (fun x=>[x.ch,[(b1,row [.int .i64 N,.slice p m cap] 40)],c]) (fun x=>m-x.i) ⟨0,none,0,[]⟩ ⟨Nat.zero_le _,Vec.nil _ _⟩ (by repeat(first|exact trivial|refine⟨rfl,?_⟩)) (by repeat(first|exact Split.nil|(apply Split.cons;·(first|exact Take.nil|(repeat(first|exact Take.here|apply Take.there)))))) ?_
 rintro⟨i,q,qc,ch⟩ ⟨hi,hV⟩
 dsimp only at hi hV⊢
 by_cases hlt:i<m
 ·obtain⟨b,off,cs,T,fz,rfl,rfl,_,hget⟩:=hv.pos ecl_len (by omega)
  have hie:es[i]? =some es[i]:=List.getElem?_eq_getElem (by omega)
  have q0:=hget i 0 _ _ hie rfl
  have q1:=hget i 1 _ _ hie rfl
  rw[Nat.add_zero] at q0
  have htk:=edT3take hie
  generalize es[i]=e at*
  have hmx:i+1≤maxLen:=by simp only[maxLen];omega
  have h3:IntKind.wrap .i64 ((3:Int)*(i:Int))=3*(i:Int):=wrap_i64 ⟨by omega,by omega⟩
  have hsn:flat ((edT3 es).take (i+1))=flat ((edT3 es).take i)++[.int .i64 (3*(i:Int)),.int .i64 e.1,.int .i64 e.2,.int .i64 0,.int .i64 0]:=by
   rw[htk,flat_append];rfl
  repeat(first|(refine st ?_;intros)|refine G.draw [] (h:= ?_))
  rename_i p' cap' c' hV'
  have hV3:Vec 49 5 p' (i+1) cap' (flat ((edT3 es).take (i+1))) c':=by rw[hsn];exact hV'
  refine Dn.round ⟨i+1,p',cap',c'⟩ ⟨hlt,hV3⟩ (by dsimp only;omega)
 obtain rfl:i=m:=by omega
 rw[List.take_of_length_le (by rw[edT3len];omega)] at hV
 repeat(first|(refine st ?_;intros)|refine G.draw [] (h:= ?_))
 (refine Dn.post (Hr:=[c,ch]) Tryz.results25 (hR:= ?_);exact⟨q,qc,ch,rfl,rfl,hV⟩)
theorem edT3all {N:Nat} {es:List IE} (hm:es.length≤1000) (hN:N≤1000) (hf:∀e∈es,inE N e):∀t∈edT3 es,okT 3 t:=by
 intro t ht
 obtain⟨i,e,h1,rfl⟩:=edT3mem ht
 have h2:=hf e (List.mem_of_getElem? h1)
 have h3:=(List.getElem?_eq_some_iff.1 h1).1
 unfold inE at h2
 exact okT3 ⟨by omega,by omega⟩ ⟨by omega,by omega⟩ ⟨by omega,by omega⟩
theorem labT_get {l:List Int} {v:Nat} {x:Int} (h:l[v]? =some x):(labT l)[v]? =some ⟨(v:Int),x,0,0,0⟩:=by
 have hv:=(List.getElem?_eq_some_iff.1 h).1
 unfold labT
 rw[List.getElem?_map,List.getElem?_range hv,Option.map_some]
 congr 2
 rw[List.getD_eq_getElem?_getD,h];rfl
theorem compSpec.lens {N:Nat} {ts a b:List T5} (h:compSpec N ts a b):a.length=N∧b.length≤ts.length:=by
 obtain⟨sl,fl,lab,p1,p2,p3,p4,rfl,rfl⟩:=h
 have h1:=p1.length_eq
 have:(forT sl fl).length≤sl.length:=by
  unfold forT
  refine Nat.le_trans (List.length_filterMap_le _ _) ?_
  rw[List.length_zip];exact Nat.min_le_left _ _
 exact⟨by rw[labT_len,p3.len],by omega⟩
theorem FileIn.blkLe {n ro:Nat} {fs:List Fl} {W:Wk} {f:Fl} {ts:List T5} (h:FileIn W (f,ts)) (hO:Ons n ro W fs):f.blocks≤f.count∧(f.width=3→f.blocks≤(f.count+1)/2):=by
 obtain⟨Lv,hfo,_⟩:=h
 have h1:=hfo.blk
 dsimp only at h1
 rw[hO.size] at h1
 refine⟨by rw[h1];exact nblocks_le (holds_pos (by omega) hfo.w1 hfo.w2),fun hw=> ?_⟩
 rw[h1,hw];exact nb3
theorem List_ons (bw bd ba bs:Nat) {n ro:Nat} (hro:10≤ro) (W:Wk) (cd ca cs:Chunk) (h:Wc bd ba bs W cd ca cs) (fs:List Fl) (hO:Ons n ro W fs) (f:Fl) (ts:List T5) (hin:FileIn W (f,ts)) (hcn:ts.length≤1000) (hfl:W.δ.fault= -1) (hac:W.δ.acts≤900000000):
  Ct Tryz.prog 26 [pv bw,flv f] [wrow bw bd ba bs,cd,ca,cs] fun v H'=>
   ∃cd' ca' W' p cap co,v= .tuple #[.slice p ts.length cap,.int .i64 0]∧H'=[wrow bw bd ba bs,cd',ca',cs,co]∧Wc bd ba bs W' cd' ca' cs∧Ons n ro W' fs∧W'.δ.fault= -1∧W'.δ.acts≤W.δ.acts+1000∧(∀x,FileIn W x→FileIn W' x)∧Vec 49 5 p ts.length cap (flat ts) co:=by
 obtain⟨Lv,hfo,hsub⟩:=hin
 have hlen:f.count=ts.length:=hfo.len.symm
 have hw1:=hfo.w1
 have hw2:=hfo.w2
 dsimp only at hlen hw1 hw2
 refine(List_ct bw bd ba bs W cd ca cs h f ts Lv hfo hsub (by rw[hO.size,hO.room,hO.used];omega) hfl (by omega) (by omega)).mono ?_
 rintro v H' ⟨cd',ca',W',p,cap,co,rfl,rfl,hW',hE,hd,hl,hg,hV⟩
 rw[hlen] at hV
 have h2:=hE.acts.2
 have h3:nblocks W.δ.size f.width f.count≤f.count:=nblocks_le (holds_pos (by rw[hO.size];omega) hw1 hw2)
 rw[hlen]
 refine⟨cd',ca',W',p,cap,co,rfl,rfl,hW',⟨hE.size.trans hO.size,hE.room.trans hO.room,(used_eq h hW' hg).trans hO.used,by omega,hE.n.trans hO.n,by rw[hl];exact hO.live⟩,hE.fault hfl,by omega,fun x hx=> ?_,hV⟩
 exact FileIn.stay hx hE.size (fun z _=>by rw[hd]) (fun z hz=>by rw[hl];exact hz)
end Go.Proofs.YtpckicjfigmjkaaGreat
namespace Go.Proofs.YtpckicjfigmjkaaGreat
open Go.ChangeShapes Go.WideShapes Go.ChangeAt Go.RowKit Go.SL Go.Tup Go.Spc
theorem pairs_of (cs:List Value):∀(len off:Nat),(∀i,i<len→∃e:IE,∀j,j<2→cs[off+i*2+j]? =(ecl e)[j]?)→∃es:List IE,es.length=len∧(cs.drop off).take (len*2)=es.flatMap ecl
 |0,off,_=>⟨[],rfl,by simp⟩
 |len+1,off,h=>by
  obtain⟨t,ht⟩:=h 0 (by omega)
  obtain⟨ts,hl,he⟩:=pairs_of cs len (off+2) (fun i hi=>by
   obtain⟨t,ht⟩:=h (i+1) (by omega)
   exact⟨t,fun j hj=>by rw[←ht j hj];congr 1;omega⟩)
  refine⟨t::ts,by simp[hl],?_⟩
  have hd:cs.drop off=ecl t++cs.drop (off+2):=by
   apply List.ext_getElem?
   intro j
   rw[List.getElem?_drop]
   by_cases hj:j<2
   ·rw[List.getElem?_append_left (by simpa[ecl] using hj),←ht j hj];simp
   ·rw[List.getElem?_append_right (by simp[ecl];omega),List.getElem?_drop]
    congr 1
    simp[ecl];omega
  rw[hd,List.flatMap_cons,←he,List.take_append]
  rw[List.take_of_length_le (by simp[ecl];omega)]
  congr 2
  simp[ecl];omega
theorem open_graphR {H:Type} {enc:TypeId×Value→H} {P:Program} {w:World} {base:Nat} {t E:TypeId} {f0 f1 g0 g1:Field} {v:Value} {d:DataW H} {ps:List MemPlace} (ht:P.underlying t=some (.struct #[f0,f1]))
  (hI:P.underlying f0.type=some (.int .i64)) (hE:P.underlying f1.type=some (.slice E)) (hEu:P.underlying E=some (.struct #[g0,g1])) (hg0:P.underlying g0.type=some (.int .i64)) (hg1:P.underlying g1.type=some (.int .i64))
  (ho0:f0.offset=0) (ho1:f1.offset=1) (hc0:P.cellsOf f0.type=1) (hc1:P.cellsOf f1.type=1) (hct:P.cellsOf t=2) (ce:P.cellsOf E=2) (ho2:g0.offset=0) (ho3:g1.offset=1) (hc2:P.cellsOf g0.type=1) (hc3:P.cellsOf g1.type=1)
  (h:DataW.Trod enc P w 0 (fun _=>true) true t v d ps) (hok:Value.okWide P w .any base t v):
  ∃n p m cap es c,v=gv n p m cap∧Rw ecl 2 p m es c∧m≤maxLen∧(∀q∈c,w.heap[q.1]? =some q.2)∧(c.map (·.1)).Nodup:=by
 have h':∃cs,v= .agg cs∧cs.size=P.cellsOf t∧Row.okWide P w .any base t cs:=by
  simpa only[Value.okWide,ht] using hok
 obtain⟨cs,rfl,hsz,_⟩:=h'
 obtain⟨l⟩:=cs
 rw[hct] at hsz
 obtain⟨a,b,rfl⟩:∃a b,l=[a,b]:=by
  match l,hsz with
  |[a,b],_=>exact⟨a,b,rfl⟩
 obtain⟨fuel,h⟩:=h
 obtain⟨y0,y1,k,_,_,h0,h1⟩:=trod_struct2 ht h
 rw[ho0,hc0] at h0
 rw[ho1,hc1] at h1
 simp only[Value.cells,List.drop_zero,List.drop_succ_cons,List.take_succ_cons,List.take_zero] at h0 h1
 obtain⟨n,hn,_,_⟩:=DataW.trod_int hI h0
 obtain rfl:a= .int .i64 n:=by simpa using hn
 rcases Go.Deep.open_slice_pairs hE hEu ce ho2 ho3 hc2 hc3 h1 with⟨hb,_⟩|⟨ad,len,cap,m,k',V0,V1,D0,D1,P0,P1,hb,_,hl,hm,hmm,_,hx⟩
 ·obtain rfl:b= .slice none 0 0:=by simpa using hb
  exact⟨n,none,0,0,[],[],rfl,⟨rfl,.inl ⟨rfl,rfl⟩⟩,by decide,by simp,by simp⟩
 ·obtain rfl:b= .slice (some ad) len cap:=by simpa using hb
  by_cases hz:len=0
  ·subst hz
   exact⟨n,some ad,0,cap,[],[],rfl,⟨rfl,.inl ⟨rfl,rfl⟩⟩,by decide,by simp,by simp⟩
  ·simp only[if_true] at hmm
   subst hmm
   have each:∀i,i<len→∃e:IE,∀j,j<2→w.cell? (ad.add (i*2+j))=(ecl e)[j]? :=by
    intro i hi
    obtain⟨x0,x1,t0,t1⟩:=hx i (by omega)
    obtain⟨a0,ha0,_,_⟩:=DataW.trod_int hg0 t0
    obtain⟨a1,ha1,_,_⟩:=DataW.trod_int hg1 t1
    refine⟨(a0,a1),fun j hj=> ?_⟩
    match j,hj with
    |0,_=>rw[Nat.add_zero,x0];simpa[ecl] using ha0
    |1,_=>rw[x1];simpa[ecl] using ha1
   obtain⟨bk,off,spot⟩:=ad
   obtain⟨t0,ht0⟩:=each 0 (by omega)
   have hq0:=ht0 0 (by omega)
   have hs:spot=none:=by
    cases spot with
    |none=>rfl
    |some s=>
     exfalso
     simp only[Addr.add,World.cell?,ecl,List.getElem?_cons_zero] at hq0
     revert hq0
     split<;>simp
   subst hs
   have hadd:∀i,((⟨bk,off,none⟩:Addr).add i)=⟨bk,off+i,none⟩:=fun i=>Addr.add_mk ..
   cases hbk:w.heap[bk]? with
   |none=>rw[hadd] at hq0;simp[World.cell?,hbk,ecl] at hq0
   |some ob=>
    cases ob with
    |cells arr T fz=>
     obtain⟨es,hes,hflat⟩:=pairs_of arr.toList len off (fun i hi=>by
      obtain⟨t,ht⟩:=each i hi
      refine⟨t,fun j hj=> ?_⟩
      rw[←ht j hj,hadd,cell_of_row w bk _ arr T fz hbk]
      simp[Nat.add_assoc])
     refine⟨n,_,len,_,es,[(bk,rowf arr.toList T fz)],rfl,⟨hes,.inr ⟨bk,off,arr.toList,T,fz,rfl,rfl,hflat⟩⟩,by omega,?_,by simp⟩
     intro q hq
     simp only[List.mem_singleton] at hq
     subst hq
     simpa[rowf] using hbk
    |_=>rw[hadd] at hq0;simp[World.cell?,hbk,ecl] at hq0
end Go.Proofs.YtpckicjfigmjkaaGreat
namespace Go.Proofs.YtpckicjfigmjkaaGreat
open Go.SL Go.Spc Go.Tup Go.Srt
theorem formed_in {n:Int} {es:List IE} (h:formedB n es=true):0≤n∧∀e∈es,inE n e:=by
 unfold formedB at h
 rw[Bool.and_eq_true,decide_eq_true_iff,List.all_eq_true] at h
 exact⟨h.1.1,fun e he=>of_decide_eq_true (h.2 e he)⟩
end Go.Proofs.YtpckicjfigmjkaaGreat
namespace Go.Proofs.YtpckicjfigmjkaaGreat
open Go.SL Go.Tup Go.Srt Go.Gr
theorem zip_true {α:Type}:∀{sl:List α} {fl:List Bool},sl.length=fl.length→∀(f:α→T5),((sl.zip fl).filterMap fun x=>if x.2 then some (f x.1) else none).length=(fl.filter id).length
 |[],[],_,_=>rfl
 |s::sl,b::fl,h,f=>by
  have ih:=zip_true (sl:=sl) (fl:=fl) (by simpa using h) f
  cases b with
  |true=>simp only[List.zip_cons_cons,List.filterMap_cons,if_true,List.length_cons,List.filter_cons,id];rw[ih]
  |false=>simp only[List.zip_cons_cons,List.filterMap_cons,Bool.false_eq_true,if_false,List.filter_cons,id];exact ih
theorem forest_len {sl:List T5} {fl:List Bool} (h:fl.length=sl.length):(forT sl fl).length=(fl.filter id).length:=by
 unfold forT
 exact zip_true h.symm fun s=>⟨s.c0,s.c1,s.c2,0,0⟩
theorem list_bool {fl:List Bool} {m:Nat} (h:fl.length=m) (kb:Nat→Bool) (hk:∀i b,fl[i]? =some b→b=kb i):(fl.filter id).length=((List.range m).filter kb).length:=by
 have:fl=(List.range m).map kb:=by
  refine List.ext_getElem (by simp[h]) fun i hi hj=> ?_
  simp only[List.getElem_map,List.getElem_range]
  exact hk i _ (List.getElem?_eq_getElem hi)
 rw[this,List.filter_map,List.length_map]
 rfl
open Classical in
theorem comp_forest {N:Nat} {es:List IE} {a b:List T5} (hf:∀e∈es,inE N e) (h:compSpec N (edT3 es) a b):
  ∃lab:List Int,a=labT lab∧lab.length=N∧(∀l,LabOk (gE es) (fun i=>i<es.length) N (-1) l→l=lab)∧(∀l,LabOk (gE (b.map eOf)) (fun i=>i<b.length) N (-1) l→l=lab)∧(∀e∈b.map eOf,inE N e)∧
   b.length+((List.range N).filter fun (v:Nat)=>decide (lab[v]? =some (v:Int))).length=N:=by
 obtain⟨fl,lab,p1,p2,rfl,rfl⟩:=h.at_ (edT3ok hf) (.refl _) (edT3lt es)
 rw[edT3eOf] at p1 p2
 rw[edT3len] at p1
 have hin:∀j,j<es.length→(gE es j).1<N∧(gE es j).2<N:=by
  intro j hj
  have h1:es[j]? =some es[j]:=List.getElem?_eq_getElem hj
  obtain⟨q1,q2,q3,q4⟩:=hf _ (List.mem_of_getElem? h1)
  unfold gE
  rw[h1]
  dsimp only
  omega
 have hfin:∀e∈(forT (edT3 es) fl).map eOf,inE N e:=by
  intro e he
  obtain⟨t,ht,rfl⟩:=List.mem_map.1 he
  obtain⟨i,s,h1,h2,rfl⟩:=forT_iff.1 ht
  obtain⟨j,d,h3,rfl⟩:=edT3mem (List.mem_of_getElem? h1)
  exact hf _ (List.mem_of_getElem? h3)
 have hcn:∀{x y:Nat},Cn (gE ((forT (edT3 es) fl).map eOf)) (fun i=>i<(forT (edT3 es) fl).length) x y↔Cn (gE es) (fun i=>i<es.length) x y:=by
  intro x y
  rw[Kr.conn (S:=fun i=>i<es.length)]
  have hone:∀i,i<(forT (edT3 es) fl).length→∃j,Kr (gE es) (fun i=>i<es.length) j∧gE es j=gE ((forT (edT3 es) fl).map eOf) i:=by
   intro i hi
   have h1:(forT (edT3 es) fl)[i]? =some (forT (edT3 es) fl)[i]:=List.getElem?_eq_getElem hi
   obtain⟨j,s,h2,h3,h4⟩:=forT_iff.1 (List.mem_of_getElem? h1)
   have hk:=(p2.2 j true h3).1 rfl
   have hj:j<es.length:=hk.1
   have h5:=edT3get (List.getElem?_eq_getElem hj)
   rw[h2,Option.some.injEq] at h5
   refine⟨j,hk,?_⟩
   rw[gE_sl h1,h4,h5]
   unfold gE
   rw[List.getElem?_eq_getElem hj]
  have htwo:∀j,Kr (gE es) (fun i=>i<es.length) j→∃i,i<(forT (edT3 es) fl).length∧gE es j=gE ((forT (edT3 es) fl).map eOf) i:=by
   intro j hk
   have hj:j<es.length:=hk.1
   have hjl:j<fl.length:=by rw[p2.1];exact hj
   have hfj:fl[j]? =some fl[j]:=List.getElem?_eq_getElem hjl
   have ht:=(p2.2 j _ hfj).2 hk
   rw[ht] at hfj
   have h5:=edT3get (List.getElem?_eq_getElem hj)
   have hm:_∈forT (edT3 es) fl:=forT_iff.2 ⟨j,_,h5,hfj,rfl⟩
   obtain⟨i,hi⟩:=List.mem_iff_getElem?.1 hm
   refine⟨i,(List.getElem?_eq_some_iff.1 hi).1,?_⟩
   rw[gE_sl hi]
   unfold gE
   rw[List.getElem?_eq_getElem hj]
  constructor
  ·intro hc
   induction hc with
   |refl=>exact .refl _
   |step _ hj ih=>
    obtain⟨i,h1,h2⟩:=hj
    obtain⟨j,h3,h4⟩:=hone i h1
    exact .step ih ⟨j,h3,by rw[h4];exact h2⟩
  ·intro hc
   induction hc with
   |refl=>exact .refl _
   |step _ hj ih=>
    obtain⟨j,h1,h2⟩:=hj
    obtain⟨i,h3,h4⟩:=htwo j h1
    exact .step ih ⟨i,h3,by rw[←h4];exact h2⟩
 refine⟨lab,rfl,p1.len,fun l hl=>labUniq hl p1,fun l hl=>labUniq hl ⟨p1.len,fun v hv hw=> ?_,p1.out⟩,hfin,?_⟩
 ·obtain⟨x,a1,a2,a3,a4⟩:=p1.at_ v hv hw
  exact⟨x,a1,hcn.2 a2,a3,fun u hu=>a4 u (hcn.1 hu)⟩
 ·have hfc:=forest_count (g:=gE es) (n:=N) (fun k v=>decide (Mn (gE es) (fun j=>j<k) v)) (fun i=>decide (¬Cn (gE es) (fun j=>j<i) (gE es i).1 (gE es i).2)) (fun k v=>decide_eq_true_iff) (fun i=>decide_eq_true_iff) es.length hin
  rw[forest_len (by rw[p2.1,edT3len]),list_bool (m:=es.length) (by rw[p2.1]) (fun i=>decide (¬Cn (gE es) (fun j=>j<i) (gE es i).1 (gE es i).2)) fun i b hb=> ?_]
  ·have hsame:(List.range N).filter (fun (v:Nat)=>decide (lab[v]? =some (v:Int)))=(List.range N).filter (fun (v:Nat)=>decide (Mn (gE es) (fun j=>j<es.length) v)):=by
    refine List.filter_congr fun v hv=> ?_
    have hv:=List.mem_range.1 hv
    obtain⟨x,a1,a2,a3,a4⟩:=p1.at_ v hv (by omega)
    rw[decide_eq_decide,a1]
    constructor
    ·intro he u hu hc
     have hxv:x=v:=by have:=Option.some.inj he;omega
     have:=a4 u hc.symm
     omega
    ·intro hm
     have:¬x<v:=fun hx=>hm x hx a2.symm
     have:x=v:=by omega
     rw[this]
   rw[hsame]
   omega
  ·have hi:i<es.length:=by
    have:=(List.getElem?_eq_some_iff.1 hb).1
    rw[p2.1] at this;exact this
   have k:=p2.2 i b hb
   have k2:Kr (gE es) (fun j=>j<es.length) i↔¬Cn (gE es) (fun j=>j<i) (gE es i).1 (gE es i).2:=by
    unfold Kr
    rw[Cn.congr (S:=fun j=>j<es.length∧j<i) (S':=fun j=>j<i) fun j=>by omega]
    exact⟨fun h=>h.2,fun h=>⟨hi,h⟩⟩
   rw[k2] at k
   cases b with
   |true=>exact(decide_eq_true (k.1 rfl)).symm
   |false=>exact(decide_eq_false fun hn=>by have:=k.2 hn;cases this).symm
end Go.Proofs.YtpckicjfigmjkaaGreat
