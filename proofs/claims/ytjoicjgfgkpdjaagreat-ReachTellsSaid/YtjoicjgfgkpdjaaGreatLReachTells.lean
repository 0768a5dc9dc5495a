/-
  Parts of the proof, put together: ReachTells0, ReachTells. No condition.
-/
import Derived.Test.YtjoicjgfgkpdjaaGreatF25
set_option linter.unusedVariables false
set_option linter.unusedSimpArgs false
set_option linter.unnecessarySimpa false
set_option maxHeartbeats 4000000
namespace Go.Proofs.YtjoicjgfgkpdjaaGreat
open Go.SL Go.Spc Go.Tup Go.Srt
theorem ReachTells_ct (p:Option Addr) (m cap:Nat) (xs:List Int) (c:Chunk) (hv:Rw icl 1 p m xs c) (hxi:∀x∈xs,inI64 x) (hm:m≤maxLen) (p2:Option Addr) (n2 cap2:Nat) (qts:List T5) (c2:Chunk) (hq:RV p2 n2 qts c2) (hn2:n2≤maxLen) (hqi:InT qts) (e:Nat) (he:e<256)
  (A r1 r2:Chunk) (hA1:A.Perm (c++r1)) (hA2:A.Perm (c2++r2)):
  CtQ Tryz.prog 7 [.slice p m cap,.slice p2 n2 cap2,.int .u8 (e:Int)] [A] (.bool true):=by
 have hflv:∀f:Fl,flv f= .agg #[.int .i64 (f.first:Int),.int .i64 (f.blocks:Int),.int .i64 (f.width:Int),.int .i64 (f.count:Int)]:=fun _=>rfl
 have hAw:=awake18ct
 have hl:=hv.1
 have hlq:=hq.1
 have hmx:m≤9223372036854775807:=hm
 have hnx:n2≤9223372036854775807:=hn2
 obtain⟨k,hk⟩:∃k:Nat,k=e%33:=⟨_,rfl⟩
 have e5:(e:Int).tmod 33=(k:Int):=by rw[Int.tmod_eq_emod_of_nonneg (by omega)];omega
 have e4:IntKind.wrap .i64 ((e:Int).tmod 33)=(k:Int):=by rw[e5];exact wrap_i64 (by omega)
 have e6:IntKind.wrap .i64 (8+(k:Int))=((8+k:Nat):Int):=by rw[wrap_i64 (by omega)];omega
 have hk33:k<33:=by omega
 clear hk
 by_cases h200:m≤200
 rotate_left
 ·refine Ct.intro Tryz.func7 rfl Tryz.ntmps7 (nle rfl) fun w0=> ?_;dsimp only[argSlots,Nat.reduceAdd]
  repeat(first|(refine st ?_;intros)|(refine cq hAw ?_)|(refine cq hAll ?_)|(refine cq hSa ?_)|(refine cq hCl ?_))
  (refine Dn.post (Hr:=[A]) Tryz.results7 (hR:= ?_);exact⟨rfl,rfl⟩)
 by_cases h100:n2≤100
 rotate_left
 ·refine Ct.intro Tryz.func7 rfl Tryz.ntmps7 (nle rfl) fun w0=> ?_;dsimp only[argSlots,Nat.reduceAdd]
  repeat(first|(refine st ?_;intros)|(refine cq hAw ?_)|(refine cq hAll ?_)|(refine cq hSa ?_)|(refine cq hCl ?_))
  (refine Dn.post (Hr:=[A]) Tryz.results7 (hR:= ?_);exact⟨rfl,rfl⟩)
 have hAll:=CtQ.inA (All_ct p2 n2 cap2 qts c2 hq (by omega) 3) hA2
 cases hfit:qts.all (fitsB 3) with
 |false=>
  rw[hfit] at hAll
  refine Ct.intro Tryz.func7 rfl Tryz.ntmps7 (nle rfl) fun w0=> ?_;dsimp only[argSlots,Nat.reduceAdd]
  repeat(first|(refine st ?_;intros)|(refine cq hAw ?_)|(refine cq hAll ?_)|(refine cq hSa ?_)|(refine cq hCl ?_))
  (refine Dn.post (Hr:=[A]) Tryz.results7 (hR:= ?_);exact⟨rfl,rfl⟩)
 |true=>
 rw[hfit] at hAll
 have hok2:∀t∈qts,okT 3 t:=fun t ht=>okT_mk (hqi t ht) (List.all_eq_true.1 hfit t ht)
 have hWk:Ct Tryz.prog 15 [.int .i64 ((8+k:Nat):Int)] [] fun v H'=>
  ∃bw bd ba bs cd ca cs,v=pv bw∧H'=[wrow bw bd ba bs,cd,ca,cs]∧Wc bd ba bs (wk0 10 9000 (10*(8+k))) cd ca cs:=work18ct (8+k) (by omega)
 have hCol0:=column18ct p m cap xs c hv (by omega)
 have hCol1:Ct Tryz.prog 20 [.slice p m cap] [c] fun v H'=>∃H1,H'=c::H1∧∃q qc ch,v= .slice q m qc∧H1=[ch]∧Vec 38 5 q m qc (flat (colT xs)) ch:=
  hCol0.mono fun v H' ⟨q,qc,ch,a,b,d⟩=>⟨[ch],b,q,qc,ch,a,rfl,d⟩
 have hCol:Ct Tryz.prog 20 [.slice p m cap] [A] fun v H'=>∃q qc ch,v= .slice q m qc∧H'=[A,ch]∧Vec 38 5 q m qc (flat (colT xs)) ch:=
  (Ct.inA hCol1 hA1).mono fun v H' ⟨H1,a,q,qc,ch,b,d,e⟩=>⟨q,qc,ch,b,by rw[a,d],e⟩
 refine Ct.intro Tryz.func7 rfl Tryz.ntmps7 (nle rfl) fun w0=> ?_;dsimp only[argSlots,Nat.reduceAdd]
 repeat(first|(refine st ?_;intros)|(refine cq hAw ?_)|(refine cq hAll ?_)|(refine cq hSa ?_)|(refine cq hCl ?_))
 refine R.call (hct:=hWk) (h:= ?_)
 rintro _ _ ⟨bw,bd,ba,bs,cd,ca,cs,rfl,rfl,hW⟩
 try dsimp only[List.cons_append,List.nil_append]
 repeat(first|(refine st ?_;intros)|(refine cq hAw ?_)|(refine cq hAll ?_)|(refine cq hSa ?_)|(refine cq hCl ?_))
 refine R.call (hct:=hCol) (h:= ?_)
 rintro _ _ ⟨pq,qc0,chv,rfl,rfl,hVv⟩
 try dsimp only[List.cons_append,List.nil_append]
 have hnb1:nblocks 10 1 m≤m:=nblocks_le (holds_pos (by omega) (by omega) (by omega))
 have hLy:=Lay_k bw bd ba bs _ cd ca cs hW 1 (by omega) (by omega) pq m qc0 _ chv (RV.vec hVv) (by omega) (colT_ok hxi) (by show 10≤10*(8+k)-0;omega) rfl (Nat.zero_le _) (by rw[big0];show nblocks 10 1 m≤_;omega)
 rw[show(wk0 10 9000 (10*(8+k))).δ.size=10 from rfl] at hLy
 repeat(first|(refine st ?_;intros)|(refine cq hAw ?_)|(refine cq hAll ?_)|(refine cq hSa ?_)|(refine cq hCl ?_))
 refine R.call (hct:=hLy) (h:= ?_)
 rintro _ _ ⟨cd1,ca1,cs1,W1,f,rfl,rfl,hW1,hE1,hK1,hg1,hl1,hf1,hc1,hb1,hfo1⟩
 try dsimp only[List.cons_append,List.nil_append]
 have hsz1:W1.δ.size=10:=hE1.size
 have hrm1:W1.α.room=10*(8+k):=hE1.room
 have hus1:W1.α.used=0:=used_eq hW hW1 hg1
 have hbg1:=hE1.big
 have hac1:=hE1.acts.2
 rw[big0] at hbg1
 rw[show(wk0 10 9000 (10*(8+k))).δ.acts=0 from rfl] at hac1
 rw[hflv]
 have hnb2:nblocks 10 3 n2≤n2:=nblocks_le (holds_pos (by omega) (by omega) (by omega))
 have hLy2:=Lay_k bw bd ba bs W1 cd1 ca1 cs1 hW1 3 (by omega) (by omega) p2 n2 cap2 _ c2 hq (by omega) hok2 (by omega) (hE1.fault rfl) (by omega) (by rw[hsz1];omega)
 rw[hsz1] at hLy2
 have hLy3:Ct Tryz.prog 19 [pv bw,.int .i64 ((3:Nat):Int),.slice p2 n2 cap2] [c2,wrow bw bd ba bs,cd1,ca1,cs1] fun v H'=>∃H1,H'=c2::H1∧∃cd' ca' cs' W' f,v= .tuple #[flv f,.int .i64 0]∧H1=[wrow bw bd ba bs,cd',ca',cs']∧Wc bd ba bs W' cd' ca' cs'∧Ev W1 W' (nblocks 10 3 n2) (nblocks 10 3 n2)∧Keep W1.live W1 W'∧W'.α.gs.Perm W1.α.gs∧
    W'.live.Perm (addF f W1.live)∧f.width=3∧f.count=n2∧f.blocks=nblocks 10 3 n2∧FileOk W'.δ.disk 10 [f.ext] f qts:=by
  refine Ct.convP hLy2 (permC fun z=>by simp only[List.flatten_cons,List.flatten_nil,List.append_nil,List.count_append];omega) ?_
  rintro v H' ⟨cd',ca',cs',W',f,rfl,rfl,a⟩
  exact⟨[c2,wrow bw bd ba bs,cd',ca',cs'],⟨_,rfl,cd',ca',cs',W',f,rfl,rfl,a⟩,permC fun z=>by simp only[List.flatten_cons,List.flatten_nil,List.append_nil,List.count_append];omega⟩
 have hLy2:=Ct.inA hLy3 hA2
 repeat(first|(refine st ?_;intros)|(refine cq hAw ?_)|(refine cq hAll ?_)|(refine cq hSa ?_)|(refine cq hCl ?_))
 refine R.call (hct:=hLy2) (h:= ?_)
 rintro _ _ ⟨_,rfl,cd2,ca2,cs2,W2,g,rfl,rfl,hW2,hE2,hK2,hg2,hl2,hf2,hc2,hb2,hfo2⟩
 try dsimp only[List.cons_append,List.nil_append]
 obtain⟨h2,hf0⟩:=two_lay (wa:=1) (wb:=3) (na:=m) (nb:=n2) hW hW1 hE1 hg1 hl1 hf1 hc1 hb1 hfo1 hW2 hE2 hK2 hg2 hl2 hf2 hc2 hb2 hfo2
 rw[hflv]
 have hT:=Least_two bw bd ba bs (10*(8+k)) (by omega) W2 cd2 ca2 cs2 hW2 f g _ _ h2 (by rw[colT_len];omega) (by omega)
 rw[hflv,hflv] at hT
 repeat(first|(refine st ?_;intros)|(refine cq hAw ?_)|(refine cq hAll ?_)|(refine cq hSa ?_)|(refine cq hCl ?_))
 refine R.call (hct:=hT) (h:= ?_)
 rintro _ _ ⟨x,e1,cd3,ca3,cs3,W3,rfl,rfl,hW3,hus3,hrm3,hn3,hsz3,hac3,hfl3,hc⟩
 dsimp only[List.cons_append,List.nil_append]
 have hCol2:=hCol
 rw[hflv]
 repeat(first|(refine st ?_;intros)|(refine cq hAw ?_)|(refine cq hAll ?_)|(refine cq hSa ?_)|(refine cq hCl ?_))
 refine R.call (hct:=hCol2) (h:= ?_)
 rintro _ _ ⟨pq3,qc3,chw,rfl,rfl,hVw⟩
 try dsimp only[List.cons_append,List.nil_append]
 have hqi3:∀q∈qts,inI64 q.c0∧inI64 q.c1∧inI64 q.c2:=fun q hm=>let h:=okT_cols (hok2 q hm);⟨h.1,h.2.1,h.2.2.1⟩
 have hxl:(colT xs).length=m:=by rw[colT_len];exact hl
 have hRf:=Least18ct pq3 m qc3 (colT xs) chw (RV.vec hVw) (by omega) p2 n2 cap2 qts c2 hq (by omega) hqi3
 have hRg:Ct Tryz.prog 29 [.slice pq3 m qc3,.slice p2 n2 cap2] [c2,chw] fun v H'=>∃H1,H'=c2::H1∧((okQs m qts∧∃q qc ch us,v= .tuple #[.slice q n2 qc,.bool true]∧H1=[chw,ch]∧Vec 38 5 q n2 qc (flat us) ch∧AnsL (colT xs) qts us)∨(¬okQs m qts∧v= .tuple #[.slice none 0 0,.bool false]∧H1=[chw])):=by
  refine Ct.convP hRf (permC fun z=>by simp only[List.flatten_cons,List.flatten_nil,List.append_nil,List.count_append];omega) ?_
  rintro v H' (⟨a,q,qc,ch,us,rfl,rfl,b⟩|⟨a,rfl,rfl⟩)
  ·exact⟨[c2,chw,ch],⟨_,rfl,.inl ⟨a,q,qc,ch,us,rfl,rfl,b⟩⟩,permC fun z=>by simp only[List.flatten_cons,List.flatten_nil,List.append_nil,List.count_append];omega⟩
  ·exact⟨[c2,chw],⟨_,rfl,.inr ⟨a,rfl,rfl⟩⟩,permC fun z=>by simp only[List.flatten_cons,List.flatten_nil,List.append_nil,List.count_append];omega⟩
 have hRf:=Ct.inA hRg hA2
 rw[hxl] at hc
 repeat(first|(refine st ?_;intros)|(refine cq hAw ?_)|(refine cq hAll ?_)|(refine cq hSa ?_)|(refine cq hCl ?_))
 refine R.call (hct:=hRf) (h:= ?_)
 rintro _ _ ⟨_,rfl,⟨hokq,pu,uc,chu,us,rfl,rfl,hVu,hAn⟩|⟨hnok,rfl,rfl⟩⟩<;>dsimp only[List.cons_append,List.nil_append]
 ·rcases hc with⟨rfl,_,hin3,hxw,hxc,hl3⟩|⟨_,_,_,⟨_,h6⟩|⟨_,h6⟩⟩
  ·have hus:us=leastF (colT xs) qts:=rise_ext hAn.1 (leastF_rise _ _) fun z=>by
    rw[hAn.2 z,leastF_mem (fun t ht=>(okT_cols (colT_ok hxi t ht)).1) (fun q hm=>(hqi3 q hm).1) (by rw[hxl];exact hokq)]
   have hul:us.length=n2:=by have:=hVu.1;rw[flat_len5] at this;omega
   have hxc2:x.count=n2:=by rw[hxc,←hus,hul]
   obtain⟨LvX,hfoX,hsubX⟩:=hin3
   have hLi:=List_ct bw bd ba bs W3 cd3 ca3 cs3 hW3 x (leastF (colT xs) qts) LvX hfoX hsubX (by omega) (hfl3 hf0) (by omega) (by omega)
   rw[hflv x,hxc2] at hLi
   rw[hxc2]
   repeat(first|(refine st ?_;intros)|(refine cq hAw ?_)|(refine cq hAll ?_)|(refine cq hSa ?_)|(refine cq hCl ?_))
   refine R.call (hct:=hLi) (h:= ?_)
   rintro _ _ ⟨cd4,ca4,W4,po,oc,cho,rfl,rfl,hW4,hE4,hd4,hl4,hg4,hVo⟩
   try dsimp only[List.cons_append,List.nil_append]
   have ht:=free_sum (fs:=[f,g,x]) hW4 (by rw[hl4];exact hl3) (hE4.n.trans hn3)
   have hSa:=Same_ct po n2 oc _ cho (RV.vec hVo) (by omega) pu n2 uc us chu (RV.vec hVu)
   rw[decide_eq_true hus.symm] at hSa
   have hCl:∀b':Nat,CtQ Tryz.prog 27 [pv bw,.slice (some ⟨b',0,none⟩) 3 3] [wrow bw bd ba bs,ca4,cs3,[(b',row [.int .i64 (f.first:Int),.int .i64 (f.blocks:Int),.int .i64 (f.width:Int),.int .i64 (f.count:Int),.int .i64 (g.first:Int),.int .i64 (g.blocks:Int),.int .i64 (g.width:Int),.int .i64 (g.count:Int),.int .i64 (x.first:Int),.int .i64 (x.blocks:Int),.int .i64 (x.width:Int),.int .i64 (n2:Int)] 27)]] (.bool true):=fun b'=>
    clean18ct bw bd ba bs W4 ca4 cs3 hW4.ar hW4.sp (some ⟨b',0,none⟩) 3 3 [f,g,x] _ ⟨rfl,.inr ⟨b',0,_,_,_,rfl,rfl,by simp[fl4,hxc2]⟩⟩ (by omega) ((used_eq hW3 hW4 hg4).trans hus3) ht
   repeat(first|(refine st ?_;intros)|(refine cq hAw ?_)|(refine cq hAll ?_)|(refine cq hSa ?_)|(refine cq hCl ?_))
   (refine Dn.post (Hr:=[A]) Tryz.results7 (hR:= ?_);exact⟨rfl,rfl⟩)
  ·exact absurd hf0 h6
  ·exact absurd hokq h6
 ·rcases hc with⟨_,h6,_⟩|⟨_,rfl,hl3,⟨_,h6⟩|⟨rfl,_⟩⟩
  ·exact absurd h6 hnok
  ·exact absurd hf0 h6
  ·have ht:=free_sum (fs:=[f,g]) hW3 hl3 hn3
   have hCl:∀b':Nat,CtQ Tryz.prog 27 [pv bw,.slice (some ⟨b',0,none⟩) 2 2] [wrow bw bd ba bs,ca3,cs3,[(b',row [.int .i64 (f.first:Int),.int .i64 (f.blocks:Int),.int .i64 (f.width:Int),.int .i64 (f.count:Int),.int .i64 (g.first:Int),.int .i64 (g.blocks:Int),.int .i64 (g.width:Int),.int .i64 (g.count:Int)] 27)]] (.bool true):=fun b'=>
    clean18ct bw bd ba bs W3 ca3 cs3 hW3.ar hW3.sp (some ⟨b',0,none⟩) 2 2 [f,g] _ ⟨rfl,.inr ⟨b',0,_,_,_,rfl,rfl,rfl⟩⟩ (by omega) hus3 ht
   repeat(first|(refine st ?_;intros)|(refine cq hAw ?_)|(refine cq hAll ?_)|(refine cq hSa ?_)|(refine cq hCl ?_))
   (refine Dn.post (Hr:=[A]) Tryz.results7 (hR:= ?_);exact⟨rfl,rfl⟩)
end Go.Proofs.YtjoicjgfgkpdjaaGreat
namespace Go.Proofs.YtjoicjgfgkpdjaaGreat
open Go.ChangeShapes Go.WideShapes Go.ChangeAt Go.RowKit Go.SL Go.Tup
set_option maxRecDepth 100000 in
theorem ReachTells_lifted (os:Os) (started:os.Started) (H:Type) (enc:TypeId×Value→H):
  ReturnsInHanded {} Tryz.checked os 7 .any (Rows.reachTellsSpec.pre6 enc Tryz.prog Tryz.f7 Rows.reachTellsRow.domain false) (Rows.reachTellsSpec.post enc Tryz.prog Tryz.f7 false true false false):=by
 refine returnsInHanded_of_change (C:=Tryz.checked) own started (by kernel_rfl) Tryz.func7
  (ChangeSpec.witness6 (enc:=enc) (C:=Tryz.checked) false ⟨#[],#[.slice none 0 0,.slice none 0 0,.int .u8 0],[]⟩ 8 (by kernel_rfl) (by kernel_rfl) (by kernel_rfl) (by kernel_rfl)) ?_
 intro W base args ds gs before hval0 hW hcnd _
 have hval:∀(j:Nat) t v,Tryz.f7.params[j]? =some t→args[j]? =some v→Value.okWide Tryz.prog W .any base t v:=hval0
 have hW':=hW
 obtain⟨p,q,hA0,hV,rfl,hfz,hnd⟩:=hW
 have hA:DataW.TrodAll enc Tryz.prog W 0 (fun _=>true) true Tryz.f7.params.toList args.toList ds p:=hA0
 rw[Tryz.params7] at hA hval
 obtain⟨rfl,rfl⟩:=trodVars_none hV
 obtain⟨v0,v1,v2,d0,d1,d2,p0,p1,p2,rfl,rfl,rfl,h0,h1,h2⟩:=trodAll_three hA
 obtain⟨p0s,n0,cap0,xs0,ch0,rfl,hv0,hin0,hm0,hc0,hs0⟩:=open_intsR Tryz.underlying35 Tryz.underlying2 (by kernel_rfl) h0 (hval 0 _ v0 rfl rfl)
 obtain⟨p1s,n1,cap1,ts1,ch1,rfl,hv1,hin1,hm1,hc1,_⟩:=open_tuplesR Tryz.underlying36 Tryz.underlying38 Tryz.underlying2 (by kernel_rfl) (by kernel_rfl) h1 (hval 1 _ v1 rfl rfl)
 have hs1:=Ch1.rv hv1
 obtain⟨e2,he2,rfl⟩:=openNat8 Tryz.underlying5 (hval 2 _ v2 rfl rfl)
 obtain⟨A,hcA,hndA,⟨rA,hAa⟩,⟨rB,hAb⟩⟩:=two_ch hc0 hc1 hs0 hs1
 clear hA0 hval0
 refine(law_calls1 hcA hndA (ReachTells_ct p0s n0 cap0 xs0 ch0 hv0 hin0 hm0 p1s n1 cap1 ts1 ch1 hv1 hm1 hin1 e2 he2 A rA rB hAa hAb)).mono fun e W' ⟨he,hw⟩=> ?_
 subst he
 exact⟨_,rfl,lawPost hW' rfl rfl (by kernel_rfl) laidOut (by decide+kernel) rfl hw⟩
theorem ReachTells_holds:Rows.ReachTellsSaid:=
 OpenClaim.holds_of_wide 7 Tryz.f7 rfl rfl rfl rfl rfl rfl rfl ⟨rfl,rfl,rfl,rfl,rfl⟩ rfl rfl rfl rfl rfl (by kernel_rfl) Tryz.func7 (by kernel_rfl)
  (of_decide_eq_true (by kernel_rfl)) (by unfold Func.isWrapper;first|(rw[if_pos (by decide+kernel)];kernel_rfl)|(rw[if_neg (by decide+kernel)];exact⟨rfl,rfl⟩))
  (fun os started H enc _=>ReachTells_lifted os started H enc)
end Go.Proofs.YtjoicjgfgkpdjaaGreat
