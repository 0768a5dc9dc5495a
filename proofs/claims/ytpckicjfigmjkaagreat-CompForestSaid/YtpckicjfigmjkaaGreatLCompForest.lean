/-
  Parts of the proof, put together: CompForest0, CompForest. No condition.
-/
import Derived.Test.YtpckicjfigmjkaaGreatJ30
set_option linter.unusedVariables false
set_option linter.unusedSimpArgs false
set_option linter.unnecessarySimpa false
set_option maxHeartbeats 4000000
namespace Go.Proofs.YtpckicjfigmjkaaGreat
open Go.SL Go.Spc Go.Tup Go.Srt Go.Gr
theorem LabOk.plain {N:Nat} {es:List IE} {l:List Int} (hin:∀e∈es,inE N e) (hL:LabOk (gE es) (actE es [] (-1)) N (-1) l):LabOk (gE es) (fun i=>i<es.length) N (-1) l:=by
 have hact:∀i,actE es [] (-1) i↔i<es.length:=fun i=>by
  constructor
  ·rintro⟨e,h1,_⟩
   exact(List.getElem?_eq_some_iff.1 h1).1
  ·intro hi
   have h1:es[i]? =some es[i]:=List.getElem?_eq_getElem hi
   have h2:=hin _ (List.mem_of_getElem? h1)
   unfold inE at h2
   exact⟨_,h1,by omega,by omega,by simp⟩
 refine⟨hL.len,fun v hv hvw=> ?_,hL.out⟩
 obtain⟨x,a1,a2,a3,a4⟩:=hL.at_ v hv hvw
 exact⟨x,a1,(Cn.congr hact).1 a2,a3,fun u hu=>a4 u ((Cn.congr hact).2 hu)⟩
theorem formed_of {N:Nat} {es:List IE} (hN:N≤1000) (hl:es.length≤1000) (h:∀e∈es,inE N e):formedB (N:Int) es=true:=by
 unfold formedB
 rw[Bool.and_eq_true,decide_eq_true_iff,List.all_eq_true]
 exact⟨by omega,fun e he=>decide_eq_true (h e he)⟩
def minN (lab:List Int) (v:Nat):Nat:=((List.range v).filter fun (u:Nat)=>decide (lab[u]? =some (u:Int))).length
theorem minN_succ (lab:List Int) (v:Nat):minN lab (v+1)=minN lab v+if lab[v]? =some (v:Int) then 1 else 0:=by
 unfold minN
 rw[List.range_succ,List.filter_append,List.length_append]
 congr 1
 by_cases h:lab[v]? =some (v:Int)<;>simp[h]
theorem minN_le (lab:List Int) (v:Nat):minN lab v≤v:=by
 have:=List.length_filter_le (fun (u:Nat)=>decide (lab[u]? =some (u:Int))) (List.range v)
 rwa[List.length_range] at this
structure FrX where
 i:Nat
 p:Option Addr
 cap:Nat
 ch:Chunk
theorem CompForest_ct (n:Int) (p:Option Addr) (m cap:Nat) (es:List IE) (c:Chunk) (hv:Rw ecl 2 p m es c) (hm:m≤maxLen):
  CtQ Tryz.prog 5 [gv n p m cap] [c] (.bool true):=by
 have hflv:∀f:Fl,flv f= .agg #[.int .i64 (f.first:Int),.int .i64 (f.blocks:Int),.int .i64 (f.width:Int),.int .i64 (f.count:Int)]:=fun _=>rfl
 have hAw:=awake15ct
 have hFo:=Formed03ct n p m cap es c hv hm
 have hFe:=Few03ct n p m cap 60 100 hm
 have hel:=hv.1
 have hWk:Ct Tryz.prog 15 [.int .i64 10] [] fun v H'=>
  ∃bw bd ba bs cd ca cs,v=pv bw∧H'=[wrow bw bd ba bs,cd,ca,cs]∧Wc bd ba bs (wk0 10 9000 100) cd ca cs:=work15ct 10 (by omega)
 unfold gv at hFo hFe⊢
 cases hfm:formedB n es with
 |false=>
  rw[hfm] at hFo
  refine Ct.intro Tryz.func5 rfl Tryz.ntmps5 (nle rfl) fun w0=> ?_;dsimp only[argSlots,Nat.reduceAdd]
  repeat(first|(refine st ?_;intros)|refine G.draw [] (h:= ?_)|refine G.drawOrd (id:=17) [0,2,1,3,4,5] [(1,.eff [2])] (h:= ?_)|(refine cq hAw ?_)|(refine cq hFe ?_))
  refine R.call (hct:=hFo) (h:= ?_)
  rintro _ _ ⟨rfl,rfl⟩
  try dsimp only[List.cons_append,List.nil_append]
  repeat(first|(refine st ?_;intros)|refine G.draw [] (h:= ?_)|refine G.drawOrd (id:=17) [0,2,1,3,4,5] [(1,.eff [2])] (h:= ?_)|(refine cq hAw ?_)|(refine cq hFe ?_))
  (refine Dn.post (Hr:=[c]) Tryz.results5 (hR:= ?_);exact⟨rfl,rfl⟩)
 |true=>
 rw[hfm] at hFo
 by_cases hfew:n≤60∧(m:Int)≤100
 rotate_left
 ·rw[dec_false hfew] at hFe
  refine Ct.intro Tryz.func5 rfl Tryz.ntmps5 (nle rfl) fun w0=> ?_;dsimp only[argSlots,Nat.reduceAdd]
  repeat(first|(refine st ?_;intros)|refine G.draw [] (h:= ?_)|refine G.drawOrd (id:=17) [0,2,1,3,4,5] [(1,.eff [2])] (h:= ?_)|(refine cq hAw ?_)|(refine cq hFe ?_))
  refine R.call (hct:=hFo) (h:= ?_)
  rintro _ _ ⟨rfl,rfl⟩
  try dsimp only[List.cons_append,List.nil_append]
  repeat(first|(refine st ?_;intros)|refine G.draw [] (h:= ?_)|refine G.drawOrd (id:=17) [0,2,1,3,4,5] [(1,.eff [2])] (h:= ?_)|(refine cq hAw ?_)|(refine cq hFe ?_))
  (refine Dn.post (Hr:=[c]) Tryz.results5 (hR:= ?_);exact⟨rfl,rfl⟩)
 rw[dec_true hfew] at hFe
 obtain⟨h0,hin⟩:=formed_in hfm
 obtain⟨N,rfl⟩:∃N:Nat,n=(N:Int):=⟨n.toNat,by omega⟩
 have hTu:=tuples15ct N p m cap es c hv (by omega)
 have hLb1:=Labels_ct N (by omega) p m cap es c hv (by omega) hin none 0 0 [] [] ⟨rfl,.inl ⟨rfl,rfl⟩⟩ (by omega) (-1)
 unfold gv at hTu hLb1
 have hok:=edT3all (N:=N) (by omega) (by omega) hin
 have hed:=edT3ok hin
 refine Ct.intro Tryz.func5 rfl Tryz.ntmps5 (nle rfl) fun w0=> ?_;dsimp only[argSlots,Nat.reduceAdd]
 repeat(first|(refine st ?_;intros)|refine G.draw [] (h:= ?_)|refine G.drawOrd (id:=17) [0,2,1,3,4,5] [(1,.eff [2])] (h:= ?_)|(refine cq hAw ?_)|(refine cq hFe ?_))
 rename_i b1
 refine R.call (hct:=hFo) (h:= ?_)
 rintro _ _ ⟨rfl,rfl⟩
 try dsimp only[List.cons_append,List.nil_append]
 repeat(first|(refine st ?_;intros)|refine G.draw [] (h:= ?_)|refine G.drawOrd (id:=17) [0,2,1,3,4,5] [(1,.eff [2])] (h:= ?_)|(refine cq hAw ?_)|(refine cq hFe ?_))
 refine R.call (hct:=hWk) (h:= ?_)
 rintro _ _ ⟨bw,bd,ba,bs,cd,ca,cs,rfl,rfl,hW⟩
 try dsimp only[List.cons_append,List.nil_append]
 repeat(first|(refine st ?_;intros)|refine G.draw [] (h:= ?_)|refine G.drawOrd (id:=17) [0,2,1,3,4,5] [(1,.eff [2])] (h:= ?_)|(refine cq hAw ?_)|(refine cq hFe ?_))
 refine R.call (hct:=hTu) (h:= ?_)
 rintro _ _ ⟨q,qc,ch,rfl,rfl,hV⟩
 try dsimp only[List.cons_append,List.nil_append]
 have hlt:(edT3 es).length=m:=(edT3len es).trans hel
 have hnb:nblocks 10 3 m≤50:=Nat.le_trans nb3 (by omega)
 have hLy:=Lay_k bw bd ba bs _ cd ca cs hW 3 (by omega) (by omega) q m qc _ ch (RV.vec hV) (by omega) hok (by decide) rfl (by decide) (by rw[big0];show nblocks 10 3 m≤_;omega)
 rw[show(wk0 10 9000 100).δ.size=10 from rfl] at hLy
 repeat(first|(refine st ?_;intros)|refine G.draw [] (h:= ?_)|refine G.drawOrd (id:=17) [0,2,1,3,4,5] [(1,.eff [2])] (h:= ?_)|(refine cq hAw ?_)|(refine cq hFe ?_))
 refine R.call (hct:=hLy) (h:= ?_)
 rintro _ _ ⟨cd1,ca1,cs1,W1,f,rfl,rfl,hW1,hE1,hK1,hg1,hl1,hf1,hc1,hb1,hfo1⟩
 try dsimp only[List.cons_append,List.nil_append]
 obtain⟨hO1,hin1⟩:=(Ons.fresh 9000 100).lay hW hW1 hE1 hg1 hl1 hfo1 (by show 0+nblocks 10 3 m≤_;omega)
 have hac1:=hE1.acts.2
 rw[show(wk0 10 9000 100).δ.acts=0 from rfl] at hac1
 have hfl1:W1.δ.fault= -1:=hE1.fault rfl
 rw[hflv]
 have hT:=Components_ons bw bd ba bs 100 (by omega) W1 cd1 ca1 cs1 hW1 N f _ _ hin1 hf1 (hc1.trans hlt.symm) hO1 100 540 (by omega) (by omega) (by omega) (by omega) (by decide+kernel) (by simp[sumB,hb1];omega) (by omega)
 rw[hflv] at hT
 repeat(first|(refine st ?_;intros)|refine G.draw [] (h:= ?_)|refine G.drawOrd (id:=17) [0,2,1,3,4,5] [(1,.eff [2])] (h:= ?_)|(refine cq hAw ?_)|(refine cq hFe ?_))
 refine R.call (hct:=hT) (h:= ?_)
 rintro _ _ ⟨x,y,e3,cd3,ca3,cs3,W3,rfl,rfl,hW3,hac3,hfl3,hK3,hmem3,hc3⟩
 dsimp only[List.cons_append,List.nil_append]
 unfold compA at hac3
 have hfl3:=hfl3 hfl1
 rcases hc3 with⟨rfl,_,⟨a1,b,hsp1,hinX,hinY,hxc,hyc⟩,hxw,hyw,hO3⟩|⟨_,_,_,_,⟨_,h6⟩|⟨h6,_⟩⟩
 rotate_left
 ·exact absurd hfl1 h6
 ·exact absurd hed h6
 obtain⟨la1,lb1⟩:=hsp1.lens
 have hL5:=List_ons bw bd ba bs (by omega) W3 cd3 ca3 cs3 hW3 _ hO3 x a1 hinX (by omega) hfl3 (by omega)
 rw[hflv x] at hL5
 rw[hflv x,hflv y]
 repeat(first|(refine st ?_;intros)|refine G.draw [] (h:= ?_)|refine G.drawOrd (id:=17) [0,2,1,3,4,5] [(1,.eff [2])] (h:= ?_)|(refine cq hAw ?_)|(refine cq hFe ?_))
 refine R.call (hct:=hL5) (h:= ?_)
 rintro _ _ ⟨cd5,ca5,W5,p5,c5,co5,rfl,rfl,hW5,hO5,hfl5,hac5,hst5,hV5⟩
 try dsimp only[List.cons_append,List.nil_append]
 have hL6:=List_ons bw bd ba bs (by omega) W5 cd5 ca5 cs3 hW5 _ hO5 y b (hst5 _ hinY) (by omega) hfl5 (by omega)
 rw[hflv y] at hL6
 repeat(first|(refine st ?_;intros)|refine G.draw [] (h:= ?_)|refine G.drawOrd (id:=17) [0,2,1,3,4,5] [(1,.eff [2])] (h:= ?_)|(refine cq hAw ?_)|(refine cq hFe ?_))
 refine R.call (hct:=hL6) (h:= ?_)
 rintro _ _ ⟨cd6,ca6,W6,p6,c6,co6,rfl,rfl,hW6,hO6,hfl6,hac6,hst6,hV6⟩
 try dsimp only[List.cons_append,List.nil_append]
 obtain⟨lab,rfl,hlab,hu1,hu2,hinb,hcnt⟩:=comp_forest hin hsp1
 rw[labT_len,hlab] at hV5⊢
 have hbl:b.length≤100:=by omega
 repeat(first|(refine st ?_;intros)|refine G.draw [] (h:= ?_)|refine G.drawOrd (id:=17) [0,2,1,3,4,5] [(1,.eff [2])] (h:= ?_)|(refine cq hAw ?_)|(refine cq hFe ?_))
 rename_i b13
 refine G.loop (X:=FrX) (fun x=>x.i≤b.length∧Vec 51 2 x.p x.i x.cap (((b.map eOf).take x.i).flatMap ecl) x.ch)
  (fun x=>[(14,.int .i64 (x.i:Int)),(13,pv b13),(11,.slice p6 b.length c6),(9,.slice p5 N c5),(1,pv b1)])
  (fun x=>[x.ch,[(b13,row [.int .i64 (N:Int),.slice x.p x.i x.cap] 40)],co6,co5,c,[(b1,row [.int .i64 (N:Int),.slice p m cap] 40)]])
  (fun x=>b.length-x.i) ⟨0,none,0,[]⟩ ⟨Nat.zero_le _,Vec.nil _ _⟩ (by repeat(first|exact trivial|refine⟨rfl,?_⟩)) (by repeat(first|exact Split.nil|(apply Split.cons;·(first|exact Take.nil|(repeat(first|exact Take.here|apply Take.there)))))) ?_
 rintro⟨i,r,rc,rh⟩ ⟨hi,hVr⟩
 dsimp only at hi hVr⊢
 by_cases hlti:i<b.length
 ·obtain⟨bo6,of6,cc6,T6',fz6,rfl,rfl,_,hget6⟩:=(RV.rw (RV.vec hV6)).pos tcells_len (by omega)
  obtain⟨t,ht1⟩:∃t,b[i]? =some t:=⟨_,List.getElem?_eq_getElem hlti⟩
  have q1:cc6[of6+i*5+1]? =some (.int .i64 t.c1):=hget6 i 1 _ _ ht1 rfl
  have q2:cc6[of6+i*5+2]? =some (.int .i64 t.c2):=hget6 i 2 _ _ ht1 rfl
  have hmx:i+1≤maxLen:=by simp only[maxLen];omega
  have hsn:((b.map eOf).take (i+1)).flatMap ecl=((b.map eOf).take i).flatMap ecl++[.int .i64 t.c1,.int .i64 t.c2]:=by
   rw[List.take_add_one,List.getElem?_map,ht1,List.flatMap_append];rfl
  repeat(first|(refine st ?_;intros)|refine G.draw [] (h:= ?_)|refine G.drawOrd (id:=17) [0,2,1,3,4,5] [(1,.eff [2])] (h:= ?_)|(refine cq hAw ?_)|(refine cq hFe ?_))
  rename_i p' cap' c' hV'
  have hV3:Vec 51 2 p' (i+1) cap' (((b.map eOf).take (i+1)).flatMap ecl) c':=by rw[hsn];exact hV'
  refine Dn.round ⟨i+1,p',cap',c'⟩ ⟨hlti,hV3⟩ (by dsimp only;omega)
 obtain rfl:i=b.length:=by omega
 rw[List.take_of_length_le (by rw[List.length_map];exact Nat.le_refl _)] at hVr
 have hRr:Rw ecl 2 r b.length (b.map eOf) rh:=Rw.ofVec ecl_len hVr (by omega)
 have hFx:=Formed03ct N r b.length rc (b.map eOf) rh hRr (by simp only[maxLen];omega)
 rw[formed_of (by omega) (by rw[List.length_map];omega) hinb] at hFx
 have hLb2:=Labels_ct N (by omega) r b.length rc (b.map eOf) rh hRr (by omega) hinb none 0 0 [] [] ⟨rfl,.inl ⟨rfl,rfl⟩⟩ (by omega) (-1)
 unfold gv at hFx hLb2
 repeat(first|(refine st ?_;intros)|refine G.draw [] (h:= ?_)|refine G.drawOrd (id:=17) [0,2,1,3,4,5] [(1,.eff [2])] (h:= ?_)|(refine cq hAw ?_)|(refine cq hFe ?_))
 refine R.call (hct:=hFx) (h:= ?_)
 rintro _ _ ⟨rfl,rfl⟩
 try dsimp only[List.cons_append,List.nil_append]
 repeat(first|(refine st ?_;intros)|refine G.draw [] (h:= ?_)|refine G.drawOrd (id:=17) [0,2,1,3,4,5] [(1,.eff [2])] (h:= ?_)|(refine cq hAw ?_)|(refine cq hFe ?_))
 refine R.callX (hct:=hLb1) (h:= ?_)
 rintro _ _ ⟨bl1,l1,rfl,rfl,hL1⟩
 try dsimp only[List.cons_append,List.nil_append]
 constructor
 ·(·(first|(intro _ _ h;cases h;done)|(repeat(first|exact qok_nil|(apply qok_cons;(·first|(intro hc;exact absurd hc (nmem rfl))|(intro _;apply CellPr.mk;(·repeat(first|exact Has.here|apply Has.there));(first|exact rfl|assumption))|(intro _;apply CellsPr.mk;(·repeat(first|exact Has.here|apply Has.there));(first|exact rfl|assumption))))))))
 repeat(first|(refine st ?_;intros)|refine G.draw [] (h:= ?_)|refine G.drawOrd (id:=17) [0,2,1,3,4,5] [(1,.eff [2])] (h:= ?_)|(refine cq hAw ?_)|(refine cq hFe ?_))
 refine R.callX (hct:=hLb2) (h:= ?_)
 rintro _ _ ⟨bl2,l2,rfl,rfl,hL2⟩
 try dsimp only[List.cons_append,List.nil_append]
 constructor
 ·(·(first|(intro _ _ h;cases h;done)|(repeat(first|exact qok_nil|(apply qok_cons;(·first|(intro hc;exact absurd hc (nmem rfl))|(intro _;apply CellPr.mk;(·repeat(first|exact Has.here|apply Has.there));(first|exact rfl|assumption))|(intro _;apply CellsPr.mk;(·repeat(first|exact Has.here|apply Has.there));(first|exact rfl|assumption))))))))
 obtain rfl:=hu1 _ (LabOk.plain hin hL1)
 have hL2':=LabOk.plain hinb hL2
 rw[List.length_map] at hL2'
 obtain rfl:=hu2 _ hL2'
 have hcnt2:b.length+minN l2 N=N:=hcnt
 repeat(first|(refine st ?_;intros)|refine G.draw [] (h:= ?_)|refine G.drawOrd (id:=17) [0,2,1,3,4,5] [(1,.eff [2])] (h:= ?_)|(refine cq hAw ?_)|(refine cq hFe ?_))
 refine G.loop (X:=Nat) (fun v=>v≤N)
  (fun v=>[(18,.int .i64 (v:Int)),(17,.int .i64 (minN l2 v:Int)),(16,.slice (some ⟨bl2,0,none⟩) N N),(15,.slice (some ⟨bl1,0,none⟩) N N),(11,.slice p6 b.length c6),(9,.slice p5 N c5),(1,pv b1)])
  (fun _=>[[(bl2,row (rcells l2) 3)],[(bl1,row (rcells l2) 3)],co5,c,[(b1,row [.int .i64 (N:Int),.slice p m cap] 40)]])
  (fun v=>N-v) 0 (Nat.zero_le _) (by repeat(first|exact trivial|refine⟨rfl,?_⟩)) (by repeat(first|exact Split.nil|(apply Split.cons;·(first|exact Take.nil|(repeat(first|exact Take.here|apply Take.there)))))) ?_
 intro v hvN
 have hml:=minN_le l2 v
 by_cases hlv:v<N
 ·obtain⟨bo5,of5,cc5,T5',fz5,rfl,rfl,hcut5,hget5⟩:=(RV.rw (RV.vec hV5)).pos tcells_len (by omega)
  obtain⟨x',hx⟩:∃x',l2[v]? =some x':=⟨_,List.getElem?_eq_getElem (by omega)⟩
  have hg:=rcells_get hx
  have hcq:=hcut5 v _ (labT_get hx)
  unfold tcells at hcq
  dsimp only at hcq
  have hms:=minN_succ l2 v
  by_cases hxv:x'=(v:Int)
  ·rw[hx,hxv,if_pos rfl] at hms
   have hw1:IntKind.wrap .i64 ((minN l2 v:Int)+1)=((minN l2 (v+1):Nat):Int):=by rw[wrap_i64 (by omega),hms];omega
   repeat(first|(refine st ?_;intros)|refine G.draw [] (h:= ?_)|refine G.drawOrd (id:=17) [0,2,1,3,4,5] [(1,.eff [2])] (h:= ?_)|(refine cq hAw ?_)|(refine cq hFe ?_))
   exact Dn.round (v+1) hlv (by omega)
  ·have hms:minN l2 (v+1)=minN l2 v:=by rw[minN_succ,hx,if_neg (fun h=>hxv (Option.some.inj h))];rfl
   repeat(first|(refine st ?_;intros)|refine G.draw [] (h:= ?_)|refine G.drawOrd (id:=17) [0,2,1,3,4,5] [(1,.eff [2])] (h:= ?_)|(refine cq hAw ?_)|(refine cq hFe ?_))
   rw[←hms]
   exact Dn.round (v+1) hlv (by omega)
 obtain rfl:v=N:=by omega
 have hw2:IntKind.wrap .i64 ((v:Int)-(minN l2 v:Int))=(b.length:Int):=by rw[wrap_i64 (by omega)];omega
 repeat(first|(refine st ?_;intros)|refine G.draw [] (h:= ?_)|refine G.drawOrd (id:=17) [0,2,1,3,4,5] [(1,.eff [2])] (h:= ?_)|(refine cq hAw ?_)|(refine cq hFe ?_))
 (refine Dn.post (Hr:=[c]) Tryz.results5 (hR:= ?_);exact⟨congrArg Value.bool (dec_true rfl),rfl⟩)
end Go.Proofs.YtpckicjfigmjkaaGreat
namespace Go.Proofs.YtpckicjfigmjkaaGreat
open Go.ChangeShapes Go.WideShapes Go.ChangeAt Go.RowKit Go.SL Go.Tup
set_option maxRecDepth 100000 in
theorem CompForest_lifted (os:Os) (started:os.Started) (H:Type) (enc:TypeId×Value→H):
  ReturnsInHanded {} Tryz.checked os 5 .any (Rows.compForestSpec.pre6 enc Tryz.prog Tryz.f5 Rows.compForestRow.domain false) (Rows.compForestSpec.post enc Tryz.prog Tryz.f5 false true false false):=by
 refine returnsInHanded_of_change (C:=Tryz.checked) own started (by kernel_rfl) Tryz.func5
  (ChangeSpec.witness6 (enc:=enc) (C:=Tryz.checked) false ⟨#[],#[.agg #[.int .i64 0,.slice none 0 0]],[]⟩ 8 (by kernel_rfl) (by kernel_rfl) (by kernel_rfl) (by kernel_rfl)) ?_
 intro W base args ds gs before hval0 hW hcnd _
 have hval:∀(j:Nat) t v,Tryz.f5.params[j]? =some t→args[j]? =some v→Value.okWide Tryz.prog W .any base t v:=hval0
 have hW':=hW
 obtain⟨p,q,hA0,hV,rfl,hfz,hnd⟩:=hW
 have hA:DataW.TrodAll enc Tryz.prog W 0 (fun _=>true) true Tryz.f5.params.toList args.toList ds p:=hA0
 rw[Tryz.params5] at hA hval
 obtain⟨rfl,rfl⟩:=trodVars_none hV
 obtain⟨v0,d0,rfl,rfl,h0⟩:=trodAll_one hA
 obtain⟨n,p,m,cap,es,ch,rfl,hv,hm,hc,hnd'⟩:=open_graphR Tryz.underlying40 Tryz.underlying3 Tryz.underlying38 Tryz.underlying51 Tryz.underlying3 Tryz.underlying3 rfl rfl (by kernel_rfl) (by kernel_rfl) (by kernel_rfl) (by kernel_rfl) rfl rfl (by kernel_rfl) (by kernel_rfl) h0 (hval 0 _ v0 rfl rfl)
 clear hA0 hval0
 refine(law_calls1 hc hnd' (CompForest_ct n p m cap es ch hv hm)).mono fun e W' ⟨he,hw⟩=> ?_
 subst he
 exact⟨_,rfl,lawPost hW' rfl rfl (by kernel_rfl) laidOut (by decide+kernel) rfl hw⟩
theorem CompForest_holds:Rows.CompForestSaid:=
 OpenClaim.holds_of_wide 5 Tryz.f5 rfl rfl rfl rfl rfl rfl rfl ⟨rfl,rfl,rfl,rfl,rfl⟩ rfl rfl rfl rfl rfl (by kernel_rfl) Tryz.func5 (by kernel_rfl)
  (of_decide_eq_true (by kernel_rfl)) (by unfold Func.isWrapper;first|(rw[if_pos (by decide+kernel)];kernel_rfl)|(rw[if_neg (by decide+kernel)];exact⟨rfl,rfl⟩))
  (fun os started H enc _=>CompForest_lifted os started H enc)
end Go.Proofs.YtpckicjfigmjkaaGreat
