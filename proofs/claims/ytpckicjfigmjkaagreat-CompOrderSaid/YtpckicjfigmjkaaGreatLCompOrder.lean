/-
  Parts of the proof, put together: CompOrder0, CompOrder. No condition.
-/
import Derived.Test.YtpckicjfigmjkaaGreatJ30
set_option linter.unusedVariables false
set_option linter.unusedSimpArgs false
set_option linter.unnecessarySimpa false
set_option maxHeartbeats 4000000
namespace Go.Proofs.YtpckicjfigmjkaaGreat
open Go.SL Go.Spc Go.Tup Go.Srt Go.Gr
def rotI (n b i:Nat):Nat:=(i+b)%n
def rotT (ts:List T5) (b:Nat):List T5:=(List.range ts.length).map fun i=>(ts[rotI ts.length b i]?).getD ⟨0,0,0,0,0⟩
theorem rot_perm (ts:List T5) (b:Nat):ts.Perm (rotT ts b):=by
 have hnd:((List.range ts.length).map (rotI ts.length b)).Nodup:=by
  refine List.pairwise_map.2 ?_
  rw[List.pairwise_iff_getElem]
  intro i j hi hj hij he
  rw[List.length_range] at hi hj
  simp only[List.getElem_range] at he
  unfold rotI at he
  have h1:=Nat.sub_mod_eq_zero_of_mod_eq he.symm
  rw[Nat.mod_eq_of_lt (by omega)] at h1
  omega
 have hsub:(List.range ts.length).map (rotI ts.length b)⊆List.range ts.length:=by
  intro x hx
  obtain⟨i,hi,rfl⟩:=List.mem_map.1 hx
  have:=List.mem_range.1 hi
  exact List.mem_range.2 (Nat.mod_lt _ (by omega))
 have hp:((List.range ts.length).map (rotI ts.length b)).Perm (List.range ts.length):=by
  rw[List.perm_iff_count]
  intro x
  have h1:=List.nodup_iff_count.1 hnd x
  have h2:=List.nodup_iff_count.1 (List.nodup_range (n:=ts.length)) x
  by_cases hx:x∈(List.range ts.length).map (rotI ts.length b)
  ·have h3:=List.count_pos_iff.2 hx
   have h4:=List.count_pos_iff.2 (hsub hx)
   omega
  ·by_cases hy:x∈List.range ts.length
   ·have h3:(x::(List.range ts.length).map (rotI ts.length b)).Nodup:=List.nodup_cons.2 ⟨hx,hnd⟩
    have h4:=h3.length_le_of_subset (l₂:=List.range ts.length) (fun z hz=>by
     rcases List.mem_cons.1 hz with rfl|hz
     ·exact hy
     ·exact hsub hz)
    simp only[List.length_cons,List.length_map,List.length_range] at h4
    omega
   ·have h3:List.count x ((List.range ts.length).map (rotI ts.length b))=0:=List.count_eq_zero.2 hx
    have h4:List.count x (List.range ts.length)=0:=List.count_eq_zero.2 hy
    omega
 have h1:rotT ts b=((List.range ts.length).map (rotI ts.length b)).map fun j=>(ts[j]?).getD ⟨0,0,0,0,0⟩:=by
  unfold rotT;rw[List.map_map];rfl
 have h2:(List.range ts.length).map (fun j=>(ts[j]?).getD ⟨0,0,0,0,0⟩)=ts:=by
  refine List.ext_getElem (by simp) fun i hi hj=> ?_
  simp only[List.getElem_map,List.getElem_range]
  rw[List.getElem?_eq_getElem hj];rfl
 rw[h1]
 exact((hp.map _).trans (List.Perm.of_eq h2)).symm
theorem rot_len (ts:List T5) (b:Nat):(rotT ts b).length=ts.length:=(rot_perm ts b).length_eq.symm
structure OdX where
 i:Nat
 p:Option Addr
 cap:Nat
 ch:Chunk
theorem CompOrder_ct (n:Int) (p:Option Addr) (m cap:Nat) (es:List IE) (c:Chunk) (hv:Rw ecl 2 p m es c) (hm:m≤maxLen) (u:Nat) (hu:u<256):
  CtQ Tryz.prog 6 [gv n p m cap,.int .u8 (u:Int)] [c] (.bool true):=by
 have hflv:∀f:Fl,flv f= .agg #[.int .i64 (f.first:Int),.int .i64 (f.blocks:Int),.int .i64 (f.width:Int),.int .i64 (f.count:Int)]:=fun _=>rfl
 have hAw:=awake15ct
 have hFo:=Formed03ct n p m cap es c hv hm
 have hFe:=Few03ct n p m cap 60 100 hm
 have hel:=hv.1
 have hWk:Ct Tryz.prog 15 [.int .i64 10] [] fun v H'=>
  ∃bw bd ba bs cd ca cs,v=pv bw∧H'=[wrow bw bd ba bs,cd,ca,cs]∧Wc bd ba bs (wk0 10 9000 100) cd ca cs:=work15ct 10 (by omega)
 unfold gv at hFo hFe⊢
 cases hfm:formedB n es with
 |false=>
  rw[hfm] at hFo
  refine Ct.intro Tryz.func6 rfl Tryz.ntmps6 (nle rfl) fun w0=> ?_;dsimp only[argSlots,Nat.reduceAdd]
  repeat(first|(refine st ?_;intros)|refine G.draw [] (h:= ?_)|(refine cq hAw ?_)|(refine cq hFo ?_)|(refine cq hFe ?_)|(refine cq hSa ?_))
  (refine Dn.post (Hr:=[c]) Tryz.results6 (hR:= ?_);exact⟨rfl,rfl⟩)
 |true=>
 rw[hfm] at hFo
 by_cases hfew:n≤60∧(m:Int)≤100
 rotate_left
 ·rw[dec_false hfew] at hFe
  refine Ct.intro Tryz.func6 rfl Tryz.ntmps6 (nle rfl) fun w0=> ?_;dsimp only[argSlots,Nat.reduceAdd]
  repeat(first|(refine st ?_;intros)|refine G.draw [] (h:= ?_)|(refine cq hAw ?_)|(refine cq hFo ?_)|(refine cq hFe ?_)|(refine cq hSa ?_))
  (refine Dn.post (Hr:=[c]) Tryz.results6 (hR:= ?_);exact⟨rfl,rfl⟩)
 rw[dec_true hfew] at hFe
 obtain⟨h0,hin⟩:=formed_in hfm
 obtain⟨N,rfl⟩:∃N:Nat,n=(N:Int):=⟨n.toNat,by omega⟩
 have hTu:=tuples15ct N p m cap es c hv (by omega)
 unfold gv at hTu
 have hok:=edT3all (N:=N) (by omega) (by omega) hin
 have hed:=edT3ok hin
 have hlt3:=edT3lt es
 refine Ct.intro Tryz.func6 rfl Tryz.ntmps6 (nle rfl) fun w0=> ?_;dsimp only[argSlots,Nat.reduceAdd]
 repeat(first|(refine st ?_;intros)|refine G.draw [] (h:= ?_)|(refine cq hAw ?_)|(refine cq hFo ?_)|(refine cq hFe ?_)|(refine cq hSa ?_))
 rename_i b3
 refine R.call (hct:=hWk) (h:= ?_)
 rintro _ _ ⟨bw,bd,ba,bs,cd,ca,cs,rfl,rfl,hW⟩
 try dsimp only[List.cons_append,List.nil_append]
 repeat(first|(refine st ?_;intros)|refine G.draw [] (h:= ?_)|(refine cq hAw ?_)|(refine cq hFo ?_)|(refine cq hFe ?_)|(refine cq hSa ?_))
 refine R.call (hct:=hTu) (h:= ?_)
 rintro _ _ ⟨q,qc,ch,rfl,rfl,hV⟩
 try dsimp only[List.cons_append,List.nil_append]
 have hlt:(edT3 es).length=m:=(edT3len es).trans hel
 generalize edT3 es=ts at*
 have hnb:nblocks 10 3 m≤50:=Nat.le_trans nb3 (by omega)
 obtain⟨us,hus⟩:∃us,us=(rotT ts u).map swT:=⟨_,rfl⟩
 have hul:us.length=m:=by rw[hus,List.length_map,rot_len,hlt]
 have hup:us.Perm (ts.map swT):=by rw[hus];exact((rot_perm ts u).map swT).symm
 have huok:∀t∈us,okT 3 t:=fun t ht=>by
  obtain⟨z,hz,rfl⟩:=List.mem_map.1 (hup.mem_iff.1 ht)
  have:=okT_cols (hok z hz)
  exact okT3 this.1 this.2.2.1 this.2.1
 have hued:edgesOk N us:=by
  refine⟨fun t ht=> ?_,?_⟩
  ·obtain⟨z,hz,rfl⟩:=List.mem_map.1 (hup.mem_iff.1 ht)
   have:=hed.1 z hz
   unfold edgeOk at this⊢
   unfold swT;dsimp only;omega
  ·refine(hup.pairwise_iff (R:=fun a c:T5=>a.c0≠c.c0) (fun hh=>fun e=>hh e.symm)).2 ?_
   rw[List.pairwise_map];exact hed.2
 repeat(first|(refine st ?_;intros)|refine G.draw [] (h:= ?_)|(refine cq hAw ?_)|(refine cq hFo ?_)|(refine cq hFe ?_)|(refine cq hSa ?_))
 refine G.loop (X:=OdX) (fun x=>x.i≤m∧Vec 49 5 x.p x.i x.cap (flat (us.take x.i)) x.ch) (fun x=>[(8,.int .i64 (x.i:Int)),(7,.slice x.p x.i x.cap),(6,.slice q m qc),(5,pv bw),(2,pv b3),(1,.int .u8 (u:Int))]) (fun x=>[x.ch,ch,c,[(b3,row [.int .i64 (N:Int),.slice p m cap] 40)],wrow bw bd ba bs,cd,ca,cs]) (fun x=>m-x.i) ⟨0,none,0,[]⟩ ⟨Nat.zero_le _,Vec.nil _ _⟩ (by repeat(first|exact trivial|refine⟨rfl,?_⟩)) (by repeat(first|exact Split.nil|(apply Split.cons;·(first|exact Take.nil|(repeat(first|exact Take.here|apply Take.there)))))) ?_
 rintro⟨i,q1,qc1,ch1⟩ ⟨hi,hV1⟩
 dsimp only at hi hV1⊢
 by_cases hlti:i<m
 ·obtain⟨b2,off2,cc2,T2,fz2,rfl,rfl,hcut2,hget2⟩:=(RV.rw (RV.vec hV)).pos tcells_len (by omega)
  have e3:IntKind.wrap .i64 ((i:Int)+(u:Int))=((i+u:Nat):Int):=by rw[wrap_i64 (by omega)];omega
  have e4:IntKind.wrap .i64 (u:Int)=(u:Int):=wrap_i64 (by omega)
  have e5:IntKind.wrap .i64 ((i:Int)+1)=((i+1:Nat):Int):=by rw[wrap_i64 (by omega)];omega
  have et:((i+u:Nat):Int).tmod (m:Int)=((rotI m u i:Nat):Int):=by rw[Int.tmod_eq_emod_of_nonneg (by omega)];rfl
  have hj:rotI m u i<m:=Nat.mod_lt _ (by omega)
  obtain⟨t,htj⟩:∃t,ts[rotI m u i]? =some t:=⟨_,List.getElem?_eq_getElem (by omega)⟩
  have htu:us[i]? =some (swT t):=by
   rw[hus]
   unfold rotT
   rw[List.getElem?_map,List.getElem?_map,List.getElem?_range (by omega)]
   simp only[Option.map_some,hlt]
   rw[htj];rfl
  have hcq:=hcut2 _ _ htj
  have hmx:i+1≤maxLen:=by simp only[maxLen];omega
  have hsn:flat (us.take (i+1))=flat (us.take i)++tcells (swT t):=by
   rw[List.take_add_one,htu,flat_append]
   simp[flat]
  unfold tcells swT at hsn
  unfold tcells at hcq
  repeat(first|(refine st ?_;intros)|refine G.draw [] (h:= ?_)|(refine cq hAw ?_)|(refine cq hFo ?_)|(refine cq hFe ?_)|(refine cq hSa ?_))
  rw[et]
  clear et
  generalize rotI m u i=j at*
  repeat(first|(refine st ?_;intros)|refine G.draw [] (h:= ?_)|(refine cq hAw ?_)|(refine cq hFo ?_)|(refine cq hFe ?_)|(refine cq hSa ?_))
  rename_i p' cap' c' hV'
  have hV3:Vec 49 5 p' (i+1) cap' (flat (us.take (i+1))) c':=by rw[hsn];exact hV'
  refine Dn.round ⟨i+1,p',cap',c'⟩ ⟨hlti,hV3⟩ (by dsimp only;omega)
 obtain rfl:i=m:=by omega
 rw[List.take_of_length_le (by omega)] at hV1
 have hLy:=Lay_k bw bd ba bs _ cd ca cs hW 3 (by omega) (by omega) q i qc _ ch (RV.vec hV) (by omega) hok (by decide) rfl (by decide) (by rw[big0];show nblocks 10 3 i≤_;omega)
 rw[show(wk0 10 9000 100).δ.size=10 from rfl] at hLy
 repeat(first|(refine st ?_;intros)|refine G.draw [] (h:= ?_)|(refine cq hAw ?_)|(refine cq hFo ?_)|(refine cq hFe ?_)|(refine cq hSa ?_))
 refine R.call (hct:=hLy) (h:= ?_)
 rintro _ _ ⟨cd1,ca1,cs1,W1,f,rfl,rfl,hW1,hE1,hK1,hg1,hl1,hf1,hc1,hb1,hfo1⟩
 try dsimp only[List.cons_append,List.nil_append]
 obtain⟨hO1,hin1⟩:=(Ons.fresh 9000 100).lay hW hW1 hE1 hg1 hl1 hfo1 (by show 0+nblocks 10 3 i≤_;omega)
 have hac1:=hE1.acts.2
 rw[show(wk0 10 9000 100).δ.acts=0 from rfl] at hac1
 have hfl1:W1.δ.fault= -1:=hE1.fault rfl
 have hbg1:=hE1.big
 rw[big0] at hbg1
 rw[hflv]
 have hLy2:=Lay_k bw bd ba bs _ cd1 ca1 cs1 hW1 3 (by omega) (by omega) q1 i qc1 us ch1 (RV.vec hV1) (by omega) huok (by rw[hO1.size,hO1.room,hO1.used];decide) hfl1 (by omega) (by rw[hO1.size];omega)
 rw[hO1.size] at hLy2
 repeat(first|(refine st ?_;intros)|refine G.draw [] (h:= ?_)|(refine cq hAw ?_)|(refine cq hFo ?_)|(refine cq hFe ?_)|(refine cq hSa ?_))
 refine R.call (hct:=hLy2) (h:= ?_)
 rintro _ _ ⟨cd2,ca2,cs2,W2,g,rfl,rfl,hW2,hE2,hK2,hg2,hl2',hf2,hc2,hb2,hfo2⟩
 try dsimp only[List.cons_append,List.nil_append]
 obtain⟨hO2,hin2⟩:=hO1.lay hW1 hW2 hE2 hg2 hl2' hfo2 (by omega)
 have hin1':FileIn W2 (f,ts):=hin1.stay hE2.size hK2 (mem_addF hl2')
 have hac2:=hE2.acts.2
 have hfl2:W2.δ.fault= -1:=hE2.fault hfl1
 have hT:=Components_ons bw bd ba bs 100 (by omega) W2 cd2 ca2 cs2 hW2 N f ts _ hin1' hf1 (hc1.trans hlt.symm) hO2 100 540 (by omega) (by omega) (by omega) (by omega) (by decide+kernel) (by simp[sumB,hb1,hb2];omega) (by omega)
 rw[hflv] at hT
 rw[hflv g]
 repeat(first|(refine st ?_;intros)|refine G.draw [] (h:= ?_)|(refine cq hAw ?_)|(refine cq hFo ?_)|(refine cq hFe ?_)|(refine cq hSa ?_))
 refine R.call (hct:=hT) (h:= ?_)
 rintro _ _ ⟨x,y,e3,cd3,ca3,cs3,W3,rfl,rfl,hW3,hac3,hfl3,hK3,hmem3,hc3⟩
 dsimp only[List.cons_append,List.nil_append]
 unfold compA at hac3
 have hfl3:=hfl3 hfl2
 rcases hc3 with⟨rfl,_,⟨a1,b1,hsp1,hinX,hinY,hxc,hyc⟩,hxw,hyw,hO3⟩|⟨_,_,_,_,⟨_,h6⟩|⟨h6,_⟩⟩
 rotate_left
 ·exact absurd hfl2 h6
 ·exact absurd hed h6
 have hin3:FileIn W3 (g,us):=hin2.stay (hO3.size.trans hO2.size.symm) hK3 hmem3
 obtain⟨la1,lb1⟩:=hsp1.lens
 have hxb:=hinX.blkLe hO3
 have hyb:=hinY.blkLe hO3
 have hyb3:=hyb.2 hyw
 have hT2:=Components_ons bw bd ba bs 100 (by omega) W3 cd3 ca3 cs3 hW3 N g us _ hin3 hf2 (hc2.trans hul.symm) hO3 100 540 (by omega) (by omega) (by omega) (by omega) (by decide+kernel) (by simp[sumB,hb1,hb2];omega) (by omega)
 rw[hflv] at hT2
 rw[hflv x,hflv y]
 repeat(first|(refine st ?_;intros)|refine G.draw [] (h:= ?_)|(refine cq hAw ?_)|(refine cq hFo ?_)|(refine cq hFe ?_)|(refine cq hSa ?_))
 refine R.call (hct:=hT2) (h:= ?_)
 rintro _ _ ⟨z,w4,e4,cd4,ca4,cs4,W4,rfl,rfl,hW4,hac4,hfl4,hK4,hmem4,hc4⟩
 dsimp only[List.cons_append,List.nil_append]
 unfold compA at hac4
 have hfl4:=hfl4 hfl3
 rcases hc4 with⟨rfl,_,⟨a2,b2,hsp2,hinZ,hinW,hzc,hwc⟩,hzw,hww,hO4⟩|⟨_,_,_,_,⟨_,h6⟩|⟨h6,_⟩⟩
 rotate_left
 ·exact absurd hfl3 h6
 ·exact absurd hued h6
 obtain⟨la2,lb2⟩:=hsp2.lens
 have hinX4:FileIn W4 (x,a1):=hinX.stay (hO4.size.trans hO3.size.symm) hK4 hmem4
 have hinY4:FileIn W4 (y,b1):=hinY.stay (hO4.size.trans hO3.size.symm) hK4 hmem4
 have hL5:=List_ons bw bd ba bs (by omega) W4 cd4 ca4 cs4 hW4 _ hO4 x a1 hinX4 (by omega) hfl4 (by omega)
 rw[hflv x] at hL5
 rw[hflv z,hflv w4]
 repeat(first|(refine st ?_;intros)|refine G.draw [] (h:= ?_)|(refine cq hAw ?_)|(refine cq hFo ?_)|(refine cq hFe ?_)|(refine cq hSa ?_))
 refine R.call (hct:=hL5) (h:= ?_)
 rintro _ _ ⟨cd5,ca5,W5,p5,c5,co5,rfl,rfl,hW5,hO5,hfl5,hac5,hst5,hV5⟩
 try dsimp only[List.cons_append,List.nil_append]
 have hL6:=List_ons bw bd ba bs (by omega) W5 cd5 ca5 cs4 hW5 _ hO5 z a2 (hst5 _ hinZ) (by omega) hfl5 (by omega)
 rw[hflv z] at hL6
 repeat(first|(refine st ?_;intros)|refine G.draw [] (h:= ?_)|(refine cq hAw ?_)|(refine cq hFo ?_)|(refine cq hFe ?_)|(refine cq hSa ?_))
 refine R.call (hct:=hL6) (h:= ?_)
 rintro _ _ ⟨cd6,ca6,W6,p6,c6,co6,rfl,rfl,hW6,hO6,hfl6,hac6,hst6,hV6⟩
 try dsimp only[List.cons_append,List.nil_append]
 have hL7:=List_ons bw bd ba bs (by omega) W6 cd6 ca6 cs4 hW6 _ hO6 y b1 (hst6 _ (hst5 _ hinY4)) (by omega) hfl6 (by omega)
 rw[hflv y] at hL7
 repeat(first|(refine st ?_;intros)|refine G.draw [] (h:= ?_)|(refine cq hAw ?_)|(refine cq hFo ?_)|(refine cq hFe ?_)|(refine cq hSa ?_))
 refine R.call (hct:=hL7) (h:= ?_)
 rintro _ _ ⟨cd7,ca7,W7,p7,c7,co7,rfl,rfl,hW7,hO7,hfl7,hac7,hst7,hV7⟩
 try dsimp only[List.cons_append,List.nil_append]
 have hL8:=List_ons bw bd ba bs (by omega) W7 cd7 ca7 cs4 hW7 _ hO7 w4 b2 (hst7 _ (hst6 _ (hst5 _ hinW))) (by omega) hfl7 (by omega)
 rw[hflv w4] at hL8
 repeat(first|(refine st ?_;intros)|refine G.draw [] (h:= ?_)|(refine cq hAw ?_)|(refine cq hFo ?_)|(refine cq hFe ?_)|(refine cq hSa ?_))
 refine R.call (hct:=hL8) (h:= ?_)
 rintro _ _ ⟨cd8,ca8,W8,p8,c8,co8,rfl,rfl,hW8,hO8,hfl8,hac8,hst8,hV8⟩
 try dsimp only[List.cons_append,List.nil_append]
 obtain⟨rfl,rfl⟩:=comp_order hlt3 (.refl _) hup hed hsp1 hsp2
 have hSa:=Same_ct p5 a1.length c5 a1 co5 (RV.vec hV5) (by omega) p6 a1.length c6 a1 co6 (RV.vec hV6)
 rw[decide_eq_true rfl] at hSa
 rw[List.length_map] at hV8⊢
 repeat(first|(refine st ?_;intros)|refine G.draw [] (h:= ?_)|(refine cq hAw ?_)|(refine cq hFo ?_)|(refine cq hFe ?_)|(refine cq hSa ?_))
 refine G.loop (X:=Nat) (fun k=>k≤b1.length) (fun k=>[(28,.int .i64 (k:Int)),(26,.slice p8 b1.length c8),(24,.slice p7 b1.length c7)])
  (fun _=>[co8,co7,c]) (fun k=>b1.length-k) 0 (Nat.zero_le _) (by repeat(first|exact trivial|refine⟨rfl,?_⟩)) (by repeat(first|exact Split.nil|(apply Split.cons;·(first|exact Take.nil|(repeat(first|exact Take.here|apply Take.there)))))) ?_
 intro k hk
 by_cases hlk:k<b1.length
 ·obtain⟨bo7,of7,cc7,T7',fz7,rfl,rfl,_,hget7⟩:=(RV.rw (RV.vec hV7)).pos tcells_len (by omega)
  obtain⟨bo8,of8,cc8,T8',fz8,rfl,rfl,_,hget8⟩:=(RV.rw (RV.vec hV8)).pos tcells_len (by omega)
  have ht1:b1[k]? =some b1[k]:=List.getElem?_eq_getElem hlk
  have ht2:(b1.map swT)[k]? =some (swT b1[k]):=by rw[List.getElem?_map,ht1];rfl
  generalize b1[k]=t at*
  have q70:cc7[of7+k*5]? =some (.int .i64 t.c0):=hget7 k 0 _ _ ht1 rfl
  have q71:cc7[of7+k*5+1]? =some (.int .i64 t.c1):=hget7 k 1 _ _ ht1 rfl
  have q72:cc7[of7+k*5+2]? =some (.int .i64 t.c2):=hget7 k 2 _ _ ht1 rfl
  have q80:cc8[of8+k*5]? =some (.int .i64 t.c0):=hget8 k 0 _ _ ht2 rfl
  have q81:cc8[of8+k*5+1]? =some (.int .i64 t.c2):=hget8 k 1 _ _ ht2 rfl
  have q82:cc8[of8+k*5+2]? =some (.int .i64 t.c1):=hget8 k 2 _ _ ht2 rfl
  repeat(first|(refine st ?_;intros)|refine G.draw [] (h:= ?_)|(refine cq hAw ?_)|(refine cq hFo ?_)|(refine cq hFe ?_)|(refine cq hSa ?_))
  exact Dn.round (k+1) hlk (by omega)
 obtain rfl:k=b1.length:=by omega
 repeat(first|(refine st ?_;intros)|refine G.draw [] (h:= ?_)|(refine cq hAw ?_)|(refine cq hFo ?_)|(refine cq hFe ?_)|(refine cq hSa ?_))
 (refine Dn.post (Hr:=[c]) Tryz.results6 (hR:= ?_);exact⟨rfl,rfl⟩)
end Go.Proofs.YtpckicjfigmjkaaGreat
namespace Go.Proofs.YtpckicjfigmjkaaGreat
open Go.ChangeShapes Go.WideShapes Go.ChangeAt Go.RowKit Go.SL Go.Tup
set_option maxRecDepth 100000 in
theorem CompOrder_lifted (os:Os) (started:os.Started) (H:Type) (enc:TypeId×Value→H):
  ReturnsInHanded {} Tryz.checked os 6 .any (Rows.compOrderSpec.pre6 enc Tryz.prog Tryz.f6 Rows.compOrderRow.domain false) (Rows.compOrderSpec.post enc Tryz.prog Tryz.f6 false true false false):=by
 refine returnsInHanded_of_change (C:=Tryz.checked) own started (by kernel_rfl) Tryz.func6
  (ChangeSpec.witness6 (enc:=enc) (C:=Tryz.checked) false ⟨#[],#[.agg #[.int .i64 0,.slice none 0 0],.int .u8 0],[]⟩ 8 (by kernel_rfl) (by kernel_rfl) (by kernel_rfl) (by kernel_rfl)) ?_
 intro W base args ds gs before hval0 hW hcnd _
 have hval:∀(j:Nat) t v,Tryz.f6.params[j]? =some t→args[j]? =some v→Value.okWide Tryz.prog W .any base t v:=hval0
 have hW':=hW
 obtain⟨p,q,hA0,hV,rfl,hfz,hnd⟩:=hW
 have hA:DataW.TrodAll enc Tryz.prog W 0 (fun _=>true) true Tryz.f6.params.toList args.toList ds p:=hA0
 rw[Tryz.params6] at hA hval
 obtain⟨rfl,rfl⟩:=trodVars_none hV
 obtain⟨v0,v1,d0,d1,p0,p1,rfl,rfl,rfl,h0,h1⟩:=trodAll_two hA
 obtain⟨n,p,m,cap,es,ch,rfl,hv,hm,hc,hnd'⟩:=open_graphR Tryz.underlying40 Tryz.underlying3 Tryz.underlying38 Tryz.underlying51 Tryz.underlying3 Tryz.underlying3 rfl rfl (by kernel_rfl) (by kernel_rfl) (by kernel_rfl) (by kernel_rfl) rfl rfl (by kernel_rfl) (by kernel_rfl) h0 (hval 0 _ v0 rfl rfl)
 obtain⟨e1,he1,rfl⟩:=openNat8 Tryz.underlying5 (hval 1 _ v1 rfl rfl)
 clear hA0 hval0
 refine(law_calls1 hc hnd' (CompOrder_ct n p m cap es ch hv hm e1 he1)).mono fun e W' ⟨he,hw⟩=> ?_
 subst he
 exact⟨_,rfl,lawPost hW' rfl rfl (by kernel_rfl) laidOut (by decide+kernel) rfl hw⟩
theorem CompOrder_holds:Rows.CompOrderSaid:=
 OpenClaim.holds_of_wide 6 Tryz.f6 rfl rfl rfl rfl rfl rfl rfl ⟨rfl,rfl,rfl,rfl,rfl⟩ rfl rfl rfl rfl rfl (by kernel_rfl) Tryz.func6 (by kernel_rfl)
  (of_decide_eq_true (by kernel_rfl)) (by unfold Func.isWrapper;first|(rw[if_pos (by decide+kernel)];kernel_rfl)|(rw[if_neg (by decide+kernel)];exact⟨rfl,rfl⟩))
  (fun os started H enc _=>CompOrder_lifted os started H enc)
end Go.Proofs.YtpckicjfigmjkaaGreat
