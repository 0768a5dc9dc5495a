/-
  Parts of the proof, put together: CompMore0, CompMore. No condition.
-/
import Derived.Test.YtpckicjfigmjkaaGreatJ30
set_option linter.unusedVariables false
set_option linter.unusedSimpArgs false
set_option linter.unnecessarySimpa false
set_option maxHeartbeats 4000000
namespace Go.Proofs.YtpckicjfigmjkaaGreat
open Go.SL Go.Spc Go.Tup Go.Srt Go.Gr
theorem CompMore_ct (n:Int) (p:Option Addr) (m cap:Nat) (es:List IE) (c:Chunk) (hv:Rw ecl 2 p m es c) (hm:m≤maxLen) (u:Nat) (hu:u<256) (w:Nat) (hw:w<256):
  CtQ Tryz.prog 7 [gv n p m cap,.int .u8 (u:Int),.int .u8 (w:Int)] [c] (.bool true):=by
 have hflv:∀f:Fl,flv f= .agg #[.int .i64 (f.first:Int),.int .i64 (f.blocks:Int),.int .i64 (f.width:Int),.int .i64 (f.count:Int)]:=fun _=>rfl
 have hAw:=awake15ct
 have hFo:=Formed03ct n p m cap es c hv hm
 have hFe:=Few03ct n p m cap 40 60 hm
 have hel:=hv.1
 have hWk:Ct Tryz.prog 15 [.int .i64 9] [] fun v H'=>
  ∃bw bd ba bs cd ca cs,v=pv bw∧H'=[wrow bw bd ba bs,cd,ca,cs]∧Wc bd ba bs (wk0 10 9000 90) cd ca cs:=work15ct 9 (by omega)
 unfold gv at hFo hFe⊢
 cases hfm:formedB n es with
 |false=>
  rw[hfm] at hFo
  refine Ct.intro Tryz.func7 rfl Tryz.ntmps7 (nle rfl) fun w0=> ?_;dsimp only[argSlots,Nat.reduceAdd]
  repeat(first|(refine st ?_;intros)|refine G.draw [] (h:= ?_)|(refine cq hAw ?_)|(refine cq hFo ?_)|(refine cq hFe ?_)|(refine cq hSa ?_))
  (refine Dn.post (Hr:=[c]) Tryz.results7 (hR:= ?_);exact⟨rfl,rfl⟩)
 |true=>
 rw[hfm] at hFo
 by_cases hfew:n≤40∧(m:Int)≤60
 rotate_left
 ·rw[dec_false hfew] at hFe
  refine Ct.intro Tryz.func7 rfl Tryz.ntmps7 (nle rfl) fun w0=> ?_;dsimp only[argSlots,Nat.reduceAdd]
  repeat(first|(refine st ?_;intros)|refine G.draw [] (h:= ?_)|(refine cq hAw ?_)|(refine cq hFo ?_)|(refine cq hFe ?_)|(refine cq hSa ?_))
  (refine Dn.post (Hr:=[c]) Tryz.results7 (hR:= ?_);exact⟨rfl,rfl⟩)
 rw[dec_true hfew] at hFe
 obtain⟨h0,hin⟩:=formed_in hfm
 obtain⟨N,rfl⟩:∃N:Nat,n=(N:Int):=⟨n.toNat,by omega⟩
 by_cases hN0:N=0
 ·subst hN0
  refine Ct.intro Tryz.func7 rfl Tryz.ntmps7 (nle rfl) fun w0=> ?_;dsimp only[argSlots,Nat.reduceAdd]
  repeat(first|(refine st ?_;intros)|refine G.draw [] (h:= ?_)|(refine cq hAw ?_)|(refine cq hFo ?_)|(refine cq hFe ?_)|(refine cq hSa ?_))
  (refine Dn.post (Hr:=[c]) Tryz.results7 (hR:= ?_);exact⟨rfl,rfl⟩)
 have hTu:=tuples15ct N p m cap es c hv (by omega)
 unfold gv at hTu
 have hok:=edT3all (N:=N) (by omega) (by omega) hin
 have hed:=edT3ok hin
 have hlt3:=edT3lt es
 have hc0:∀t∈edT3 es,t.c0<1000:=by
  intro t ht
  obtain⟨i,e,h1,rfl⟩:=edT3mem ht
  have h3:=(List.getElem?_eq_some_iff.1 h1).1
  dsimp only;omega
 have w1:IntKind.wrap .i64 (u:Int)=(u:Int):=wrap_i64 (by omega)
 have w2:IntKind.wrap .i64 (w:Int)=(w:Int):=wrap_i64 (by omega)
 obtain⟨a,ha⟩:∃a:Nat,a=u%N:=⟨_,rfl⟩
 obtain⟨b,hb⟩:∃b:Nat,b=w%N:=⟨_,rfl⟩
 have haN:a<N:=by rw[ha];exact Nat.mod_lt _ (by omega)
 have hbN:b<N:=by rw[hb];exact Nat.mod_lt _ (by omega)
 have t1:(u:Int).tmod (N:Int)=(a:Int):=by rw[Int.tmod_eq_emod_of_nonneg (by omega),ha];rfl
 have t2:(w:Int).tmod (N:Int)=(b:Int):=by rw[Int.tmod_eq_emod_of_nonneg (by omega),hb];rfl
 clear ha hb
 refine Ct.intro Tryz.func7 rfl Tryz.ntmps7 (nle rfl) fun w0=> ?_;dsimp only[argSlots,Nat.reduceAdd]
 repeat(first|(refine st ?_;intros)|refine G.draw [] (h:= ?_)|(refine cq hAw ?_)|(refine cq hFo ?_)|(refine cq hFe ?_)|(refine cq hSa ?_))
 rename_i b3
 refine R.call (hct:=hWk) (h:= ?_)
 rintro _ _ ⟨bw,bd,ba,bs,cd,ca,cs,rfl,rfl,hW⟩
 try dsimp only[List.cons_append,List.nil_append]
 repeat(first|(refine st ?_;intros)|refine G.draw [] (h:= ?_)|(refine cq hAw ?_)|(refine cq hFo ?_)|(refine cq hFe ?_)|(refine cq hSa ?_))
 refine R.call (hct:=hTu) (h:= ?_)
 rintro _ _ ⟨q,qc,ch,rfl,rfl,hV⟩
 try dsimp only[List.cons_append,List.nil_append]
 have hlt:(edT3 es).length=m:=(edT3len es).trans hel
 generalize edT3 es=ts at*
 have hnb:nblocks 10 3 m≤30:=Nat.le_trans nb3 (by omega)
 have hnb':nblocks 10 3 (m+1)≤31:=Nat.le_trans nb3 (by omega)
 have hLy:=Lay_k bw bd ba bs _ cd ca cs hW 3 (by omega) (by omega) q m qc _ ch (RV.vec hV) (by omega) hok (by decide) rfl (by decide) (by rw[big0];show nblocks 10 3 m≤_;omega)
 rw[show(wk0 10 9000 90).δ.size=10 from rfl] at hLy
 repeat(first|(refine st ?_;intros)|refine G.draw [] (h:= ?_)|(refine cq hAw ?_)|(refine cq hFo ?_)|(refine cq hFe ?_)|(refine cq hSa ?_))
 try rw[t1]
 try rw[t2]
 refine R.call (hct:=hLy) (h:= ?_)
 rintro _ _ ⟨cd1,ca1,cs1,W1,f,rfl,rfl,hW1,hE1,hK1,hg1,hl1,hf1,hc1,hb1,hfo1⟩
 try dsimp only[List.cons_append,List.nil_append]
 obtain⟨hO1,hin1⟩:=(Ons.fresh 9000 90).lay hW hW1 hE1 hg1 hl1 hfo1 (by show 0+nblocks 10 3 m≤_;omega)
 have hac1:=hE1.acts.2
 rw[show(wk0 10 9000 90).δ.acts=0 from rfl] at hac1
 have hfl1:W1.δ.fault= -1:=hE1.fault rfl
 have hbg1:=hE1.big
 rw[big0] at hbg1
 have hmx:m+1≤maxLen:=by simp only[maxLen];omega
 obtain⟨ts2,hts2⟩:∃ts2,ts2=ts++[(⟨1000,(a:Int),(b:Int),0,0⟩:T5)]:=⟨_,rfl⟩
 have hl2:ts2.length=m+1:=by rw[hts2,List.length_append,hlt];rfl
 have hsn:flat ts2=flat ts++[.int .i64 1000,.int .i64 (a:Int),.int .i64 (b:Int),.int .i64 0,.int .i64 0]:=by
  rw[hts2,flat_append];rfl
 have hok2:∀t∈ts2,okT 3 t:=by
  intro t ht
  rw[hts2] at ht
  rcases List.mem_append.1 ht with ht|ht
  ·exact hok t ht
  ·rw[List.mem_singleton] at ht;subst ht
   exact okT3 ⟨by decide,by decide⟩ ⟨by omega,by omega⟩ ⟨by omega,by omega⟩
 have hst2:ts2.Pairwise fun x y=>x.c0<y.c0:=by
  rw[hts2]
  exact List.pairwise_append.2 ⟨hlt3,by simp,fun x hx y hy=>by rw[List.mem_singleton] at hy;subst hy;exact hc0 x hx⟩
 have hed2:edgesOk N ts2:=by
  refine⟨fun t ht=> ?_,hst2.imp fun h=>by omega⟩
  rw[hts2] at ht
  rcases List.mem_append.1 ht with ht|ht
  ·exact hed.1 t ht
  ·rw[List.mem_singleton] at ht;subst ht
   unfold edgeOk;dsimp only;omega
 rw[hflv]
 repeat(first|(refine st ?_;intros)|refine G.draw [] (h:= ?_)|(refine cq hAw ?_)|(refine cq hFo ?_)|(refine cq hFe ?_)|(refine cq hSa ?_))
 rename_i q2 qc2 ch2 hV2
 rw[←hsn] at hV2
 have hLy2:=Lay_k bw bd ba bs _ cd1 ca1 cs1 hW1 3 (by omega) (by omega) q2 (m+1) qc2 ts2 _ (RV.vec hV2) (by omega) hok2 (by rw[hO1.size,hO1.room,hO1.used];decide) hfl1 (by omega) (by rw[hO1.size];omega)
 rw[hO1.size] at hLy2
 repeat(first|(refine st ?_;intros)|refine G.draw [] (h:= ?_)|(refine cq hAw ?_)|(refine cq hFo ?_)|(refine cq hFe ?_)|(refine cq hSa ?_))
 refine R.call (hct:=hLy2) (h:= ?_)
 rintro _ _ ⟨cd2,ca2,cs2,W2,g,rfl,rfl,hW2,hE2,hK2,hg2,hl2',hf2,hc2,hb2,hfo2⟩
 try dsimp only[List.cons_append,List.nil_append]
 obtain⟨hO2,hin2⟩:=hO1.lay hW1 hW2 hE2 hg2 hl2' hfo2 (by omega)
 have hin1':FileIn W2 (f,ts):=hin1.stay hE2.size hK2 (mem_addF hl2')
 have hac2:=hE2.acts.2
 have hfl2:W2.δ.fault= -1:=hE2.fault hfl1
 have hT:=Components_ons bw bd ba bs 90 (by omega) W2 cd2 ca2 cs2 hW2 N f ts _ hin1' hf1 (hc1.trans hlt.symm) hO2 61 328 (by omega) (by omega) (by omega) (by omega) (by decide+kernel) (by simp[sumB,hb1,hb2];omega) (by omega)
 rw[hflv] at hT
 rw[hflv g]
 repeat(first|(refine st ?_;intros)|refine G.draw [] (h:= ?_)|(refine cq hAw ?_)|(refine cq hFo ?_)|(refine cq hFe ?_)|(refine cq hSa ?_))
 refine R.call (hct:=hT) (h:= ?_)
 rintro _ _ ⟨x,y,e3,cd3,ca3,cs3,W3,rfl,rfl,hW3,hac3,hfl3,hK3,hmem3,hc3⟩
 dsimp only[List.cons_append,List.nil_append]
 unfold compA at hac3
 have hfl3:=hfl3 hfl2
 rcases hc3 with⟨rfl,_,⟨a1,b1,hsp1,hinX,hinY,hxc,hyc⟩,hxw,hyw,hO3⟩|⟨_,_,_,_,⟨_,h6⟩|⟨h6,_⟩⟩
 rotate_left
 ·exact absurd hfl2 h6
 ·exact absurd hed h6
 have hin3:FileIn W3 (g,ts2):=hin2.stay (hO3.size.trans hO2.size.symm) hK3 hmem3
 obtain⟨la1,lb1⟩:=hsp1.lens
 have hxb:=hinX.blkLe hO3
 have hyb:=hinY.blkLe hO3
 have hyb3:=hyb.2 hyw
 have hT2:=Components_ons bw bd ba bs 90 (by omega) W3 cd3 ca3 cs3 hW3 N g ts2 _ hin3 hf2 (hc2.trans hl2.symm) hO3 61 328 (by omega) (by omega) (by omega) (by omega) (by decide+kernel) (by simp[sumB,hb1,hb2];omega) (by omega)
 rw[hflv] at hT2
 rw[hflv x,hflv y]
 repeat(first|(refine st ?_;intros)|refine G.draw [] (h:= ?_)|(refine cq hAw ?_)|(refine cq hFo ?_)|(refine cq hFe ?_)|(refine cq hSa ?_))
 refine R.call (hct:=hT2) (h:= ?_)
 rintro _ _ ⟨z,w4,e4,cd4,ca4,cs4,W4,rfl,rfl,hW4,hac4,hfl4,hK4,hmem4,hc4⟩
 dsimp only[List.cons_append,List.nil_append]
 unfold compA at hac4
 have hfl4:=hfl4 hfl3
 rcases hc4 with⟨rfl,_,⟨a2,b2,hsp2,hinZ,hinW,hzc,hwc⟩,hzw,hww,hO4⟩|⟨_,_,_,_,⟨_,h6⟩|⟨h6,_⟩⟩
 rotate_left
 ·exact absurd hfl3 h6
 ·exact absurd hed2 h6
 obtain⟨la2,lb2⟩:=hsp2.lens
 have hinX4:FileIn W4 (x,a1):=hinX.stay (hO4.size.trans hO3.size.symm) hK4 hmem4
 have hinY4:FileIn W4 (y,b1):=hinY.stay (hO4.size.trans hO3.size.symm) hK4 hmem4
 have hL5:=List_ons bw bd ba bs (by omega) W4 cd4 ca4 cs4 hW4 _ hO4 x a1 hinX4 (by omega) hfl4 (by omega)
 rw[hflv x] at hL5
 rw[hflv z,hflv w4]
 repeat(first|(refine st ?_;intros)|refine G.draw [] (h:= ?_)|(refine cq hAw ?_)|(refine cq hFo ?_)|(refine cq hFe ?_)|(refine cq hSa ?_))
 refine R.call (hct:=hL5) (h:= ?_)
 rintro _ _ ⟨cd5,ca5,W5,p5,c5,co5,rfl,rfl,hW5,hO5,hfl5,hac5,hst5,hV5⟩
 try dsimp only[List.cons_append,List.nil_append]
 have hL6:=List_ons bw bd ba bs (by omega) W5 cd5 ca5 cs4 hW5 _ hO5 z a2 (hst5 _ hinZ) (by omega) hfl5 (by omega)
 rw[hflv z] at hL6
 repeat(first|(refine st ?_;intros)|refine G.draw [] (h:= ?_)|(refine cq hAw ?_)|(refine cq hFo ?_)|(refine cq hFe ?_)|(refine cq hSa ?_))
 refine R.call (hct:=hL6) (h:= ?_)
 rintro _ _ ⟨cd6,ca6,W6,p6,c6,co6,rfl,rfl,hW6,hO6,hfl6,hac6,hst6,hV6⟩
 try dsimp only[List.cons_append,List.nil_append]
 have hL7:=List_ons bw bd ba bs (by omega) W6 cd6 ca6 cs4 hW6 _ hO6 y b1 (hst6 _ (hst5 _ hinY4)) (by omega) hfl6 (by omega)
 rw[hflv y] at hL7
 repeat(first|(refine st ?_;intros)|refine G.draw [] (h:= ?_)|(refine cq hAw ?_)|(refine cq hFo ?_)|(refine cq hFe ?_)|(refine cq hSa ?_))
 refine R.call (hct:=hL7) (h:= ?_)
 rintro _ _ ⟨cd7,ca7,W7,p7,c7,co7,rfl,rfl,hW7,hO7,hfl7,hac7,hst7,hV7⟩
 try dsimp only[List.cons_append,List.nil_append]
 have hL8:=List_ons bw bd ba bs (by omega) W7 cd7 ca7 cs4 hW7 _ hO7 w4 b2 (hst7 _ (hst6 _ (hst5 _ hinW))) (by omega) hfl7 (by omega)
 rw[hflv w4] at hL8
 repeat(first|(refine st ?_;intros)|refine G.draw [] (h:= ?_)|(refine cq hAw ?_)|(refine cq hFo ?_)|(refine cq hFe ?_)|(refine cq hSa ?_))
 refine R.call (hct:=hL8) (h:= ?_)
 rintro _ _ ⟨cd8,ca8,W8,p8,c8,co8,rfl,rfl,hW8,hO8,hfl8,hac8,hst8,hV8⟩
 try dsimp only[List.cons_append,List.nil_append]
 rw[hts2] at hed2 hsp2 hst2
 obtain⟨lab,lab',rfl,rfl,hlab,hlab',vx,vy,hvx,hvy,hall,hd⟩:=comp_more hst2 hed2 ⟨rfl,rfl⟩ hsp1 hsp2
 dsimp only at hvx hvy hd
 rw[Int.toNat_natCast] at hvx hvy
 rw[labT_len] at la1 la2
 rw[labT_len,hlab] at hV5
 rw[labT_len,hlab'] at hV6
 rw[labT_len,labT_len,hlab,hlab']
 have hmin:min (vx:Int) (vy:Int)=((min vx vy:Nat):Int):=by omega
 obtain⟨bo5,of5,cc5,T5',fz5,rfl,rfl,_,hget5⟩:=(RV.rw (RV.vec hV5)).pos tcells_len (by omega)
 obtain⟨bo6,of6,cc6,T6',fz6,rfl,rfl,_,hget6⟩:=(RV.rw (RV.vec hV6)).pos tcells_len (by omega)
 have qa:cc5[of5+a*5+1]? =some (.int .i64 (vx:Int)):=hget5 a 1 _ _ (labT_get hvx) rfl
 have qb:cc5[of5+b*5+1]? =some (.int .i64 (vy:Int)):=hget5 b 1 _ _ (labT_get hvy) rfl
 repeat(first|(refine st ?_;intros)|refine G.draw [] (h:= ?_)|(refine cq hAw ?_)|(refine cq hFo ?_)|(refine cq hFe ?_)|(refine cq hSa ?_))
 refine G.loop (X:=Nat) (fun k=>k≤N) (fun k=>[(31,.int .i64 (k:Int)),(30,.int .i64 (min (vx:Int) (vy:Int))),(29,.bool (dec ((vx:Int)≠(vy:Int)))),(27,.slice p8 b2.length c8),(25,.slice p7 b1.length c7),(23,.slice (some ⟨bo6,of6,none⟩) N c6),(21,.slice (some ⟨bo5,of5,none⟩) N c5),(10,.int .i64 (b:Int)),(9,.int .i64 (a:Int)),(3,pv b3)])
  (fun _=>[co8,co7,[(bo6,rowf cc6 T6' fz6)],[(bo5,rowf cc5 T5' fz5)],c,[(b3,row [.int .i64 (N:Int),.slice p m cap] 40)]]) (fun k=>N-k) 0 (Nat.zero_le _) (body:= ?_)
 intro k hk
 by_cases hlk:k<N
 ·obtain⟨zz,hz1,hz2⟩:=hall k hlk
  have qk:cc5[of5+k*5+1]? =some (.int .i64 (zz:Int)):=hget5 k 1 _ _ (labT_get hz1) rfl
  have qk':=hget6 k 1 _ _ (labT_get hz2) rfl
  dsimp only at qk'
  by_cases hzx:zz=vx
  ·subst hzx
   rw[if_pos (.inl rfl),←hmin] at qk'
   repeat(first|(refine st ?_;intros)|refine G.draw [] (h:= ?_)|(refine cq hAw ?_)|(refine cq hFo ?_)|(refine cq hFe ?_)|(refine cq hSa ?_))
   exact Dn.round (k+1) hlk (by omega)
  by_cases hzy:zz=vy
  ·subst hzy
   rw[if_pos (.inr rfl),←hmin] at qk'
   repeat(first|(refine st ?_;intros)|refine G.draw [] (h:= ?_)|(refine cq hAw ?_)|(refine cq hFo ?_)|(refine cq hFe ?_)|(refine cq hSa ?_))
   exact Dn.round (k+1) hlk (by omega)
  rw[if_neg (fun h=>h.elim hzx hzy)] at qk'
  repeat(first|(refine st ?_;intros)|refine G.draw [] (h:= ?_)|(refine cq hAw ?_)|(refine cq hFo ?_)|(refine cq hFe ?_)|(refine cq hSa ?_))
  exact Dn.round (k+1) hlk (by omega)
 obtain rfl:k=N:=by omega
 by_cases hxy:vx=vy
 ·rw[if_pos hxy,List.append_nil] at hd
  have hSa:=Same_ct p7 b1.length c7 b1 co7 (RV.vec hV7) (by omega) p8 b2.length c8 b2 co8 (RV.vec hV8)
  rw[decide_eq_true hd.symm] at hSa
  subst hxy
  repeat(first|(refine st ?_;intros)|refine G.draw [] (h:= ?_)|(refine cq hAw ?_)|(refine cq hFo ?_)|(refine cq hFe ?_)|(refine cq hSa ?_))
  (refine Dn.post (Hr:=[c]) Tryz.results7 (hR:= ?_);exact⟨rfl,rfl⟩)
 ·rw[if_neg hxy] at hd
  have hsn9:flat b2=flat b1++[.int .i64 1000,.int .i64 (a:Int),.int .i64 (b:Int),.int .i64 0,.int .i64 0]:=by
   rw[hd,flat_append];rfl
  have hmx9:b1.length+1≤maxLen:=by simp only[maxLen];omega
  have hl9:b2.length=b1.length+1:=by rw[hd,List.length_append];rfl
  have hxy':(vx:Int)≠(vy:Int):=by omega
  repeat(first|(refine st ?_;intros)|refine G.draw [] (h:= ?_)|(refine cq hAw ?_)|(refine cq hFo ?_)|(refine cq hFe ?_)|(refine cq hSa ?_))
  rename_i p9 c9 ch9 hV9
  rw[←hsn9] at hV9
  have hSa:=Same_ct p9 (b1.length+1) c9 b2 ch9 (RV.vec hV9) (by omega) p8 b2.length c8 b2 co8 (RV.vec hV8)
  rw[decide_eq_true rfl] at hSa
  repeat(first|(refine st ?_;intros)|refine G.draw [] (h:= ?_)|(refine cq hAw ?_)|(refine cq hFo ?_)|(refine cq hFe ?_)|(refine cq hSa ?_))
  (refine Dn.post (Hr:=[c]) Tryz.results7 (hR:= ?_);exact⟨rfl,rfl⟩)
end Go.Proofs.YtpckicjfigmjkaaGreat
namespace Go.Proofs.YtpckicjfigmjkaaGreat
open Go.ChangeShapes Go.WideShapes Go.ChangeAt Go.RowKit Go.SL Go.Tup
set_option maxRecDepth 100000 in
theorem CompMore_lifted (os:Os) (started:os.Started) (H:Type) (enc:TypeId×Value→H):
  ReturnsInHanded {} Tryz.checked os 7 .any (Rows.compMoreSpec.pre6 enc Tryz.prog Tryz.f7 Rows.compMoreRow.domain false) (Rows.compMoreSpec.post enc Tryz.prog Tryz.f7 false true false false):=by
 refine returnsInHanded_of_change (C:=Tryz.checked) own started (by kernel_rfl) Tryz.func7
  (ChangeSpec.witness6 (enc:=enc) (C:=Tryz.checked) false ⟨#[],#[.agg #[.int .i64 0,.slice none 0 0],.int .u8 0,.int .u8 0],[]⟩ 8 (by kernel_rfl) (by kernel_rfl) (by kernel_rfl) (by kernel_rfl)) ?_
 intro W base args ds gs before hval0 hW hcnd _
 have hval:∀(j:Nat) t v,Tryz.f7.params[j]? =some t→args[j]? =some v→Value.okWide Tryz.prog W .any base t v:=hval0
 have hW':=hW
 obtain⟨p,q,hA0,hV,rfl,hfz,hnd⟩:=hW
 have hA:DataW.TrodAll enc Tryz.prog W 0 (fun _=>true) true Tryz.f7.params.toList args.toList ds p:=hA0
 rw[Tryz.params7] at hA hval
 obtain⟨rfl,rfl⟩:=trodVars_none hV
 obtain⟨v0,v1,v2,d0,d1,d2,p0,p1,p2,rfl,rfl,rfl,h0,h1,h2⟩:=trodAll_three hA
 obtain⟨n,p,m,cap,es,ch,rfl,hv,hm,hc,hnd'⟩:=open_graphR Tryz.underlying40 Tryz.underlying3 Tryz.underlying38 Tryz.underlying51 Tryz.underlying3 Tryz.underlying3 rfl rfl (by kernel_rfl) (by kernel_rfl) (by kernel_rfl) (by kernel_rfl) rfl rfl (by kernel_rfl) (by kernel_rfl) h0 (hval 0 _ v0 rfl rfl)
 obtain⟨e1,he1,rfl⟩:=openNat8 Tryz.underlying5 (hval 1 _ v1 rfl rfl)
 obtain⟨e2,he2,rfl⟩:=openNat8 Tryz.underlying5 (hval 2 _ v2 rfl rfl)
 clear hA0 hval0
 refine(law_calls1 hc hnd' (CompMore_ct n p m cap es ch hv hm e1 he1 e2 he2)).mono fun e W' ⟨he,hw⟩=> ?_
 subst he
 exact⟨_,rfl,lawPost hW' rfl rfl (by kernel_rfl) laidOut (by decide+kernel) rfl hw⟩
theorem CompMore_holds:Rows.CompMoreSaid:=
 OpenClaim.holds_of_wide 7 Tryz.f7 rfl rfl rfl rfl rfl rfl rfl ⟨rfl,rfl,rfl,rfl,rfl⟩ rfl rfl rfl rfl rfl (by kernel_rfl) Tryz.func7 (by kernel_rfl)
  (of_decide_eq_true (by kernel_rfl)) (by unfold Func.isWrapper;first|(rw[if_pos (by decide+kernel)];kernel_rfl)|(rw[if_neg (by decide+kernel)];exact⟨rfl,rfl⟩))
  (fun os started H enc _=>CompMore_lifted os started H enc)
end Go.Proofs.YtpckicjfigmjkaaGreat
