/-
  Parts of the proof, put together: TreeTells0. No condition.
-/
import Derived.Test.YtlnehgklibbjiaaGreatD28
set_option linter.unusedVariables false
set_option linter.unusedSimpArgs false
set_option linter.unnecessarySimpa false
set_option maxHeartbeats 4000000
namespace Go.Proofs.YtlnehgklibbjiaaGreat
open Go.SL Go.Spc Go.Tup Go.Srt Go.Gr
theorem TreeTells_ct (n:Int) (p:Option Addr) (m cap:Nat) (es:List IE) (c:Chunk) (hv:Rw ecl 2 p m es c) (hm:m≤maxLen) (e:Nat) (he:e<256):
  CtQ Tryz.prog 10 [gv n p m cap,.int .u8 (e:Int)] [c] (.bool true):=by
 have hflv:∀f:Fl,flv f= .agg #[.int .i64 (f.first:Int),.int .i64 (f.blocks:Int),.int .i64 (f.width:Int),.int .i64 (f.count:Int)]:=fun _=>rfl
 have hAw:=awake17ct
 have hFo:=Formed03ct n p m cap es c hv hm
 have hFe:=Few03ct n p m cap 60 100 hm
 obtain⟨k,hk⟩:∃k:Nat,k=e%33:=⟨_,rfl⟩
 have e5:(e:Int).tmod 33=(k:Int):=by rw[Int.tmod_eq_emod_of_nonneg (by omega)];omega
 have e4:IntKind.wrap .i64 ((e:Int).tmod 33)=(k:Int):=by rw[e5];exact wrap_i64 (by omega)
 have e6:IntKind.wrap .i64 (8+(k:Int))=((8+k:Nat):Int):=by rw[wrap_i64 (by omega)];omega
 have hk33:k<33:=by omega
 clear hk
 have hWk:Ct Tryz.prog 14 [.int .i64 ((8+k:Nat):Int)] [] fun v H'=>
  ∃bw bd ba bs cd ca cs,v=pv bw∧H'=[wrow bw bd ba bs,cd,ca,cs]∧Wc bd ba bs (wk0 10 9000 (10*(8+k))) cd ca cs:=work17ct (8+k) (by omega)
 unfold gv at hFo hFe⊢
 cases hfm:formedB n es with
 |false=>
  rw[hfm] at hFo
  refine Ct.intro Tryz.func10 rfl Tryz.ntmps10 (nle rfl) fun w0=> ?_;dsimp only[argSlots,Nat.reduceAdd]
  repeat(first|(refine st ?_;intros)|(refine cq hAw ?_)|(refine cq hFo ?_)|(refine cq hFe ?_)|(refine cq hCl ?_)|(refine cq hSa ?_))
  (refine Dn.post (Hr:=[c]) Tryz.results10 (hR:= ?_);exact⟨rfl,rfl⟩)
 |true=>
 rw[hfm] at hFo
 by_cases hfew:n≤60∧(m:Int)≤100
 rotate_left
 ·rw[dec_false hfew] at hFe
  refine Ct.intro Tryz.func10 rfl Tryz.ntmps10 (nle rfl) fun w0=> ?_;dsimp only[argSlots,Nat.reduceAdd]
  repeat(first|(refine st ?_;intros)|(refine cq hAw ?_)|(refine cq hFo ?_)|(refine cq hFe ?_)|(refine cq hCl ?_)|(refine cq hSa ?_))
  (refine Dn.post (Hr:=[c]) Tryz.results10 (hR:= ?_);exact⟨rfl,rfl⟩)
 rw[dec_true hfew] at hFe
 obtain⟨h0,hin⟩:=formed_in hfm
 obtain⟨N,rfl⟩:∃N:Nat,n=(N:Int):=⟨n.toNat,by omega⟩
 refine Ct.intro Tryz.func10 rfl Tryz.ntmps10 (nle rfl) fun w0=> ?_;dsimp only[argSlots,Nat.reduceAdd]
 repeat(first|(refine st ?_;intros)|(refine cq hAw ?_)|(refine cq hFo ?_)|(refine cq hFe ?_)|(refine cq hCl ?_)|(refine cq hSa ?_))
 rename_i b1
 refine R.call (hct:=hWk) (h:= ?_)
 rintro _ _ ⟨bw,bd,ba,bs,cd,ca,cs,rfl,rfl,hW⟩
 try dsimp only[List.cons_append,List.nil_append]
 have hLa:=laid17ct bw bd ba bs (10*(8+k)) (by omega) cd ca cs hW N (by omega) p m cap es c hv (by omega) hin
 have hPt:=parts17ct N (by omega) p m cap es c hv (by omega) hin
 unfold gv at hLa hPt
 repeat(first|(refine st ?_;intros)|(refine cq hAw ?_)|(refine cq hFo ?_)|(refine cq hFe ?_)|(refine cq hCl ?_)|(refine cq hSa ?_))
 refine R.call (hct:=hLa) (h:= ?_)
 rintro _ _ ⟨cd1,ca1,cs1,W,f,h,lab,fl,r,b,rfl,rfl,hW1,hL⟩
 try dsimp only[List.cons_append,List.nil_append]
 have hbl:=hL.parts.b_len hin (by omega)
 have hfc:=hL.fc
 have hhc:=hL.hc
 have hbg:=hL.big
 have hact:=hL.acts
 have hcnt:=hL.parts.hcnt hin (by omega)
 have hsT:=sortT_le (b:=181) (m:=181) (l:=4) (by omega) (by decide)
 have hT:=Trees_ct bw bd ba bs W cd1 ca1 cs1 hW1 f h _ _ (by exact hL.inF) (by exact hL.inH) hL.fw hL.hw 181 (by omega) (by omega) (by rw[hfc];exact hcnt) (by omega) (by omega)
 rw[hflv,hflv] at hT
 rw[hflv,hflv]
 repeat(first|(refine st ?_;intros)|(refine cq hAw ?_)|(refine cq hFo ?_)|(refine cq hFe ?_)|(refine cq hCl ?_)|(refine cq hSa ?_))
 refine R.call (hct:=hT) (h:= ?_)
 rintro _ _ (⟨_,x,er,cd3,ca3,cs3,W3,rfl,rfl,hW3,hS3,hw3⟩|⟨hsm,_⟩)
 rotate_left
 ·exfalso
  have h1:=hL.room
  have h2:=hL.used
  have h3:=hL.size
  omega
 dsimp only[List.cons_append,List.nil_append]
 obtain⟨rfl,hl3,hfo3,hft3⟩:=stepped_ok hS3 hL.fault
 have hsz3:W3.δ.size=10:=hS3.size.trans hL.size
 obtain⟨Lv,hfo,hsub⟩:=FileIn.new (by rw[hL.size] at hfo3;exact hfo3) hsz3 hl3
 dsimp only at hfo
 have hus3:W3.α.used=0:=(used_eq hW1 hW3 hS3.gs).trans hL.used
 have hrm3:W3.α.room=10*(8+k):=hS3.room.trans hL.room
 obtain⟨tl,_,hTab⟩:=hL.parts.tab hin (by omega)
 generalize hls:treesF (labT lab) b=l at hfo hTab hS3 hfo3
 have hxc:x.count=N:=by rw[←hfo.len,hTab.len]
 have hac3:=hS3.acts
 have hLi:=List_ct bw bd ba bs W3 cd3 ca3 cs3 hW3 x l Lv hfo hsub (by omega) hft3 (by omega) (by omega)
 rw[hflv] at hLi
 rw[hflv]
 repeat(first|(refine st ?_;intros)|(refine cq hAw ?_)|(refine cq hFo ?_)|(refine cq hFe ?_)|(refine cq hCl ?_)|(refine cq hSa ?_))
 refine R.call (hct:=hLi) (h:= ?_)
 rintro _ _ ⟨cd4,ca4,W4,p4,cap4,co,rfl,rfl,hW4,hE4,_,hl4,hg4,hV⟩
 try dsimp only[List.cons_append,List.nil_append]
 have hR:=RV.vec hV
 rw[hxc] at hR
 rw[hxc]
 have hus4:W4.α.used=0:=(used_eq hW3 hW4 hg4).trans hus3
 have hn4:W4.σ.n=9000:=hE4.n.trans (hS3.n.trans hL.n)
 have hcs4:=free_sum (fs:=[f,h,x]) hW4 (by rw[hl4];exact hl3.trans (addF_perm hL.live)) hn4
 have hCl:∀b':Nat,CtQ Tryz.prog 26 [pv bw,.slice (some ⟨b',0,none⟩) 3 3] [wrow bw bd ba bs,ca4,cs3,[(b',row [.int .i64 (f.first:Int),.int .i64 (f.blocks:Int),.int .i64 (f.width:Int),.int .i64 (f.count:Int),.int .i64 (h.first:Int),.int .i64 (h.blocks:Int),.int .i64 (h.width:Int),.int .i64 (h.count:Int),.int .i64 (x.first:Int),.int .i64 (x.blocks:Int),.int .i64 (x.width:Int),.int .i64 (N:Int)] 27)]] (.bool true):=fun b'=>by
  have:=clean17ct bw bd ba bs W4 ca4 cs3 hW4.ar hW4.sp (some ⟨b',0,none⟩) 3 3 [f,h,x] _ ⟨rfl,.inr ⟨b',0,[.int .i64 (f.first:Int),.int .i64 (f.blocks:Int),.int .i64 (f.width:Int),.int .i64 (f.count:Int),.int .i64 (h.first:Int),.int .i64 (h.blocks:Int),.int .i64 (h.width:Int),.int .i64 (h.count:Int),.int .i64 (x.first:Int),.int .i64 (x.blocks:Int),.int .i64 (x.width:Int),.int .i64 (x.count:Int)],27,(0,0),rfl,rfl,rfl⟩⟩ (by omega) hus4 hcs4
  rw[hxc] at this
  exact this
 repeat(first|(refine st ?_;intros)|(refine cq hAw ?_)|(refine cq hFo ?_)|(refine cq hFe ?_)|(refine cq hCl ?_)|(refine cq hSa ?_))
 refine R.call (hct:=hPt) (h:= ?_)
 rintro _ _ ⟨pa,na,ka,ca5,pb,nb,kb,cb5,lab2,fl2,r2,b2,rfl,rfl,hva,hvb,hp2⟩
 try dsimp only[List.cons_append,List.nil_append]
 obtain⟨rfl,rfl⟩:=hL.parts.uniq hp2
 obtain rfl:na=N:=by
  have h1:=hva.1
  rw[labT_len,hp2.labs.len] at h1
  exact h1.symm
 have h17:=Trees17ct na es lab2 fl2 r2 b2 tl l hp2 hin hTab (by omega) pa ka ca5 hva pb nb kb cb5 hvb (by have:=hvb.1;omega)
 repeat(first|(refine st ?_;intros)|(refine cq hAw ?_)|(refine cq hFo ?_)|(refine cq hFe ?_)|(refine cq hCl ?_)|(refine cq hSa ?_))
 refine R.call (hct:=h17) (h:= ?_)
 rintro _ _ ⟨bo,rfl,rfl⟩
 try dsimp only[List.cons_append,List.nil_append]
 have hSa:=Same_ct p4 na cap4 l co hR (by omega) (some ⟨bo,0,none⟩) na na l _ (Rw.rv ⟨hTab.len,.inr ⟨bo,0,l.flatMap tcells,47,(0,0),rfl,rfl,by
  rw[List.drop_zero,List.take_of_length_le (by rw[fm_len tcells_len,hTab.len];exact Nat.le_refl _)]⟩⟩)
 rw[decide_eq_true rfl] at hSa
 repeat(first|(refine st ?_;intros)|(refine cq hAw ?_)|(refine cq hFo ?_)|(refine cq hFe ?_)|(refine cq hCl ?_)|(refine cq hSa ?_))
 (refine Dn.post (Hr:=[c]) Tryz.results10 (hR:= ?_);exact⟨rfl,rfl⟩)
end Go.Proofs.YtlnehgklibbjiaaGreat
