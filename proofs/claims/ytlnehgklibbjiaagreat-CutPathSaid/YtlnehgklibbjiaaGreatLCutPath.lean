/-
  Parts of the proof, put together: CutPath0, CutPath. No condition.
-/
import Derived.Test.YtlnehgklibbjiaaGreatE25
set_option linter.unusedVariables false
set_option linter.unusedSimpArgs false
set_option linter.unnecessarySimpa false
set_option maxHeartbeats 4000000
namespace Go.Proofs.YtlnehgklibbjiaaGreat
open Go.SL Go.Spc Go.Tup Go.Srt Go.Gr
structure CpX where
 i:Nat
 p:Option Addr
 cap:Nat
 ch:Chunk
theorem map_at {f:Nat→T5} {n i:Nat} (h:i<n):((List.range n).map f)[i]? =some (f i):=by rw[List.getElem?_map,List.getElem?_range h];rfl
theorem path_take {m i:Nat} (h:i<m):((pathL m).take (i+1)).flatMap ecl=((pathL m).take i).flatMap ecl++[.int .i64 (i:Int),.int .i64 ((i+1:Nat):Int)]:=by
 rw[List.take_add_one,eAt_get (by rw[pathL_len];exact h),pathL_at h];simp[ecl]
theorem star_take {m i:Nat} (h:i<m):((starL m).take (i+1)).flatMap ecl=((starL m).take i).flatMap ecl++[.int .i64 0,.int .i64 ((i+1:Nat):Int)]:=by
 rw[List.take_add_one,eAt_get (by rw[starL_len];exact h),starL_at h];simp[ecl]
theorem CutPath_path (a how k:Nat) (hk:k<18) (e5:IntKind.wrap .i64 ((a:Int).tmod 18)=(k:Int)) (hs:(how:Int).tmod 3=0):CtQ Tryz.prog 9 [.int .u8 (a:Int),.int .u8 (how:Int)] [] (.bool true):=by
 have hAw:=awake21ct
 have hs2:((how:Int).tmod 3).toNat=0:=by rw[hs];rfl
 have e6:IntKind.wrap .i64 (4+(k:Int))=((3+k+1:Nat):Int):=by rw[wrap_i64 (by omega)];omega
 have hWk:Ct Tryz.prog 30 [.int .i64 9] [] fun v H'=>
  ∃bw bd ba bs cd ca cs,v=pv bw∧H'=[wrow bw bd ba bs,cd,ca,cs]∧Wc bd ba bs (wk0 10 9000 90) cd ca cs:=work21ct 9 (by omega)
 generalize hm:3+k=m at*
 have f1:IntKind.wrap .i64 (((m+1:Nat):Int)-2)=((m-1:Nat):Int):=by rw[wrap_i64 (by omega)];omega
 have f2:IntKind.wrap .i64 (2*((m-1:Nat):Int))=((2*(m-1):Nat):Int):=by rw[wrap_i64 (by omega)];omega
 have f3:IntKind.wrap .i64 (((m+1:Nat):Int)-1)=(m:Int):=by rw[wrap_i64 (by omega)];omega
 refine Ct.intro Tryz.func9 rfl Tryz.ntmps9 (nle rfl) fun w0=> ?_;dsimp only[argSlots,Nat.reduceAdd]
 repeat(first|(refine st ?_;intros)|refine G.drawOrd (id:=13) [1,0,2,3,4,5,6,7,8,9] [(0,.eff [1])] (h:= ?_)|(refine cq hAw ?_))
 rename_i b5
 refine G.loop (X:=CpX) (fun s=>s.i≤m∧Vec 62 2 s.p s.i s.cap (((pathL m).take s.i).flatMap ecl) s.ch)
  (fun s=>[(6,.int .i64 ((s.i+1:Nat):Int)),(5,pv b5),(1,.int .u8 (how:Int))])
  (fun s=>[s.ch,[(b5,row [.int .i64 ((m+1:Nat):Int),.slice s.p s.i s.cap] 37)]]) (fun s=>m-s.i) ⟨0,none,0,[]⟩ ⟨Nat.zero_le _,Vec.nil _ _⟩ (by repeat(first|exact trivial|refine⟨rfl,?_⟩)) (by repeat(first|exact Split.nil|(apply Split.cons;·(first|exact Take.nil|(repeat(first|exact Take.here|apply Take.there)))))) ?_
 rintro⟨i,q,qc,ch⟩ ⟨hi,hV⟩
 dsimp only at hi hV⊢
 by_cases hlt:i<m
 ·have g1:IntKind.wrap .i64 (((i+1:Nat):Int)-1)=(i:Int):=by rw[wrap_i64 (by omega)];omega
  have htk:=path_take hlt
  have hmx:i+1≤maxLen:=by simp only[maxLen];omega
  repeat(first|(refine st ?_;intros)|refine G.drawOrd (id:=13) [1,0,2,3,4,5,6,7,8,9] [(0,.eff [1])] (h:= ?_)|(refine cq hAw ?_))
  rename_i p' cap' c' hV'
  have hV3:Vec 62 2 p' (i+1) cap' (((pathL m).take (i+1)).flatMap ecl) c':=by rw[htk];exact hV'
  refine Dn.round ⟨i+1,p',cap',c'⟩ ⟨hlt,hV3⟩ (by dsimp only;omega)
 have him:i=m:=by omega
 subst him
 have hmx:i+1≤maxLen:=by simp only[maxLen];omega
 rw[List.take_of_length_le (by rw[pathL_len];exact Nat.le_refl _)] at hV
 repeat(first|(refine st ?_;intros)|refine G.drawOrd (id:=13) [1,0,2,3,4,5,6,7,8,9] [(0,.eff [1])] (h:= ?_)|(refine cq hAw ?_))
 refine R.callX (hct:=hWk) (h:= ?_)
 rintro _ _ ⟨bw,bd,ba,bs,cd,ca,cs,rfl,rfl,hW⟩
 dsimp only[List.cons_append,List.nil_append]
 constructor
 ·(·(first|(intro _ _ h;cases h;done)|(repeat(first|exact qok_nil|(apply qok_cons;(·first|(intro hc;exact absurd hc (nmem rfl))|(intro _;apply CellPr.mk;(·repeat(first|exact Has.here|apply Has.there));(first|exact rfl|assumption))|(intro _;apply CellsPr.mk;(·repeat(first|exact Has.here|apply Has.there));(first|exact rfl|assumption))))))))
 have hC:=cuts21ct bw bd ba bs 90 (by omega) cd ca cs hW (i+1) (by omega) _ i qc (pathL i) _ (Rw.ofVec ecl_len hV (by omega)) (by omega) (pathL_in i)
 unfold gv at hC
 repeat(first|(refine st ?_;intros)|refine G.drawOrd (id:=13) [1,0,2,3,4,5,6,7,8,9] [(0,.eff [1])] (h:= ?_)|(refine cq hAw ?_))
 refine R.callX (hct:=hC) (h:= ?_)
 rintro _ _ ⟨cd',ca',cs',W,pl,kk,cap2,co,bq,f,h,x,nm,ls,rfl,rfl,hW1,hR,hk2,hT⟩
 dsimp only[List.cons_append,List.nil_append]
 constructor
 ·(·(first|(intro _ _ h;cases h;done)|(repeat(first|exact qok_nil|(apply qok_cons;(·first|(intro hc;exact absurd hc (nmem rfl))|(intro _;apply CellPr.mk;(·repeat(first|exact Has.here|apply Has.there));(first|exact rfl|assumption))|(intro _;apply CellsPr.mk;(·repeat(first|exact Has.here|apply Has.there));(first|exact rfl|assumption))))))))
 rw[path_cuts (by omega) hT.ap hT.nms] at hR
 have hkk:kk=2*(i-1):=by
  have:=hR.1
  simpa using this.symm
 repeat(first|(refine st ?_;intros)|refine G.drawOrd (id:=13) [1,0,2,3,4,5,6,7,8,9] [(0,.eff [1])] (h:= ?_)|(refine cq hAw ?_))
 refine G.loop (X:=Nat) (fun j=>j≤kk) (fun j=>[(12,.int .i64 (j:Int)),(8,.slice pl kk cap2),(1,.int .u8 (how:Int)),(10,.int .i64 0),(11,.int .i64 (2*(i-1):Nat))])
  (fun _=>[co]) (fun j=>kk-j) 0 (Nat.zero_le _) (body:= ?_)
 intro j hj
 by_cases hjl:j<kk
 ·have hlj:((List.range (2*(i-1))).map fun (j:Nat)=>(⟨((1+j/2:Nat):Int),(((j+1)/2:Nat):Int),0,0,0⟩:T5))[j]? =some ⟨((1+j/2:Nat):Int),(((j+1)/2:Nat):Int),0,0,0⟩:=map_at (by omega)
  obtain⟨b0,off,cc,T0,fz,rfl,rfl,hcut,_⟩:=(RV.rw hR).pos tcells_len (by omega)
  have q0:=hcut j _ hlj
  have q1:(cc.drop (off+j*5)).take 5=[.int .i64 ((1+j/2:Nat):Int),.int .i64 (((j+1)/2:Nat):Int),.int .i64 0,.int .i64 0,.int .i64 0]:=q0
  have w1:IntKind.wrap .i64 ((j:Int).tdiv 2)=((j/2:Nat):Int):=by rw[Int.tdiv_eq_ediv_of_nonneg (by omega),wrap_i64 (by omega)];omega
  have w2:IntKind.wrap .i64 (1+((j/2:Nat):Int))=((1+j/2:Nat):Int):=by rw[wrap_i64 (by omega)];omega
  have w3:IntKind.wrap .i64 ((j:Int)+1)=((j+1:Nat):Int):=wrap_i64 (by omega)
  have w4:IntKind.wrap .i64 (((j+1:Nat):Int).tdiv 2)=(((j+1)/2:Nat):Int):=by rw[Int.tdiv_eq_ediv_of_nonneg (by omega),wrap_i64 (by omega)];omega
  repeat(first|(refine st ?_;intros)|refine G.drawOrd (id:=13) [1,0,2,3,4,5,6,7,8,9] [(0,.eff [1])] (h:= ?_)|(refine cq hAw ?_))
  refine Dn.round (j+1) hjl (by omega)
 ·obtain rfl:j=kk:=by omega
  repeat(first|(refine st ?_;intros)|refine G.drawOrd (id:=13) [1,0,2,3,4,5,6,7,8,9] [(0,.eff [1])] (h:= ?_)|(refine cq hAw ?_))
  (refine Dn.post (Hr:=[]) Tryz.results9 (hR:= ?_);exact⟨congrArg Value.bool (dec_true (by omega)),rfl⟩)
theorem CutPath_circ (a how k:Nat) (hk:k<18) (e5:IntKind.wrap .i64 ((a:Int).tmod 18)=(k:Int)) (hs:(how:Int).tmod 3=1):CtQ Tryz.prog 9 [.int .u8 (a:Int),.int .u8 (how:Int)] [] (.bool true):=by
 have hAw:=awake21ct
 have hs2:((how:Int).tmod 3).toNat=1:=by rw[hs];rfl
 have e6:IntKind.wrap .i64 (4+(k:Int))=((3+k+1:Nat):Int):=by rw[wrap_i64 (by omega)];omega
 have hWk:Ct Tryz.prog 30 [.int .i64 9] [] fun v H'=>
  ∃bw bd ba bs cd ca cs,v=pv bw∧H'=[wrow bw bd ba bs,cd,ca,cs]∧Wc bd ba bs (wk0 10 9000 90) cd ca cs:=work21ct 9 (by omega)
 generalize hm:3+k=m at*
 have f1:IntKind.wrap .i64 (((m+1:Nat):Int)-2)=((m-1:Nat):Int):=by rw[wrap_i64 (by omega)];omega
 have f2:IntKind.wrap .i64 (2*((m-1:Nat):Int))=((2*(m-1):Nat):Int):=by rw[wrap_i64 (by omega)];omega
 have f3:IntKind.wrap .i64 (((m+1:Nat):Int)-1)=(m:Int):=by rw[wrap_i64 (by omega)];omega
 refine Ct.intro Tryz.func9 rfl Tryz.ntmps9 (nle rfl) fun w0=> ?_;dsimp only[argSlots,Nat.reduceAdd]
 repeat(first|(refine st ?_;intros)|refine G.drawOrd (id:=13) [1,0,2,3,4,5,6,7,8,9] [(0,.eff [1])] (h:= ?_)|(refine cq hAw ?_))
 rename_i b5
 refine G.loop (X:=CpX) (fun s=>s.i≤m∧Vec 62 2 s.p s.i s.cap (((pathL m).take s.i).flatMap ecl) s.ch)
  (fun s=>[(6,.int .i64 ((s.i+1:Nat):Int)),(5,pv b5),(1,.int .u8 (how:Int))])
  (fun s=>[s.ch,[(b5,row [.int .i64 ((m+1:Nat):Int),.slice s.p s.i s.cap] 37)]]) (fun s=>m-s.i) ⟨0,none,0,[]⟩ ⟨Nat.zero_le _,Vec.nil _ _⟩ (by repeat(first|exact trivial|refine⟨rfl,?_⟩)) (by repeat(first|exact Split.nil|(apply Split.cons;·(first|exact Take.nil|(repeat(first|exact Take.here|apply Take.there)))))) ?_
 rintro⟨i,q,qc,ch⟩ ⟨hi,hV⟩
 dsimp only at hi hV⊢
 by_cases hlt:i<m
 ·have g1:IntKind.wrap .i64 (((i+1:Nat):Int)-1)=(i:Int):=by rw[wrap_i64 (by omega)];omega
  have htk:=path_take hlt
  have hmx:i+1≤maxLen:=by simp only[maxLen];omega
  repeat(first|(refine st ?_;intros)|refine G.drawOrd (id:=13) [1,0,2,3,4,5,6,7,8,9] [(0,.eff [1])] (h:= ?_)|(refine cq hAw ?_))
  rename_i p' cap' c' hV'
  have hV3:Vec 62 2 p' (i+1) cap' (((pathL m).take (i+1)).flatMap ecl) c':=by rw[htk];exact hV'
  refine Dn.round ⟨i+1,p',cap',c'⟩ ⟨hlt,hV3⟩ (by dsimp only;omega)
 have him:i=m:=by omega
 subst him
 have hmx:i+1≤maxLen:=by simp only[maxLen];omega
 rw[List.take_of_length_le (by rw[pathL_len];exact Nat.le_refl _)] at hV
 repeat(first|(refine st ?_;intros)|refine G.drawOrd (id:=13) [1,0,2,3,4,5,6,7,8,9] [(0,.eff [1])] (h:= ?_)|(refine cq hAw ?_))
 rename_i q3 qc3 ch3 hV3
 have hV4:Vec 62 2 q3 (i+1) qc3 ((circL i).flatMap ecl) ch3:=by
  have h1:(circL i).flatMap ecl=(pathL i).flatMap ecl++[.int .i64 0,.int .i64 (i:Int)]:=by unfold circL;rw[List.flatMap_append];simp[ecl]
  rw[h1];exact hV3
 refine R.callX (hct:=hWk) (h:= ?_)
 rintro _ _ ⟨bw,bd,ba,bs,cd,ca,cs,rfl,rfl,hW⟩
 dsimp only[List.cons_append,List.nil_append]
 constructor
 ·(·(first|(intro _ _ h;cases h;done)|(repeat(first|exact qok_nil|(apply qok_cons;(·first|(intro hc;exact absurd hc (nmem rfl))|(intro _;apply CellPr.mk;(·repeat(first|exact Has.here|apply Has.there));(first|exact rfl|assumption))|(intro _;apply CellsPr.mk;(·repeat(first|exact Has.here|apply Has.there));(first|exact rfl|assumption))))))))
 have hC:=cuts21ct bw bd ba bs 90 (by omega) cd ca cs hW (i+1) (by omega) _ (i+1) qc3 (circL i) _ (Rw.ofVec ecl_len hV4 (by omega)) (by omega) (circL_in i)
 unfold gv at hC
 repeat(first|(refine st ?_;intros)|refine G.drawOrd (id:=13) [1,0,2,3,4,5,6,7,8,9] [(0,.eff [1])] (h:= ?_)|(refine cq hAw ?_))
 refine R.callX (hct:=hC) (h:= ?_)
 rintro _ _ ⟨cd',ca',cs',W,pl,kk,cap2,co,bq,f,h,x,nm,ls,rfl,rfl,hW1,hR,hk2,hT⟩
 dsimp only[List.cons_append,List.nil_append]
 constructor
 ·(·(first|(intro _ _ h;cases h;done)|(repeat(first|exact qok_nil|(apply qok_cons;(·first|(intro hc;exact absurd hc (nmem rfl))|(intro _;apply CellPr.mk;(·repeat(first|exact Has.here|apply Has.there));(first|exact rfl|assumption))|(intro _;apply CellsPr.mk;(·repeat(first|exact Has.here|apply Has.there));(first|exact rfl|assumption))))))))
 rw[circ_cuts (by omega) (by omega) hT.ap hT.nms] at hR
 have hkk:kk=0:=by
  have:=hR.1
  simpa using this.symm
 repeat(first|(refine st ?_;intros)|refine G.drawOrd (id:=13) [1,0,2,3,4,5,6,7,8,9] [(0,.eff [1])] (h:= ?_)|(refine cq hAw ?_))
 refine G.loop (X:=Nat) (fun j=>j≤kk) (fun j=>[(12,.int .i64 (j:Int)),(8,.slice pl kk cap2),(1,.int .u8 (how:Int)),(10,.int .i64 0),(11,.int .i64 (0:Nat))])
  (fun _=>[co]) (fun j=>kk-j) 0 (Nat.zero_le _) (body:= ?_)
 intro j hj
 by_cases hjl:j<kk
 ·omega
 ·obtain rfl:j=kk:=by omega
  repeat(first|(refine st ?_;intros)|refine G.drawOrd (id:=13) [1,0,2,3,4,5,6,7,8,9] [(0,.eff [1])] (h:= ?_)|(refine cq hAw ?_))
  (refine Dn.post (Hr:=[]) Tryz.results9 (hR:= ?_);exact⟨congrArg Value.bool (dec_true (by omega)),rfl⟩)
theorem CutPath_star (a how k:Nat) (hk:k<18) (e5:IntKind.wrap .i64 ((a:Int).tmod 18)=(k:Int)) (hs:(how:Int).tmod 3=2):CtQ Tryz.prog 9 [.int .u8 (a:Int),.int .u8 (how:Int)] [] (.bool true):=by
 have hAw:=awake21ct
 have hs2:((how:Int).tmod 3).toNat=2:=by rw[hs];rfl
 have e6:IntKind.wrap .i64 (4+(k:Int))=((3+k+1:Nat):Int):=by rw[wrap_i64 (by omega)];omega
 have hWk:Ct Tryz.prog 30 [.int .i64 9] [] fun v H'=>
  ∃bw bd ba bs cd ca cs,v=pv bw∧H'=[wrow bw bd ba bs,cd,ca,cs]∧Wc bd ba bs (wk0 10 9000 90) cd ca cs:=work21ct 9 (by omega)
 generalize hm:3+k=m at*
 have f1:IntKind.wrap .i64 (((m+1:Nat):Int)-2)=((m-1:Nat):Int):=by rw[wrap_i64 (by omega)];omega
 have f2:IntKind.wrap .i64 (2*((m-1:Nat):Int))=((2*(m-1):Nat):Int):=by rw[wrap_i64 (by omega)];omega
 have f3:IntKind.wrap .i64 (((m+1:Nat):Int)-1)=(m:Int):=by rw[wrap_i64 (by omega)];omega
 refine Ct.intro Tryz.func9 rfl Tryz.ntmps9 (nle rfl) fun w0=> ?_;dsimp only[argSlots,Nat.reduceAdd]
 repeat(first|(refine st ?_;intros)|refine G.drawOrd (id:=13) [1,0,2,3,4,5,6,7,8,9] [(0,.eff [1])] (h:= ?_)|(refine cq hAw ?_))
 rename_i b5
 refine G.loop (X:=CpX) (fun s=>s.i≤m∧Vec 62 2 s.p s.i s.cap (((starL m).take s.i).flatMap ecl) s.ch)
  (fun s=>[(6,.int .i64 ((s.i+1:Nat):Int)),(5,pv b5),(1,.int .u8 (how:Int))])
  (fun s=>[s.ch,[(b5,row [.int .i64 ((m+1:Nat):Int),.slice s.p s.i s.cap] 37)]]) (fun s=>m-s.i) ⟨0,none,0,[]⟩ ⟨Nat.zero_le _,Vec.nil _ _⟩ (by repeat(first|exact trivial|refine⟨rfl,?_⟩)) (by repeat(first|exact Split.nil|(apply Split.cons;·(first|exact Take.nil|(repeat(first|exact Take.here|apply Take.there)))))) ?_
 rintro⟨i,q,qc,ch⟩ ⟨hi,hV⟩
 dsimp only at hi hV⊢
 by_cases hlt:i<m
 ·have g1:IntKind.wrap .i64 (((i+1:Nat):Int)-1)=(i:Int):=by rw[wrap_i64 (by omega)];omega
  have htk:=star_take hlt
  have hmx:i+1≤maxLen:=by simp only[maxLen];omega
  repeat(first|(refine st ?_;intros)|refine G.drawOrd (id:=13) [1,0,2,3,4,5,6,7,8,9] [(0,.eff [1])] (h:= ?_)|(refine cq hAw ?_))
  rename_i p' cap' c' hV'
  have hV3:Vec 62 2 p' (i+1) cap' (((starL m).take (i+1)).flatMap ecl) c':=by rw[htk];exact hV'
  refine Dn.round ⟨i+1,p',cap',c'⟩ ⟨hlt,hV3⟩ (by dsimp only;omega)
 have him:i=m:=by omega
 subst him
 have hmx:i+1≤maxLen:=by simp only[maxLen];omega
 rw[List.take_of_length_le (by rw[starL_len];exact Nat.le_refl _)] at hV
 repeat(first|(refine st ?_;intros)|refine G.drawOrd (id:=13) [1,0,2,3,4,5,6,7,8,9] [(0,.eff [1])] (h:= ?_)|(refine cq hAw ?_))
 refine R.callX (hct:=hWk) (h:= ?_)
 rintro _ _ ⟨bw,bd,ba,bs,cd,ca,cs,rfl,rfl,hW⟩
 dsimp only[List.cons_append,List.nil_append]
 constructor
 ·(·(first|(intro _ _ h;cases h;done)|(repeat(first|exact qok_nil|(apply qok_cons;(·first|(intro hc;exact absurd hc (nmem rfl))|(intro _;apply CellPr.mk;(·repeat(first|exact Has.here|apply Has.there));(first|exact rfl|assumption))|(intro _;apply CellsPr.mk;(·repeat(first|exact Has.here|apply Has.there));(first|exact rfl|assumption))))))))
 have hC:=cuts21ct bw bd ba bs 90 (by omega) cd ca cs hW (i+1) (by omega) _ i qc (starL i) _ (Rw.ofVec ecl_len hV (by omega)) (by omega) (starL_in i)
 unfold gv at hC
 repeat(first|(refine st ?_;intros)|refine G.drawOrd (id:=13) [1,0,2,3,4,5,6,7,8,9] [(0,.eff [1])] (h:= ?_)|(refine cq hAw ?_))
 refine R.callX (hct:=hC) (h:= ?_)
 rintro _ _ ⟨cd',ca',cs',W,pl,kk,cap2,co,bq,f,h,x,nm,ls,rfl,rfl,hW1,hR,hk2,hT⟩
 dsimp only[List.cons_append,List.nil_append]
 constructor
 ·(·(first|(intro _ _ h;cases h;done)|(repeat(first|exact qok_nil|(apply qok_cons;(·first|(intro hc;exact absurd hc (nmem rfl))|(intro _;apply CellPr.mk;(·repeat(first|exact Has.here|apply Has.there));(first|exact rfl|assumption))|(intro _;apply CellsPr.mk;(·repeat(first|exact Has.here|apply Has.there));(first|exact rfl|assumption))))))))
 rw[star_cuts (by omega) (by omega) hT.ap hT.nms] at hR
 have hkk:kk=i:=by
  have:=hR.1
  simpa using this.symm
 repeat(first|(refine st ?_;intros)|refine G.drawOrd (id:=13) [1,0,2,3,4,5,6,7,8,9] [(0,.eff [1])] (h:= ?_)|(refine cq hAw ?_))
 refine G.loop (X:=Nat) (fun j=>j≤kk) (fun j=>[(12,.int .i64 (j:Int)),(8,.slice pl kk cap2),(1,.int .u8 (how:Int)),(10,.int .i64 0),(11,.int .i64 (i:Nat))])
  (fun _=>[co]) (fun j=>kk-j) 0 (Nat.zero_le _) (body:= ?_)
 intro j hj
 by_cases hjl:j<kk
 ·have hlj:((List.range i).map fun (j:Nat)=>(⟨0,(j:Int),0,0,0⟩:T5))[j]? =some ⟨0,(j:Int),0,0,0⟩:=map_at (by omega)
  obtain⟨b0,off,cc,T0,fz,rfl,rfl,hcut,_⟩:=(RV.rw hR).pos tcells_len (by omega)
  have q0:=hcut j _ hlj
  have q1:(cc.drop (off+j*5)).take 5=[.int .i64 0,.int .i64 (j:Int),.int .i64 0,.int .i64 0,.int .i64 0]:=q0
  repeat(first|(refine st ?_;intros)|refine G.drawOrd (id:=13) [1,0,2,3,4,5,6,7,8,9] [(0,.eff [1])] (h:= ?_)|(refine cq hAw ?_))
  refine Dn.round (j+1) hjl (by omega)
 ·obtain rfl:j=kk:=by omega
  repeat(first|(refine st ?_;intros)|refine G.drawOrd (id:=13) [1,0,2,3,4,5,6,7,8,9] [(0,.eff [1])] (h:= ?_)|(refine cq hAw ?_))
  (refine Dn.post (Hr:=[]) Tryz.results9 (hR:= ?_);exact⟨congrArg Value.bool (dec_true (by omega)),rfl⟩)
theorem CutPath_ct (a how:Nat) (ha:a<256) (hh:how<256):CtQ Tryz.prog 9 [.int .u8 (a:Int),.int .u8 (how:Int)] [] (.bool true):=by
 have e4:IntKind.wrap .i64 ((a:Int).tmod 18)=((a%18:Nat):Int):=by
  rw[Int.tmod_eq_emod_of_nonneg (by omega)]
  rw[wrap_i64 (by omega)];omega
 have e5:(how:Int).tmod 3=((how%3:Nat):Int):=by rw[Int.tmod_eq_emod_of_nonneg (by omega)];omega
 have h3:how%3=0∨how%3=1∨how%3=2:=by omega
 rcases h3 with h|h|h
 ·exact CutPath_path a how (a%18) (by omega) e4 (by rw[e5,h];rfl)
 ·exact CutPath_circ a how (a%18) (by omega) e4 (by rw[e5,h];rfl)
 ·exact CutPath_star a how (a%18) (by omega) e4 (by rw[e5,h];rfl)
end Go.Proofs.YtlnehgklibbjiaaGreat
namespace Go.Proofs.YtlnehgklibbjiaaGreat
open Go.ChangeShapes Go.WideShapes Go.ChangeAt Go.RowKit Go.SL Go.Tup
set_option maxRecDepth 100000 in
theorem CutPath_lifted (os:Os) (started:os.Started) (H:Type) (enc:TypeId×Value→H):
  ReturnsInHanded {} Tryz.checked os 9 .any (Rows.cutPathSpec.pre6 enc Tryz.prog Tryz.f9 Rows.cutPathRow.domain false) (Rows.cutPathSpec.post enc Tryz.prog Tryz.f9 false true false false):=by
 refine returnsInHanded_of_change (C:=Tryz.checked) own started (by kernel_rfl) Tryz.func9
  (ChangeSpec.witness6 (enc:=enc) (C:=Tryz.checked) false ⟨#[],#[.int .u8 0,.int .u8 0],[]⟩ 8 (by kernel_rfl) (by kernel_rfl) (by kernel_rfl) (by kernel_rfl)) ?_
 intro W base args ds gs before hval0 hW hcnd _
 have hval:∀(j:Nat) t v,Tryz.f9.params[j]? =some t→args[j]? =some v→Value.okWide Tryz.prog W .any base t v:=hval0
 have hW':=hW
 obtain⟨p,q,hA0,hV,rfl,hfz,hnd⟩:=hW
 have hA:DataW.TrodAll enc Tryz.prog W 0 (fun _=>true) true Tryz.f9.params.toList args.toList ds p:=hA0
 rw[Tryz.params9] at hA hval
 obtain⟨rfl,rfl⟩:=trodVars_none hV
 obtain⟨v0,v1,d0,d1,p0,p1,rfl,rfl,rfl,h0,h1⟩:=trodAll_two hA
 obtain⟨e0,he0,rfl⟩:=openNat8 Tryz.underlying5 (hval 0 _ v0 rfl rfl)
 obtain⟨e1,he1,rfl⟩:=openNat8 Tryz.underlying5 (hval 1 _ v1 rfl rfl)
 clear hA0 hval0
 refine(law_calls (CutPath_ct e0 e1 he0 he1) W).mono fun e W' ⟨he,hw⟩=> ?_
 subst he
 exact⟨_,rfl,lawPost hW' rfl rfl (by kernel_rfl) laidOut (by decide+kernel) rfl hw⟩
theorem CutPath_holds:Rows.CutPathSaid:=
 OpenClaim.holds_of_wide 9 Tryz.f9 rfl rfl rfl rfl rfl rfl rfl ⟨rfl,rfl,rfl,rfl,rfl⟩ rfl rfl rfl rfl rfl (by kernel_rfl) Tryz.func9 (by kernel_rfl)
  (of_decide_eq_true (by kernel_rfl)) (by unfold Func.isWrapper;first|(rw[if_pos (by decide+kernel)];kernel_rfl)|(rw[if_neg (by decide+kernel)];exact⟨rfl,rfl⟩))
  (fun os started H enc _=>CutPath_lifted os started H enc)
end Go.Proofs.YtlnehgklibbjiaaGreat
