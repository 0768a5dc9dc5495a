/-
  Parts of the proof, put together: Comp2, Comp3, Comp4, RowJ. No condition.
-/
import Derived.Test.YtpckicjfigmjkaaGreatJ26
set_option linter.unusedVariables false
set_option linter.unusedSimpArgs false
set_option linter.unnecessarySimpa false
set_option maxHeartbeats 4000000
namespace Go.Proofs.YtpckicjfigmjkaaGreat
open Go.SL Go.Spc Go.Tup Go.Srt
def lookH5 (bj b8 b4 bc b5 bf:Nat) (fa fb f:Fl) (key:Nat):Hp:=[[(b8,row [pv bj] 83)],[(b4,row (fl4 fa) 26)],[(bc,row [.int .i64 (key:Int)] 3)],[(b5,row (fl4 fb) 26)],[(bf,row (fl4 f) 26)]]
theorem lkLook (p:Jp) (fa fb f:Fl) (b8 b4 bc b5 bf:Nat) (J:Jb) (A T:Nat) (ts:List T5) (Rl:Fl→Int→Prop) (key to:Nat) (hfw:f.width=to) (hL:LookS p J fa fb key 1 to A T ts Rl):
  StepCt p J 100 [pv b8,pv b4,pv bc,pv b5,pv bf] (lookH5 p.bj b8 b4 bc b5 bf fa fb f key) A T none ts fun f' e Hx'=>Hx'=lookH5 p.bj b8 b4 bc b5 bf fa fb f key∧Rl f' e:=by
 subst hfw
 intro W cd ca cs held ph capj hW hJW
 have hL:=hL W cd ca cs held hW hJW
 have hflv:∀f:Fl,flv f= .agg #[.int .i64 (f.first:Int),.int .i64 (f.blocks:Int),.int .i64 (f.width:Int),.int .i64 (f.count:Int)]:=fun _=>rfl
 have hfl4:∀f:Fl,fl4 f=[.int .i64 (f.first:Int),.int .i64 (f.blocks:Int),.int .i64 (f.width:Int),.int .i64 (f.count:Int)]:=fun _=>rfl
 rw[hflv fa,hflv fb] at hL
 unfold jrow lookH5
 rw[hfl4 fa,hfl4 fb,hfl4 f]
 refine Ct.intro Tryz.func100 rfl Tryz.ntmps100 (nle rfl) fun w0=> ?_;dsimp only[argSlots,Nat.reduceAdd]
 repeat(first|(refine st ?_;intros)|refine G.draw [] (h:= ?_))
 refine R.callX (hct:=hL) (h:= ?_)
 rintro _ _ ⟨f',e,cd',ca',cs',W',rfl,rfl,hW',hS,hR⟩
 dsimp only[List.cons_append,List.nil_append]
 constructor
 ·(·(first|(intro _ _ h;cases h;done)|(repeat(first|exact qok_nil|(apply qok_cons;(·first|(intro hc;exact absurd hc (nmem rfl))|(intro _;apply CellPr.mk;(·repeat(first|exact Has.here|apply Has.there));(first|exact rfl|assumption))|(intro _;apply CellsPr.mk;(·repeat(first|exact Has.here|apply Has.there));(first|exact rfl|assumption))))))))
 rw[hflv]
 repeat(first|(refine st ?_;intros)|refine G.draw [] (h:= ?_))
 (refine Dn.post (Hr:=[[(p.bj,row [pv p.bw,.int .i64 0,.slice ph held.length capj] 90)],wrow p.bw p.bd p.ba p.bs,cd',ca',cs',[(b8,row [pv p.bj] 83)],[(b4,row [.int .i64 (fa.first:Int),.int .i64 (fa.blocks:Int),.int .i64 (fa.width:Int),.int .i64 (fa.count:Int)] 26)],[(bc,row [.int .i64 (key:Int)] 3)],[(b5,row [.int .i64 (fb.first:Int),.int .i64 (fb.blocks:Int),.int .i64 (fb.width:Int),.int .i64 (fb.count:Int)] 26)],[(bf,row [.int .i64 (f.first:Int),.int .i64 (f.blocks:Int),.int .i64 (f.width:Int),.int .i64 (f.count:Int)] 26)]]) Tryz.results100 (hR:= ?_);exact⟨f',e,cd',ca',cs',W',_,rfl,rfl,hW',hS,rfl,hR⟩)
section
variable {p:Jp} {B m k a s0:Nat} {e:Int} {er:Option Nat} {Gf:List (Fl×List T5)} {C:Chunk}
def Look15 (p:Jp) (B k a s0:Nat) (e:Int) (er:Option Nat) (G':List (Fl×List T5)) (w col b c n:Nat) (hts ts:List T5) (v:Value) (H':Hp):Prop:=
 ∃g C' e',v=flv g∧H'=[C']∧JobS p B k a (s0+3) e' er ((g,lookL w col hts ts)::G') C'∧FB b c w n e' g∧(e'=0→e=0)
theorem look_e0 (hR:Rm p B m k a) (hJ:JobS p B k a s0 0 er Gf C) (f0 f1 w f3:Nat) (fin:Fl) (ts hts:List T5) (G':List (Fl×List T5)) (col:Nat) (oc:Int) (F:T5→List T5)
  (hM:∀bf bc,MakeU (mFl [[(bf,row [.int .i64 (f0:Int),.int .i64 (f1:Int),.int .i64 (w:Int),.int .i64 (f3:Int)] 26)],[(bc,row [.int .i64 (col:Int)] 3)]] F) w (fun _ t=>okT (w+1) t) 101 [] [pv bf,pv bc])
  (hFe:∀t,F t=[lkPut w col t]) (hord:ordC col=⟨oc,0,0,0,0⟩) (hform:formed ⟨oc,0,0,0,0⟩=true) (hwr:IntKind.wrap .i64 ((col:Int)+1)=oc) (hsrt:∀l:List T5,(srt (ltO ⟨oc,0,0,0,0⟩) false l).Pairwise fun a c=>a.col col≤c.col col) (hcw:col<w) (hw:1≤w∧w≤3)
  {b c n bi ci ni:Nat} (hF:FB b c w n 0 ⟨f0,f1,w,f3⟩) (hFi:FB bi ci 2 ni 0 fin) (hP:Pk (⟨f0,f1,w,f3⟩,ts) Gf G') (hin:(fin,hts)∈G') (hok:∀t∈ts,okT w t) (htn:ts.length=n) (hiok:∀t∈hts,okT 2 t) (hrise:hts.Pairwise fun a c=>a.c0<c.c0)
  (hb:b≤1000) (hbi:bi≤1000∧ci≤1000) (hbc:b≤c∨(w≤3∧b≤2*c)) (hcB:c≤B) (hbB:b≤B) (hT:sortT c≤m) (hk:Gf.length+2≤k) (hst:s0≤9900):
  Ct Tryz.prog 49 [pv p.bj,flv ⟨f0,f1,w,f3⟩,.int .i64 (col:Int),flv fin] [C] (Look15 p B k a s0 0 er G' w col b c n hts ts):=by
 have hflv:∀f:Fl,flv f= .agg #[.int .i64 (f.first:Int),.int .i64 (f.blocks:Int),.int .i64 (f.width:Int),.int .i64 (f.count:Int)]:=fun _=>rfl
 have hfl4:∀f:Fl,fl4 f=[.int .i64 (f.first:Int),.int .i64 (f.blocks:Int),.int .i64 (f.width:Int),.int .i64 (f.count:Int)]:=fun _=>rfl
 have hto:tv ⟨oc,0,0,0,0⟩= .agg #[.int .i64 oc,.int .i64 0,.int .i64 0,.int .i64 0,.int .i64 0]:=rfl
 have hB:=hR.bs
 have hfc:f3=n:=(hF.ok rfl).2
 have hFc:=hF.cnt
 dsimp only at hFc
 have hle:=hP.perm.length_eq
 rw[List.length_cons] at hle
 have hS1:=SSort hR hJ ⟨f0,f1,w,f3⟩ ts G' ⟨oc,0,0,0,0⟩ hform false hF hP hb hcB hT (by omega)
 rw[hflv,hto] at hS1
 dsimp only at hS1
 rw[hflv,hflv fin]
 dsimp only
 refine Ct.intro Tryz.func49 rfl Tryz.ntmps49 (nle rfl) fun w0=> ?_;dsimp only[argSlots,Nat.reduceAdd]
 repeat(refine st ?_;intros)
 repeat(refine st ?_;intros)
 refine R.callX (hct:=hS1) (h:= ?_)
 rintro _ _ ⟨g1,C1,e1,rfl,rfl,hJ1,hF1,hE1⟩
 dsimp only[List.cons_append,List.nil_append]
 constructor
 ·(·(first|(intro _ _ h;cases h;done)|(repeat(first|exact qok_nil|(apply qok_cons;(·first|(intro hc;exact absurd hc (nmem rfl))|(intro _;apply CellPr.mk;(·repeat(first|exact Has.here|apply Has.there));(first|exact rfl|assumption))|(intro _;apply CellsPr.mk;(·repeat(first|exact Has.here|apply Has.there));(first|exact rfl|assumption))))))))
 try rw[hflv]
 have hR2:=fun b8 b4 bc b5 bf=>SLookRun hR hJ1 100 inferInstance g1 fin (srt (ltO ⟨oc,0,0,0,0⟩) false ts) hts col 1 w (w+1) B (by first|exact .inr (by assumption)|exact .inl (by repeat(first|exact List.mem_cons_self|apply List.mem_cons_of_mem))) (.inl (List.mem_cons_of_mem _ hin)) (fun J A T ts' R h=>lkLook p g1 fin ⟨f0,f1,w,f3⟩ b8 b4 bc b5 bf J A T ts' R col w rfl h) hF1 (hFi.mono fun _=>rfl) (by have:=hF1.blk;omega) hcw (by omega) (by omega) (by omega) (by omega)
  (fun _=>hsrt _) (fun _=>hrise) (.inl hbB) (Nat.le_refl _) (by simp only[List.length_cons];omega) (by omega)
 simp only[lookH5,hfl4] at hR2
 repeat(refine st ?_;intros)
 refine R.callX (hct:=hR2 _ _ _ _ _) (h:= ?_)
 rintro _ _ ⟨g2,C2,e2,rfl,rfl,hJ2,hF2,hE2⟩
 dsimp only[List.cons_append,List.nil_append]
 constructor
 ·(·(first|(intro _ _ h;cases h;done)|(repeat(first|exact qok_nil|(apply qok_cons;(·first|(intro hc;exact absurd hc (nmem rfl))|(intro _;apply CellPr.mk;(·repeat(first|exact Has.here|apply Has.there));(first|exact rfl|assumption))|(intro _;apply CellsPr.mk;(·repeat(first|exact Has.here|apply Has.there));(first|exact rfl|assumption))))))))
 try rw[hflv]
 have hF2c:=hF2.cnt
 have hF2b:=hF2.blk
 have hM3:=fun bf bc b=>SFl1 hR hJ2 _ F w f3 c 1 (by omega) 101 inferInstance _ (okT (w+1)) (hM bf bc) (fun t _=>by rw[hFe];exact Nat.le_refl _) (by omega) g2 ((srt (ltO ⟨oc,0,0,0,0⟩) false ts).map (lookF hts col 1 w)) (by first|exact .inr (by assumption)|exact .inl (by repeat(first|exact List.mem_cons_self|apply List.mem_cons_of_mem))) (by omega)
  (fun _ t ht=>by
   obtain⟨u,hu,rfl⟩:=List.mem_map.1 ht
   have:=lookF_ok hiok col 1 w (by omega) (hok u (srt_sub hu))
   rwa[show max w (w+1)=w+1 by omega] at this) (fun _=>by rw[flat_ones hFe,List.length_map,List.length_map,(perm_srt _).length_eq];omega) (by omega) hcB (by simp only[List.length_cons];omega) (by omega) b
 simp only[hfl4] at hM3
 repeat(refine st ?_;intros)
 refine R.callX (hct:=hM3 _ _ _) (h:= ?_)
 rintro _ _ ⟨g3,C3,e3,rfl,rfl,hJ3,hF3,hE3⟩
 dsimp only[List.cons_append,List.nil_append]
 constructor
 ·(·(first|(intro _ _ h;cases h;done)|(repeat(first|exact qok_nil|(apply qok_cons;(·first|(intro hc;exact absurd hc (nmem rfl))|(intro _;apply CellPr.mk;(·repeat(first|exact Has.here|apply Has.there));(first|exact rfl|assumption))|(intro _;apply CellsPr.mk;(·repeat(first|exact Has.here|apply Has.there));(first|exact rfl|assumption))))))))
 try rw[hflv]
 have hFr:=fun b=>SFree hR hJ3 [(g1,srt (ltO ⟨oc,0,0,0,0⟩) false ts),(g2,(srt (ltO ⟨oc,0,0,0,0⟩) false ts).map (lookF hts col 1 w))] ((g3,_)::G') (.cons (.there (.there .here)) (.cons (.there .here) .nil)) (by simp) _ 2 _ (vec2 b g1 g2)
 simp only[hfl4,List.map_cons,List.map_nil,List.cons_append,List.nil_append] at hFr
 repeat(refine st ?_;intros)
 refine R.callX (hct:=hFr _) (h:= ?_)
 rintro _ _ ⟨C4,rfl,rfl,hJ4⟩
 dsimp only[List.cons_append,List.nil_append]
 constructor
 ·(·(first|(intro _ _ h;cases h;done)|(repeat(first|exact qok_nil|(apply qok_cons;(·first|(intro hc;exact absurd hc (nmem rfl))|(intro _;apply CellPr.mk;(·repeat(first|exact Has.here|apply Has.there));(first|exact rfl|assumption))|(intro _;apply CellsPr.mk;(·repeat(first|exact Has.here|apply Has.there));(first|exact rfl|assumption))))))))
 repeat(refine st ?_;intros)
 have hres:((srt (ltO ⟨oc,0,0,0,0⟩) false ts).map (lookF hts col 1 w)).flatMap F=lookL w col hts ts:=by
  rw[flat_ones hFe];unfold lookL;rw[hord]
 have hlen:(lookL w col hts ts).length=n:=by unfold lookL;rw[List.length_map,List.length_map,(perm_srt _).length_eq];exact htn
 rw[hres] at hJ4 hF3
 rw[hlen] at hF3
 (refine Dn.post (Hr:=[C4]) Tryz.results49 (hR:= ?_);exact⟨g3,C4,e3,rfl,rfl,hJ4,⟨by have:=hF3.cnt;omega,hF3.blk,hF3.ok⟩,fun _=>rfl⟩)
theorem look_e1 (hR:Rm p B m k a) (hJ:JobS p B k a s0 e er Gf C) (he:e≠0) (f fin:Fl) (ts hts:List T5) (G':List (Fl×List T5)) (col w:Nat) (oc:Int) (hform:formed ⟨oc,0,0,0,0⟩=true) (hwr:IntKind.wrap .i64 ((col:Int)+1)=oc)
  {b c n:Nat} (hF:FB b c w n e f) (hP:Pk (f,ts) Gf G') (hb:b≤1000) (hcB:c≤B) (hT:sortT c≤m) (hk:Gf.length+2≤k) (hst:s0≤9900):
  Ct Tryz.prog 49 [pv p.bj,flv f,.int .i64 (col:Int),flv fin] [C] (Look15 p B k a s0 e er G' w col b c n hts ts):=by
 have hflv:∀f:Fl,flv f= .agg #[.int .i64 (f.first:Int),.int .i64 (f.blocks:Int),.int .i64 (f.width:Int),.int .i64 (f.count:Int)]:=fun _=>rfl
 have hfl4:∀f:Fl,fl4 f=[.int .i64 (f.first:Int),.int .i64 (f.blocks:Int),.int .i64 (f.width:Int),.int .i64 (f.count:Int)]:=fun _=>rfl
 have hto:tv ⟨oc,0,0,0,0⟩= .agg #[.int .i64 oc,.int .i64 0,.int .i64 0,.int .i64 0,.int .i64 0]:=rfl
 have hz:flv ⟨0,0,0,0⟩= .agg #[.int .i64 0,.int .i64 0,.int .i64 0,.int .i64 0]:=rfl
 have hle:=hP.perm.length_eq
 rw[List.length_cons] at hle
 have hS1:=SSort hR hJ f ts G' ⟨oc,0,0,0,0⟩ hform false hF hP hb hcB hT (by omega)
 rw[hflv,hto] at hS1
 rw[hflv,hflv fin]
 refine Ct.intro Tryz.func49 rfl Tryz.ntmps49 (nle rfl) fun w0=> ?_;dsimp only[argSlots,Nat.reduceAdd]
 repeat(refine st ?_;intros)
 repeat(refine st ?_;intros)
 refine R.callX (hct:=hS1) (h:= ?_)
 rintro _ _ ⟨g1,C1,e1,rfl,rfl,hJ1,hF1,hE1⟩
 dsimp only[List.cons_append,List.nil_append]
 constructor
 ·(·(first|(intro _ _ h;cases h;done)|(repeat(first|exact qok_nil|(apply qok_cons;(·first|(intro hc;exact absurd hc (nmem rfl))|(intro _;apply CellPr.mk;(·repeat(first|exact Has.here|apply Has.there));(first|exact rfl|assumption))|(intro _;apply CellsPr.mk;(·repeat(first|exact Has.here|apply Has.there));(first|exact rfl|assumption))))))))
 try rw[hflv]
 have he1:e1≠0:=fun h=>he (hE1 h)
 have hR2:=fun b8 b4 bc b5 bf=>SRun hR hJ1 100 inferInstance [pv b8,pv b4,pv bc,pv b5,pv bf] (lookH5 p.bj b8 b4 bc b5 bf g1 fin f col) 0 0 1 none ((srt (ltO ⟨oc,0,0,0,0⟩) false ts).map (lookF hts col 1 w)) (by omega) (by omega) (b:=0) (c:=0) (w:=0) (n:=0) (fun h=>absurd h he1) (by omega) (by simp only[List.length_cons];omega)
 simp only[lookH5,hfl4] at hR2
 repeat(refine st ?_;intros)
 refine R.callX (hct:=hR2 _ _ _ _ _) (h:= ?_)
 rintro _ _ ⟨g2,C2,e2,rfl,rfl,hJ2,hF2,hE2⟩
 dsimp only[List.cons_append,List.nil_append]
 constructor
 ·(·(first|(intro _ _ h;cases h;done)|(repeat(first|exact qok_nil|(apply qok_cons;(·first|(intro hc;exact absurd hc (nmem rfl))|(intro _;apply CellPr.mk;(·repeat(first|exact Has.here|apply Has.there));(first|exact rfl|assumption))|(intro _;apply CellsPr.mk;(·repeat(first|exact Has.here|apply Has.there));(first|exact rfl|assumption))))))))
 try rw[hflv]
 rw[or_none'] at hJ2
 have he2:e2≠0:=fun h=>he1 (hE2 h)
 have hM3:=fun x1 x2 x3 x4=>SMake_no hJ2 he2 (lookL w col hts ts) (by simp only[List.length_cons];omega) x1 x2 x3 x4
 repeat(refine st ?_;intros)
 refine R.callX (hct:=hM3 _ _ _ _) (h:= ?_)
 rintro _ _ ⟨C3,rfl,rfl,hJ3⟩
 dsimp only[List.cons_append,List.nil_append]
 rw[hz]
 constructor
 ·(·(first|(intro _ _ h;cases h;done)|(repeat(first|exact qok_nil|(apply qok_cons;(·first|(intro hc;exact absurd hc (nmem rfl))|(intro _;apply CellPr.mk;(·repeat(first|exact Has.here|apply Has.there));(first|exact rfl|assumption))|(intro _;apply CellsPr.mk;(·repeat(first|exact Has.here|apply Has.there));(first|exact rfl|assumption))))))))
 have hFr:=fun b=>SFree hR hJ3 [(g1,srt (ltO ⟨oc,0,0,0,0⟩) false ts),(g2,(srt (ltO ⟨oc,0,0,0,0⟩) false ts).map (lookF hts col 1 w))] ((⟨0,0,0,0⟩,_)::G') (.cons (.there (.there .here)) (.cons (.there .here) .nil)) (by simp) _ 2 _ (vec2 b g1 g2)
 simp only[hfl4,List.map_cons,List.map_nil,List.cons_append,List.nil_append] at hFr
 repeat(refine st ?_;intros)
 refine R.callX (hct:=hFr _) (h:= ?_)
 rintro _ _ ⟨C4,rfl,rfl,hJ4⟩
 dsimp only[List.cons_append,List.nil_append]
 constructor
 ·(·(first|(intro _ _ h;cases h;done)|(repeat(first|exact qok_nil|(apply qok_cons;(·first|(intro hc;exact absurd hc (nmem rfl))|(intro _;apply CellPr.mk;(·repeat(first|exact Has.here|apply Has.there));(first|exact rfl|assumption))|(intro _;apply CellsPr.mk;(·repeat(first|exact Has.here|apply Has.there));(first|exact rfl|assumption))))))))
 repeat(refine st ?_;intros)
 (refine Dn.post (Hr:=[C4]) Tryz.results49 (hR:= ?_);exact⟨⟨0,0,0,0⟩,C4,e2,rfl,rfl,hJ4,⟨Nat.zero_le _,Nat.zero_le _,fun h=>absurd h he2⟩,fun h=>absurd h he2⟩)
theorem srt_col0 (l:List T5):(srt (ltO ⟨1,0,0,0,0⟩) false l).Pairwise fun a c=>a.col 0≤c.col 0:=srt_o1 l
theorem srt_col1 (l:List T5):(srt (ltO ⟨2,0,0,0,0⟩) false l).Pairwise fun a c=>a.col 1≤c.col 1:=srt_oB l
theorem look15ct (hR:Rm p B m k a) (hJ:JobS p B k a s0 e er Gf C) (f fin:Fl) (ts hts:List T5) (G':List (Fl×List T5)) (col w:Nat) (hcw:(col=0∧w=3)∨(col=1∧w=3)∨(col=1∧w=2))
  {b c n bi ci ni:Nat} (hF:FB b c w n e f) (hFi:FB bi ci 2 ni e fin) (hP:Pk (f,ts) Gf G') (hin:(fin,hts)∈G') (hok:e=0→∀t∈ts,okT w t) (htn:e=0→ts.length=n) (hiok:e=0→∀t∈hts,okT 2 t) (hrise:e=0→hts.Pairwise fun a c=>a.c0<c.c0)
  (hb:b≤1000) (hbi:bi≤1000∧ci≤1000) (hbc:b≤c∨b≤2*c) (hcB:c≤B) (hbB:b≤B) (hT:sortT c≤m) (hk:Gf.length+2≤k) (hst:s0≤9900):
  Ct Tryz.prog 49 [pv p.bj,flv f,.int .i64 (col:Int),flv fin] [C] (Look15 p B k a s0 e er G' w col b c n hts ts):=by
 have f1:formed (⟨1,0,0,0,0⟩:T5)=true:=by decide
 have f2:formed (⟨2,0,0,0,0⟩:T5)=true:=by decide
 by_cases he:e=0
 ·subst he
  obtain⟨q0,q1,q2,q3⟩:=f
  obtain rfl:q2=w:=(hF.ok rfl).1
  rcases hcw with⟨rfl,rfl⟩|⟨rfl,rfl⟩|⟨rfl,rfl⟩
  ·exact look_e0 hR hJ q0 q1 3 q3 fin ts hts G' 0 1 _ (fun bf bc=>lk30 bf bc q0 q1 q3) (lk30is q0 q1 q3) rfl f1 (by decide) srt_col0 (by omega) (by omega) hF hFi hP hin (hok rfl) (htn rfl) (hiok rfl) (hrise rfl) hb hbi (by omega) hcB hbB hT hk hst
  ·exact look_e0 hR hJ q0 q1 3 q3 fin ts hts G' 1 2 _ (fun bf bc=>lk31 bf bc q0 q1 q3) (lk31is q0 q1 q3) rfl f2 (by decide) srt_col1 (by omega) (by omega) hF hFi hP hin (hok rfl) (htn rfl) (hiok rfl) (hrise rfl) hb hbi (by omega) hcB hbB hT hk hst
  ·exact look_e0 hR hJ q0 q1 2 q3 fin ts hts G' 1 2 _ (fun bf bc=>lk21 bf bc q0 q1 q3) (lk21is q0 q1 q3) rfl f2 (by decide) srt_col1 (by omega) (by omega) hF hFi hP hin (hok rfl) (htn rfl) (hiok rfl) (hrise rfl) hb hbi (by omega) hcB hbB hT hk hst
 ·rcases hcw with⟨rfl,rfl⟩|⟨rfl,rfl⟩|⟨rfl,rfl⟩
  ·exact look_e1 hR hJ he f fin ts hts G' 0 3 1 f1 (by decide) hF hP hb hcB hT hk hst
  ·exact look_e1 hR hJ he f fin ts hts G' 1 3 2 f2 (by decide) hF hP hb hcB hT hk hst
  ·exact look_e1 hR hJ he f fin ts hts G' 1 2 2 f2 (by decide) hF hP hb hcB hT hk hst
end
def nmT (i:Nat):T5:=⟨(i:Int),(i:Int),0,0,0⟩
def nmL (n:Nat):List T5:=(List.range n).map nmT
theorem nmL_len (n:Nat):(nmL n).length=n:=by simp[nmL]
theorem nmL_succ (n:Nat):nmL (n+1)=nmL n++[nmT n]:=by unfold nmL;rw[List.range_succ,List.map_append];rfl
def numsH (bj b2 b3 n:Nat):Hp:=[[(b2,row [pv bj] 83)],[(b3,row [.int .i64 (n:Int)] 3)]]
structure NmX where
 i:Nat
 W:Wk
 cd:Chunk
 ca:Chunk
 cs:Chunk
 cx:Chunk
 cb:Chunk
theorem nums_step (p:Jp) (hp:p.Ok) (J:Jb) (he:J.e=0) (n:Nat) (hn:n≤100000) (b2 b3:Nat) (A T:Nat) (hT:nblocks p.size 2 n≤T) (hroom:Fits p J T) (hA:n+2≤A) (hac:J.acts+A≤1000000000):
  StepCt p J 87 [pv b2,pv b3] (numsH p.bj b2 b3 n) A T none (nmL n) fun f e Hx'=>Hx'=numsH p.bj b2 b3 n∧FB n (nblocks p.size 2 n) 2 n e f:=by
 intro W cd ca cs held ph capj hW hJW
 obtain⟨⟨hs1,hs2⟩,_⟩:=hW.dev.num
 have hus:=hJW.used hp hW
 have hbig:=hJW.big hW he hroom
 have hjac:=hJW.acts
 have hWr:=Write_u p.bw p.bd p.ba p.bs W cd ca cs hW 2 n (by omega) (by omega) (by omega) (by omega)
 have hnb:nblocks W.δ.size 2 n≤T:=by rw[hJW.size];exact hT
 have hz:flv ⟨0,0,0,0⟩= .agg #[.int .i64 0,.int .i64 0,.int .i64 0,.int .i64 0]:=rfl
 have hh:1≤holds W.δ.size 2:=holds_pos hs1 (by omega) (by omega)
 have hfin:∀(W':Wk) (cd' ca' cs':Chunk) (f:Fl) (e:Int),Wc p.bd p.ba p.bs W' cd' ca' cs'→W'.α.gs.Perm W.α.gs→Ev W W' (n+2) (nblocks W.δ.size 2 n)→Keep W.live W W'→
   ((e=0∧W'.live.Perm (addF f W.live)∧f.width=2∧f.count=n∧FileOk W'.δ.disk W.δ.size [f.ext] f (nmL n))∨(e=6∧f=⟨0,0,0,0⟩∧W.δ.fault≠-1∧W'.live.Perm W.live))→
   StepPost p W A T none (nmL n) (fun f e Hx'=>Hx'=numsH p.bj b2 b3 n∧FB n (nblocks p.size 2 n) 2 n e f)
    (jrow p.bj p.bw 0 ph held.length capj) (.tuple #[flv f,.int .i64 e]) (jrow p.bj p.bw 0 ph held.length capj::wrow p.bw p.bd p.ba p.bs::cd'::ca'::cs'::numsH p.bj b2 b3 n):=by
  intro W' cd' ca' cs' f e h0 h1 h2 h3 h4
  refine⟨f,e,cd',ca',cs',W',_,rfl,rfl,h0,⟨h1,h2.room,h2.size,h2.n,by have:=h2.acts.2;omega,by have:=h2.big;omega,h2.fault,h3,?_⟩,rfl,?_⟩
  ·rcases h4 with⟨a,b,_,_,c⟩|⟨a,b,c,d⟩
   ·exact .inl ⟨a,rfl,b,c⟩
   ·exact .inr ⟨by omega,b,d,.inl ⟨a,c⟩⟩
  ·rcases h4 with⟨a,b,c1,c2,c⟩|⟨a,rfl,c,d⟩
   ·exact⟨by omega,by rw[c.blk,c1,c2,hJW.size];exact Nat.le_refl _,fun _=>⟨c1,c2⟩⟩
   ·exact⟨Nat.zero_le _,Nat.zero_le _,fun h=>by omega⟩
 unfold jrow numsH at hfin⊢
 refine Ct.introD Tryz.func87 rfl Tryz.ntmps87 (nle rfl) fun w0=> ?_;dsimp only[argSlots,Nat.reduceAdd]
 repeat(first|(refine st ?_;intros)|refine G.draw [] (h:= ?_))
 refine R.callX (hct:=hWr) (h:= ?_)
 rintro _ _ (⟨hfit,bx,first,g,cd1,ca1,cs1,W1,cx,cb,rfl,rfl,hW1,hE1,e1,e2,e3,e4,e5⟩|⟨hfull,_⟩)
 rotate_left
 ·exact absurd hbig (by omega)
 dsimp only[List.cons_append,List.nil_append]
 constructor
 ·(·(first|(intro _ _ h;cases h;done)|(repeat(first|exact qok_nil|(apply qok_cons;(·first|(intro hc;exact absurd hc (nmem rfl))|(intro _;apply CellPr.mk;(·repeat(first|exact Has.here|apply Has.there));(first|exact rfl|assumption))|(intro _;apply CellsPr.mk;(·repeat(first|exact Has.here|apply Has.there));(first|exact rfl|assumption))))))))
 have hs1':W1.δ.size=W.δ.size:=by rw[e1]
 repeat(first|(refine st ?_;intros)|refine G.draw [] (h:= ?_))
 rename_i bz
 refine G.loop (X:=NmX) (fun x=>x.i≤n∧Wc p.bd p.ba p.bs x.W x.cd x.ca x.cs∧Ev W x.W x.i (nblocks W.δ.size 2 n)∧Keep W.live W x.W∧x.W.α.gs.Perm (g::W.α.gs)∧LvOf first (nblocks W.δ.size 2 n) W.live x.W.live∧IsWr p.bw bx x.W first (nblocks W.δ.size 2 n) 2 n g (nmL x.i) x.cx x.cb)
  (fun x=>[(23,.int .i64 (x.i:Int)),(22,.int .i64 (n:Int)),(4,pv bx),(2,pv bz),(1,pv b3),(0,pv b2)])
  (fun x=>[[(p.bj,row [pv p.bw,.int .i64 0,.slice ph held.length capj] 90)],wrow p.bw p.bd p.ba p.bs,x.cd,x.ca,x.cs,[(b2,row [pv p.bj] 83)],[(b3,row [.int .i64 (n:Int)] 3)],x.cx,x.cb,[(bz,row [.int .i64 0,.int .i64 0,.int .i64 0,.int .i64 0] 26)]])
  (fun x=>n-x.i) ⟨0,W1,cd1,ca1,cs1,cx,cb⟩ ⟨Nat.zero_le _,hW1,hE1,fun x _=>by rw[e1],e2,e4,e5⟩ (body:= ?_)
 rintro⟨i,W2,cd2,ca2,cs2,cx2,cb2⟩ ⟨hi,hW2,hE2,hK2,hg2,hl2,hw2⟩
 dsimp only at hi hW2 hE2 hK2 hg2 hl2 hw2⊢
 have ha2:=hE2.acts.2
 have hs2':W2.δ.size=W.δ.size:=hE2.size
 have hh2:1≤holds W2.δ.size 2:=by rw[hs2'];exact hh
 by_cases hlt:i<n
 rotate_left
 ·obtain rfl:i=n:=by omega
  have hCl:=Close_w p.bw p.bd p.ba p.bs W2 cd2 ca2 cs2 hW2 bx first (nblocks W.δ.size 2 i) 2 i g (nmL i) cx2 cb2 hw2 W.α.gs hg2 W.live hl2 (by omega) hh2
  repeat(first|(refine st ?_;intros)|refine G.draw [] (h:= ?_))
  refine R.call (hct:=hCl) (h:= ?_)
  rintro _ _ ⟨cd4,ca4,cs4,W4,cx4,cb4,f,e,rfl,rfl,hW4,hE4,hK4,hg4,hx4,hr⟩
  try dsimp only[List.cons_append,List.nil_append]
  have hfv:flv f= .agg #[.int .i64 (f.first:Int),.int .i64 (f.blocks:Int),.int .i64 (f.width:Int),.int .i64 (f.count:Int)]:=rfl
  rw[hfv]
  have hD:=DropAny p.bw p.bd p.ba p.bs W4 cd4 ca4 cs4 hW4 bx first (nblocks W.δ.size 2 i) 2 i g W.α.gs W4.live cx4 cb4 (.inr ⟨hg4,.refl _,hx4⟩)
  repeat(first|(refine st ?_;intros)|refine G.draw [] (h:= ?_))
  refine Go.SL.Lv.call (hc:=hD) (h:= ?_)
  rintro _ _ ⟨cd5,ca5,cs5,W5,cx5,cb5,rfl,hW5,hE5,hd5,hg5,hl5⟩
  try dsimp only[List.cons_append,List.nil_append]
  have hE:=((hE2.trans hE4).trans hE5).weak (k':=i+2) (m':=nblocks W.δ.size 2 i) (by omega) (by omega)
  have hK:=hK2.trans hK4
  have hK5:Keep W.live W W5:=fun x hx=>by rw[hd5];exact hK x hx
  (refine Go.SL.Lv.nil (Hr:=[[(p.bj,row [pv p.bw,.int .i64 0,.slice ph held.length capj] 90)],wrow p.bw p.bd p.ba p.bs,cd5,ca5,cs5,[(b2,row [pv p.bj] 83)],[(b3,row [.int .i64 (i:Int)] 3)]]) Tryz.results87 (hR:= ?_);refine hfin W5 cd5 ca5 cs5 f e hW5 hg5 hE hK5 ?_)
  rw[hs2',nmL_len] at hr
  rcases hr with⟨rfl,hl4,hfw,hfc,hfo4⟩|⟨rfl,rfl,hf4,hl4⟩
  ·exact .inl ⟨rfl,hl5.trans hl4,hfw,hfc,by rw[hd5];exact hfo4⟩
  ·exact .inr ⟨rfl,rfl,fault_keep hE2 hf4,hl5.trans hl4⟩
 have hw1:IntKind.wrap .i64 ((i:Int)+1)=((i+1:Nat):Int):=by rw[wrap_i64 (by omega)];omega
 have hPt:=Put_w p.bw p.bd p.ba p.bs W2 cd2 ca2 cs2 hW2 bx first (nblocks W.δ.size 2 n) 2 n g _ cx2 cb2 hw2 W.α.gs hg2 W.live hl2 (by rw[nmL_len];exact hlt) (nmT i) (okT2 (by unfold inI64;omega) (by unfold inI64;omega)) (by omega) hh2
 have htv:tv (nmT i)= .agg #[.int .i64 (i:Int),.int .i64 (i:Int),.int .i64 0,.int .i64 0,.int .i64 0]:=rfl
 rw[htv] at hPt
 repeat(first|(refine st ?_;intros)|refine G.draw [] (h:= ?_))
 refine R.call (hct:=hPt) (h:= ?_)
 rintro _ _ ⟨cd3,ca3,cs3,W3,cx3,cb3,e,rfl,rfl,hW3,hE3,hK3,hc3⟩
 try dsimp only[List.cons_append,List.nil_append]
 have hE13:=hE2.trans hE3
 rcases hc3 with⟨rfl,hg3,hl3,hw3⟩|⟨rfl,hf3,hS3⟩
 ·repeat(first|(refine st ?_;intros)|refine G.draw [] (h:= ?_))
  rw[←nmL_succ] at hw3
  exact Dn.round ⟨i+1,W3,cd3,ca3,cs3,cx3,cb3⟩ ⟨hlt,hW3,hE13.weak (Nat.le_refl _) (by omega),hK2.trans hK3,hg3,hl3,hw3⟩ (by dsimp only;omega)
 ·have hD:=DropAny p.bw p.bd p.ba p.bs W3 cd3 ca3 cs3 hW3 bx first (nblocks W.δ.size 2 n) 2 n g W.α.gs W.live cx3 cb3 hS3
  repeat(first|(refine st ?_;intros)|refine G.draw [] (h:= ?_))
  refine Go.SL.Lv.call (hc:=hD) (h:= ?_)
  rintro _ _ ⟨cd5,ca5,cs5,W5,cx5,cb5,rfl,hW5,hE5,hd5,hg5,hl5⟩
  try dsimp only[List.cons_append,List.nil_append]
  have hE:=(hE13.trans hE5).weak (k':=n+2) (m':=nblocks W.δ.size 2 n) (by omega) (by omega)
  have hK:=hK2.trans hK3
  have hK5:Keep W.live W W5:=fun x hx=>by rw[hd5];exact hK x hx
  (refine Go.SL.Lv.nil (Hr:=[[(p.bj,row [pv p.bw,.int .i64 0,.slice ph held.length capj] 90)],wrow p.bw p.bd p.ba p.bs,cd5,ca5,cs5,[(b2,row [pv p.bj] 83)],[(b3,row [.int .i64 (n:Int)] 3)]]) Tryz.results87 (hR:= ?_);exact hfin W5 cd5 ca5 cs5 ⟨0,0,0,0⟩ 6 hW5 hg5 hE hK5 (.inr ⟨rfl,rfl,fault_keep hE2 hf3,hl5⟩))
theorem numbers_ct {p:Jp} {B m k a s0:Nat} {e:Int} {er:Option Nat} {Gf:List (Fl×List T5)} {C:Chunk} (hR:Rm p B m k a) (hJ:JobS p B k a s0 e er Gf C) (n c:Nat) (hn:n≤2*c) (hcB:c≤B) (hn2:n≤1000) (hk:Gf.length+1≤k) (hst:s0≤9900):
  Ct Tryz.prog 44 [pv p.bj,.int .i64 (n:Int)] [C] fun v H'=>∃f C' e',v=flv f∧H'=[C']∧JobS p B k a (s0+1) e' er ((f,nmL n)::Gf) C'∧FB n c 2 n e' f∧(e'=0→e=0):=by
 have hB:=hR.bs
 have hac:=hR.acts
 have hm:=hR.le
 have h2:s0*30000≤10000*30000:=Nat.mul_le_mul (by omega) (Nat.le_refl _)
 have hnb:=nbS (s:=p.size) (w:=2) (n:=n) (c:=c) hR.ok.size.1 (by omega) (by omega) (.inr ⟨by omega,hn⟩)
 have hRu:=fun b2 b3=>SRun hR hJ 87 inferInstance [pv b2,pv b3] (numsH p.bj b2 b3 n) (n+2) c 1 none (nmL n) (by omega) (by omega) (b:=n) (c:=c) (w:=2) (n:=n) (fun he x y hx=>by
  subst he
  have hS:=nums_step p hR.ok ⟨0,er,Gf,x,y⟩ rfl n (by omega) b2 b3 (n+2) c hnb (hR.fits hJ.len hJ.blk (by omega) _ _ _ _) (Nat.le_refl _) (by dsimp only;omega)
  intro W cd ca cs held ph cap h1 h2
  refine(hS W cd ca cs held ph cap h1 h2).mono ?_
  rintro v H' ⟨f,e,cd',ca',cs',W',Hx',a1,a2,a3,a4,a5,a6⟩
  exact⟨f,e,cd',ca',cs',W',Hx',a1,a2,a3,a4,a5,⟨a6.cnt,Nat.le_trans a6.blk hnb,a6.ok⟩⟩) hcB hk
 simp only[numsH,or_none'] at hRu
 have hflv:∀f:Fl,flv f= .agg #[.int .i64 (f.first:Int),.int .i64 (f.blocks:Int),.int .i64 (f.width:Int),.int .i64 (f.count:Int)]:=fun _=>rfl
 refine Ct.intro Tryz.func44 rfl Tryz.ntmps44 (nle rfl) fun w0=> ?_;dsimp only[argSlots,Nat.reduceAdd]
 repeat(refine st ?_;intros)
 refine R.callX (hct:=hRu _ _) (h:= ?_)
 rintro _ _ ⟨f1,C1,e1,rfl,rfl,hJ1,hF1,hE1⟩
 dsimp only[List.cons_append,List.nil_append]
 rw[hflv]
 constructor
 ·(·(first|(intro _ _ h;cases h;done)|(repeat(first|exact qok_nil|(apply qok_cons;(·first|(intro hc;exact absurd hc (nmem rfl))|(intro _;apply CellPr.mk;(·repeat(first|exact Has.here|apply Has.there));(first|exact rfl|assumption))|(intro _;apply CellsPr.mk;(·repeat(first|exact Has.here|apply Has.there));(first|exact rfl|assumption))))))))
 repeat(refine st ?_;intros)
 (refine Dn.post (Hr:=[C1]) Tryz.results44 (hR:= ?_);exact⟨f1,C1,e1,rfl,rfl,hJ1,hF1,hE1⟩)
theorem JobS.perm {p:Jp} {B k a s0:Nat} {e:Int} {er:Option Nat} {Gf Gf':List (Fl×List T5)} {C:Chunk} (h:JobS p B k a s0 e er Gf C) (hp:Gf.Perm Gf'):JobS p B k a s0 e er Gf' C:=by
 obtain⟨⟨W,cd,ca,cs,held,ph,cap,ch,h1,hW,hV,hJW⟩,hl,hb⟩:=h
 exact⟨⟨W,cd,ca,cs,held,ph,cap,ch,h1,hW,hV,{hJW with ok:=fun h=>⟨(hJW.ok h).1.trans hp,(hJW.ok h).2⟩}⟩,by rw[←hp.length_eq];exact hl,fun x hx=>hb x (hp.mem_iff.2 hx)⟩
theorem JobS.more {p:Jp} {B k a s0 s1:Nat} {e:Int} {er:Option Nat} {Gf:List (Fl×List T5)} {C:Chunk} (h:JobS p B k a s0 e er Gf C) (hs:s0≤s1):JobS p B k a s1 e er Gf C:=by
 have h1:s0*30000≤s1*30000:=Nat.mul_le_mul_right _ hs
 exact⟨h.job.weak rfl rfl rfl (by dsimp only;omega) (by dsimp only;omega),h.len,h.blk⟩
theorem vec3 (b:Nat) (f1 f2 f3:Fl):Vec 26 4 (some ⟨b,0,none⟩) [f1,f2,f3].length 3 (fcells [f1,f2,f3]) [(b,row (fl4 f1++(fl4 f2++fl4 f3)) 26)]:=
 ⟨rfl,.inr ⟨b,[],rfl,by simp[fcells,fl4],by simp[fcells],by simp,by decide⟩⟩
theorem or_assoc' (x y z:Option Nat):(x.or y).or z=x.or (y.or z):=by cases x<;>rfl
theorem hkH_is (t:T5):hkHF t=[hngO t]:=by
 unfold hkHF hngO
 by_cases h1:t.c2=t.c3
 ·by_cases h2:t.c0<t.c1<;>simp[h1,h2]
 ·simp[h1]
def errC (n:Nat) (l:List T5):Option Nat:=if edgesOk n l then none else some 3
def numsC (n:Nat) (l:List T5):List T5:=srt (ltO o1) true ((chkC 0 n).all () l)
theorem chkC_eq (bn n:Nat):∀(l:List T5) (k:Unit),(chkC bn n).all k l=(chkC 0 n).all k l∧(chkC bn n).bad k l=(chkC 0 n).bad k l
 |[],_=>⟨rfl,rfl⟩
 |t::l,k=>by
  obtain⟨h1,h2⟩:=chkC_eq bn n l ()
  simp only[Maker.all,Maker.bad]
  rw[show(chkC bn n).next k t=() from rfl,h1,h2]
  exact⟨rfl,rfl⟩
theorem errC_is (n:Nat) (l:List T5):((chkC 0 n).bad () l).or (if(numsC n l).length≠l.length then some 3 else none)=errC n l:=by
 obtain⟨h1,h2⟩:=chkC_bad (bn:=0) (n:=n) (ts:=l) (k:=())
 unfold errC
 rcases h2 with h2|h2
 ·have h3:=h1.1 h2
  rw[h2]
  have e1:numsC n l=srt (ltO o1) true (l.map fun t=>(⟨t.c0,0,0,0,0⟩:T5)):=by unfold numsC;rw[chkC_all h3]
  have e2:=once_len (l.map fun t=>(⟨t.c0,0,0,0,0⟩:T5))
  rw[←e1,List.length_map,List.pairwise_map] at e2
  show(if _ then _ else _)=_
  by_cases h:(numsC n l).length=l.length
  ·rw[if_neg (by simpa using h),if_pos ⟨h3,e2.1 h⟩]
  ·rw[if_pos h,if_neg fun hh=>h (e2.2 hh.2)]
 ·rw[h2]
  show some 3=_
  rw[if_neg]
  intro h
  rw[h1.2 h.1] at h2
  cases h2
section
variable {p:Jp} {B m k a s0:Nat} {e:Int} {er:Option Nat} {Gf:List (Fl×List T5)} {C:Chunk}
theorem checked_ct (hR:Rm p B m k a) (hJ:JobS p B k a s0 e er Gf C) (f:Fl) (l:List T5) (hl:In0 p (f,l)) (hw:f.width=3) (n q:Nat) (hq:f.count≤q) (hqB:q≤B) (hT:sortT q≤m) (hn:n≤1073741824) (hk:Gf.length+2≤k) (hst:s0≤9900):
  Ct Tryz.prog 43 [pv p.bj,.int .i64 (n:Int),flv f] [C] fun v H'=>∃g C' e',v=flv g∧H'=[C']∧JobS p B k a (s0+3) e' (er.or (errC n l)) ((g,edg0 l)::Gf) C'∧FB q q 3 (edg0 l).length e' g∧(e'=0→e=0):=by
 have hflv:∀f:Fl,flv f= .agg #[.int .i64 (f.first:Int),.int .i64 (f.blocks:Int),.int .i64 (f.width:Int),.int .i64 (f.count:Int)]:=fun _=>rfl
 have hfl4:∀f:Fl,fl4 f=[.int .i64 (f.first:Int),.int .i64 (f.blocks:Int),.int .i64 (f.width:Int),.int .i64 (f.count:Int)]:=fun _=>rfl
 have hto1:tv o1= .agg #[.int .i64 1,.int .i64 0,.int .i64 0,.int .i64 0,.int .i64 0]:=rfl
 have hB:=hR.bs
 obtain⟨hll,hlfit,hlb,hlw1,hlw5⟩:=in0file hl
 dsimp only at hll hlfit hlb hlw1 hlw5
 rw[hw] at hlfit
 have hfb:f.blocks≤q:=by rw[hlb];exact Nat.le_trans (nblocks_le (holds_pos hR.ok.size.1 hlw1 hlw5)) hq
 have hcl:f.count=l.length:=hll.symm
 have hM1:=fun bn b=>SMake1 hR hJ (chkC bn n) () 1 f.count q 1 (by omega) 84 inferInstance [pv bn] _ (chkC_mk bn n) (fun k t _=>chkC_len bn n k t) (by omega) f l (by first|exact .inr (by assumption)|exact .inl (by repeat(first|exact List.mem_cons_self|apply List.mem_cons_of_mem))) (by omega)
  (fun _=>Maker.oks_of (M:=chkC bn n) (I:=fun _=>True) (Q:=okT 3) (fun _ t _ h=>⟨h,trivial⟩) l () trivial hlfit) (fun _=>by have:=Maker.all_len (n:=1) (chkC_len bn n) l ();omega) (.inl (by omega)) hqB (by omega) (by omega) b
 simp only[hfl4,chkC_C,(chkC_eq _ n l ()).1,(chkC_eq _ n l ()).2] at hM1
 rw[hflv f]
 refine Ct.intro Tryz.func43 rfl Tryz.ntmps43 (nle rfl) fun w0=> ?_;dsimp only[argSlots,Nat.reduceAdd]
 repeat(refine st ?_;intros)
 repeat(refine st ?_;intros)
 refine R.callX (hct:=hM1 _ _) (h:= ?_)
 rintro _ _ ⟨f1,C1,e1,k1,rfl,rfl,hJ1,hF1,hE1⟩
 dsimp only[List.cons_append,List.nil_append]
 constructor
 ·(·(first|(intro _ _ h;cases h;done)|(repeat(first|exact qok_nil|(apply qok_cons;(·first|(intro hc;exact absurd hc (nmem rfl))|(intro _;apply CellPr.mk;(·repeat(first|exact Has.here|apply Has.there));(first|exact rfl|assumption))|(intro _;apply CellsPr.mk;(·repeat(first|exact Has.here|apply Has.there));(first|exact rfl|assumption))))))))
 try rw[hflv]
 have hS2:=SSort hR hJ1 f1 _ _ o1 rfl true hF1 .here (by omega) hqB hT (by omega)
 rw[hflv,hto1,show srt (ltO o1) true ((chkC 0 n).all () l)=numsC n l from rfl] at hS2
 repeat(refine st ?_;intros)
 refine R.callX (hct:=hS2) (h:= ?_)
 rintro _ _ ⟨f2,C2,e2,rfl,rfl,hJ2,hF2,hE2⟩
 dsimp only[List.cons_append,List.nil_append]
 constructor
 ·(·(first|(intro _ _ h;cases h;done)|(repeat(first|exact qok_nil|(apply qok_cons;(·first|(intro hc;exact absurd hc (nmem rfl))|(intro _;apply CellPr.mk;(·repeat(first|exact Has.here|apply Has.there));(first|exact rfl|assumption))|(intro _;apply CellsPr.mk;(·repeat(first|exact Has.here|apply Has.there));(first|exact rfl|assumption))))))))
 try rw[hflv]
 have hF2c:=hF2.cnt
 have hlt:=(len_srt (lt:=ltO o1) (once:=true) ((chkC 0 n).all () l))
 have hM5:∀{C4:Chunk} {e4:Int},JobS p B k a (s0+2) e4 (er.or (errC n l)) Gf C4→(e4=0→e=0)→∀b,Ct Tryz.prog 45 [pv p.bj,.int .i64 ((3:Nat):Int),.int .i64 (f.count:Int),.func (.func 86) #[] #[],.slice (some ⟨b,0,none⟩) 1 1] [C4,[(b,row [.int .i64 (f.first:Int),.int .i64 (f.blocks:Int),.int .i64 (f.width:Int),.int .i64 (f.count:Int)] 26)]] (fun v H'=>∃g C' e',v=flv g∧H'=[C',[(b,row [.int .i64 (f.first:Int),.int .i64 (f.blocks:Int),.int .i64 (f.width:Int),.int .i64 (f.count:Int)] 26)]]∧JobS p B k a (s0+3) e' (er.or (errC n l)) ((g,edg0 l)::Gf) C'∧FB f.count q 3 (edg0 l).length e' g∧(e'=0→e4=0)):=by
  intro C4 e4 h4 h4e b
  have h:=SFl1 hR h4 [] ckEF 3 f.count q 1 (by omega) 86 inferInstance [] (okT 3) ckE (fun t _=>by unfold ckEF;split<;>simp) (by omega) f l (by first|exact .inr (by assumption)|exact .inl (by repeat(first|exact List.mem_cons_self|apply List.mem_cons_of_mem))) (by omega) (fun _=>hlfit)
   (fun _=>by have:=flatLe (f:=ckEF) (n:=1) l (fun t _=>by unfold ckEF;split<;>simp);omega) (.inl (by omega)) hqB (by omega) (by omega) b
  simp only[hfl4] at h
  exact h
 by_cases hne:f2.count=f.count
 ·have hJ3:=hJ2.orE (if(numsC n l).length≠l.length then some 3 else none) (fun h=>by
   have h1:=(hF2.ok h).2
   rw[if_neg (by omega)])
  rw[or_assoc',errC_is] at hJ3
  have hFr:=fun b=>SFree hR hJ3 [(f2,numsC n l)] Gf (.cons .here .nil) (by simp) _ 1 _ (vec1 b f2)
  simp only[hfl4,List.map_cons,List.map_nil,List.cons_append,List.nil_append] at hFr
  repeat(refine st ?_;intros)
  refine R.callX (hct:=hFr _) (h:= ?_)
  rintro _ _ ⟨C4,rfl,rfl,hJ4⟩
  dsimp only[List.cons_append,List.nil_append]
  constructor
  ·(·(first|(intro _ _ h;cases h;done)|(repeat(first|exact qok_nil|(apply qok_cons;(·first|(intro hc;exact absurd hc (nmem rfl))|(intro _;apply CellPr.mk;(·repeat(first|exact Has.here|apply Has.there));(first|exact rfl|assumption))|(intro _;apply CellsPr.mk;(·repeat(first|exact Has.here|apply Has.there));(first|exact rfl|assumption))))))))
  repeat(refine st ?_;intros)
  refine R.callX (hct:=hM5 hJ4 (fun h=>(hE1 (hE2 h)).1) _) (h:= ?_)
  rintro _ _ ⟨f5,C5,e5,rfl,rfl,hJ5,hF5,hE5⟩
  dsimp only[List.cons_append,List.nil_append]
  constructor
  ·(·(first|(intro _ _ h;cases h;done)|(repeat(first|exact qok_nil|(apply qok_cons;(·first|(intro hc;exact absurd hc (nmem rfl))|(intro _;apply CellPr.mk;(·repeat(first|exact Has.here|apply Has.there));(first|exact rfl|assumption))|(intro _;apply CellsPr.mk;(·repeat(first|exact Has.here|apply Has.there));(first|exact rfl|assumption))))))))
  try rw[hflv]
  repeat(refine st ?_;intros)
  (refine Dn.post (Hr:=[C5]) Tryz.results43 (hR:= ?_);exact⟨f5,C5,e5,rfl,rfl,hJ5,⟨Nat.le_trans hF5.cnt hq,hF5.blk,hF5.ok⟩,fun h=>(hE1 (hE2 (hE5 h))).1⟩)
 ·have hFl:=SFail hJ2 3 (by decide) (by decide) (if(numsC n l).length≠l.length then some 3 else none) (fun h=>by
   have h1:=(hF2.ok h).2
   rw[if_pos (by omega)])
  rw[or_assoc',errC_is] at hFl
  repeat(refine st ?_;intros)
  refine R.callX (hct:=hFl) (h:= ?_)
  rintro _ _ ⟨e3,C3,rfl,rfl,hJ3,he3⟩
  dsimp only[List.cons_append,List.nil_append]
  constructor
  ·(·(first|(intro _ _ h;cases h;done)|(repeat(first|exact qok_nil|(apply qok_cons;(·first|(intro hc;exact absurd hc (nmem rfl))|(intro _;apply CellPr.mk;(·repeat(first|exact Has.here|apply Has.there));(first|exact rfl|assumption))|(intro _;apply CellsPr.mk;(·repeat(first|exact Has.here|apply Has.there));(first|exact rfl|assumption))))))))
  have hFr:=fun b=>SFree hR hJ3 [(f2,numsC n l)] Gf (.cons .here .nil) (by simp) _ 1 _ (vec1 b f2)
  simp only[hfl4,List.map_cons,List.map_nil,List.cons_append,List.nil_append] at hFr
  repeat(refine st ?_;intros)
  refine R.callX (hct:=hFr _) (h:= ?_)
  rintro _ _ ⟨C4,rfl,rfl,hJ4⟩
  dsimp only[List.cons_append,List.nil_append]
  constructor
  ·(·(first|(intro _ _ h;cases h;done)|(repeat(first|exact qok_nil|(apply qok_cons;(·first|(intro hc;exact absurd hc (nmem rfl))|(intro _;apply CellPr.mk;(·repeat(first|exact Has.here|apply Has.there));(first|exact rfl|assumption))|(intro _;apply CellsPr.mk;(·repeat(first|exact Has.here|apply Has.there));(first|exact rfl|assumption))))))))
  repeat(refine st ?_;intros)
  refine R.callX (hct:=hM5 hJ4 (fun h=>absurd h he3) _) (h:= ?_)
  rintro _ _ ⟨f5,C5,e5,rfl,rfl,hJ5,hF5,hE5⟩
  dsimp only[List.cons_append,List.nil_append]
  constructor
  ·(·(first|(intro _ _ h;cases h;done)|(repeat(first|exact qok_nil|(apply qok_cons;(·first|(intro hc;exact absurd hc (nmem rfl))|(intro _;apply CellPr.mk;(·repeat(first|exact Has.here|apply Has.there));(first|exact rfl|assumption))|(intro _;apply CellsPr.mk;(·repeat(first|exact Has.here|apply Has.there));(first|exact rfl|assumption))))))))
  try rw[hflv]
  repeat(refine st ?_;intros)
  (refine Dn.post (Hr:=[C5]) Tryz.results43 (hR:= ?_);exact⟨f5,C5,e5,rfl,rfl,hJ5,⟨Nat.le_trans hF5.cnt hq,hF5.blk,hF5.ok⟩,fun h=>absurd (hE5 h) he3⟩)
theorem choL_ok {E:List T5} (h:∀t∈E,okT 3 t):∀z∈choL E,okT 3 z:=fun z hz=>by
 obtain⟨t,ht,rfl|rfl⟩:=choL_sub hz
 ·exact h _ ht
 ·have:=okT_cols (h t ht)
  exact okT3 this.2.1 this.1 this.2.2.1
theorem choL_len (E:List T5):(choL E).length≤2*E.length:=by
 unfold choL
 refine Nat.le_trans (fstL_len _ _) ?_
 rw[(perm_srt _).length_eq,bothL_len]
 exact Nat.le_refl _
theorem hook_ct (hR:Rm p B m k a) (f:Fl) (E:List T5) (hJ:JobS p B k a s0 e er ((f,E)::Gf) C) (q:Nat) (hF:FB q q 3 E.length e f) (hok:e=0→EOk E) (hqB:2*q≤B) (hT:sortT q≤m) (hk:Gf.length+6≤k) (hst:s0≤9900):
  Ct Tryz.prog 46 [pv p.bj,flv f] [C] fun v H'=>∃g h C' e',v= .tuple #[flv g,flv h]∧H'=[C']∧JobS p B k a (s0+8) e' er ((h,hngL E)::(g,choL E)::(f,E)::Gf) C'∧FB (2*q) q 3 (choL E).length e' g∧FB (2*q) q 2 (hngL E).length e' h∧(e'=0→e=0):=by
 have hflv:∀f:Fl,flv f= .agg #[.int .i64 (f.first:Int),.int .i64 (f.blocks:Int),.int .i64 (f.width:Int),.int .i64 (f.count:Int)]:=fun _=>rfl
 have hfl4:∀f:Fl,fl4 f=[.int .i64 (f.first:Int),.int .i64 (f.blocks:Int),.int .i64 (f.width:Int),.int .i64 (f.count:Int)]:=fun _=>rfl
 have hto1:tv o1= .agg #[.int .i64 1,.int .i64 0,.int .i64 0,.int .i64 0,.int .i64 0]:=rfl
 have htoB:tv oB= .agg #[.int .i64 2,.int .i64 0,.int .i64 0,.int .i64 0,.int .i64 0]:=rfl
 have htoA:tv oAC= .agg #[.int .i64 1,.int .i64 3,.int .i64 0,.int .i64 0,.int .i64 0]:=rfl
 have hB:=hR.bs
 have hFc:=hF.cnt
 have hFb:=hF.blk
 have hw2:IntKind.wrap .i64 ((2:Int)*(f.count:Int))=((2*f.count:Nat):Int):=by rw[wrap_i64 (by omega)];omega
 have hM1:=fun b=>SFl1 hR hJ [] hkBF 3 (2*f.count) q 2 (by omega) 90 inferInstance [] (okT 3) hkB (fun t _=>Nat.le_refl _) (by omega) f E (by first|exact .inr (by assumption)|exact .inl (by repeat(first|exact List.mem_cons_self|apply List.mem_cons_of_mem))) (by omega) (fun h=>(hok h).ok)
  (fun h=>by rw[show E.flatMap hkBF=bothL E from rfl,bothL_len,(hF.ok h).2];exact Nat.le_refl _) (.inr ⟨by omega,by omega⟩) (by omega) (by simp only[List.length_cons,List.length_nil];omega) (by omega) b
 simp only[hfl4] at hM1
 rw[show E.flatMap hkBF=bothL E from rfl] at hM1
 rw[hflv f]
 refine Ct.intro Tryz.func46 rfl Tryz.ntmps46 (nle rfl) fun w0=> ?_;dsimp only[argSlots,Nat.reduceAdd]
 repeat(first|(refine st ?_;intros)|refine G.draw (id:=11) [(2,.eff [1])] (h:= ?_))
 repeat(first|(refine st ?_;intros)|refine G.draw (id:=11) [(2,.eff [1])] (h:= ?_))
 refine R.callX (hct:=hM1 _) (h:= ?_)
 rintro _ _ ⟨f1,C1,e1,rfl,rfl,hJ1,hF1,hE1⟩
 dsimp only[List.cons_append,List.nil_append]
 constructor
 ·(·(first|(intro _ _ h;cases h;done)|(repeat(first|exact qok_nil|(apply qok_cons;(·first|(intro hc;exact absurd hc (nmem rfl))|(intro _;apply CellPr.mk;(·repeat(first|exact Has.here|apply Has.there));(first|exact rfl|assumption))|(intro _;apply CellsPr.mk;(·repeat(first|exact Has.here|apply Has.there));(first|exact rfl|assumption))))))))
 try rw[hflv]
 have hS2:=SSort hR hJ1 f1 _ _ oAC rfl false hF1 .here (by omega) (by omega) hT (by omega)
 rw[hflv,htoA] at hS2
 repeat(first|(refine st ?_;intros)|refine G.draw (id:=11) [(2,.eff [1])] (h:= ?_))
 refine R.callX (hct:=hS2) (h:= ?_)
 rintro _ _ ⟨f2,C2,e2,rfl,rfl,hJ2,hF2,hE2⟩
 dsimp only[List.cons_append,List.nil_append]
 constructor
 ·(·(first|(intro _ _ h;cases h;done)|(repeat(first|exact qok_nil|(apply qok_cons;(·first|(intro hc;exact absurd hc (nmem rfl))|(intro _;apply CellPr.mk;(·repeat(first|exact Has.here|apply Has.there));(first|exact rfl|assumption))|(intro _;apply CellsPr.mk;(·repeat(first|exact Has.here|apply Has.there));(first|exact rfl|assumption))))))))
 try rw[hflv]
 have hF2c:=hF2.cnt
 have hF2b:=hF2.blk
 have he2:e2=0→EOk E:=fun h=>hok (hE1 (hE2 h))
 have hM3:=fun bl b=>SMake1n hR hJ2 (fstM bl) (fun _ _=>rfl) (-1) 3 f2.count q 1 (by omega) 91 inferInstance [pv bl] _ (fst_mk bl) (fun k t _=>by show(if _ then _ else _:List T5).length≤1;split<;>simp) (by omega) f2 _ (by first|exact .inr (by assumption)|exact .inl (by repeat(first|exact List.mem_cons_self|apply List.mem_cons_of_mem))) (by omega)
  (fun h=>Maker.oks_of (M:=fstM bl) (I:=fun _=>True) (Q:=okT 3) (fun _ t _ h=>⟨h,trivial⟩) _ (-1) trivial (fun t ht=>by
   obtain⟨u,hu,rfl|rfl⟩:=bothL_mem.1 (srt_sub ht)
   ·exact(he2 h).ok _ hu
   ·have:=okT_cols ((he2 h).ok u hu);exact okT3 this.2.1 this.1 this.2.2.1))
  (fun h=>by rw[fstM_all];have:=fstL_len (-1) (srt (ltO oAC) false (bothL E));have:=(hF2.ok h).2;omega) (.inr ⟨by omega,by omega⟩) (by omega) (by simp only[List.length_cons,List.length_nil];omega) (by omega) b
 simp only[hfl4,fstM_C,fstM_all] at hM3
 rw[show fstL (-1) (srt (ltO oAC) false (bothL E))=choL E from rfl] at hM3
 repeat(first|(refine st ?_;intros)|refine G.draw (id:=11) [(2,.eff [1])] (h:= ?_))
 refine R.callX (hct:=hM3 _ _) (h:= ?_)
 rintro _ _ ⟨f3,C3,e3,k3,rfl,rfl,hJ3,hF3,hE3⟩
 dsimp only[List.cons_append,List.nil_append]
 constructor
 ·(·(first|(intro _ _ h;cases h;done)|(repeat(first|exact qok_nil|(apply qok_cons;(·first|(intro hc;exact absurd hc (nmem rfl))|(intro _;apply CellPr.mk;(·repeat(first|exact Has.here|apply Has.there));(first|exact rfl|assumption))|(intro _;apply CellsPr.mk;(·repeat(first|exact Has.here|apply Has.there));(first|exact rfl|assumption))))))))
 try rw[hflv]
 have hF3c:=hF3.cnt
 have hF3b:=hF3.blk
 have he3:e3=0→EOk E:=fun h=>he2 (hE3 h).1
 have hM4:=fun b=>SFl1 hR hJ3 [] hkSF 3 f3.count q 1 (by omega) 92 inferInstance [] (okT 3) hkS (fun t _=>Nat.le_refl _) (by omega) f3 (choL E) (by first|exact .inr (by assumption)|exact .inl (by repeat(first|exact List.mem_cons_self|apply List.mem_cons_of_mem))) (by omega) (fun h=>choL_ok (he3 h).ok)
  (fun h=>by rw[flat_ones (f:=hkSF) (g:=fun t=>t) (fun _=>rfl),List.length_map,(hF3.ok h).2];exact Nat.le_refl _) (.inr ⟨by omega,by omega⟩) (by omega) (by simp only[List.length_cons,List.length_nil];omega) (by omega) b
 simp only[hfl4] at hM4
 rw[flat_ones (f:=hkSF) (g:=fun t=>t) (fun _=>rfl),map_id_t] at hM4
 repeat(first|(refine st ?_;intros)|refine G.draw (id:=11) [(2,.eff [1])] (h:= ?_))
 refine R.callX (hct:=hM4 _) (h:= ?_)
 rintro _ _ ⟨f4,C4,e4,rfl,rfl,hJ4,hF4,hE4⟩
 dsimp only[List.cons_append,List.nil_append]
 constructor
 ·(·(first|(intro _ _ h;cases h;done)|(repeat(first|exact qok_nil|(apply qok_cons;(·first|(intro hc;exact absurd hc (nmem rfl))|(intro _;apply CellPr.mk;(·repeat(first|exact Has.here|apply Has.there));(first|exact rfl|assumption))|(intro _;apply CellsPr.mk;(·repeat(first|exact Has.here|apply Has.there));(first|exact rfl|assumption))))))))
 try rw[hflv]
 have hS5:=SSort hR hJ4 f4 _ _ oB rfl false hF4 .here (by omega) (by omega) hT (by omega)
 rw[hflv,htoB] at hS5
 repeat(first|(refine st ?_;intros)|refine G.draw (id:=11) [(2,.eff [1])] (h:= ?_))
 refine R.callX (hct:=hS5) (h:= ?_)
 rintro _ _ ⟨f5,C5,e5,rfl,rfl,hJ5,hF5,hE5⟩
 dsimp only[List.cons_append,List.nil_append]
 constructor
 ·(·(first|(intro _ _ h;cases h;done)|(repeat(first|exact qok_nil|(apply qok_cons;(·first|(intro hc;exact absurd hc (nmem rfl))|(intro _;apply CellPr.mk;(·repeat(first|exact Has.here|apply Has.there));(first|exact rfl|assumption))|(intro _;apply CellsPr.mk;(·repeat(first|exact Has.here|apply Has.there));(first|exact rfl|assumption))))))))
 try rw[hflv]
 have hF5c:=hF5.cnt
 have hF5b:=hF5.blk
 have he5:e5=0→e3=0:=fun h=>hE4 (hE5 h)
 have hR6:=fun b8 b4 b5=>SLookRun hR hJ5 93 inferInstance f5 f3 (srt (ltO oB) false (choL E)) (choL E) 1 2 3 4 (2*q) (by first|exact .inr (by assumption)|exact .inl (by repeat(first|exact List.mem_cons_self|apply List.mem_cons_of_mem))) (by first|exact .inr (by assumption)|exact .inl (by repeat(first|exact List.mem_cons_self|apply List.mem_cons_of_mem))) (lkHook p f5 f3 b8 b4 b5) hF5 (hF3.mono he5) (by omega) (by omega) (by omega) (by omega) (by omega) (by omega)
  (fun _=>srt_oB _) (fun h=>(he3 (he5 h)).cho.1) (.inl (by omega)) hqB (by simp only[List.length_cons,List.length_nil];omega) (by omega)
 simp only[lookH,hfl4] at hR6
 repeat(first|(refine st ?_;intros)|refine G.draw (id:=11) [(2,.eff [1])] (h:= ?_))
 refine R.callX (hct:=hR6 _ _ _) (h:= ?_)
 rintro _ _ ⟨f6,C6,e6,rfl,rfl,hJ6,hF6,hE6⟩
 dsimp only[List.cons_append,List.nil_append]
 constructor
 ·(·(first|(intro _ _ h;cases h;done)|(repeat(first|exact qok_nil|(apply qok_cons;(·first|(intro hc;exact absurd hc (nmem rfl))|(intro _;apply CellPr.mk;(·repeat(first|exact Has.here|apply Has.there));(first|exact rfl|assumption))|(intro _;apply CellsPr.mk;(·repeat(first|exact Has.here|apply Has.there));(first|exact rfl|assumption))))))))
 try rw[hflv]
 rw[show(srt (ltO oB) false (choL E)).map (lookF (choL E) 1 2 3)=othL E from rfl] at hJ6
 have hF6c:=hF6.cnt
 have hF6b:=hF6.blk
 have he6:e6=0→EOk E:=fun h=>he3 (he5 (hE6 h))
 have hol:(othL E).length=(choL E).length:=by unfold othL;rw[List.length_map,(perm_srt _).length_eq]
 have hM7:=fun b=>SFl1 hR hJ6 [] hkHF 2 f3.count q 1 (by omega) 94 inferInstance [] (okT 4) hkH (fun t _=>by unfold hkHF;split<;>(try split)<;>simp) (by omega) f6 (othL E) (by first|exact .inr (by assumption)|exact .inl (by repeat(first|exact List.mem_cons_self|apply List.mem_cons_of_mem))) (by omega)
  (fun h z hz=>by
   unfold othL at hz
   obtain⟨u,hu,rfl⟩:=List.mem_map.1 hz
   exact lookF_ok (choL_ok (he6 h).ok) 1 2 3 (by omega) (choL_ok (he6 h).ok u (srt_sub hu)))
  (fun h=>by rw[flat_ones (g:=hngO) hkH_is,List.length_map,hol,(hF3.ok (he5 (hE6 h))).2];exact Nat.le_refl _) (.inr ⟨by omega,by omega⟩) (by omega) (by simp only[List.length_cons,List.length_nil];omega) (by omega) b
 simp only[hfl4] at hM7
 rw[flat_ones (g:=hngO) hkH_is] at hM7
 repeat(first|(refine st ?_;intros)|refine G.draw (id:=11) [(2,.eff [1])] (h:= ?_))
 refine R.callX (hct:=hM7 _) (h:= ?_)
 rintro _ _ ⟨f7,C7,e7,rfl,rfl,hJ7,hF7,hE7⟩
 dsimp only[List.cons_append,List.nil_append]
 constructor
 ·(·(first|(intro _ _ h;cases h;done)|(repeat(first|exact qok_nil|(apply qok_cons;(·first|(intro hc;exact absurd hc (nmem rfl))|(intro _;apply CellPr.mk;(·repeat(first|exact Has.here|apply Has.there));(first|exact rfl|assumption))|(intro _;apply CellsPr.mk;(·repeat(first|exact Has.here|apply Has.there));(first|exact rfl|assumption))))))))
 try rw[hflv]
 have hS8:=SSort hR hJ7 f7 _ _ o1 rfl false hF7 .here (by omega) (by omega) hT (by omega)
 rw[hflv,hto1,show srt (ltO o1) false ((othL E).map hngO)=hngL E from rfl] at hS8
 repeat(first|(refine st ?_;intros)|refine G.draw (id:=11) [(2,.eff [1])] (h:= ?_))
 refine R.callX (hct:=hS8) (h:= ?_)
 rintro _ _ ⟨f8,C8,e8,rfl,rfl,hJ8,hF8,hE8⟩
 dsimp only[List.cons_append,List.nil_append]
 constructor
 ·(·(first|(intro _ _ h;cases h;done)|(repeat(first|exact qok_nil|(apply qok_cons;(·first|(intro hc;exact absurd hc (nmem rfl))|(intro _;apply CellPr.mk;(·repeat(first|exact Has.here|apply Has.there));(first|exact rfl|assumption))|(intro _;apply CellsPr.mk;(·repeat(first|exact Has.here|apply Has.there));(first|exact rfl|assumption))))))))
 try rw[hflv]
 have hFr:=fun b=>SFree hR hJ8 [(f2,srt (ltO oAC) false (bothL E)),(f5,srt (ltO oB) false (choL E)),(f6,othL E)] ((f8,hngL E)::(f3,choL E)::(f,E)::Gf) (.cons (.there (.there (.there (.there .here)))) (.cons (.there (.there .here)) (.cons (.there .here) .nil))) (by simp) _ 3 _ (vec3 b f2 f5 f6)
 simp only[hfl4,List.map_cons,List.map_nil,List.cons_append,List.nil_append] at hFr
 repeat(first|(refine st ?_;intros)|refine G.draw (id:=11) [(2,.eff [1])] (h:= ?_))
 refine R.callX (hct:=hFr _) (h:= ?_)
 rintro _ _ ⟨C9,rfl,rfl,hJ9⟩
 dsimp only[List.cons_append,List.nil_append]
 constructor
 ·(·(first|(intro _ _ h;cases h;done)|(repeat(first|exact qok_nil|(apply qok_cons;(·first|(intro hc;exact absurd hc (nmem rfl))|(intro _;apply CellPr.mk;(·repeat(first|exact Has.here|apply Has.there));(first|exact rfl|assumption))|(intro _;apply CellsPr.mk;(·repeat(first|exact Has.here|apply Has.there));(first|exact rfl|assumption))))))))
 repeat(first|(refine st ?_;intros)|refine G.draw (id:=11) [(2,.eff [1])] (h:= ?_))
 have he83:e8=0→e3=0:=fun h=>he5 (hE6 (hE7 (hE8 h)))
 (refine Dn.post (Hr:=[C9]) Tryz.results46 (hR:= ?_);exact⟨f3,f8,C9,e8,rfl,rfl,hJ9,⟨by omega,hF3b,fun h=>hF3.ok (he83 h)⟩,⟨by have:=hF8.cnt;omega,hF8.blk,hF8.ok⟩,fun h=>hE1 (hE2 (hE3 (he83 h)).1)⟩)
end
end Go.Proofs.YtpckicjfigmjkaaGreat
namespace Go.SL
variable {P:Program} {ops:Array Oper} {Q:Exit→Act→World→Prop} {cls:Nat→Oper→Cls} {w0:World} {S:List Nat} {n:Nat} {l:List (Nat×Oper)} {L:Slots} {D:List Deferred} {H:Hp} {qs:List Rd} {k:Nat}
theorem close_perm {C c1 c2:Chunk} {Ha Hb:Hp} (hp:C.Perm (c1++c2)) (h1:Take c1 H Ha) (h2:Take c2 Ha Hb):H.flatten.Perm ((C::Hb).flatten):=by
 refine(join_perm h1 h2).trans ?_
 simp only[List.flatten_cons]
 exact hp.symm.append_right _
theorem R1.close {o:Oper} {C c1 c2:Chunk} {Ha Hb:Hp} (hp:C.Perm (c1++c2)) (h1:Take c1 H Ha) (h2:Take c2 Ha Hb) (h:R1 P ops Q cls w0 S n k o l L D (C::Hb) qs):R1 P ops Q cls w0 S n k o l L D H qs:=R1.recut (close_perm hp h1 h2) h
theorem Dn.close {e:Exit} {C c1 c2:Chunk} {Ha Hb:Hp} (hp:C.Perm (c1++c2)) (h1:Take c1 H Ha) (h2:Take c2 Ha Hb) (h:Dn Q w0 S n e L D (C::Hb)):Dn Q w0 S n e L D H:=Dn.recut (close_perm hp h1 h2) h
end Go.SL
namespace Go.Proofs.YtpckicjfigmjkaaGreat
open Go.SL Go.Spc Go.Tup Go.Srt
theorem JobS.row {p:Jp} {B k a s0:Nat} {e:Int} {er:Option Nat} {Gf:List (Fl×List T5)} {C:Chunk} (h:JobS p B k a s0 e er Gf C):∃ph nh cap rest,C.Perm ([(p.bj,row [pv p.bw,.int .i64 e,.slice ph nh cap] 90)]++rest):=by
 obtain⟨⟨W,cd,ca,cs,held,ph,cap,ch,rfl,_⟩,_⟩:=h
 refine⟨ph,held.length,cap,[wrow p.bw p.bd p.ba p.bs,cd,ca,cs,ch].flatten,?_⟩
 unfold jobC jrow
 refine permC fun z=> ?_
 simp only[List.flatten_cons,List.flatten_nil,List.append_nil,List.flatten_append,List.count_append];omega
def fbox (b:Nat) (f:Fl):Chunk:=[(b,row [.int .i64 (f.first:Int),.int .i64 (f.blocks:Int),.int .i64 (f.width:Int),.int .i64 (f.count:Int)] 26)]
end Go.Proofs.YtpckicjfigmjkaaGreat
