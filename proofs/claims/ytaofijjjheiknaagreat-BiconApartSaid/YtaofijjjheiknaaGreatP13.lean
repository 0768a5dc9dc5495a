/-
  Parts of the proof, put together (13). No condition.
-/
import Derived.Test.YtaofijjjheiknaaGreatP12
set_option linter.unusedVariables false
set_option linter.unusedSimpArgs false
set_option linter.unnecessarySimpa false
set_option maxHeartbeats 4000000
open Bool renaming false_eq_true→CI
open Classical renaming byContradiction→BS
open Go.IntKind renaming wrap→AL
open Go.Proofs.Tryz renaming prog→AC,results197→DU
open Int renaming toNat_of_nonneg→DM
open List renaming cons_append→AA,nil_append→AB,mem_cons_self→AE,mem_cons_of_mem→AF,getElem?_eq_getElem→AG,length_append→AH,length_cons→AJ,getElem?_eq_some_iff→AK,mem_cons→AN,mem_map→AO,append_nil→AP,length_map→AQ,mem_append→AR,length_nil→AS,flatten_cons→AW,mem_singleton→AX,map_cons→AZ,mem_of_getElem?→A0,flatten_append→A3,flatten_nil→A4,pairwise_map→A6,count_append→A8,mem_range→A9,range→BA,pairwise_iff_getElem→BB,flatMap_cons→BC,getElem?_map→BH,pairwise_cons→BI,mem_filter→BV,mem_flatMap→BZ,mem_iff_getElem→B0,map_map→CH,getElem?_range→CK,map_nil→CL,map_congr_left→CN,length_singleton→CQ,mem_iff_getElem?→DA,getElem?_zip_eq_some→DR
open List.Pairwise renaming nil→DJ
open List.Perm renaming of_eq→DF
open Nat renaming reduceAdd→AD,le_refl→AI,zero_le→AT,le_trans→A7,lt_trichotomy→B5
open Option.some renaming injEq→BG
open Go.Proofs.Tryz
open Go.Value renaming int→Z9
open Go.IntKind renaming i64→Z8
namespace Go.Proofs.YtaofijjjheiknaaGreat
open Go.SL Go.Tup Go.Srt Go.Gr
theorem lG {es:List IE} {fl:List Bool} {u v:Nat} (h:Adj es fl u v):Adj es fl v u:=
 let ⟨i,e,h1,h2,h3⟩:=h;⟨i,e,h1,h2,h3.symm⟩
structure EqX (N:Nat) (es:List IE) (ls:List (List Int)) (fl:List Bool) (l:List T5) (E:Nat→Nat→Prop):Prop where
 refl:∀a,E a a
 symm:∀{a c},E a c→E c a
 trans:∀{a c d},E a c→E c d→E a d
 aux:∀{u v},u<N→v<N→AuxP N es fl l u v→E u v
 sg:∀{u v p q:Nat},u<N→v<N→E u v→(at5 l u).c1=(p:Int)→(at5 l v).c1=(q:Int)→∀i j,Cu es i u p→Cu es j v q→Sg N es ls i j
theorem sib {N:Nat} {es:List IE} {lab:List Int} {b:List T5} {tl:List (Nat×Fo)} {l:List T5} (hT:Ao N es lab b tl l) {d e w:Nat} (hd:d<N) (he:e<N) (ab:(at5 l d).c1=(w:Int)) (aa:(at5 l e).c1=(w:Int)) (hw:w<N):∀(q:Nat) {y:Nat},y<N→(at5 l y).c2≤(q:Int)→Sub l d y→Sub l e y→d=e:=by
 have key:∀{d e:Nat},d<N→e<N→(at5 l d).c1=(w:Int)→(at5 l e).c1=(w:Int)→Sub l d e→d=e:=by
  intro d e hd he ab aa h;rcases(Ft hT hd he hw aa).1 h with h|h
  ·exact h
  ·exfalso;rcases hT.par hd with⟨h1,_⟩|⟨p,_,h1,_,h2,_⟩
   ·omega
   ·obtain rfl:p=w:=by omega
    have:=h.1;omega
 intro q;induction q with
 |zero=>
  intro y hy hq h1 h2;rcases hT.par hy with⟨h,_⟩|⟨p,hp,h,_,h5,_⟩
  ·rw[(Kw hT hd hy h).1 h1,(Kw hT he hy h).1 h2]
  ·have:=hT.bnd hp;omega
 |succ q ih=>
  intro y hy hq h1 h2;rcases hT.par hy with⟨h,_⟩|⟨p,hp,h,_,h5,_⟩
  ·rw[(Kw hT hd hy h).1 h1,(Kw hT he hy h).1 h2]
  ·rcases(Ft hT hd hy hp h).1 h1 with rfl|h3
   ·exact(key he hy aa ab h2).symm
   ·rcases(Ft hT he hy hp h).1 h2 with rfl|h4
    ·exact key hd hy ab aa h1
    ·exact ih hp oM h3 h4
namespace BcX
variable {N:Nat} {es:List IE} {ls:List (List Int)} {lab:List Int} {fl:List Bool} {r b:List T5} {tl:List (Nat×Fo)} {l:List T5} (X:BcX N es ls lab fl r b tl l) {E:Nat→Nat→Prop} (Q:EqX N es ls fl l E)
include X Q
theorem climbE {c y:Nat} (hc:c<N) (hy:y<N) (hr:(at5 l c).c1≠-1) (hn:¬Sub l c y):∀(q:Nat) {v:Nat},v<N→(at5 l v).c2≤(q:Int)→Sub l c v→(∃a,a<N∧Sub l v a∧Adj es fl a y)→E v c:=by
 have hT:=X.tab;intro q;induction q with
 |zero=>
  intro v hv hq hs _;rcases hT.par hv with⟨h,_⟩|⟨p,hp,h,_,h5,_⟩
  ·rw[(Kw hT hc hv h).1 hs];exact Q.refl _
  ·have:=hT.bnd hp;omega
 |succ q ih=>
  intro v hv hq hs aa;rcases hT.par hv with⟨h,_⟩|⟨p,hp,h,_,h5,_⟩
  ·rw[(Kw hT hc hv h).1 hs];exact Q.refl _
  ·rcases(Ft hT hc hv hp h).1 hs with rfl|h6
   ·exact Q.refl _
   ·obtain⟨a,ha,h7,h8⟩:=aa;have ab:(at5 l p).c1≠-1:=fun h9=>by rw[(Kw hT hc hp h9).1 h6] at hr;exact hr h9
    exact Q.trans (Q.aux hv hp (.inr ⟨h,ab,a,y,ha,hy,h7,h8,fun h9=>hn (Sub.tr hT hc hp h6 h9)⟩)) (ih hp oM h6 ⟨a,ha,cD hT hv h h7,h8⟩)
theorem reach {w c x y:Nat} (hw:w<N) (hc:c<N) (au:(at5 l c).c1=(w:Int)) (hx:x<N) (hs:Sub l c x) (h:Cn (gE es) (Act es w) x y):y<N∧((∃d,d<N∧(at5 l d).c1=(w:Int)∧Sub l d y∧E c d)∨(¬Sub l w y∧(at5 l w).c1≠-1∧E c w)):=by
 have hT:=X.tab;have ae:∀{z:Nat},z<N→(at5 l z).c2≤((at5 l z).c2.toNat:Int):=fun hz=>by have:=hT.bnd hz;omega
 have ai:∀{d:Nat},d<N→(at5 l d).c1=(w:Int)→Sub l w d:=fun hd h=>(Ft hT hw hd hw h).2 (.inr (Hs hT hw));induction h with
 |refl=>exact⟨hx,.inl ⟨c,hc,au,hs,Q.refl _⟩⟩
 | @step y z _ hj ih=>
  obtain⟨i,hi,he⟩:=hj;have ha:=(Fh X.inn).1 hi;have hE:Cu es i y z:=⟨ha.1,he⟩
  obtain⟨hy,hz⟩:=X.end_lt hE;have az:y≠w:=by rcases he with⟨a,c⟩|⟨a,c⟩<;>omega
  have ao:z≠w:=by rcases he with⟨a,c⟩|⟨a,c⟩<;>omega
  obtain⟨_,ih⟩:=ih;refine⟨hz,?_⟩;rcases ih with⟨d,hd,ak,ad,am⟩|⟨an,aj,al⟩
  ·by_cases ag:Sub l d z
   ·exact .inl ⟨d,hd,ak,ag,am⟩
   have h1:(at5 l y).c1≠(z:Int):=fun h=>by
    rcases(Ft hT hd hy hz h).1 ad with rfl|h2
    ·omega
    ·exact ag h2
   have h2:(at5 l z).c1≠(y:Int):=fun h=>ag ((Ft hT hd hz hy h).2 (.inr ad));have aa:=X.adj_of hE h1 h2;have av:=X.climbE Q hd hz oM ag _ hy (ae hy) ad ⟨y,hy,Hs hT hy,aa⟩;by_cases ab:Sub l w z
   ·obtain⟨e,he,ah,ac⟩:=kY hT hw _ hz (ae hz) ab ao;have aq:¬Sub l e y:=fun h=>ag (by rw[sib hT hd he ak ah hw _ hy (ae hy) ad h];exact ac);have aw:=X.climbE Q he hy oM aq _ hz (ae hz) ac ⟨z,hz,Hs hT hz,lG aa⟩;have ax:AuxP N es fl l y z:= .inl ⟨aa,fun h=>ag (Sub.tr hT hd hy ad h),fun h=>aq (Sub.tr hT he hz ac h)⟩;exact .inl ⟨e,he,ah,ac,Q.trans am (Q.trans (Q.symm av) (Q.trans (Q.aux hy hz ax) aw))⟩
   ·have aj:(at5 l w).c1≠-1:=fun h=>by refine ab (lB X.parts hT hw hz h ?_);rw[←X.end_lab hE];exact(lA X.parts hT _ hw hy (ae hy) (Sub.tr hT hw hd (ai hd ak) ad)).symm
    exact .inr ⟨ab,aj,Q.trans am (Q.aux hd hw (.inr ⟨ak,aj,y,z,hy,hz,ad,aa,ab⟩))⟩
  ·by_cases ab:Sub l w z
   ·obtain⟨e,he,ah,ac⟩:=kY hT hw _ hz (ae hz) ab ao;have ay:¬Sub l e y:=fun h=>an (Sub.tr hT hw he (ai he ah) h);have h1:(at5 l y).c1≠(z:Int):=fun h=>an ((Ft hT hw hy hz h).2 (.inr ab));have h2:(at5 l z).c1≠(y:Int):=fun h=>by
     rcases(Ft hT he hz hy h).1 ac with rfl|h3
     ·omega
     ·exact ay h3
    have aa:=X.adj_of hE.symm h2 h1;exact .inl ⟨e,he,ah,ac,Q.trans al (Q.symm (Q.aux he hw (.inr ⟨ah,aj,z,y,hz,hy,ac,aa,an⟩)))⟩
   ·exact .inr ⟨ab,aj,al⟩
theorem one_up {v w i f y z:Nat} (hv:v<N) (ab:(at5 l v).c1=(w:Int)) (hi:Cu es i v w) (hf:Cu es f y z) (ad:y≠z) (aa:y≠w) (ac:¬Sub l w y) (hs:Sg N es ls i f):E v w∧(at5 l w).c1≠-1:=by
 have hT:=X.tab;obtain⟨h1,h2,hw⟩:=X.par_not hv ab;obtain⟨hy,hz⟩:=X.end_lt hf;have h3:=hs w hw;rw[Lt X.ap X.inn rfl hw hi.1 (X.end_ne hi fun h=>h2 h.symm) (X.end_at hi).1 (fun h=>h2 h.symm),Lt X.ap X.inn rfl hw hf.1 (X.end_ne hf ad) (X.end_at hf).1 aa] at h3;have h4:=(X.ap.lab_eq hw hv hy (fun h=>h2 h.symm) aa).1 h3;obtain⟨_,⟨d,hd,ae,ag,_⟩|⟨_,h5,h6⟩⟩:=X.reach Q hw hv ab hv (Hs hT hv) h4
 ·exact absurd (Sub.tr hT hw hd ((Ft hT hw hd hw ae).2 (.inr (Hs hT hw))) ag) ac
 ·exact⟨h6,h5⟩
theorem complete:∀(q:Nat) {v u w z i j:Nat},v<N→u<N→(at5 l v).c2+(at5 l u).c2≤(q:Int)→(at5 l v).c1=(w:Int)→(at5 l u).c1=(z:Int)→Cu es i v w→Cu es j u z→Sg N es ls i j→E v u:=by
 have hT:=X.tab;have ad:∀{v u w z i j:Nat},v<N→u<N→(at5 l v).c1=(w:Int)→(at5 l u).c1=(z:Int)→Cu es i v w→Cu es j u z→Sg N es ls i j→v≠u→(Sub l u v∨¬Sub l w u)→E v w∧((at5 l w).c1≠-1):=by
  intro v u w z i j hv hu aa ab hi hj hs ae ag;obtain⟨v1,v2,hw⟩:=X.par_not hv aa;obtain⟨u1,u2,hz⟩:=X.par_not hu ab;rcases ag with h|h
  ·have h3:Sub l u w:=((Ft hT hu hv hw aa).1 h).resolve_left fun h=>ae h.symm;rcases hT.par hu with⟨h4,_⟩|⟨z',_,h4,_,h5,_⟩
   ·omega
   ·obtain rfl:z'=z:=by omega
    have h6:=h3.1;exact X.one_up Q hv aa hi hj.symm u2 (fun h=>by subst h;omega) (fun h=>by have:=h.1;omega) hs
  ·exact X.one_up Q hv aa hi hj (fun h=>u2 h.symm) (fun hq=>h (by rw[hq];exact Hs hT hw)) h hs
 intro q;induction q with
 |zero=>
  intro v u w z i j hv hu hq aa ab hi hj hs;have h1:=hT.bnd hv;have h2:=hT.bnd hu;rw[hT.num_inj hv hu oM];exact Q.refl _
 |succ q ih=>
  intro v u w z i j hv hu hq aa ab hi hj hs;by_cases ae:v=u
  ·rw[ae];exact Q.refl _
  obtain⟨v1,v2,hw⟩:=X.par_not hv aa;obtain⟨u1,u2,hz⟩:=X.par_not hu ab;have an:(at5 l w).c2<(at5 l v).c2:=by
   rcases hT.par hv with⟨h,_⟩|⟨p,_,h,_,h5,_⟩
   ·omega
   ·obtain rfl:p=w:=by omega
    exact h5
  have ao:(at5 l z).c2<(at5 l u).c2:=by
   rcases hT.par hu with⟨h,_⟩|⟨p,_,h,_,h5,_⟩
   ·omega
   ·obtain rfl:p=z:=by omega
    exact h5
  have ac:∀{a:Nat},a<N→(at5 l a).c1≠-1→∃p:Nat,(at5 l a).c1=(p:Int):=fun ha h=>by
   rcases hT.par ha with⟨h1,_⟩|⟨p,_,h1,_⟩
   ·exact absurd h1 h
   ·exact⟨p,h1⟩
  by_cases hL:Sub l u v∨¬Sub l w u
  ·obtain⟨e1,e2⟩:=ad hv hu aa ab hi hj hs ae hL;obtain⟨p,hp⟩:=ac hw e2;obtain⟨k,hk⟩:=X.par_ed hw hp;have ah:=Q.sg hv hw e1 aa hp i k hi hk;exact Q.trans e1 (ih hw hu oM hp ab hk hj fun y hy=>(ah y hy).symm.trans (hs y hy))
  by_cases hR:Sub l v u∨¬Sub l z v
  ·obtain⟨e1,e2⟩:=ad hu hv ab aa hj hi (fun y hy=>(hs y hy).symm) (fun h=>ae h.symm) hR;obtain⟨p,hp⟩:=ac hz e2;obtain⟨k,hk⟩:=X.par_ed hz hp;have ah:=Q.sg hu hz e1 ab hp j k hj hk;exact Q.trans (ih hv hz oM aa hp hi hk fun y hy=>(hs y hy).trans (ah y hy)) (Q.symm e1)
  have l1:¬Sub l u v:=fun h=>hL (.inl h);have l2:Sub l w u:=BS fun h=>hL (.inr h);have r1:¬Sub l v u:=fun h=>hR (.inl h);have r2:Sub l z v:=BS fun h=>hR (.inr h);have ai:w≠u:=fun h=>l1 (by rw[←h];exact(Ft hT hw hv hw aa).2 (.inr (Hs hT hw)));have aj:z≠v:=fun h=>r1 (by rw[←h];exact(Ft hT hz hu hz ab).2 (.inr (Hs hT hz)));have h1:Sub l w z:=((Ft hT hw hu hz ab).1 l2).resolve_left ai;have h2:Sub l z w:=((Ft hT hz hv hw aa).1 r2).resolve_left aj;obtain rfl:w=z:=hT.num_inj hw hz (by have:=h1.1;have:=h2.1;omega);have h3:=hs w hw;rw[Lt X.ap X.inn rfl hw hi.1 (X.end_ne hi fun h=>v2 h.symm) (X.end_at hi).1 (fun h=>v2 h.symm),Lt X.ap X.inn rfl hw hj.1 (X.end_ne hj fun h=>u2 h.symm) (X.end_at hj).1 (fun h=>u2 h.symm)] at h3;have h4:=(X.ap.lab_eq hw hv hu (fun h=>v2 h.symm) (fun h=>u2 h.symm)).1 h3;obtain⟨_,⟨d,hd,ak,al,am⟩|⟨h5,_⟩⟩:=X.reach Q hw hv aa hv (Hs hT hv) h4
  ·rw[←sib hT hd hu ak ab hw _ hu (by have:=hT.bnd hu;omega:(at5 l u).c2≤((at5 l u).c2.toNat:Int)) al (Hs hT hu)];exact am
  ·exact absurd l2 h5
end BcX
open Go.Spc
theorem okT4 {a b c d:Int} (ha:Bd a) (hb:Bd b) (hc:Bd c) (hd:Bd d):okT 4 ⟨a,b,c,d,0⟩:=Nc ha hb hc hd He oM oM oM oM oA19
def bcPF (t:T5):List T5:=[⟨t.c2,t.c1,t.c3,0,0⟩]
theorem bcP:Bx (Cs [] (bcPF)) 3 (fun _ t=>okT 5 t) 131 [] []:=mkU fun _ _ _ _ _ _ t s=>mL1 s func131 (show bcPF t=[⟨t.c2,t.c1,t.c3,0,0⟩] from rfl)
def bcEF (t:T5):List T5:=[⟨min t.c1 t.c2,max t.c1 t.c2,0,0,0⟩]
theorem bcE:Bx (Cs [] (bcEF)) 2 (fun _ t=>okT 3 t) 136 [] []:=mkU fun _ _ _ _ _ _ t s=>mL1 s func136 (show bcEF t=[⟨min t.c1 t.c2,max t.c1 t.c2,0,0,0⟩] from rfl)
theorem bcLa (p:Jp) (fa fb:Fl) (b8 b4 b5:Nat) (J:Jb) (A T:Nat) (ts:List T5) (Rl:Fl→Int→Prop) (hL:Jl p J fa fb 0 2 2 A T ts Rl):Fg p J 137 [pv b8,pv b4,pv b5] (Cr p.bj b8 b4 b5 fa fb) A T none ts fun f e Hx'=>Hx'=Cr p.bj b8 b4 b5 fa fb∧Rl f e:=lM hL func137
def Lu (t:T5):List T5:=(if t.c1<AL .i64 (t.c0+t.c2) then[] else[⟨t.c0,t.c1,0,0,0⟩])
theorem bcA:Bx (Cs [] (Lu)) 2 (fun _ t=>okT 3 t) 138 [] []:=mkU fun _ _ _ _ _ _ t s=>by
 by_cases h1:t.c1<AL .i64 (t.c0+t.c2)
 ·exact mL0 s func138 (show Lu t=_ from if_pos h1)
 ·exact mL1 s func138 (show Lu t=_ from if_neg h1)
theorem bcLb (p:Jp) (fa fb:Fl) (b8 b4 b5:Nat) (J:Jb) (A T:Nat) (ts:List T5) (Rl:Fl→Int→Prop) (hL:Jl p J fa fb 0 1 2 A T ts Rl):Fg p J 139 [pv b8,pv b4,pv b5] (Cr p.bj b8 b4 b5 fa fb) A T none ts fun f e Hx'=>Hx'=Cr p.bj b8 b4 b5 fa fb∧Rl f e:=lM hL func139
theorem bcLc (p:Jp) (fa fb:Fl) (b8 b4 b5:Nat) (J:Jb) (A T:Nat) (ts:List T5) (Rl:Fl→Int→Prop) (hL:Jl p J fa fb 0 2 3 A T ts Rl):Fg p J 140 [pv b8,pv b4,pv b5] (Cr p.bj b8 b4 b5 fa fb) A T none ts fun f e Hx'=>Hx'=Cr p.bj b8 b4 b5 fa fb∧Rl f e:=lM hL func140
theorem bcLd (p:Jp) (fa fb:Fl) (b8 b4 b5:Nat) (J:Jb) (A T:Nat) (ts:List T5) (Rl:Fl→Int→Prop) (hL:Jl p J fa fb 1 1 4 A T ts Rl):Fg p J 141 [pv b8,pv b4,pv b5] (Cr p.bj b8 b4 b5 fa fb) A T none ts fun f e Hx'=>Hx'=Cr p.bj b8 b4 b5 fa fb∧Rl f e:=lM hL func141
def Kh (t:T5):List T5:=(if t.c4= -1 then[] else[⟨t.c0,t.c1,t.c2,t.c3,0⟩])
theorem bcS:Bx (Cs [] (Kh)) 4 (fun _ t=>okT 5 t) 142 [] []:=mkU fun _ _ _ _ _ _ t s=>by
 by_cases h1:t.c4= -1
 ·exact mL0 s func142 (show Kh t=_ from if_pos h1)
 ·exact mL1 s func142 (show Kh t=_ from if_neg h1)
theorem bcLe (p:Jp) (fa fb:Fl) (b8 b4 b5:Nat) (J:Jb) (A T:Nat) (ts:List T5) (Rl:Fl→Int→Prop) (hL:Jl p J fa fb 1 2 4 A T ts Rl):Fg p J 143 [pv b8,pv b4,pv b5] (Cr p.bj b8 b4 b5 fa fb) A T none ts fun f e Hx'=>Hx'=Cr p.bj b8 b4 b5 fa fb∧Rl f e:=lM hL func143
def Kz (t:T5):List T5:=(if t.c1≤t.c2 then(if t.c3<AL .i64 (t.c1+t.c4) then[] else[⟨t.c0,t.c1,0,0,0⟩]) else[⟨t.c0,t.c1,0,0,0⟩])
theorem bcO:Bx (Cs [] (Kz)) 2 (fun _ t=>okT 5 t) 144 [] []:=mkU fun _ _ _ _ _ _ t s=>by
 by_cases h1:t.c1≤t.c2
 ·by_cases h2:t.c3<AL .i64 (t.c1+t.c4)
  ·exact mL0 s func144 (show Kz t=_ from (if_pos h1).trans (if_pos h2))
  ·exact mL1 s func144 (show Kz t=_ from (if_pos h1).trans (if_neg h2))
 ·exact mL1 s func144 (show Kz t=_ from if_neg h1)
def Eu (t:T5):List T5:=(if t.c1=t.c2 then[] else[t])
theorem bcD:Bx (Cs [] (Eu)) 3 (fun _ t=>okT 3 t) 83 [] []:=mkU fun _ _ _ _ _ _ t s=>by
 by_cases h1:t.c1=t.c2
 ·exact mL0 s func83 (show Eu t=_ from if_pos h1)
 ·exact mL1 s func83 (show Eu t=_ from if_neg h1)
def bcMF (t:T5):List T5:=[⟨t.c0,max t.c1 t.c2,0,0,0⟩]
theorem bcM:Bx (Cs [] (bcMF)) 2 (fun _ t=>okT 3 t) 84 [] []:=mkU fun _ _ _ _ _ _ t s=>mL1 s func84 (show bcMF t=[⟨t.c0,max t.c1 t.c2,0,0,0⟩] from rfl)
def bcNF (t:T5):List T5:=[⟨t.c1,t.c0,0,0,0⟩]
theorem bcN:Bx (Cs [] (bcNF)) 2 (fun _ t=>okT 2 t) 155 [] []:=mkU fun _ _ _ _ _ _ t s=>mL1 s func155 (show bcNF t=[⟨t.c1,t.c0,0,0,0⟩] from rfl)
def jnM (ba:Nat):Am Int:=⟨fun k=>[[(ba,row [Z9 Z8 k] 2)]],fun k t=>[⟨AL .i64 (k+1),t.c0,t.c1,0,0⟩],fun k _=>AL .i64 (k+1),fun _ _=>none⟩
theorem jnM_C (ba:Nat) (k:Int):(jnM ba).C k=[[(ba,row [Z9 Z8 k] 2)]]:=rfl
theorem jn_mk (ba:Nat):Bx (jnM ba) 3 (fun _ t=>okT 2 t) 135 [] [pv ba]:=by
 rintro bx Pst Br bnd hP ps X k t hX hk hb;have ab:tv t= .agg #[Z9 Z8 t.c0,Z9 Z8 t.c1,Z9 Z8 t.c2,Z9 Z8 t.c3,Z9 Z8 t.c4]:=rfl;rw[ab];unfold Jg;simp only[AB,AA];show Ct _ _ _ [X,[(ba,row [Z9 Z8 k] 2)]] _;have ti:=Dx hk;have ac:ps.length+1≤bnd:=hb;have aa:=hP ps X ⟨AL .i64 (k+1),t.c0,t.c1,0,0⟩ hX (Jd (Oo _) ti.1 ti.2.1) ac;rw[show tv ⟨AL .i64 (k+1),t.c0,t.c1,0,0⟩= .agg #[Z9 Z8 (AL .i64 (k+1)),Z9 Z8 t.c0,Z9 Z8 t.c1,Z9 Z8 0,Z9 Z8 0] from rfl] at aa;refine cG func135 fun _=>?_;repeat(refine sA ?_;intros)
 refine R.callV (hct:=by exact aa) (h:=?_);rintro _ _ ⟨X',rfl,⟨rfl,ad⟩|⟨rfl,hB⟩⟩
 ·repeat(refine sA ?_;intros)
  (refine dP [X',[(ba,row [Z9 Z8 (AL .i64 (k+1))] 2)]] ?_;exact⟨X',AL .i64 (k+1),rfl,.inl ⟨rfl,rfl,rfl,ad⟩⟩)
 ·repeat(refine sA ?_;intros)
  (refine dP [X',[(ba,row [Z9 Z8 (AL .i64 (k+1))] 2)]] ?_;exact⟨X',AL .i64 (k+1),rfl,.inr (.inl ⟨rfl,hB⟩)⟩)
def jnF:Nat→List T5→List T5
 |_,[]=>[]
 |i,t::ts=>⟨((i+1:Nat):Int),t.c0,t.c1,0,0⟩::jnF (i+1) ts
theorem Qw:∀(ts:List T5) (i:Nat),(jnF i ts).length=ts.length
 |[],_=>rfl
 |t::ts,i=>by simp[jnF,Qw ts]
theorem lH (ba:Nat):∀(ts:List T5) (i:Nat),i+ts.length≤1000000000→(jnM ba).all (i:Int) ts=jnF i ts
 |[],_,_=>rfl
 |t::ts,i,h=>by
  rw[AJ] at h;have e1:AL .i64 ((i:Int)+1)=((i+1:Nat):Int):=by rw[Ah oM];omega
  have ih:=lH ba ts (i+1) oM;simp only[Am.all];rw[show(jnM ba).next (i:Int) t=((i+1:Nat):Int) from e1,ih];show[(⟨AL .i64 ((i:Int)+1),t.c0,t.c1,0,0⟩:T5)]++_=_;rw[e1];rfl
def upF (tt:List T5):List T5:=srt (ltO o1) false (Cj 2 1 tt (tt.map fun t=>⟨t.c2,t.c1,t.c3,0,0⟩))
theorem Xq (tt:List T5):(upF tt).length=tt.length:=by unfold upF;rw[(Bt _).length_eq,Iu,AQ]
theorem upF_ok {tt:List T5} (h:∀t∈tt,okT 5 t):∀t∈upF tt,okT 3 t:=by intro t ht;unfold upF at ht;refine Pd h (fun t ht=>?_) 2 1 oM oM t (Ji ht);obtain⟨u,hu,rfl⟩:=AO.1 ht;have ti:=Dx (h u hu);exact Jd ti.2.2.1 ti.2.1 ti.2.2.2.1
theorem yJ {p:Jp} {B m k a s0:Nat} {e:Int} {er:Option Nat} {Gf:List (Fl×List T5)} {C:Aa} (hR:Rm p B m k a) (hJ:Ap p B k a s0 e er Gf C) (tf:Fl) (tt:List T5) (h1:In0 p (tf,tt)) (ag:tf.width=5) (c:Nat) (hct:tf.count≤c) (hc:c≤500) (ac:c≤B) (hT:Ck c≤m) (ht:tt.Pairwise fun a c=>a.c0<c.c0) (hk:Gf.length+3≤k) (a0:s0≤9000):Ct AC 75 [pv p.bj,flv tf] [C] fun v H'=>∃g C' e',v=flv g∧H'=[C']∧Ap p B k a (s0+4) e' er ((g,upF tt)::Gf) C'∧FB tf.count c 3 tt.length e' g∧(e'=0→e=0):=by
 have aa:=eQ0;have ah:=eQ2;have ai:tv o1= .agg #[Z9 Z8 1,Z9 Z8 0,Z9 Z8 0,Z9 Z8 0,Z9 Z8 0]:=rfl;obtain⟨t1,t2,t3,t4,t5⟩:=Lm h1;dsimp only at t1 t2 t3 t4 t5;have hp:=hR.ok;have hB:=hR.bs;have am:tf.blocks≤tf.count:=by rw[t3];exact En (Bp hp.size.1 t4 t5)
 rw[ag] at t2;have an:∀e,FB tf.count tf.count 5 tf.count e tf:=fun e=>⟨AI _,am,fun _=>⟨ag,rfl⟩⟩
 have ad:=fun b=>Gn hR hJ [] bcPF 3 tf.count c 1 oM 131 inferInstance [] (okT 5) bcP (fun t _=>AI _) oM tf tt (.inr h1) oM (fun _=>t2)
  (fun h=>by rw[Ex (f:=bcPF) (g:=fun t=>⟨t.c2,t.c1,t.c3,0,0⟩) (fun _=>rfl),AQ];omega) (.inl hct) ac oM oM b
 simp only[ah] at ad;rw[Ex (f:=bcPF) (g:=fun t=>⟨t.c2,t.c1,t.c3,0,0⟩) (fun _=>rfl)] at ad;rw[aa tf];refine cG func75 fun _=>?_;repeat(refine sA ?_;intros)
 repeat(refine sA ?_;intros)
 refine cX (ad _) ?_;rintro _ _ ⟨g1,C1,e1,rfl,rfl,ao,aj,aq⟩;dsimp only[AA,AB];refine nx ?_;try rw[aa]
 have ay:=aj.cnt;have ak:=Um hR ao g1 tf (tt.map fun t=>⟨t.c2,t.c1,t.c3,0,0⟩) tt Gf 1 oM aj (an e1) .here (.inr h1) oM oM oM (fun _=>ht) (fun _=>rfl) oM (.inl oM) ac hT oA12 oM;rw[aa g1,aa tf] at ak;repeat(refine sA ?_;intros)
 refine cX ak ?_;rintro _ _ ⟨g2,C2,e2,rfl,rfl,au,al,av⟩;dsimp only[AA,AB];refine nx ?_;try rw[aa]
 have az:=al.cnt;have ae:=Gb hR au g2 _ _ o1 rfl false al .here oM ac hT oM;rw[aa,ai] at ae;rw[show srt (ltO o1) false (Cj 2 1 tt (tt.map fun t=>⟨t.c2,t.c1,t.c3,0,0⟩))=upF tt from rfl] at ae;repeat(refine sA ?_;intros)
 refine cX ae ?_;rintro _ _ ⟨g3,C3,e3,rfl,rfl,aw,ab,ax⟩;dsimp only[AA,AB];refine nx ?_;try rw[aa]
 repeat(refine sA ?_;intros)
 (refine dP [C3] ?_;exact⟨g3,C3,e3,rfl,rfl,aw,⟨ab.cnt,ab.blk,fun h=>⟨(ab.ok h).1,by rw[(ab.ok h).2,Xq]⟩⟩,fun h=>aq (av (ax h))⟩)
def Lw (oth up:List T5):List T5:=(srt (ltO o1) false (oth.map fun t=>⟨min t.c1 t.c2,max t.c1 t.c2,0,0,0⟩)).map (Bf up 0 2 2)
def Js (oth up:List T5):List T5:=(Lw oth up).flatMap Lu
theorem lI (t:T5):(Lu t).length≤1:=by unfold Lu;split<;>simp
theorem lJ (aa up:List T5):(Lw aa up).length=aa.length:=by unfold Lw;rw[AQ,(Bt _).length_eq,AQ]
theorem Xr (aa up:List T5):(Js aa up).length≤aa.length:=by have h:=Ss (f:=Lu) (n:=1) (Lw aa up) fun t _=>lI t;rw[lJ] at h;unfold Js;omega
theorem yK {a b:Int} (h:Bd a) (h2:Bd b):Bd (min a b):=by unfold Bd at*;omega
theorem lK {a b:Int} (h:Bd a) (h2:Bd b):Bd (max a b):=by unfold Bd at*;omega
theorem yL {aa:List T5} (h:∀t∈aa,okT 3 t):∀t∈aa.map (fun t=>(⟨min t.c1 t.c2,max t.c1 t.c2,0,0,0⟩:T5)),okT 2 t:=by intro t ht;obtain⟨u,hu,rfl⟩:=AO.1 ht;have ti:=Dx (h u hu);exact Ht (yK ti.2.1 ti.2.2.1) (lK ti.2.1 ti.2.2.1)
theorem lL {aa up:List T5} (h:∀t∈aa,okT 3 t) (h2:∀t∈up,okT 3 t):∀t∈Lw aa up,okT 3 t:=by intro t ht;unfold Lw at ht;obtain⟨u,hu,rfl⟩:=AO.1 ht;exact Mj h2 0 2 2 oM (yL h u (Ji hu))
theorem yM {aa up:List T5} (h:∀t∈aa,okT 3 t) (h2:∀t∈up,okT 3 t):∀t∈Js aa up,okT 2 t:=by
 intro t ht;unfold Js at ht;obtain⟨u,hu,ht⟩:=BZ.1 ht;have ti:=Dx (lL h h2 u hu);unfold Lu at ht;split at ht
 ·cases ht
 ·rw[AX] at ht;subst ht;exact Ht ti.1 ti.2.1
theorem yN {p:Jp} {B m k a s0:Nat} {e:Int} {er:Option Nat} {Gf:List (Fl×List T5)} {C:Aa} (hR:Rm p B m k a) (hJ:Ap p B k a s0 e er Gf C) (of uf:Fl) (aa up:List T5) (h1:(of,aa)∈Gf) (h2:(uf,up)∈Gf) (ae:∀t∈aa,okT 3 t) (ao:∀t∈up,okT 3 t) {b cb bu cu nu c:Nat} (hF:FB b cb 3 aa.length e of) (hU:FB bu cu 3 nu e uf) (hb:b≤c∧cb≤1000∧bu≤1000∧cu≤1000) (hc:c≤500) (ad:c≤B) (hT:Ck c≤m) (ax:e=0→up.Pairwise fun a c=>a.c0<c.c0) (hk:Gf.length+3≤k) (be:s0≤9000):Ct AC 78 [pv p.bj,flv of,flv uf] [C] fun v H'=>∃g C' e',v=flv g∧H'=[C']∧Ap p B k a (s0+4) e' er ((g,Js aa up)::Gf) C'∧FB b c 2 (Js aa up).length e' g∧(e'=0→e=0):=by
 have ab:=eQ0;have ac:=eQ2;have aq:tv o1= .agg #[Z9 Z8 1,Z9 Z8 0,Z9 Z8 0,Z9 Z8 0,Z9 Z8 0]:=rfl;have hB:=hR.bs;have bf:=hF.cnt;have bg:=hF.blk;have ag:=fun b1=>Gn hR hJ [] bcEF 2 of.count c 1 oM 136 inferInstance [] (okT 3) bcE (fun t _=>AI _) oM of aa (.inl h1) oM (fun _=>ae)
  (fun h=>by rw[Ex (f:=bcEF) (g:=fun t=>⟨min t.c1 t.c2,max t.c1 t.c2,0,0,0⟩) (fun _=>rfl),AQ,(hF.ok h).2];exact AI _) (.inl oM) ad oM oM b1
 simp only[ac] at ag;rw[Ex (f:=bcEF) (g:=fun t=>⟨min t.c1 t.c2,max t.c1 t.c2,0,0,0⟩) (fun _=>rfl)] at ag;rw[ab of,ab uf];refine cG func78 fun _=>?_;repeat(refine sA ?_;intros)
 repeat(refine sA ?_;intros)
 refine cX (ag _) ?_;rintro _ _ ⟨g1,C1,e1,rfl,rfl,ay,au,ah⟩;dsimp only[AA,AB];refine nx ?_;try rw[ab]
 have a5:=au.cnt;have av:=Gb hR ay g1 _ _ o1 rfl false au .here oM ad hT oM;rw[ab,aq] at av;repeat(refine sA ?_;intros)
 refine cX av ?_;rintro _ _ ⟨g2,C2,e2,rfl,rfl,az,ai,aj⟩;dsimp only[AA,AB];refine nx ?_;try rw[ab]
 have a6:=ai.cnt;have a7:=ai.blk;have ak:=fun b8 b4 b5=>Ks hR az 137 inferInstance g2 uf (srt (ltO o1) false (aa.map fun t=>⟨min t.c1 t.c2,max t.c1 t.c2,0,0,0⟩)) up 0 2 2 3 c oA5 (.inl (AF _ h2)) (bcLa _ g2 uf b8 b4 b5) ai (hU.mono fun h=>ah (aj h)) oM oM oM oM oM oM
  (fun _=>Ul _) (fun h=>ax (ah (aj h))) (.inl oM) ad oA12 oM
 simp only[Cr,ac] at ak;rw[show(srt (ltO o1) false (aa.map fun t=>(⟨min t.c1 t.c2,max t.c1 t.c2,0,0,0⟩:T5))).map (Bf up 0 2 2)=Lw aa up from rfl] at ak;repeat(refine sA ?_;intros)
 refine cX (ak _ _ _) ?_;rintro _ _ ⟨g3,C3,e3,rfl,rfl,a0,al,a1⟩;dsimp only[AA,AB];refine nx ?_;try rw[ab]
 have a8:=al.cnt;have a9:=al.blk;have am:=fun b1=>Gn hR a0 [] Lu 2 g3.count c 1 oM 138 inferInstance [] (okT 3) bcA (fun t _=>lI t) oM g3 (Lw aa up) oA5 oM (fun _=>lL ae ao)
  (fun h=>by
   have h1:=Xr aa up;have h2:=(al.ok h).2;have h3:=lJ aa up;unfold Lw at h3;rw[AQ] at h3;unfold Js at h1;omega) (.inl oM) ad oA12 oM b1
 simp only[ac] at am;rw[show(Lw aa up).flatMap Lu=Js aa up from rfl] at am;repeat(refine sA ?_;intros)
 refine cX (am _) ?_;rintro _ _ ⟨g4,C4,e4,rfl,rfl,a2,an,a3⟩;dsimp only[AA,AB];refine nx ?_;try rw[ab]
 have bc:=an.cnt;have aw:=fun b1=>Ih hR a2 [(g2,srt (ltO o1) false (aa.map fun t=>⟨min t.c1 t.c2,max t.c1 t.c2,0,0,0⟩)),(g3,Lw aa up)] ((g4,Js aa up)::Gf) (.cons (.there (.there .here)) (.cons (.there .here) .nil)) oA19 _ 2 _ (Nw b1 g2 g3);simp only[ac,AZ,CL,AA,AB] at aw;repeat(refine sA ?_;intros)
 refine cX (aw _) ?_;rintro _ _ ⟨C5,rfl,rfl,a4⟩;dsimp only[AA,AB];refine nx ?_;repeat(refine sA ?_;intros)
 (refine dP [C5] ?_;exact⟨g4,C5,e4,rfl,rfl,a4,⟨oM,an.blk,an.ok⟩,fun h=>ah (aj (a1 (a3 h)))⟩)
def Oa (up lo:List T5):List T5:=(up.map (Bf lo 0 1 2)).map (Bf lo 0 2 3)
def Jt (up lo:List T5):List T5:=(srt (ltO (oK 1)) false (Oa up lo)).map (Bf up 1 1 4)
def Ju (up lo:List T5):List T5:=(Jt up lo).flatMap Kh
def Mq (up lo:List T5):List T5:=(Ju up lo).map (Bf up 1 2 4)
def Jv (up lo:List T5):List T5:=(Mq up lo).flatMap Kz
theorem lO (t:T5):(Kh t).length≤1:=by unfold Kh;split<;>simp
theorem lP (t:T5):(Kz t).length≤1:=by unfold Kz;split<;>(try split)<;>simp
theorem lQ (up lo:List T5):(Jt up lo).length=up.length:=by unfold Jt Oa;rw[AQ,(Bt _).length_eq,AQ,AQ]
theorem Xt (up lo:List T5):(Ju up lo).length≤up.length:=by have h:=Ss (f:=Kh) (n:=1) (Jt up lo) fun t _=>lO t;rw[lQ] at h;unfold Ju;omega
theorem Xu (up lo:List T5):(Jv up lo).length≤(Ju up lo).length:=by
 have h:=Ss (f:=Kz) (n:=1) (Mq up lo) fun t _=>lP t;have h2:(Mq up lo).length=(Ju up lo).length:=by unfold Mq;rw[AQ]
 unfold Jv;omega
theorem yO {up lo:List T5} (h:∀t∈up,okT 3 t) (h2:∀t∈lo,okT 3 t):∀t∈up.map (Bf lo 0 1 2),okT 3 t:=by intro t ht;obtain⟨u,hu,rfl⟩:=AO.1 ht;exact Mj h2 0 1 2 oM (h u hu)
theorem yP {up lo:List T5} (h:∀t∈up,okT 3 t) (h2:∀t∈lo,okT 3 t):∀t∈Oa up lo,okT 4 t:=by intro t ht;unfold Oa at ht;obtain⟨u,hu,rfl⟩:=AO.1 ht;exact Mj h2 0 2 3 oM (yO h h2 u hu)
theorem lR {up lo:List T5} (h:∀t∈up,okT 3 t) (h2:∀t∈lo,okT 3 t):∀t∈Jt up lo,okT 5 t:=by intro t ht;unfold Jt at ht;obtain⟨u,hu,rfl⟩:=AO.1 ht;exact Mj h 1 1 4 oM (yP h h2 u (Ji hu))
theorem yQ {up lo:List T5} (h:∀t∈up,okT 3 t) (h2:∀t∈lo,okT 3 t):∀t∈Ju up lo,okT 4 t:=by
 intro t ht;unfold Ju at ht;obtain⟨u,hu,ht⟩:=BZ.1 ht;have ti:=Dx (lR h h2 u hu);unfold Kh at ht;split at ht
 ·cases ht
 ·rw[AX] at ht;subst ht;exact okT4 ti.1 ti.2.1 ti.2.2.1 ti.2.2.2.1
theorem yR (up lo:List T5):(Ju up lo).Pairwise fun a c=>a.c1≤c.c1:=by
 have h:(Jt up lo).Pairwise fun a c=>a.c1≤c.c1:=by unfold Jt;rw[A6];exact Wz (col:=1) oM _
 unfold Ju;rw[List.pairwise_flatMap];refine⟨fun t _=>by unfold Kh;split<;>simp,h.imp fun {a c} aa x hx y hy=>?_⟩;unfold Kh at hx hy;split at hx
 ·cases hx
 ·split at hy
  ·cases hy
  ·rw[AX] at hx hy;subst hx hy;exact aa
theorem lS {up lo:List T5} (h:∀t∈up,okT 3 t) (h2:∀t∈lo,okT 3 t):∀t∈Mq up lo,okT 5 t:=by intro t ht;unfold Mq at ht;obtain⟨u,hu,rfl⟩:=AO.1 ht;exact Mj h 1 2 4 oM (yQ h h2 u hu)
theorem yS {up lo:List T5} (h:∀t∈up,okT 3 t) (h2:∀t∈lo,okT 3 t):∀t∈Jv up lo,okT 2 t:=by
 intro t ht;unfold Jv at ht;obtain⟨u,hu,ht⟩:=BZ.1 ht;have ti:=Dx (lS h h2 u hu);unfold Kz at ht;split at ht
 ·split at ht
  ·cases ht
  ·rw[AX] at ht;subst ht;exact Ht ti.1 ti.2.1
 ·rw[AX] at ht;subst ht;exact Ht ti.1 ti.2.1
theorem yU {p:Jp} {B m k a s0:Nat} {e:Int} {er:Option Nat} {Gf:List (Fl×List T5)} {C:Aa} (hR:Rm p B m k a) (hJ:Ap p B k a s0 e er Gf C) (uf lf:Fl) (up lo:List T5) (h1:(uf,up)∈Gf) (h2:In0 p (lf,lo)) (a2:lf.width=3) (ai:∀t∈up,okT 3 t) {bu cu nu c:Nat} (hU:FB bu cu 3 nu e uf) (a8:nu=up.length) (hb:bu≤c∧cu≤1000) (c7:lf.count≤1000) (hc:c≤500) (ac:c≤B) (hT:Ck c≤m) (ah:e=0→up.Pairwise fun a c=>a.c0<c.c0) (a1:lo.Pairwise fun a c=>a.c0<c.c0) (hk:Gf.length+6≤k) (c6:s0≤9000):Ct AC 79 [pv p.bj,flv uf,flv lf] [C] fun v H'=>∃g C' e',v=flv g∧H'=[C']∧Ap p B k a (s0+7) e' er ((g,Jv up lo)::Gf) C'∧FB bu c 2 (Jv up lo).length e' g∧(e'=0→e=0):=by
 have aa:=eQ0;have ab:=eQ2;have a3:tv (oK 1)= .agg #[Z9 Z8 2,Z9 Z8 0,Z9 Z8 0,Z9 Z8 0,Z9 Z8 0]:=rfl;obtain⟨t1,t2,t3,t4,t5⟩:=Lm h2;dsimp only at t1 t2 t3 t4 t5;subst a8;have hp:=hR.ok;have hB:=hR.bs;have c8:=hU.cnt;have c9:=hU.blk;have a9:lf.blocks≤lf.count:=by rw[t3];exact En (Bp hp.size.1 t4 t5)
 rw[a2] at t2;have a4:∀e,FB lf.count lf.count 3 lf.count e lf:=fun e=>⟨AI _,a9,fun _=>⟨a2,rfl⟩⟩
 have a5:=fun b8 b4 b5=>Ks hR hJ 139 inferInstance uf lf up lo 0 1 2 3 c (.inl h1) (.inr h2) (bcLb _ uf lf b8 b4 b5) hU (a4 e) oM oM oM oM oM oM
  (fun h=>(ah h).imp fun {x y} hh=>Int.le_of_lt hh) (fun _=>a1) (.inl oM) ac oM oM
 simp only[Cr,ab] at a5;rw[aa uf,aa lf];refine cG func79 fun _=>?_;repeat(refine sA ?_;intros)
 repeat(refine sA ?_;intros)
 refine cX (a5 _ _ _) ?_;rintro _ _ ⟨g1,C1,e1,rfl,rfl,bc,aj,ad⟩;dsimp only[AA,AB];refine nx ?_;try rw[aa]
 have bz:=aj.cnt;have b2:=aj.blk;have ak:=fun b8 b4 b5=>Ks hR bc 140 inferInstance g1 lf (up.map (Bf lo 0 1 2)) lo 0 2 3 4 c oA5 (.inr h2) (bcLc _ g1 lf b8 b4 b5) aj (a4 e1) oM oM oM oM oM oM
  (fun h=>by rw[A6];exact(ah (ad h)).imp fun {x y} hh=>Int.le_of_lt hh) (fun _=>a1) (.inl oM) ac oA12 oM
 simp only[Cr,ab] at ak;rw[show(up.map (Bf lo 0 1 2)).map (Bf lo 0 2 3)=Oa up lo from rfl] at ak;repeat(refine sA ?_;intros)
 refine cX (ak _ _ _) ?_;rintro _ _ ⟨g2,C2,e2,rfl,rfl,be,al,ae⟩;dsimp only[AA,AB];refine nx ?_;try rw[aa]
 have b3:=al.cnt;have b6:=al.blk;have a6:=Gb hR be g2 _ _ (oK 1) (aW oM) false al .here oM ac hT oM;rw[aa,a3] at a6;repeat(refine sA ?_;intros)
 refine cX a6 ?_;rintro _ _ ⟨g3,C3,e3,rfl,rfl,bf,am,ag⟩;dsimp only[AA,AB];refine nx ?_;try rw[aa]
 have b7:=am.cnt;have b9:=am.blk;have an:=fun b8 b4 b5=>Ks hR bf 141 inferInstance g3 uf (srt (ltO (oK 1)) false (Oa up lo)) up 1 1 4 5 c oA5 (.inl (AF _ (AF _ h1))) (bcLd _ g3 uf b8 b4 b5) am (hU.mono fun h=>ad (ae (ag h))) oM oM oM oM oM oM
  (fun _=>Wz oM _) (fun h=>ah (ad (ae (ag h)))) (.inl oM) ac oA12 oM
 simp only[Cr,ab] at an;rw[show(srt (ltO (oK 1)) false (Oa up lo)).map (Bf up 1 1 4)=Jt up lo from rfl] at an;repeat(refine sA ?_;intros)
 refine cX (an _ _ _) ?_;rintro _ _ ⟨g4,C4,e4,rfl,rfl,bg,ao,aq⟩;dsimp only[AA,AB];refine nx ?_;try rw[aa]
 have cg:=ao.cnt;have ci:=ao.blk;have au:=fun b1=>Gn hR bg [] Kh 4 g4.count c 1 oM 142 inferInstance [] (okT 5) bcS (fun t _=>lO t) oM g4 (Jt up lo) oA5 oM (fun _=>lR ai t2)
  (fun h=>by
   have h1:=Xt up lo;have h2:=(ao.ok h).2;have h3:=lQ up lo;unfold Jt at h3;rw[AQ] at h3;unfold Ju at h1;omega) (.inl oM) ac oA12 oM b1
 simp only[ab] at au;rw[show(Jt up lo).flatMap Kh=Ju up lo from rfl] at au;repeat(refine sA ?_;intros)
 refine cX (au _) ?_;rintro _ _ ⟨g5,C5,e5,rfl,rfl,bh,av,aw⟩;dsimp only[AA,AB];refine nx ?_;try rw[aa]
 have cj:=av.cnt;have cm:=av.blk;have ax:=fun b8 b4 b5=>Ks hR bh 143 inferInstance g5 uf (Ju up lo) up 1 2 4 5 c oA5 (.inl (AF _ (AF _ (AF _ (AF _ h1))))) (bcLe _ g5 uf b8 b4 b5) av (hU.mono fun h=>ad (ae (ag (aq (aw h))))) oM oM oM oM oM oM
  (fun _=>yR up lo) (fun h=>ah (ad (ae (ag (aq (aw h)))))) (.inl oM) ac oA12 oM
 simp only[Cr,ab] at ax;rw[show(Ju up lo).map (Bf up 1 2 4)=Mq up lo from rfl] at ax;repeat(refine sA ?_;intros)
 refine cX (ax _ _ _) ?_;rintro _ _ ⟨g6,C6,e6,rfl,rfl,bi,ay,bk⟩;dsimp only[AA,AB];refine nx ?_;try rw[aa]
 have cw:=ay.cnt;have cz:=ay.blk;have az:=fun b1=>Gn hR bi [] Kz 2 g6.count c 1 oM 144 inferInstance [] (okT 5) bcO (fun t _=>lP t) oM g6 (Mq up lo) oA5 oM (fun _=>lS ai t2)
  (fun h=>by
   have h1:=Xu up lo;have h2:=(ay.ok h).2;unfold Jv at h1;omega) (.inl oM) ac oA12 oM b1
 simp only[ab] at az;rw[show(Mq up lo).flatMap Kz=Jv up lo from rfl] at az;repeat(refine sA ?_;intros)
 refine cX (az _) ?_;rintro _ _ ⟨g7,C7,e7,rfl,rfl,bp,a0,bq⟩;dsimp only[AA,AB];refine nx ?_;try rw[aa]
 have c5:=a0.cnt;have a7:=fun b1=>Ih hR bp [(g1,up.map (Bf lo 0 1 2)),(g3,srt (ltO (oK 1)) false (Oa up lo)),(g4,Jt up lo),(g5,Ju up lo),(g6,Mq up lo)] ((g7,Jv up lo)::Gf) (.cons (.there (.there (.there (.there (.there .here))))) (.cons (.there (.there (.there (.there .here)))) (.cons (.there (.there (.there .here))) (.cons (.there (.there .here)) (.cons (.there .here) .nil))))) oA19 _ 5 _ (vec5 b1 g1 g3 g4 g5 g6);simp only[ab,AZ,CL,AA,AB] at a7;repeat(refine sA ?_;intros)
 refine cX (a7 _) ?_;rintro _ _ ⟨C8,rfl,rfl,bv⟩;dsimp only[AA,AB];refine nx ?_;repeat(refine sA ?_;intros)
 (refine dP [C8] ?_;exact⟨g7,C8,e7,rfl,rfl,bv,⟨oM,a0.blk,a0.ok⟩,fun h=>ad (ae (ag (aq (aw (bk (bq h))))))⟩)
theorem yV {p:Jp} {B m k a s0:Nat} {e:Int} {er:Option Nat} {Gf:List (Fl×List T5)} {C:Aa} (hR:Rm p B m k a) (hJ:Ap p B k a s0 e er Gf C) {K:Type} (M:Am K) (ac:∀k t,M.err k t=none) (k0:K) (width bound c κ:Nat) (ae:1≤width∧width≤5) (mk:Nat) (aa:Callable AC mk) (us:List Value) (ok:K→T5→Prop) (hM:Bx M width ok mk [] us) (hκ:∀k t,ok k t→(M.outs k t).length≤κ) (ad:κ≤5) (f0 f1:Fl) (ts vs:List T5) (hs:(f0,ts)∈Gf∨In0 p (f0,ts)) (ah:(f1,vs)∈Gf∨In0 p (f1,vs)) (h0:f0.count≤1000∧f0.blocks≤1000) (h1:f1.count≤1000∧f1.blocks≤1000) (ab:e=0→M.oks ok k0 (ts++vs)) (aj:e=0→(M.all k0 (ts++vs)).length≤bound) (hc:bound≤c∨(width≤3∧bound≤2*c)) (ai:c≤B) (hl:Gf.length+1≤k) (ag:s0≤10000) (b:Nat):Ct AC 52 [pv p.bj,Z9 Z8 width,Z9 Z8 bound,.func (.func mk) #[] us.toArray,.slice (some ⟨b,0,none⟩) 2 2] (C::[(b,row (fl4 f0++fl4 f1) 42)]::M.C k0) fun v H'=> ∃f C' e' k',v=flv f∧H'=C'::[(b,row (fl4 f0++fl4 f1) 42)]::M.C k'∧Ap p B k a (s0+1) e' er ((f,M.all k0 (ts++vs))::Gf) C'∧FB bound c width (M.all k0 (ts++vs)).length e' f∧(e'=0→e=0):=by
 have h:=aQ hR hJ M k0 width bound c κ ae mk aa us ok hM hκ ad [(f0,ts),(f1,vs)] (by simpa using⟨hs,ah⟩) (by simpa using⟨h0,h1⟩) oA19 _ 2 _ (Nw b f0 f1);rw[iY] at h;refine(h ab aj hc ai hl ag).mono ?_;rintro v H' ⟨f,C',e',k',h1,h2,h3,h4,h5⟩;rw[Am.bad_none ac,Nx] at h3;exact⟨f,C',e',k',h1,h2,h3,h4,fun h=>(h5 h).1⟩
theorem yW {p:Jp} {B m k a s0:Nat} {e:Int} {er:Option Nat} {Gf:List (Fl×List T5)} {C:Aa} (hR:Rm p B m k a) (hJ:Ap p B k a s0 e er Gf C) (fa fb:Fl) (aa ab:List T5) (h1:(fa,aa)∈Gf) (h2:(fb,ab)∈Gf) (al:∀t∈aa,okT 2 t) (ak:∀t∈ab,okT 2 t) (aq:aa.length+ab.length≤1000000) {ba ca bb cb c:Nat} (hA:FB ba ca 2 aa.length e fa) (ae:FB bb cb 2 ab.length e fb) (hb:ba+bb≤2*c∧ca≤1000∧cb≤1000) (hc:c≤500) (aj:c≤B) (hk:Gf.length+1≤k) (av:s0≤9000):Ct AC 77 [pv p.bj,flv fa,flv fb] [C] fun v H'=>∃g C' e',v=flv g∧H'=[C']∧Ap p B k a (s0+1) e' er ((g,jnF 0 (aa++ab))::Gf) C'∧FB (ba+bb) c 3 (aa.length+ab.length) e' g∧(e'=0→e=0):=by
 have ac:=eQ0;have ah:=eQ2;have aw:=hA.cnt;have ax:=hA.blk;have ay:=ae.cnt;have az:=ae.blk;have e1:AL .i64 ((fa.count:Int)+(fb.count:Int))=((fa.count+fb.count:Nat):Int):=by rw[Ah oM];omega
 have ad:∀bn,(jnM bn).all 0 (aa++ab)=jnF 0 (aa++ab):=fun bn=>lH bn _ 0 (by rw[AH];omega);have ai:=fun bn b1=>yV hR hJ (jnM bn) (fun _ _=>rfl) 0 3 (fa.count+fb.count) c 1 oM 135 inferInstance [pv bn] _ (jn_mk bn) (fun _ t _=>AI _) oM fa fb aa ab (.inl h1) (.inl h2) oM oM
  (fun _=>Am.oks_of (M:=jnM bn) (I:=fun _=>True) (Q:=okT 2) (fun _ t _ h=>⟨h,trivial⟩) _ _ trivial (fun t ht=>(AR.1 ht).elim (al t) (ak t)))
  (fun h=>by rw[ad bn,Qw,AH,←(hA.ok h).2,←(ae.ok h).2];exact AI _) (.inr ⟨oM,oM⟩) aj oM oM b1
 simp only[ah,jnM_C,ad,Qw,AH,AA,AB] at ai;rw[ac fa,ac fb];refine cG func77 fun _=>?_;repeat(refine sA ?_;intros)
 refine cX (ai _ _) ?_;rintro _ _ ⟨f1,C1,am,k1,rfl,rfl,an,ag,ao⟩;dsimp only[AA,AB];refine nx ?_;try rw[ac]
 have au:=ag.cnt;repeat(refine sA ?_;intros)
 (refine dP [C1] ?_;exact⟨f1,C1,am,rfl,rfl,an,⟨oM,ag.blk,ag.ok⟩,ao⟩)
def Mr (fs:List T5):List T5:=srt (ltO o1) true (srt (ltO o12) false (fs.map fun t=>⟨t.c1,t.c0,0,0,0⟩))
def Ob (fs:List T5):List T5:=srt (ltO o1) false (Cj 1 1 (Mr fs) fs)
theorem Xv (fs:List T5):(Ob fs).length=fs.length:=by unfold Ob;rw[(Bt _).length_eq,Iu]
theorem yX {p:Jp} {B m k a s0:Nat} {e:Int} {er:Option Nat} {Gf:List (Fl×List T5)} {C:Aa} (hR:Rm p B m k a) (ff:Fl) (fs:List T5) (hJ:Ap p B k a s0 e er ((ff,fs)::Gf) C) (ay:∀t∈fs,okT 2 t) {b c:Nat} (hF:FB b c 2 fs.length e ff) (hb:b≤c) (hc:c≤500) (ab:c≤B) (hT:Ck c≤m) (hk:Gf.length+4≤k) (bf:s0≤9000):Ct AC 85 [pv p.bj,flv ff] [C] fun v H'=>∃g C' e',v=flv g∧H'=[C']∧Ap p B k a (s0+6) e' er ((g,Ob fs)::Gf) C'∧FB b c 2 fs.length e' g∧(e'=0→e=0):=by
 have aa:=eQ0;have ad:=eQ2;have ae:tv o1= .agg #[Z9 Z8 1,Z9 Z8 0,Z9 Z8 0,Z9 Z8 0,Z9 Z8 0]:=rfl;have ag:tv o12= .agg #[Z9 Z8 1,Z9 Z8 2,Z9 Z8 0,Z9 Z8 0,Z9 Z8 0]:=rfl;have hB:=hR.bs;have bg:=hF.cnt;have bh:=hF.blk;have ah:=fun b1=>Gn hR hJ [] bcNF 2 ff.count c 1 oM 155 inferInstance [] (okT 2) bcN (fun t _=>AI _) oM ff fs oA5 oM (fun _=>ay)
  (fun h=>by rw[Ex (f:=bcNF) (g:=fun t=>⟨t.c1,t.c0,0,0,0⟩) (fun _=>rfl),AQ,(hF.ok h).2];exact AI _) (.inl oM) ab oA12 oM b1
 simp only[ad] at ah;rw[Ex (f:=bcNF) (g:=fun t=>⟨t.c1,t.c0,0,0,0⟩) (fun _=>rfl)] at ah;rw[aa ff];refine cG func85 fun _=>?_;repeat(refine sA ?_;intros)
 repeat(refine sA ?_;intros)
 refine cX (ah _) ?_;rintro _ _ ⟨g1,C1,e1,rfl,rfl,az,al,am⟩;dsimp only[AA,AB];refine nx ?_;try rw[aa]
 have a7:=al.cnt;have an:=Gb hR az g1 _ _ o12 rfl false al .here oM ab hT oM;rw[aa,ag] at an;repeat(refine sA ?_;intros)
 refine cX an ?_;rintro _ _ ⟨g2,C2,e2,rfl,rfl,a0,ao,aq⟩;dsimp only[AA,AB];refine nx ?_;try rw[aa]
 have a8:=ao.cnt;have ai:=Gb hR a0 g2 _ _ o1 rfl true ao .here oM ab hT oM;rw[aa,ae] at ai;rw[show srt (ltO o1) true (srt (ltO o12) false (fs.map fun t=>⟨t.c1,t.c0,0,0,0⟩))=Mr fs from rfl] at ai;repeat(refine sA ?_;intros)
 refine cX ai ?_;rintro _ _ ⟨g3,C3,e3,rfl,rfl,a1,aj,au⟩;dsimp only[AA,AB];refine nx ?_;try rw[aa]
 have a9:=aj.cnt;have bc:=aj.blk;have av:=jK hR a1 ff g3 fs (Mr fs) ((g3,Mr fs)::Gf) 1 oM (hF.mono fun h=>am (aq (au h))) aj (.there .here) (.inl AE) oM oM oM (fun _=>Pc _) (fun _=>rfl) oM (.inl oM) ab hT oA12 oM;rw[aa ff,aa g3] at av;repeat(refine sA ?_;intros)
 refine cX av ?_;rintro _ _ ⟨g4,C4,e4,rfl,rfl,a2,aw,a3⟩;dsimp only[AA,AB];refine nx ?_;try rw[aa]
 have be:=aw.cnt;have ak:=Gb hR a2 g4 _ _ o1 rfl false aw .here oM ab hT oM;rw[aa,ae] at ak;rw[show srt (ltO o1) false (Cj 1 1 (Mr fs) fs)=Ob fs from rfl] at ak;repeat(refine sA ?_;intros)
 refine cX ak ?_;rintro _ _ ⟨g5,C5,e5,rfl,rfl,a4,ac,a5⟩;dsimp only[AA,AB];refine nx ?_;try rw[aa]
 have ax:=fun b1=>Ih hR a4 [(g3,Mr fs)] ((g5,Ob fs)::Gf) (.cons (.there .here) .nil) oA19 _ 1 _ (Nv b1 g3);simp only[ad,AZ,CL,AA,AB] at ax;repeat(refine sA ?_;intros)
 refine cX (ax _) ?_;rintro _ _ ⟨C6,rfl,rfl,a6⟩;dsimp only[AA,AB];refine nx ?_;repeat(refine sA ?_;intros)
 (refine dP [C6] ?_;exact⟨g5,C6,e5,rfl,rfl,a6,⟨ac.cnt,ac.blk,fun h=>⟨(ac.ok h).1,by rw[(ac.ok h).2,Xv]⟩⟩,fun h=>am (aq (au (a3 (a5 h))))⟩)
structure EachN where
 i:Nat
theorem yY (bw bd ba bs:Nat) (W:Wk) (cd ca cs:Aa) (h:Wc bd ba bs W cd ca cs) (width bound:Nat) (al:1≤width) (ae:width≤5) (ay:bound≤100000000) (hr:2*W.δ.size≤W.α.room-W.α.used) (bc:W.δ.acts≤10000000000):Ct AC 116 [pv bw,Z9 Z8 width,Z9 Z8 bound,.nilFunc,.slice none 0 0] [Ab bw bd ba bs,cd,ca,cs] fun v H'=> ∃cd' ca' cs' W',H'=[Ab bw bd ba bs,cd',ca',cs']∧Wc bd ba bs W' cd' ca' cs'∧Ev W W' 1 (Ac W.δ.size width bound)∧W'.α.gs.Perm W.α.gs∧Ax W.live W W'∧((∃f,v= .tuple #[flv f,Z9 Z8 0]∧W'.live.Perm (Bc f W.live)∧f.width=width∧f.count=0∧Bg W'.δ.disk W.δ.size [f.ext] f [])∨ (∃e:Int,v= .tuple #[flv ⟨0,0,0,0⟩,Z9 Z8 e]∧e≠0∧W'.live.Perm W.live∧((e=6∧W.δ.fault≠-1)∨(e=5∧big W.σ.free<Ac W.δ.size width bound)))):=by
 obtain⟨⟨az,be⟩,_⟩:=h.dev.num;have hh:=Bp az al ae;have a0:=Qh bw bd ba bs W cd ca cs h width bound al ae ay oM;have hz:=eQ1;refine Ct.introD func116 rfl ntmps116 (nle rfl) fun _=>?_;dsimp only[Dg,AD];repeat(refine sA ?_;intros)
 apply R.call
 ·exact rfl
 ·exact a0
 ·exact oA4
 ·exact rfl
 ·exact nle rfl
 rintro _ _ (⟨a8,bx,first,g,cd',ca',cs',W1,cx,cb,rfl,rfl,ai,aa,e1,e2,e3,e4,e5⟩|⟨aj,rfl,cd',ca',cs',W1,rfl,ai,aa,e1,e2,e3⟩)
 ·repeat(refine sA ?_;intros)
  rename_i b8 am an;refine G.loop (X:=EachN) (fun x=>x.i=0)
   (fun x=>[(31,Z9 Z8 x.i),(30,Z9 Z8 0),(29,.slice none 0 0),(12,pv an),(10,pv am),(8,pv b8),(0,pv bw)])
   (fun x=>[[(b8,row [.nilFunc] 91)],[(an,row [pv bx] 122)],[(am,row [Z9 Z8 0,Z9 Z8 0,Z9 Z8 0,Z9 Z8 0] 42)],Ab bw bd ba bs,cd',ca',cs',cx,cb]) (fun x=>0) ⟨0⟩ rfl (body:=?_)
  rintro⟨i⟩ hi;dsimp only at hi⊢;subst hi;have ao:W1.δ.size=W.δ.size:=aa.size;have a9:=aa.acts.2;have aq:=Rz bw bd ba bs W1 cd' ca' cs' ai bx first (Ac W.δ.size width bound) width bound g [] cx cb e5 W.α.gs e2 W.live e4 oM
  rw[ao] at aq;have bf:Ac W.δ.size width ([]:List T5).length-([]:List T5).length/Ad W.δ.size width≤1:=A7 (Nat.sub_le _ _) (A7 (En hh) (AT _));repeat(refine sA ?_;intros)
  refine cL aq ?_;rintro _ _ ⟨ab,ac,ad,W3,a1,bg,rfl,au,a2,a3,av,a4,hc⟩;try dsimp only[AA,AB]
  have aw:=Ow bx a1 a4;have ag:=(aa.trans a2).weak (k':=1) (m':=Ac W.δ.size width bound) oM (AI _);have ah:Ax W.live W W3:=fun x hx=>by rw[a3 x hx,e1]
  rcases hc with⟨f,rfl,ak,a5,a6,a7⟩|⟨rfl,hf,hδ,ak⟩
  ·have ax:flv f= .agg #[Z9 Z8 f.first,Z9 Z8 f.blocks,Z9 Z8 f.width,Z9 Z8 f.count]:=rfl;rw[ax];repeat(refine sA ?_;intros)
   refine Go.SL.Lv.call (hc:=aw.2) (h:=?_);rintro _ _ ⟨rfl,rfl⟩;try dsimp only[AA,AB]
   (refine lN [Ab bw bd ba bs,ab,ac,ad] ?_;exact⟨ab,ac,ad,W3,rfl,au,ag,av,ah,.inl ⟨f,rfl,by rw[ak];exact .refl _,a5,a6,a7⟩⟩)
  ·rw[hz];repeat(refine sA ?_;intros)
   refine Go.SL.Lv.call (hc:=aw.2) (h:=?_);rintro _ _ ⟨rfl,rfl⟩;try dsimp only[AA,AB]
   (refine lN [Ab bw bd ba bs,ab,ac,ad] ?_;exact⟨ab,ac,ad,W3,rfl,au,ag,av,ah,.inr ⟨6,rfl,oM,ak,.inl ⟨rfl,fun e=>by have:=aa.fault e;omega⟩⟩⟩)
 ·repeat(refine sA ?_;intros)
  (refine lN [Ab bw bd ba bs,cd',ca',cs'] ?_;exact⟨cd',ca',cs',W1,rfl,ai,aa.weak (AT _) (AT _),e3,fun x _=>by rw[e1],.inr ⟨5,rfl,oM,by rw[e2],.inr ⟨rfl,aj⟩⟩⟩)
theorem JMakeN (p:Jp) (hp:p.Ok) (J:Jb) (C:Aa) (hJ:Fm p J C) (width bound A T:Nat) (au:1≤width) (aj:width≤5) (az:bound≤100000000) (hT:Ac p.size width bound≤T) (al:J.e=0→Ql p J T) (hA:1≤A) (a8:J.acts+A≤10000000000) (a7:J.G.length≤1000):Ct AC 52 [pv p.bj,Z9 Z8 width,Z9 Z8 bound,.nilFunc,.slice none 0 0] [C] fun v H'=> ∃f C' e',v=flv f∧H'=[C']∧Fm p ⟨e',J.er,(f,[])::J.G,J.acts+A,J.took+T⟩ C'∧(e'=0→J.e=0∧f.width=width∧f.count=0)∧f.count=0∧f.blocks=0:=by
 obtain⟨W,cd,ca,cs,held,ph,ad,ch,rfl,hW,am,ae⟩:=hJ;by_cases he:J.e=0
 ·have a9:=ae.used hp hW;have bc:Ac W.δ.size width bound≤T:=by rw[ae.size];exact hT
  have hG:=ae.ok he;have an:=yY p.bw p.bd p.ba p.bs W cd ca cs hW width bound au aj az oM (by have:=ae.acts;omega);have a0:Ct AC 116 [pv p.bw,Z9 Z8 width,Z9 Z8 bound,.nilFunc,.slice none 0 0] [[Ab p.bw p.bd p.ba p.bs,cd,ca,cs].flatten]
    fun v H'=>∃f e ao,v= .tuple #[flv f,Z9 Z8 e]∧H'=[ao]∧∃aa ab ac W',ao=[Ab p.bw p.bd p.ba p.bs,aa,ab,ac].flatten∧Wc p.bd p.ba p.bs W' aa ab ac∧It p W W' A T none [] f e∧
     (e=0→f.width=width∧f.count=0):=by
   refine Ct.convP an oA19 ?_;rintro v H' ⟨aa,ab,ac,W',rfl,ah,ag,a1,a2,hc⟩;have ai:∀f e,_→It p W W' A T none [] f e:=fun f e hr=>⟨a1,ag.room,ag.size,ag.n,by have:=ag.acts.2;omega,by have:=ag.big;omega,ag.fault,a2,hr⟩
   rcases hc with⟨f,rfl,h3,h4,h5,h6⟩|⟨e,rfl,h1,h2,h3⟩
   ·exact⟨[[Ab p.bw p.bd p.ba p.bs,aa,ab,ac].flatten],⟨f,0,_,rfl,rfl,aa,ab,ac,W',rfl,ah,ai f 0 (.inl ⟨rfl,rfl,h3,h6⟩),fun _=>⟨h4,h5⟩⟩,by simp⟩
   ·refine⟨[[Ab p.bw p.bd p.ba p.bs,aa,ab,ac].flatten],⟨⟨0,0,0,0⟩,e,_,rfl,rfl,aa,ab,ac,W',rfl,ah,ai _ e (.inr ⟨h1,rfl,h2,?_⟩),fun h0=>absurd h0 h1⟩,by simp⟩;rcases h3 with h3|⟨_,h3⟩
    ·exact .inl h3
    ·have:=ae.big hW he (al he);omega
  have a3:=iR p.bj p.bw ph held.length ad _ ch am (by have:=ae.len;omega) _ _ _ _ _ _ a0;refine Ct.convP a3 (by rw[he];unfold Bv;refine Bz fun z=>?_;simp only[AW,A4,AP,A8];omega) ?_;rintro v H' ⟨f,e,ao,rfl,⟨aa,ab,ac,W',rfl,ah,hS,hz⟩,hc⟩;have av:f.count=0∧f.blocks=0:=by
   rcases hS.res with⟨r0,r1,r2,r3⟩|⟨r0,rfl,r2,r3⟩
   ·obtain⟨h2,h3⟩:=hz r0;refine⟨h3,?_⟩;have a4:=Bp hW.dev.num.1.1 au aj;have:=En (n:=0) a4;rw[r3.blk,h2,h3];omega
   ·exact⟨rfl,rfl⟩
  have a5:held.length<100000:=by have h2:=hG.1.length_eq;omega
  have aq:=ae.step he hS a5;rw[Nx] at aq;rcases hc with⟨rfl,p',ak,aw,rfl,a6⟩|⟨ax,rfl⟩
  ·refine⟨[Bv p 0 aa ab ac p' (held.length+1) ak aw],⟨f,_,0,rfl,rfl,⟨W',aa,ab,ac,held++[(f,[])],p',ak,aw,by simp,ah,?_,by simpa using aq⟩,fun _=>⟨he,(hz rfl).1,(hz rfl).2⟩,av⟩,?_⟩
   ·simpa using a6
   ·unfold Bv;refine Bz fun z=>?_;simp only[AW,A4,AP,A8];omega
  ·refine⟨[Bv p e aa ab ac ph held.length ad ch],⟨f,_,e,rfl,rfl,⟨W',aa,ab,ac,held,ph,ad,ch,rfl,ah,am,by simpa[ax] using aq⟩,fun h0=>absurd h0 ax,av⟩,?_⟩;unfold Bv;refine Bz fun z=>?_;simp only[AW,A4,AP,A8];omega
 ·refine Ct.convP (Ct.wide (aK p.bj p.bw J.e he ph held.length ad (Z9 Z8 width) (Z9 Z8 bound) .nilFunc (.slice none 0 0)) [Ab p.bw p.bd p.ba p.bs,cd,ca,cs,ch]) (by unfold Bv;refine Bz fun z=>?_;simp only[AW,A4,AP,A3,A8];omega) ?_;rintro v H' ⟨H1,⟨rfl,rfl⟩,rfl⟩;have ay:=ae.idle he none ((⟨0,0,0,0⟩,[])::J.G) A T;rw[Nx] at ay;refine⟨[Bv p J.e cd ca cs ph held.length ad ch],⟨⟨0,0,0,0⟩,_,J.e,rfl,rfl,⟨W,cd,ca,cs,held,ph,ad,ch,rfl,hW,am,ay⟩,fun h0=>absurd h0 he,rfl,rfl⟩,?_⟩;unfold Bv;refine Bz fun z=>?_;simp only[AW,A4,AP,A3,A8];omega
def CtE (P:Program) (f:FuncId) (args:List Value) (H:Hp) (Pr:Aa→Prop):Prop:=Ct P f args H fun v H'=>∃C',v=flv ⟨0,0,0,0⟩∧H'=[C']∧Pr C'
theorem SMakeN {p:Jp} {B m k a s0:Nat} {e:Int} {er:Option Nat} {Gf:List (Fl×List T5)} {C:Aa} (hR:Rm p B m k a) (hJ:Ap p B k a s0 e er Gf C) (width bound c:Nat) (aa:1≤width∧width≤5) (hc:bound≤c) (ae:c≤B) (hl:Gf.length+1≤k) (ab:s0≤10000):Ct AC 52 [pv p.bj,Z9 Z8 width,Z9 Z8 bound,.nilFunc,.slice none 0 0] [C] fun v H'=> ∃f C' e',v=flv f∧H'=[C']∧Ap p B k a (s0+1) e' er ((f,[])::Gf) C'∧FB 0 0 width 0 e' f∧(e'=0→e=0):=by
 have hB:=hR.bs;have ag:=hR.kk;have ah:=hR.acts;have hm:=hR.le;have ad:=hJ.len;have ac:=nbS (s:=p.size) (w:=width) (n:=bound) (c:=c) hR.ok.size.1 aa.1 aa.2 (.inl hc);have h2:s0*30000≤10000*30000:=Nat.mul_le_mul ab (AI _);refine(JMakeN p hR.ok _ C hJ.job width bound 1 c aa.1 aa.2 oM ac (fun _=>hR.fits hJ.len hJ.blk oM _ _ _ _) oM oD oD).mono ?_;rintro v H' ⟨f,C',e',rfl,rfl,h3,h4,h5,h6⟩;exact⟨f,C',e',rfl,rfl,hJ.push hl 1 h3 oM oM oM,⟨oM,oM,fun h=>⟨(h4 h).2.1,h5⟩⟩,fun h=>(h4 h).1⟩
theorem lT {p:Jp} {B k a s0:Nat} {e:Int} {er:Option Nat} {Gf:List (Fl×List T5)} {C:Aa} (hJ:Ap p B k a s0 e er Gf C) (he:e≠0) (ts:List T5) (hl:Gf.length+1≤k) (x1 x2 x3 x4:Value):CtE AC 52 [pv p.bj,x1,x2,x3,x4] [C] (Ap p B k a (s0+1) e er ((⟨0,0,0,0⟩,ts)::Gf)):=by
 obtain⟨⟨W,cd,ca,cs,held,ph,cap,ch,rfl,hW,hV,ab⟩,ac,hb⟩:=hJ;have e1:(s0+1)*30000=s0*30000+1*30000:=Nat.add_mul _ _ _;refine Ct.convP (Ct.wide (aK p.bj p.bw e he ph held.length cap x1 x2 x3 x4) [Ab p.bw p.bd p.ba p.bs,cd,ca,cs,ch]) (by unfold Bv;refine Bz fun z=>?_;simp only[AW,A4,AP,A3,A8];omega) ?_;rintro v H' ⟨H1,⟨rfl,rfl⟩,rfl⟩;have aa:=ab.idle he none ((⟨0,0,0,0⟩,ts)::Gf) (1*30000) (1*30000);rw[Nx] at aa;refine⟨[Bv p e cd ca cs ph held.length cap ch],⟨_,rfl,rfl,⟨⟨W,cd,ca,cs,held,ph,cap,ch,rfl,hW,hV,?_⟩,by simpa using hl,fun x hx=>?_⟩⟩,?_⟩
 ·rw[e1,←Nat.add_assoc];exact aa
 ·rcases AN.1 hx with rfl|hx
  ·exact AT _
  ·exact hb x hx
 ·unfold Bv;refine Bz fun z=>?_;simp only[AW,A4,AP,A3,A8];omega
def itA (p:Int→Int):Nat→Int→Int
 |0,x=>x
 |k+1,x=>itA p k (p x)
theorem Xw (p:Int→Int):∀(a b:Nat) (x:Int),itA p (a+b) x=itA p b (itA p a x)
 |0,b,x=>by rw[Nat.zero_add];rfl
 |a+1,b,x=>by rw[Nat.add_right_comm];exact Xw p a b (p x)
theorem yZ (p:Int→Int) (m:Nat) (x:Int):itA p (m+1) x=p (itA p m x):=by rw[Xw];rfl
abbrev oB:T5:=⟨2,0,0,0,0⟩
abbrev oAC:T5:=⟨1,3,0,0,0⟩
theorem ltO_oB (a b:T5):ltO oB a b=true↔a.c1<b.c1:=by
 have hf:Gj oB=true:=by decide
 unfold ltO Da;rw[decide_eq_true_iff,if_pos hf];exact aU a.c1 b.c1
theorem zB (a b:T5):ltO oAC a b=true↔a.c0<b.c0∨a.c0=b.c0∧a.c2<b.c2:=by
 have hf:Gj oAC=true:=by decide
 unfold ltO Da;rw[decide_eq_true_iff,if_pos hf];exact jF a.c0 b.c0 a.c2 b.c2
theorem cE (l:List T5):(srt (ltO oB) false l).Pairwise fun a c=>a.c1≤c.c1:=by
 refine(Lk (Eg oB) false l).imp fun {a b} h=>?_;have h1:¬ltO oB b a=true:=by intro h2;simp only[CI,if_false] at h;rw[h] at h2;cases h2
 rw[ltO_oB] at h1;omega
theorem zC (l:List T5):(srt (ltO oAC) false l).Pairwise fun a c=>a.c0<c.c0∨a.c0=c.c0∧a.c2≤c.c2:=by
 refine(Lk (Eg oAC) false l).imp fun {a b} h=>?_;have h1:¬ltO oAC b a=true:=by intro h2;simp only[CI,if_false] at h;rw[h] at h2;cases h2
 rw[zB] at h1;omega
theorem lU {m:List T5} (h:m.Pairwise fun a c=>a.c0≠c.c0):(srt (ltO o1) false m).Pairwise fun a c=>a.c0<c.c0:=by have h1:((srt (ltO o1) false m).map fun t:T5=>t.c0).Nodup:=((Bt m).map fun t:T5=>t.c0).nodup_iff.2 (A6.2 h);have h2:(srt (ltO o1) false m).Pairwise fun x y=>x.c0≠y.c0:=A6.1 h1;exact((Ul m).and h2).imp fun {x y} ⟨h3,h4⟩=>by omega
theorem cF {m E:List T5} (hp:m.Perm E) (hE:E.Pairwise fun a c=>a.c0<c.c0):srt (ltO o1) false m=E:=by have h1:(srt (ltO o1) false m).Perm E:=(Bt m).trans hp;refine h1.eq_of_pairwise (le:=fun x y=>x.c0<y.c0) (fun x y _ _ h1 h2=>absurd h1 oM) (lU ?_) hE;exact(hp.pairwise_iff (R:=fun a c:T5=>a.c0≠c.c0) (fun hh=>fun e=>hh e.symm)).2 (hE.imp fun {x y} hh=>by omega)
def Jw (t:T5):T5:=⟨t.c1,t.c0,t.c2,0,0⟩
def Ja (E:List T5):List T5:=E.flatMap fun t=>[t,Jw t]
def Jc:Int→List T5→List T5
 |_,[]=>[]
 |k,t::l=>if t.c0=k then Jc k l else t::Jc t.c0 l
def An (E:List T5):List T5:=Jc (-1) (srt (ltO oAC) false (Ja E))
def Pm (t:T5):T5:=if t.c2=t.c3∧t.c0<t.c1 then⟨t.c0,t.c0,0,0,0⟩ else⟨t.c0,t.c1,0,0,0⟩
def Oc (E:List T5):List T5:=(srt (ltO oB) false (An E)).map (Bf (An E) 1 2 3)
def Il (E:List T5):List T5:=srt (ltO o1) false ((Oc E).map Pm)
def Ki (h:List T5):List T5:=(srt (ltO oB) false h).map (Bf h 1 1 2)
def nxtL (h:List T5):List T5:=srt (ltO o1) false ((Ki h).map fun t=>⟨t.c0,t.c2,0,0,0⟩)
def Pn (h:List T5):Bool:=(Ki h).any fun t=>decide (t.c1≠t.c2)
def Dj (h:List T5):Nat→List T5
 |0=>h
 |j+1=>nxtL (Dj h j)
theorem Ms {E:List T5} {z:T5}:z∈Ja E↔∃t∈E,z=t∨z=Jw t:=by unfold Ja;rw[BZ];simp
theorem cH (E:List T5):(Ja E).length=2*E.length:=by
 unfold Ja;induction E with
 |nil=>rfl
 |cons t E ih=>rw[BC,AH,ih];simp;omega
theorem cI:∀{k:Int} {l:List T5} {z:T5},z∈Jc k l→z∈l
 |_,[],_,h=>by simp[Jc] at h
 |k,t::l,z,h=>by
  unfold Jc at h;split at h
  ·exact AF _ (cI h)
  ·rcases AN.1 h with rfl|h
   ·exact AE
   ·exact AF _ (cI h)
theorem Xx:∀(k:Int) (l:List T5),(Jc k l).length≤l.length
 |_,[]=>AI _
 |k,t::l=>by
  unfold Jc;split
  ·have:=Xx k l;simp only[AJ];omega
  ·have:=Xx t.c0 l;simp only[AJ];omega
theorem cJ:∀{k:Int} {l:List T5},(l.Pairwise fun a c=>a.c0<c.c0∨a.c0=c.c0∧a.c2≤c.c2)→(∀t∈l,k≤t.c0)→((Jc k l).Pairwise fun a c=>a.c0<c.c0)∧(∀z∈Jc k l,k<z.c0∧∀y∈l,y.c0=z.c0→z.c2≤y.c2)∧∀y∈l,y.c0≠k→∃z∈Jc k l,z.c0=y.c0
 |k,[],_,_=>⟨DJ,by simp[Jc],by simp⟩
 |k,t::l,hs,hk=>by
  obtain⟨h1,h2⟩:=BI.1 hs;have ht:=hk t AE;unfold Jc;by_cases he:t.c0=k
  ·rw[if_pos he];obtain⟨a,b,c⟩:=cJ (k:=k) h2 fun y hy=>hk y (AF _ hy);refine⟨a,fun z hz=>⟨(b z hz).1,fun y hy hq=>?_⟩,fun y hy hn=>?_⟩
   ·rcases AN.1 hy with rfl|hy
    ·have:=(b z hz).1;omega
    ·exact(b z hz).2 y hy hq
   ·rcases AN.1 hy with rfl|hy
    ·exact absurd he hn
    ·exact c y hy hn
  ·rw[if_neg he];obtain⟨a,b,c⟩:=cJ (k:=t.c0) h2 fun y hy=>by have:=h1 y hy;omega
   refine⟨BI.2 ⟨fun z hz=>(b z hz).1,a⟩,fun z hz=>?_,fun y hy hn=>?_⟩
   ·rcases AN.1 hz with rfl|hz
    ·refine⟨oM,fun y hy hq=>?_⟩;rcases AN.1 hy with rfl|hy
     ·omega
     ·have:=h1 y hy;omega
    ·have h3:=b z hz;refine⟨oM,fun y hy hq=>?_⟩;rcases AN.1 hy with rfl|hy
     ·omega
     ·exact h3.2 y hy hq
   ·rcases AN.1 hy with rfl|hy
    ·exact⟨y,AE,rfl⟩
    ·by_cases hq:y.c0=t.c0
     ·exact⟨t,AE,hq.symm⟩
     ·obtain⟨z,hz,he⟩:=c y hy hq;exact⟨z,AF _ hz,he⟩
structure EOk (E:List T5):Prop where
 c0:∀t∈E,0≤t.c0∧0≤t.c1∧t.c0≠t.c1
 ok:∀t∈E,okT 3 t
 nd:E.Pairwise fun a c=>a.c2≠c.c2
theorem cK {t:T5} (h:okT 3 t):Jw (Jw t)=t:=by have h3:=h.2 3 oM;have h4:=h.2 4 oM;obtain⟨a,b,c,d,e⟩:=t;have e3:d=0:=h3;have e4:e=0:=h4;subst e3 e4;rfl
theorem Tf {E:List T5} {z:T5} (h:z∈An E):∃t∈E,z=t∨z=Jw t:=Ms.1 ((Bt _).mem_iff.1 (cI h))
theorem EOk.cho {E:List T5} (h:EOk E):((An E).Pairwise fun a c=>a.c0<c.c0)∧(∀z∈An E,∀y∈Ja E,y.c0=z.c0→z.c2≤y.c2)∧∀y∈Ja E,∃z∈An E,z.c0=y.c0:=by
 have aa:∀y∈Ja E,0≤y.c0:=fun y hy=>by
  obtain⟨t,ht,rfl|rfl⟩:=Ms.1 hy
  ·exact(h.c0 _ ht).1
  ·exact(h.c0 _ ht).2.1
 obtain⟨a,b,c⟩:=cJ (k:= -1) (zC (Ja E)) (fun t ht=>by have:=aa t ((Bt _).mem_iff.1 ht);omega);refine⟨a,fun z hz y hy=>(b z hz).2 y ((Bt _).mem_iff.2 hy),fun y hy=>c y ((Bt _).mem_iff.2 hy) ?_⟩;have:=aa y hy;omega
def chT' (E:List T5) (u:Int):Option T5:=(An E).find? fun t=>decide (t.c0=u)
def pC (E:List T5) (u:Int):Int:=match chT' E u with
 |some t=>if lkV (An E) t.c1 2=t.c2∧t.c0<t.c1 then t.c0 else t.c1
 |none=>u
theorem lV {E:List T5} (h:EOk E) {t:T5} (ht:t∈An E):chT' E t.c0=some t:=by
 unfold chT';cases hf:(An E).find? fun u=>decide (u.c0=t.c0) with
 |none=>rw[List.find?_eq_none] at hf;exact absurd (decide_eq_true rfl) (hf t ht)
 |some u=>
  have h1:u.c0=t.c0:=by simpa using List.find?_some hf
  have h2:=List.mem_of_find?_eq_some hf;obtain⟨i,hi,rfl⟩:=B0.1 ht;obtain⟨j,hj,rfl⟩:=B0.1 h2;rcases B5 i j with h3|h3|h3
  ·have:=BB.1 h.cho.1 i j hi hj h3;omega
  ·subst h3;rfl
  ·have:=BB.1 h.cho.1 j i hj hi h3;omega
theorem Uw {E:List T5} (h:EOk E) {t:T5} (ht:t∈An E):pC E t.c0=if lkV (An E) t.c1 2=t.c2∧t.c0<t.c1 then t.c0 else t.c1:=by unfold pC;rw[lV h ht]
theorem EOk.other {E:List T5} (h:EOk E) {t:T5} (ht:t∈An E):∃u∈An E,u.c0=t.c1∧u.c2≤t.c2∧(u.c2=t.c2→u=Jw t):=by
 obtain⟨s,hs,hts⟩:=Tf ht;have aa:Jw t∈Ja E∧Jw (Jw t)=t∧t∈Ja E:=by
  rcases hts with rfl|rfl
  ·exact⟨Ms.2 ⟨_,hs,.inr rfl⟩,cK (h.ok _ hs),Ms.2 ⟨_,hs,.inl rfl⟩⟩
  ·rw[cK (h.ok _ hs)];exact⟨Ms.2 ⟨_,hs,.inl rfl⟩,rfl,Ms.2 ⟨_,hs,.inr rfl⟩⟩
 obtain⟨u,hu,he⟩:=h.cho.2.2 _ aa.1;have he:u.c0=t.c1:=he;have ad:u.c2≤(Jw t).c2:=h.cho.2.1 u hu _ aa.1 he.symm;refine⟨u,hu,he,ad,fun h2=>?_⟩;obtain⟨v,hv,ab⟩:=Tf hu;have e1:v.c2=u.c2:=by rcases ab with rfl|rfl<;>rfl
 have e2:s.c2=t.c2:=by rcases hts with rfl|rfl<;>rfl
 have ae:v=s:=by
  obtain⟨i,hi,rfl⟩:=B0.1 hv;obtain⟨j,hj,rfl⟩:=B0.1 hs;rcases B5 i j with h3|h3|h3
  ·have:=BB.1 h.nd i j hi hj h3;omega
  ·subst h3;rfl
  ·have:=BB.1 h.nd j i hj hi h3;omega
 subst ae;have ac:=(h.c0 _ hv).2.2;rcases hts with rfl|rfl<;>rcases ab with rfl|rfl
 ·exact absurd he ac
 ·rfl
 ·exact(cK (h.ok _ hs)).symm
 ·have he:v.c1=v.c0:=he;exact absurd he.symm ac
theorem Ux {E:List T5} (h:EOk E) {u:Int} (hu:∃t∈An E,t.c0=u):∃t∈An E,t.c0=pC E u:=by
 obtain⟨t,ht,rfl⟩:=hu;rw[Uw h ht];split
 ·exact⟨t,ht,rfl⟩
 ·obtain⟨v,hv,he,_⟩:=h.other ht;exact⟨v,hv,he⟩
theorem Po {E:List T5} (h:EOk E):∀(m:Nat) {u:Int},(∃t∈An E,t.c0=u)→∃t∈An E,t.c0=itA (pC E) m u
 |0,_,hu=>hu
 |m+1,_,hu=>Po h m (Ux h hu)
theorem zD {E:List T5} (h:EOk E):Il E=(An E).map fun t=>⟨t.c0,pC E t.c0,0,0,0⟩:=by
 unfold Il Oc;refine cF ?_ (A6.2 (h.cho.1.imp fun hh=>hh));rw[CH];refine((Bt _).map _).trans (DF (CN fun t ht=>?_));rw[Uw h ht];show Pm (Dl t 3 (lkV (An E) t.c1 2))=_;unfold Pm Dl;by_cases h1:lkV (An E) t.c1 2=t.c2∧t.c0<t.c1
 ·rw[if_pos h1,if_pos ⟨h1.1.symm,h1.2⟩];rfl
 ·rw[if_neg h1,if_neg fun h2=>h1 ⟨h2.1.symm,h2.2⟩];rfl
def ptL (E:List T5) (q:Int→Int):List T5:=(An E).map fun t=>⟨t.c0,q t.c0,0,0,0⟩
theorem cM {E:List T5} (h:EOk E) (q:Int→Int):(ptL E q).Pairwise fun a c=>a.c0<c.c0:=A6.2 (h.cho.1.imp fun hh=>hh)
theorem lW {E:List T5} (h:EOk E) (q:Int→Int) {u:Int} (hu:∃t∈An E,t.c0=u):lkV (ptL E q) u 1=q u:=by obtain⟨t,ht,rfl⟩:=hu;have hm:(⟨t.c0,q t.c0,0,0,0⟩:T5)∈ptL E q:=AO.2 ⟨t,ht,rfl⟩;exact Jj (v:=1) (cM h q) hm rfl
theorem ptL_no {E:List T5} (q:Int→Int) {u:Int} (hu:¬∃t∈An E,t.c0=u):lkV (ptL E q) u 1= -1:=by refine Sr fun z hz he=>?_;obtain⟨t,ht,rfl⟩:=AO.1 hz;exact hu ⟨t,ht,he⟩
theorem lX {E:List T5} (h:EOk E) {q:Int→Int} (hq:∀u,(∃t∈An E,t.c0=u)→∃t∈An E,t.c0=q u):(Ki (ptL E q)).Perm ((An E).map fun t=>⟨t.c0,q t.c0,q (q t.c0),0,0⟩):=by unfold Ki;refine((Bt _).map _).trans ?_;unfold ptL;rw[CH];refine DF (CN fun t ht=>?_);have:=lW h q (hq t.c0 ⟨t,ht,rfl⟩);unfold ptL at this;show Dl _ 2 (lkV _ (q t.c0) 1)=_;rw[this];rfl
theorem zE {E:List T5} (h:EOk E) {q:Int→Int} (hq:∀u,(∃t∈An E,t.c0=u)→∃t∈An E,t.c0=q u):nxtL (ptL E q)=ptL E fun u=>q (q u):=by unfold nxtL;refine cF ?_ (cM h _);refine((lX h hq).map _).trans ?_;rw[CH];exact .refl _
theorem lY {E:List T5} (h:EOk E) {q:Int→Int} (hq:∀u,(∃t∈An E,t.c0=u)→∃t∈An E,t.c0=q u):Pn (ptL E q)=false↔∀t∈An E,q (q t.c0)=q t.c0:=by
 unfold Pn;rw[List.any_eq_false];have hm:∀z,z∈Ki (ptL E q)↔∃t∈An E,z=⟨t.c0,q t.c0,q (q t.c0),0,0⟩:=fun z=>by rw[(lX h hq).mem_iff,AO];exact⟨fun ⟨t,a,b⟩=>⟨t,a,b.symm⟩,fun ⟨t,a,b⟩=>⟨t,a,b.symm⟩⟩
 constructor
 ·intro h1 t ht;have h2:=h1 _ ((hm _).2 ⟨t,ht,rfl⟩);refine BS fun hc=>h2 (decide_eq_true fun e=>hc e.symm)
 ·intro h1 z hz hd;obtain⟨t,ht,rfl⟩:=(hm z).1 hz;exact of_decide_eq_true hd (h1 t ht).symm
theorem Uy {E:List T5} (h:EOk E):∀j,Dj (Il E) j=ptL E (itA (pC E) (2^j))
 |0=>by
  show Il E=_;rw[zD h];rfl
 |j+1=>by show nxtL (Dj (Il E) j)=_;rw[Uy h j,zE h fun u hu=>Po h _ hu];unfold ptL;refine CN fun t _=>?_;rw[show 2^(j+1)=2^j+2^j by rw[Nat.pow_succ];omega,Xw]
theorem Xy {E:List T5} (h:EOk E) {φ:Int→Nat} (hφ:∀t∈An E,∀u∈An E,(u.c2<t.c2→φ u.c0<φ t.c0)∧(u=Jw t→u.c0<t.c0→φ u.c0<φ t.c0)) {u:Int} (hu:∃t∈An E,t.c0=u) (hp:pC E u≠u):φ (pC E u)<φ u:=by
 obtain⟨t,ht,rfl⟩:=hu;rw[Uw h ht] at hp⊢;split
 ·rename_i hc;rw[if_pos hc] at hp;exact absurd rfl hp
 ·rename_i hc;obtain⟨v,hv,he,ab,aa⟩:=h.other ht;rw[←he];by_cases h2:v.c2=t.c2
  ·refine(hφ t ht v hv).2 (aa h2) ?_;have h3:lkV (An E) t.c1 2=t.c2:=by rw[Jj (v:=2) h.cho.1 hv he];exact h2
   have h4:¬t.c0<t.c1:=fun h5=>hc ⟨h3,h5⟩;have h5:t.c0≠t.c1:=by
    obtain⟨s,hs,rfl|rfl⟩:=Tf ht
    ·exact(h.c0 _ hs).2.2
    ·exact fun e=>(h.c0 _ hs).2.2 e.symm
   omega
  ·exact(hφ t ht v hv).1 oM
theorem lZ {E:List T5} (h:EOk E) {φ:Int→Nat} (hφ:∀t∈An E,∀u∈An E,(u.c2<t.c2→φ u.c0<φ t.c0)∧(u=Jw t→u.c0<t.c0→φ u.c0<φ t.c0)):∀(m:Nat) {u:Int},(∃t∈An E,t.c0=u)→φ (itA (pC E) m u)≤φ u
 |0,_,_=>AI _
 |m+1,u,hu=>by
  show φ (itA (pC E) m (pC E u))≤φ u;have h1:=lZ h hφ m (Ux h hu);by_cases hp:pC E u=u
  ·rw[hp] at h1⊢;exact h1
  ·have:=Xy h hφ hu hp;omega
theorem Xz (E:List T5) {u:Int} (hp:pC E u=u):∀m,itA (pC E) m u=u
 |0=>rfl
 |m+1=>by show itA (pC E) m (pC E u)=u;rw[hp];exact Xz E hp m
theorem mA {E:List T5} (h:EOk E) {φ:Int→Nat} (hφ:∀t∈An E,∀u∈An E,(u.c2<t.c2→φ u.c0<φ t.c0)∧(u=Jw t→u.c0<t.c0→φ u.c0<φ t.c0)):∀(m:Nat) {u:Int},(∃t∈An E,t.c0=u)→φ u≤m→pC E (itA (pC E) m u)=itA (pC E) m u
 |0,u,hu,hm=>by
  show pC E u=u;refine BS fun hp=>?_;have:=Xy h hφ hu hp;omega
 |m+1,u,hu,hm=>by
  show pC E (itA (pC E) m (pC E u))=itA (pC E) m (pC E u);by_cases hp:pC E u=u
  ·rw[hp,Xz E hp m];exact hp
  ·have:=Xy h hφ hu hp;exact mA h hφ m (Ux h hu) oM
theorem zF {E:List T5} (h:EOk E) {φ:Int→Nat} (hφ:∀t∈An E,∀u∈An E,(u.c2<t.c2→φ u.c0<φ t.c0)∧(u=Jw t→u.c0<t.c0→φ u.c0<φ t.c0)) {m:Nat} {u:Int} (hu:∃t∈An E,t.c0=u) (hb:itA (pC E) (m+1) u=u):pC E u=u:=by refine BS fun hp=>?_;have h1:=Xy h hφ hu hp;have h2:=lZ h hφ m (Ux h hu);have h3:itA (pC E) m (pC E u)=u:=hb;rw[h3] at h2;omega
def Kj (w col:Nat) (t:T5):T5:=Dl (if t.col w≠-1 then Dl t col (t.col w) else t) w 0
def ordC:Nat→T5
 |0=>o1
 |_=>oB
def Dt (w col:Nat) (h f:List T5):List T5:=((srt (ltO (ordC col)) false f).map (Bf h col 1 w)).map (Kj w col)
def rfx (h:List T5) (x:Int):Int:=if lkV h x 1≠-1 then lkV h x 1 else x
theorem cN {h f:List T5} (hf:∀t∈f,okT 3 t):(Dt 3 0 h f).Perm (f.map fun t=>⟨rfx h t.c0,t.c1,t.c2,0,0⟩):=by unfold Dt;rw[CH];refine((Bt _).map _).trans (DF (CN fun t ht=>?_));have h4:t.c4=0:=(hf t ht).2 4 oM;show Kj 3 0 (Dl t 3 (lkV h t.c0 1))=_;unfold Kj rfx Dl;simp only[T5.col,h4];split<;>rfl
theorem zG {h f:List T5} (hf:∀t∈f,okT 3 t):(Dt 3 1 h f).Perm (f.map fun t=>⟨t.c0,rfx h t.c1,t.c2,0,0⟩):=by unfold Dt;rw[CH];refine((Bt _).map _).trans (DF (CN fun t ht=>?_));have h4:t.c4=0:=(hf t ht).2 4 oM;show Kj 3 1 (Dl t 3 (lkV h t.c1 1))=_;unfold Kj rfx Dl;simp only[T5.col,h4];split<;>rfl
theorem mB {h f:List T5} (hf:∀t∈f,okT 2 t):(Dt 2 1 h f).Perm (f.map fun t=>⟨t.c0,rfx h t.c1,0,0,0⟩):=by unfold Dt;rw[CH];refine((Bt _).map _).trans (DF (CN fun t ht=>?_));have h3:t.c3=0:=(hf t ht).2 3 oM;have h4:t.c4=0:=(hf t ht).2 4 oM;show Kj 2 1 (Dl t 2 (lkV h t.c1 1))=_;unfold Kj rfx Dl;simp only[T5.col,h3,h4];split<;>rfl
def edL (h E:List T5):List T5:=Dt 3 1 h (Dt 3 0 h E)
def edN (h E:List T5):List T5:=(edL h E).filter fun t=>decide (t.c0≠t.c1)
theorem zH {h E:List T5} (hf:∀t∈E,okT 3 t) (aa:∀t∈Dt 3 0 h E,okT 3 t):(edL h E).Perm (E.map fun t=>⟨rfx h t.c0,rfx h t.c1,t.c2,0,0⟩):=by unfold edL;refine(zG aa).trans ?_;refine((cN hf).map _).trans ?_;rw[CH];exact .refl _
structure Az (N:Nat) (sl:List T5) (L:Nat→Nat) (F:Nat→Prop) (E La Fo:List T5):Prop where
 lab:La.Perm ((BA N).map fun (v:Nat)=>⟨(v:Int),(L v:Int),0,0,0⟩)
 lt:∀v,v<N→L v<N
 cn:∀v w,v<N→w<N→(L v=L w↔Cn (gE (sl.map Cw)) F v w)
 kr:∀i,F i→Kr (gE (sl.map Cw)) (fun j=>j<sl.length) i
 fo:∀x,x∈Fo↔∃(i:Nat) (s:T5),sl[i]? =some s∧F i∧x=⟨s.c0,0,0,0,0⟩
 ed:∀t,t∈E↔∃(i:Nat) (s:T5),sl[i]? =some s∧L s.c1.toNat≠L s.c2.toNat∧t=⟨(L s.c1.toNat:Int),(L s.c2.toNat:Int),s.c0,0,0⟩
 nd:E.Pairwise fun a c=>a.c2≠c.c2
 len:Fo.length+2*E.length≤2*sl.length
structure Bw (N:Nat) (sl:List T5):Prop where
 n:N≤1000000
 ed:∀t∈sl,Fp N t
 lt:sl.Pairwise fun a c=>a.c0<c.c0
 ok:∀t∈sl,okT 3 t
theorem Qx {sl:List T5} {i:Nat} {s:T5} (h:sl[i]? =some s):gE (sl.map Cw) i=(s.c1.toNat,s.c2.toNat):=by unfold Go.Proofs.YtaofijjjheiknaaGreat.gE;rw[BH,h];rfl
theorem Bw.inN {N:Nat} {sl:List T5} (h:Bw N sl) {i:Nat} {s:T5} (hs:sl[i]? =some s):s.c1.toNat<N∧s.c2.toNat<N:=by obtain⟨_,h1,h2,h3,h4⟩:=h.ed s (A0 hs);omega
theorem Bw.idx {N:Nat} {sl:List T5} (h:Bw N sl) {i j:Nat} {s u:T5} (hs:sl[i]? =some s) (hu:sl[j]? =some u):(i<j↔s.c0<u.c0)∧(s.c0=u.c0→i=j):=by
 obtain⟨i1,rfl⟩:=AK.1 hs;obtain⟨i2,rfl⟩:=AK.1 hu;have h1:=fun hh=>BB.1 h.lt i j i1 i2 hh;have h2:=fun hh=>BB.1 h.lt j i i2 i1 hh;rcases B5 i j with h3|h3|h3
 ·have:=h1 h3;exact⟨⟨fun _=>this,fun _=>h3⟩,fun e=>by omega⟩
 ·subst h3;exact⟨⟨fun hh=>by omega,fun hh=>by omega⟩,fun _=>rfl⟩
 ·have:=h2 h3;exact⟨⟨fun hh=>by omega,fun hh=>by omega⟩,fun e=>by omega⟩
section
variable {N:Nat} {sl:List T5} {L:Nat→Nat} {F:Nat→Prop} {E La Fo:List T5}
theorem Ly {x:Nat} (h:x≤1000000):Bd (x:Int):=⟨oM,oM⟩
theorem Az.eok (hs:Bw N sl) (h:Az N sl L F E La Fo):EOk E where
 c0 t ht:=by obtain⟨i,s,h1,h2,rfl⟩:=(h.ed t).1 ht;refine⟨Int.natCast_nonneg _,Int.natCast_nonneg _,fun e=>h2 ?_⟩;have e:((L s.c1.toNat:Nat):Int)=(L s.c2.toNat:Int):=e;omega
 ok t ht:=by obtain⟨i,s,h1,h2,rfl⟩:=(h.ed t).1 ht;have h3:=hs.inN h1;have h4:=h.lt _ h3.1;have h5:=h.lt _ h3.2;have hn:=hs.n;exact Jd (Ly oM) (Ly oM) (Dx (hs.ok s (A0 h1))).1
 nd:=h.nd
theorem Az.cho (hs:Bw N sl) (h:Az N sl L F E La Fo) {t:T5} (ht:t∈An E):∃(i:Nat) (s:T5),sl[i]? =some s∧L s.c1.toNat≠L s.c2.toNat∧t.c2=s.c0∧((t.c0=(L s.c1.toNat:Int)∧t.c1=(L s.c2.toNat:Int))∨(t.c0=(L s.c2.toNat:Int)∧t.c1=(L s.c1.toNat:Int)))∧∀(j:Nat) (u:T5),sl[j]? =some u→L u.c1.toNat≠L u.c2.toNat→((L u.c1.toNat:Int)=t.c0∨(L u.c2.toNat:Int)=t.c0)→i≤j:=by
 have he:=h.eok hs;obtain⟨e,ab,aa⟩:=Tf ht;obtain⟨i,s,h1,h2,rfl⟩:=(h.ed e).1 ab;refine⟨i,s,h1,h2,by rcases aa with rfl|rfl<;>rfl,by rcases aa with rfl|rfl;exact .inl ⟨rfl,rfl⟩;exact .inr ⟨rfl,rfl⟩,fun j u hu ac hc=>?_⟩;have h3:(⟨(L u.c1.toNat:Int),(L u.c2.toNat:Int),u.c0,0,0⟩:T5)∈E:=(h.ed _).2 ⟨j,u,hu,ac,rfl⟩;have h4:t.c2≤u.c0:=by
  rcases hc with hc|hc
  ·exact he.cho.2.1 t ht _ (Ms.2 ⟨_,h3,.inl rfl⟩) hc
  ·exact he.cho.2.1 t ht _ (Ms.2 ⟨_,h3,.inr rfl⟩) hc
 have h5:t.c2=s.c0:=by rcases aa with rfl|rfl<;>rfl
 have h6:=hs.idx hu h1;by_cases ad:j<i
 ·have:=h6.1.1 ad;omega
 ·omega
noncomputable def phi (sl E:List T5) (u:Int):Nat:=match chT' E u with
 |some t=>match sl.findIdx? fun s=>decide (s.c0=t.c2) with
  |some i=>2*i+(if t.c1<t.c0 then 1 else 0)
  |none=>0
 |none=>0
theorem idx_of (hs:Bw N sl) {i:Nat} {s:T5} (h:sl[i]? =some s):sl.findIdx? (fun u=>decide (u.c0=s.c0))=some i:=by rw[List.findIdx?_eq_some_iff_getElem];obtain⟨hi,rfl⟩:=AK.1 h;refine⟨hi,by simp,fun j hj=>?_⟩;have:=BB.1 hs.lt j i oM hi hj;simp only[decide_eq_true_eq];omega
theorem Az.phi_is (hs:Bw N sl) (h:Az N sl L F E La Fo) {t:T5} (ht:t∈An E):∃(i:Nat) (s:T5),sl[i]? =some s∧t.c2=s.c0∧phi sl E t.c0=2*i+(if t.c1<t.c0 then 1 else 0):=by obtain⟨i,s,h1,_,h3,_⟩:=h.cho hs ht;refine⟨i,s,h1,h3,?_⟩;unfold phi;rw[lV (h.eok hs) ht];dsimp only;rw[h3,idx_of hs h1]
theorem Az.phi_ok (hs:Bw N sl) (h:Az N sl L F E La Fo):∀t∈An E,∀u∈An E,(u.c2<t.c2→phi sl E u.c0<phi sl E t.c0)∧(u=Jw t→u.c0<t.c0→phi sl E u.c0<phi sl E t.c0):=by
 intro t ht u hu;obtain⟨i,s,h1,h2,h3⟩:=h.phi_is hs ht;obtain⟨j,r,g1,g2,g3⟩:=h.phi_is hs hu;rw[h3,g3];constructor
 ·intro aa;have:=(hs.idx g1 h1).1.2 oM;split<;>split<;>omega
 ·intro hr aa;have e1:u.c2=t.c2:=by rw[hr];rfl
  have e2:u.c1=t.c0:=by rw[hr];rfl
  have e3:u.c0=t.c1:=by rw[hr];rfl
  have:=(hs.idx g1 h1).2 oM;subst this;rw[if_neg oM,if_pos oM];omega
theorem Az.phi_le (hs:Bw N sl) (h:Az N sl L F E La Fo) {u:Int} (hu:∃t∈An E,t.c0=u):phi sl E u≤2*sl.length:=by obtain⟨t,ht,rfl⟩:=hu;obtain⟨i,s,h1,h2,h3⟩:=h.phi_is hs ht;have:=(AK.1 h1).1;rw[h3];split<;>omega
theorem Az.fixed (hs:Bw N sl) (h:Az N sl L F E La Fo) {m:Nat} (hm:0<m) (hq:∀t∈An E,itA (pC E) m (itA (pC E) m t.c0)=itA (pC E) m t.c0) {u:Int} (hu:∃t∈An E,t.c0=u):pC E (itA (pC E) m u)=itA (pC E) m u:=by
 have he:=h.eok hs;obtain⟨m,rfl⟩:∃m',m=m'+1:=⟨m-1,oM⟩
 have h1:=Po he (m+1) hu;obtain⟨t,ht,rfl⟩:=hu;exact zF he (h.phi_ok hs) h1 (hq t ht)
theorem Az.ends (hs:Bw N sl) (h:Az N sl L F E La Fo) {m:Nat} (hm:2*sl.length≤m):∀t∈An E,itA (pC E) m (itA (pC E) m t.c0)=itA (pC E) m t.c0:=by
 intro t ht;have he:=h.eok hs;have h1:∃u∈An E,u.c0=t.c0:=⟨t,ht,rfl⟩
 exact Xz E (mA he (h.phi_ok hs) m h1 (A7 (h.phi_le hs h1) hm)) m
end
def Dm (E:List T5) (u:Int):Prop:=∃t∈An E,t.c0=u
section
variable {N:Nat} {sl:List T5} {L:Nat→Nat} {F:Nat→Prop} {E La Fo:List T5}
theorem Az.dmLab (hs:Bw N sl) (h:Az N sl L F E La Fo) {u:Int} (hu:Dm E u):∃a,a<N∧(L a:Int)=u:=by
 obtain⟨t,ht,rfl⟩:=hu;obtain⟨i,s,h1,_,_,h4,_⟩:=h.cho hs ht;have h5:=hs.inN h1;rcases h4 with⟨h4,_⟩|⟨h4,_⟩
 ·exact⟨_,h5.1,h4.symm⟩
 ·exact⟨_,h5.2,h4.symm⟩
theorem Ya {E:List T5} (he:EOk E) (q:Int→Int) (hq:∀u,Dm E u→0≤q u) {u:Int} (hu:Dm E u):rfx (ptL E q) u=q u:=by unfold rfx;rw[lW he q hu,if_pos];have:=hq u hu;omega
theorem mC {E:List T5} (q:Int→Int) {u:Int} (hu:¬Dm E u):rfx (ptL E q) u=u:=by unfold rfx;rw[ptL_no q hu,if_neg];simp
structure Rnd (E:List T5) (m:Nat):Prop where
 fix:∀u,Dm E u→pC E (itA (pC E) m u)=itA (pC E) m u
def Hm (E:List T5) (m:Nat):List T5:=ptL E (itA (pC E) m)
def nZ (E:List T5) (m:Nat) (L:Nat→Nat) (v:Nat):Nat:=(rfx (Hm E m) (L v)).toNat
theorem Az.pos (hs:Bw N sl) (h:Az N sl L F E La Fo) {u:Int} (hu:Dm E u) (m:Nat):0≤itA (pC E) m u:=by obtain⟨a,_,he⟩:=h.dmLab hs (Po (h.eok hs) m hu);omega
theorem Az.rfxL (hs:Bw N sl) (h:Az N sl L F E La Fo) (m:Nat) {v:Nat} (hv:v<N):∃w,w<N∧rfx (Hm E m) (L v)=(L w:Int):=by
 by_cases hd:Dm E (L v)
 ·have h1:rfx (Hm E m) (L v)=itA (pC E) m (L v):=Ya (h.eok hs) _ (fun u hu=>h.pos hs hu m) hd;obtain⟨a,ha,he⟩:=h.dmLab hs (Po (h.eok hs) m hd);exact⟨a,ha,by rw[h1,he]⟩
 ·exact⟨v,hv,mC _ hd⟩
theorem Az.nxI (hs:Bw N sl) (h:Az N sl L F E La Fo) (m:Nat) {v:Nat} (hv:v<N):(nZ E m L v:Int)=rfx (Hm E m) (L v):=by obtain⟨w,_,he⟩:=h.rfxL hs m hv;unfold nZ;rw[he];rfl
theorem Rnd.rp {E:List T5} {m:Nat} (hr:Rnd E m) {u:Int} (hu:Dm E u):itA (pC E) m (pC E u)=itA (pC E) m u:=by have h1:itA (pC E) m (pC E u)=itA (pC E) (m+1) u:=rfl;rw[h1,yZ];exact hr.fix u hu
theorem mD {E:List T5} (he:EOk E) {t:T5} (ht:t∈An E):pC E t.c0=t.c1∨(pC E t.c0=t.c0∧pC E t.c1=t.c0):=by
 have h1:=Uw he ht;by_cases hc:lkV (An E) t.c1 2=t.c2∧t.c0<t.c1
 ·rw[if_pos hc] at h1;obtain⟨u,hu,aa,ac,ab⟩:=he.other ht;have h2:lkV (An E) t.c1 2=u.c2:=Jj (v:=2) he.cho.1 hu aa;have h3:=ab (by rw[←h2];exact hc.1);have h4:=Uw he hu;have e1:u.c1=t.c0:=by rw[h3];rfl
  rw[if_neg fun h5=>by rw[aa,e1] at h5;omega,aa,e1] at h4;exact .inr ⟨h1,h4⟩
 ·rw[if_neg hc] at h1;exact .inl h1
theorem Dm.other {E:List T5} (he:EOk E) {t:T5} (ht:t∈An E):Dm E t.c1:=by obtain⟨u,hu,aa,_⟩:=he.other ht;exact⟨u,hu,aa⟩
theorem Rnd.same {E:List T5} {m:Nat} (hr:Rnd E m) (he:EOk E) {t:T5} (ht:t∈An E):itA (pC E) m t.c0=itA (pC E) m t.c1:=by
 rcases mD he ht with h|⟨h1,h2⟩
 ·have:=hr.rp (u:=t.c0) ⟨t,ht,rfl⟩;rw[h] at this;exact this.symm
 ·have:=hr.rp (Dm.other he ht);rw[h2] at this;exact this
def ChE (sl E:List T5) (i:Nat):Prop:=∃(s t:T5),sl[i]? =some s∧t∈An E∧t.c2=s.c0
theorem Az.chE (hs:Bw N sl) (h:Az N sl L F E La Fo) {i:Nat} (hc:ChE sl E i):∃(s t:T5),sl[i]? =some s∧t∈An E∧t.c2=s.c0∧L s.c1.toNat≠L s.c2.toNat∧((t.c0=(L s.c1.toNat:Int)∧t.c1=(L s.c2.toNat:Int))∨(t.c0=(L s.c2.toNat:Int)∧t.c1=(L s.c1.toNat:Int)))∧∀(j:Nat) (u:T5),sl[j]? =some u→L u.c1.toNat≠L u.c2.toNat→((L u.c1.toNat:Int)=t.c0∨(L u.c2.toNat:Int)=t.c0)→i≤j:=by
 obtain⟨s,t,h1,h2,h3⟩:=hc;obtain⟨j,u,g1,g2,g3,g4,g5⟩:=h.cho hs h2;obtain rfl:=(hs.idx g1 h1).2 oM;rw[h1] at g1;cases g1;exact⟨s,t,h1,h2,h3,g2,g4,g5⟩
theorem Az.rfx_ch (hs:Bw N sl) (h:Az N sl L F E La Fo) {m:Nat} (hr:Rnd E m) {t:T5} (ht:t∈An E):rfx (Hm E m) t.c0=rfx (Hm E m) t.c1:=by have he:=h.eok hs;unfold Hm;rw[Ya he _ (fun u hu=>h.pos hs hu m) ⟨t,ht,rfl⟩,Ya he _ (fun u hu=>h.pos hs hu m) (Dm.other he ht)];exact hr.same he ht
theorem Az.taken (hs:Bw N sl) (h:Az N sl L F E La Fo) {m:Nat} (hr:Rnd E m) {i:Nat} (hi:F i∨ChE sl E i):∃(s:T5),sl[i]? =some s∧nZ E m L s.c1.toNat=nZ E m L s.c2.toNat:=by
 rcases hi with hi|hi
 ·have h1:=(h.kr i hi).1;have h2:sl[i]? =some sl[i]:=AG h1;have h3:=hs.inN h2;have h4:Cn (gE (sl.map Cw)) F (sl[i]).c1.toNat (sl[i]).c2.toNat:=by have:=Cn.edge (g:=gE (sl.map Cw)) hi;rwa[Qx h2] at this
  refine⟨_,h2,?_⟩;unfold nZ;rw[(h.cn _ _ h3.1 h3.2).2 h4]
 ·obtain⟨s,t,h1,h2,h3,_,h5,_⟩:=h.chE hs hi;refine⟨s,h1,?_⟩;have h6:=h.rfx_ch hs hr h2;unfold nZ;rcases h5 with⟨a,b⟩|⟨a,b⟩
  ·rw[←a,←b,h6]
  ·rw[←a,←b,h6]
theorem Az.hang (hs:Bw N sl) (h:Az N sl L F E La Fo):∀(k:Nat) {u:Int},Dm E u→∀{v w:Nat},v<N→(L v:Int)=u→w<N→(L w:Int)=itA (pC E) k u→Cn (gE (sl.map Cw)) (fun i=>F i∨ChE sl E i) v w
 |0,u,hu,v,w,hv,hvu,hw,hwu=>by
  have h1:L v=L w:=by have hwu:(L w:Int)=u:=hwu;omega
  exact((h.cn v w hv hw).1 h1).mono fun i hi=> .inl hi
 |k+1,u,hu,v,w,hv,hvu,hw,hwu=>by
  have he:=h.eok hs;have hd:=Ux he hu;obtain⟨z,hz,aa⟩:=h.dmLab hs hd;refine Cn.trans ?_ (h.hang hs k hd hz aa hw hwu);obtain⟨t,ht,rfl⟩:=hu;have hF:∀{a b:Nat},a<N→b<N→L a=L b→Cn (gE (sl.map Cw)) (fun i=>F i∨ChE sl E i) a b:=fun ha hb ab=>((h.cn _ _ ha hb).1 ab).mono fun i hi=> .inl hi;rcases mD he ht with h1|⟨h1,_⟩
  ·obtain⟨i,s,g1,g2,g3,g4,_⟩:=h.cho hs ht;have h3:=hs.inN g1;have h4:Cn (gE (sl.map Cw)) (fun i=>F i∨ChE sl E i) s.c1.toNat s.c2.toNat:=by have:=Cn.edge (g:=gE (sl.map Cw)) (S:=fun i=>F i∨ChE sl E i) (i:=i) (.inr ⟨s,t,g1,ht,g3⟩);rwa[Qx g1] at this
   rw[h1] at aa;rcases g4 with⟨a,b⟩|⟨a,b⟩
   ·exact((hF hv h3.1 oM).trans h4).trans (hF h3.2 hz oM)
   ·exact((hF hv h3.2 oM).trans h4.symm).trans (hF h3.1 hz oM)
  ·rw[h1] at aa;exact hF hv hz oM
theorem Az.ok2 (hs:Bw N sl) (h:Az N sl L F E La Fo):∀t∈La,okT 2 t:=by intro t ht;obtain⟨v,hv,rfl⟩:=AO.1 (h.lab.mem_iff.1 ht);have h1:=A9.1 hv;have h2:=h.lt v h1;have hn:=hs.n;exact Ht (Ly oM) (Ly oM)
theorem Az.edm (hs:Bw N sl) (h:Az N sl L F E La Fo) (m:Nat):(edL (Hm E m) E).Perm (E.map fun t=>⟨rfx (Hm E m) t.c0,rfx (Hm E m) t.c1,t.c2,0,0⟩):=by have he:=h.eok hs;refine zH he.ok fun t ht=>?_;obtain⟨u,hu,rfl⟩:=AO.1 ((cN he.ok).mem_iff.1 ht);obtain⟨i,s,h1,h2,rfl⟩:=(h.ed u).1 hu;have h3:=hs.inN h1;obtain⟨w,hw,aa⟩:=h.rfxL hs m h3.1;have h4:=h.lt _ hw;have h5:=h.lt _ h3.2;have hn:=hs.n;dsimp only;rw[aa];exact Jd (Ly oM) (Ly oM) (Dx (hs.ok s (A0 h1))).1
theorem Az.step (hs:Bw N sl) (h:Az N sl L F E La Fo) {m:Nat} (hr:Rnd E m):Az N sl (nZ E m L) (fun i=>F i∨ChE sl E i) (edN (Hm E m) E) (Dt 2 1 (Hm E m) La) (Fo++(An E).map fun t=>⟨t.c2,0,0,0,0⟩)∧(E≠[]→(edN (Hm E m) E).length<E.length):=by
 have he:=h.eok hs;have ab:=h.edm hs m;have am:(edN (Hm E m) E).length+(E.filter fun t=>decide (rfx (Hm E m) t.c0=rfx (Hm E m) t.c1)).length=E.length:=by
  have e1:(edN (Hm E m) E).length=E.countP fun t=>decide (rfx (Hm E m) t.c0≠rfx (Hm E m) t.c1):=by unfold edN;rw[←List.countP_eq_length_filter,ab.countP_eq,List.countP_map];rfl
  have e2:=List.length_eq_countP_add_countP (fun t:T5=>decide (rfx (Hm E m) t.c0=rfx (Hm E m) t.c1)) (l:=E);rw[←List.countP_eq_length_filter,e1,e2,Nat.add_comm];congr 1;refine List.countP_congr fun t _=>?_;simp
 have an:(An E).length≤2*(E.filter fun t=>decide (rfx (Hm E m) t.c0=rfx (Hm E m) t.c1)).length:=by
  rw[←cH];have ah:(An E).Nodup:=he.cho.1.imp fun {a b} hh e=>by rw[e] at hh;omega
  refine ah.length_le_of_subset fun z hz=>?_;obtain⟨t,ht,ae⟩:=Tf hz;refine Ms.2 ⟨t,BV.2 ⟨ht,decide_eq_true ?_⟩,ae⟩;have:=h.rfx_ch hs hr hz;rcases ae with rfl|rfl
  ·exact this
  ·exact this.symm
 refine⟨⟨?_,?_,?_,?_,?_,?_,?_,?_⟩,fun aa=>?_⟩
 ·refine(mB (h.ok2 hs)).trans ((h.lab.map _).trans ?_);rw[CH];refine DF (CN fun v hv=>?_);have:=h.nxI hs m (A9.1 hv);simp only[Function.comp_apply];rw[this]
 ·intro v hv;obtain⟨w,hw,ai⟩:=h.rfxL hs m hv;unfold nZ;rw[ai];exact h.lt w hw
 ·intro v w hv hw;have ao:=h.nxI hs m hv;have aq:=h.nxI hs m hw;constructor
  ·intro au;have ag:∀{a:Nat},a<N→∃b,b<N∧(L b:Int)=rfx (Hm E m) (L a)∧Cn (gE (sl.map Cw)) (fun i=>F i∨ChE sl E i) a b:=by
    intro a ha;obtain⟨b,hb,ac⟩:=h.rfxL hs m ha;refine⟨b,hb,ac.symm,?_⟩;by_cases hd:Dm E (L a)
    ·refine h.hang hs m hd ha rfl hb ?_;rw[←ac];exact Ya he _ (fun u hu=>h.pos hs hu m) hd
    ·rw[show rfx (Hm E m) (L a)=(L a:Int) from mC _ hd] at ac;exact((h.cn a b ha hb).1 oM).mono fun i hi=> .inl hi
   obtain⟨b,hb,ac,aj⟩:=ag hv;obtain⟨c,hc,av,ak⟩:=ag hw;have h1:L b=L c:=oM;exact(aj.trans (((h.cn b c hb hc).1 h1).mono fun i hi=> .inl hi)).trans ak.symm
  ·intro hc;have:=hc.stay (X:=fun y=>nZ E m L y=nZ E m L v) rfl fun i hi=>by obtain⟨s,h1,h2⟩:=h.taken hs hr hi;rw[Qx h1];dsimp only;rw[h2]
   exact this.symm
 ·rintro i (hi|hi)
  ·exact h.kr i hi
  ·obtain⟨s,t,h1,h2,h3,h4,h5,h6⟩:=h.chE hs hi;refine Kr.cut (X:=fun w=>(L w:Int)=t.c0) (AK.1 h1).1 ?_ ?_
   ·rw[Qx h1];dsimp only;rcases h5 with⟨a,b⟩|⟨a,b⟩
    ·rw[a];exact fun hh=>h4 (by have:=hh.1 rfl;omega)
    ·rw[a];exact fun hh=>h4 (by have:=hh.2 rfl;omega)
   ·intro j hj aw;have hu:sl[j]? =some sl[j]:=AG hj;rw[Qx hu];dsimp only;refine BS fun ad=>?_;have aa:L (sl[j]).c1.toNat≠L (sl[j]).c2.toNat:=fun e=>ad (by rw[e]);have al:(L (sl[j]).c1.toNat:Int)=t.c0∨(L (sl[j]).c2.toNat:Int)=t.c0:=by
     by_cases ha:(L (sl[j]).c1.toNat:Int)=t.c0
     ·exact .inl ha
     ·by_cases hb:(L (sl[j]).c2.toNat:Int)=t.c0
      ·exact .inr hb
      ·exact absurd ⟨fun hh=>absurd hh ha,fun hh=>absurd hh hb⟩ ad
    have:=h6 j _ hu aa al;omega
 ·intro x;rw[AR,AO];constructor
  ·rintro(hx|⟨t,ht,rfl⟩)
   ·obtain⟨i,s,a,b,c⟩:=(h.fo x).1 hx;exact⟨i,s,a,.inl b,c⟩
   ·obtain⟨i,s,g1,_,g3,_⟩:=h.cho hs ht;exact⟨i,s,g1,.inr ⟨s,t,g1,ht,g3⟩,by rw[g3]⟩
  ·rintro⟨i,s,a,b|⟨s',t,b1,b2,b3⟩,rfl⟩
   ·exact .inl ((h.fo _).2 ⟨i,s,a,b,rfl⟩)
   ·rw[a] at b1;cases b1;exact .inr ⟨t,b2,by rw[b3]⟩
 ·intro t;unfold edN;rw[BV,ab.mem_iff,AO];constructor
  ·rintro⟨⟨u,hu,rfl⟩,aa⟩;obtain⟨i,s,h1,h2,rfl⟩:=(h.ed u).1 hu;have h3:=hs.inN h1;have e1:=h.nxI hs m h3.1;have e2:=h.nxI hs m h3.2;have aa:=of_decide_eq_true aa;dsimp only at aa⊢;refine⟨i,s,h1,fun e=>aa (by rw[←e1,←e2,e]),by rw[e1,e2]⟩
  ·rintro⟨i,s,h1,h2,rfl⟩;have h3:=hs.inN h1;have e1:=h.nxI hs m h3.1;have e2:=h.nxI hs m h3.2;refine⟨⟨⟨(L s.c1.toNat:Int),(L s.c2.toNat:Int),s.c0,0,0⟩,(h.ed _).2 ⟨i,s,h1,fun e=>h2 ?_,rfl⟩,by dsimp only;rw[e1,e2]⟩,decide_eq_true ?_⟩
   ·unfold nZ;rw[e]
   ·dsimp only;omega
 ·unfold edN;refine List.Pairwise.sublist List.filter_sublist ?_;refine(ab.pairwise_iff (R:=fun a c:T5=>a.c2≠c.c2) (fun hh=>fun e=>hh e.symm)).2 ?_;exact A6.2 (h.nd.imp fun hh=>hh)
 ·have:=h.len;rw[AH,AQ];omega
 ·have:An E≠[]:=by
   obtain⟨t,l,rfl⟩:∃t l,E=t::l:=by
    cases E with
    |nil=>exact absurd rfl aa
    |cons t l=>exact⟨t,l,rfl⟩
   obtain⟨z,hz,_⟩:=he.cho.2.2 t (Ms.2 ⟨t,AE,.inl rfl⟩);intro e;rw[e] at hz;cases hz
  have:0<(An E).length:=List.length_pos_iff.2 this;omega
end
def edgO (t:T5):List T5:=if t.c1=t.c2 then[] else[⟨t.c1,t.c2,t.c0,0,0⟩]
def Jx (l:List T5):List T5:=l.flatMap edgO
def lab0 (N:Nat):List T5:=(BA N).map fun (v:Nat)=>⟨(v:Int),(v:Int),0,0,0⟩
abbrev slS (l:List T5):List T5:=srt (ltO o1) false l
def Mt (La:List T5):List T5:=srt (ltO o1) true (srt (ltO o12) false (La.map fun t=>⟨t.c1,t.c0,0,0,0⟩))
def labF (La:List T5):List T5:=srt (ltO o1) false (Dt 2 1 (Mt La) La)
def treF (Fo l:List T5):List T5:=((srt (ltO o1) true Fo).map (Bf (slS l) 0 1 1)).map (Bf (slS l) 0 2 2)
theorem zI {a b:List T5} (ha:a.Pairwise fun x y=>x.c0<y.c0) (hb:b.Pairwise fun x y=>x.c0<y.c0) (h:∀z,z∈a↔z∈b):a=b:=by
 have na:a.Nodup:=ha.imp fun {x y} hh e=>by rw[e] at hh;omega
 have nb:b.Nodup:=hb.imp fun {x y} hh e=>by rw[e] at hh;omega
 have hp:a.Perm b:=by
  rw[List.perm_iff_count];intro x;have k1:=List.nodup_iff_count.1 na x;have k2:=List.nodup_iff_count.1 nb x;by_cases hx:x∈a
  ·have h4:=List.count_pos_iff.2 hx;have h5:=List.count_pos_iff.2 ((h x).1 hx);omega
  ·have h4:=List.count_eq_zero.2 hx;have h5:=List.count_eq_zero.2 fun hy=>hx ((h x).2 hy);omega
 exact hp.eq_of_pairwise (le:=fun x y=>x.c0<y.c0) (fun x y _ _ h1 h2=>absurd h1 oM) ha hb
theorem mE {l:List T5} {z:T5}:z∈Jx l↔∃t∈l,t.c1≠t.c2∧z=⟨t.c1,t.c2,t.c0,0,0⟩:=by
 unfold Jx;rw[BZ];refine exists_congr fun t=>and_congr_right fun _=>?_;unfold edgO;by_cases h:t.c1=t.c2
 ·rw[if_pos h];simp[h]
 ·rw[if_neg h];simp[h]
theorem cO:∀l:List T5,(Jx l).length≤l.length
 |[]=>AI _
 |t::l=>by
  have:=cO l;unfold Jx at this⊢;rw[BC,AH];have h:(edgO t).length≤1:=by unfold edgO;split<;>simp
  simp only[AJ];omega
theorem mF:∀{l:List T5},(l.Pairwise fun a c=>a.c0≠c.c0)→(Jx l).Pairwise fun a c=>a.c2≠c.c2
 |[],_=>DJ
 |t::l,h=>by
  obtain⟨h1,h2⟩:=BI.1 h;have ih:=mF h2;unfold Jx at ih⊢;rw[BC,List.pairwise_append];refine⟨by unfold edgO;split<;>simp,ih,fun a ha b hb=>?_⟩;obtain⟨u,hu,_,rfl⟩:=mE.1 (show b∈Jx l from hb);unfold edgO at ha;split at ha
  ·cases ha
  ·simp only[AX] at ha;subst ha;exact h1 u hu
theorem slOk {N:Nat} {l:List T5} (hN:N≤1000000) (h:Ij N l) (aa:∀t∈l,okT 3 t):Bw N (slS l) where
 n:=hN
 ed t ht:=h.1 t ((Bt l).mem_iff.1 ht)
 lt:=lU h.2
 ok t ht:=aa t ((Bt l).mem_iff.1 ht)
theorem mG {l:List T5} {s:T5}:s∈l↔∃i:Nat,(slS l)[i]? =some s:=by rw[←(Bt (lt:=ltO o1) l).mem_iff,DA]
theorem cinv0 {N:Nat} {l:List T5} (hN:N≤1000000) (h:Ij N l):Az N (slS l) id (fun _=>False) (Jx l) (lab0 N) [] where
 lab:= .refl _
 lt v hv:=hv
 cn v w hv hw:=by
  constructor
  ·intro e;have e:v=w:=e;subst e;exact .refl _
  ·intro hc;exact(hc.stay (X:=fun y=>y=v) rfl fun i hi=>absurd hi id).symm
 kr i hi:=absurd hi id
 fo x:=by simp
 ed t:=by
  rw[mE];constructor
  ·rintro⟨s,hs,aa,rfl⟩;obtain⟨i,hi⟩:=mG.1 hs;obtain⟨_,h1,h2,_,_⟩:=h.1 s hs;refine⟨i,s,hi,fun e=>aa ?_,?_⟩
   ·have e:s.c1.toNat=s.c2.toNat:=e;omega
   ·simp only[id];rw[DM h1,DM h2]
  ·rintro⟨i,s,hi,aa,rfl⟩;have hs:=mG.2 ⟨i,hi⟩;obtain⟨_,h1,h2,_,_⟩:=h.1 s hs;refine⟨s,hs,fun e=>aa (by rw[e]),?_⟩;simp only[id];rw[DM h1,DM h2]
 nd:=mF h.2
 len:=by have h1:=cO l;have h2:(slS l).length=l.length:=(Bt (lt:=ltO o1) l).length_eq;simp only[AS];omega
section
variable {N:Nat} {sl:List T5} {L:Nat→Nat} {F:Nat→Prop} {La Fo:List T5}
theorem Az.all (hs:Bw N sl) (h:Az N sl L F [] La Fo) {i:Nat} {s:T5} (hi:sl[i]? =some s):L s.c1.toNat=L s.c2.toNat:=by refine BS fun aa=>?_;have:=(h.ed _).2 ⟨i,s,hi,aa,rfl⟩;cases this
theorem Az.conn (hs:Bw N sl) (h:Az N sl L F [] La Fo) {i:Nat} (hi:i<sl.length):Cn (gE (sl.map Cw)) F (gE (sl.map Cw) i).1 (gE (sl.map Cw) i).2:=by have h1:sl[i]? =some sl[i]:=AG hi;have h2:=hs.inN h1;rw[Qx h1];exact(h.cn _ _ h2.1 h2.2).1 (h.all hs h1)
theorem Az.isKr (hs:Bw N sl) (h:Az N sl L F [] La Fo) (i:Nat):F i↔Kr (gE (sl.map Cw)) (fun j=>j<sl.length) i:=
 ⟨h.kr i,fun hk=>vV (F:=Kr (gE (sl.map Cw)) (fun j=>j<sl.length)) (C:=F) (fun i hi=>Kr.bridge hi) h.kr (fun i hi=>h.conn hs hi.1) i hk⟩
theorem Bw.stay (hs:Bw N sl) {a b:Nat} (ha:a<N) (h:Cn (gE (sl.map Cw)) (fun j=>j<sl.length) a b):b<N:=by refine h.stay (X:=fun y=>y<N) ha fun i hi=>?_;have h1:sl[i]? =some sl[i]:=AG hi;have h2:=hs.inN h1;rw[Qx h1];exact⟨fun _=>h2.2,fun _=>h2.1⟩
def Pp (N:Nat) (L:Nat→Nat) (La:List T5):List Int:=(BA N).map fun v=>rfx (Mt La) (L v)
theorem Az.frs (hs:Bw N sl) {E:List T5} (h:Az N sl L F E La Fo) {v:Nat} (hv:v<N):∃x,x<N∧rfx (Mt La) (L v)=(x:Int)∧L x=L v∧∀w,w<N→L w=L v→x≤w:=by
 have ac:=h.ok2 hs;have hm:∀t∈La.map (fun t:T5=>(⟨t.c1,t.c0,0,0,0⟩:T5)),okT 2 t:=by intro t ht;obtain⟨u,hu,rfl⟩:=AO.1 ht;have:=Dx (ac u hu);exact Ht this.2.1 this.1
 have aa:∀w,w<N→(⟨(L w:Int),(w:Int),0,0,0⟩:T5)∈La.map (fun t:T5=>(⟨t.c1,t.c0,0,0,0⟩:T5)):=by intro w hw;refine AO.2 ⟨⟨(w:Int),(L w:Int),0,0,0⟩,h.lab.mem_iff.2 (AO.2 ⟨w,A9.2 hw,rfl⟩),rfl⟩
 obtain⟨z,hz,ab⟩:∃z∈Mt La,z.c0=(L v:Int):=by obtain⟨w,hw,he⟩:=aV (o:=o1) (once:=true) ((Bt (lt:=ltO o12) _).mem_iff.2 (aa v hv));exact⟨w,hw,(Qn.1 he).symm⟩
 obtain⟨h1,h2⟩:=(jG hm).1 hz;obtain⟨t,ht,rfl⟩:=AO.1 h1;obtain⟨x,hx,rfl⟩:=AO.1 (h.lab.mem_iff.1 ht);have ad:=A9.1 hx;dsimp only at ab h2;refine⟨x,ad,?_,oM,fun w hw he=>?_⟩
 ·unfold rfx;have e1:lkV (Mt La) (L v:Int) 1=_:=Jj (v:=1) (Pc _) hz ab;rw[e1];show(if(x:Int)≠-1 then(x:Int) else _)=_;rw[if_pos oM]
 ·have:=h2 _ (aa w hw) oD;dsimp only at this;omega
theorem Az.labOk (hs:Bw N sl) (h:Az N sl L F [] La Fo):Ee (gE (sl.map Cw)) (fun j=>j<sl.length) N (-1) (Pp N L La) where
 len:=by simp[Pp]
 at_ v hv hw:=by
  obtain⟨x,hx,h1,h2,h3⟩:=h.frs hs hv;refine⟨x,?_,?_,h3 v hv rfl,fun u hu=>?_⟩
  ·unfold Pp;rw[BH,CK hv,Option.map_some,h1]
  ·exact((h.cn v x hv hx).1 h2.symm).mono fun i hi=>(h.kr i hi).1
  ·have hc:=hu.sub (S':=F) fun i hi=>h.conn hs hi;have aa:=hs.stay hv hu;exact h3 u aa ((h.cn v u hv aa).2 hc).symm
 out v hv hw:=by omega
theorem Az.labIs (hs:Bw N sl) {E:List T5} (h:Az N sl L F E La Fo):labF La=Bb (Pp N L La):=by
 have hl:(Pp N L La).length=N:=by simp[Pp]
 unfold Go.Proofs.YtaofijjjheiknaaGreat.labF Bb;rw[hl];refine cF ?_ ?_
 ·refine(mB (h.ok2 hs)).trans ((h.lab.map _).trans ?_);rw[CH];refine DF (CN fun v hv=>?_);have hv:=A9.1 hv;simp only[Function.comp_apply];unfold Pp;rw[List.getD_eq_getElem?_getD,BH,CK hv];rfl
 ·rw[A6];exact List.pairwise_lt_range.imp fun hh=>by dsimp only;omega
open Classical in
noncomputable def Qy (sl:List T5) (F:Nat→Prop):List Bool:=(BA sl.length).map fun i=>decide (F i)
theorem cP {sl:List T5} {F:Nat→Prop} {i:Nat} (hi:i<sl.length):∃b,(Qy sl F)[i]? =some b∧(b=true↔F i):=by unfold Qy;rw[BH,CK hi];exact⟨_,rfl,@decide_eq_true_iff _ (Classical.propDecidable _)⟩
theorem Az.forOk (hs:Bw N sl) (h:Az N sl L F [] La Fo):Ur (sl.map Cw) (Qy sl F):=by
 refine⟨by simp[Qy],fun i b hb=>?_⟩;have hi:i<sl.length:=by have:=(AK.1 hb).1;simpa[Qy] using this
 obtain⟨b',h1,h2⟩:=cP (F:=F) hi;rw[hb] at h1;cases h1;rw[AQ,h2];exact h.isKr hs i
theorem zJ {sl:List T5} {fl:List Bool} {z:T5}:z∈Ba sl fl↔∃(i:Nat) (s:T5),sl[i]? =some s∧fl[i]? =some true∧z=⟨s.c0,s.c1,s.c2,0,0⟩:=by
 unfold Ba;rw[List.mem_filterMap];constructor
 ·rintro⟨⟨s,b⟩,hm,he⟩;obtain⟨i,hi⟩:=DA.1 hm;rw[DR] at hi;cases b with
  |false=>simp at he
  |true=>
   simp only[if_true,BG] at he;exact⟨i,s,hi.1,hi.2,he.symm⟩
 ·rintro⟨i,s,h1,h2,rfl⟩;exact⟨(s,true),DA.2 ⟨i,DR.2 ⟨h1,h2⟩⟩,rfl⟩
theorem zK {sl:List T5} {fl:List Bool} (h:sl.Pairwise fun a c=>a.c0<c.c0):(Ba sl fl).Pairwise fun a c=>a.c0<c.c0:=by
 unfold Ba;rw[List.pairwise_filterMap];rw[BB];intro i j hi hj aa a ha b hb;rw[List.length_zip] at hi hj;have h1:=BB.1 h i j oM oM aa;rw[List.getElem_zip] at ha hb;split at ha
 ·split at hb
  ·simp only[Option.mem_def,BG] at ha hb;subst ha hb;exact h1
  ·cases hb
 ·cases ha
theorem Az.treIs {l:List T5} (hs:Bw N (slS l)) {E:List T5} (h:Az N (slS l) L F E La Fo) (hF:∀i,F i→i<(slS l).length):treF Fo l=Ba (slS l) (Qy (slS l) F):=by
 have aa:∀{i:Nat} {s:T5},(slS l)[i]? =some s→Bf (slS l) 0 2 2 (Bf (slS l) 0 1 1 ⟨s.c0,0,0,0,0⟩)=⟨s.c0,s.c1,s.c2,0,0⟩:=by intro i s hi;have hm:=A0 hi;have e1:=Jj (v:=1) hs.lt hm rfl;have e2:=Jj (v:=2) hs.lt hm rfl;show Dl (Dl _ 1 (lkV (slS l) s.c0 1)) 2 (lkV (slS l) s.c0 2)=_;rw[e1,e2];rfl
 have ab:∀{x:T5},x∈srt (ltO o1) true Fo↔x∈Fo:=by intro x;refine⟨Ji,fun hx=>?_⟩;obtain⟨w,hw,he⟩:=aV (o:=o1) (once:=true) hx;have e0:=Qn.1 he;obtain⟨i,s,_,_,rfl⟩:=(h.fo x).1 hx;obtain⟨j,u,_,_,rfl⟩:=(h.fo w).1 (Ji hw);dsimp only at e0;rw[e0];exact hw
 refine zI ?_ (zK hs.lt) fun z=>?_
 ·unfold Go.Proofs.YtaofijjjheiknaaGreat.treF;rw[A6,A6];exact(Pc Fo).imp fun hh=>hh
 ·rw[zJ];unfold Go.Proofs.YtaofijjjheiknaaGreat.treF;rw[CH,AO];constructor
  ·rintro⟨x,hx,rfl⟩;obtain⟨i,s,h1,h2,rfl⟩:=(h.fo x).1 (ab.1 hx);obtain⟨b,h3,h4⟩:=cP (sl:=slS l) (F:=F) (hF i h2);refine⟨i,s,h1,?_,(aa h1)⟩;rw[h3,h4.2 h2]
  ·rintro⟨i,s,h1,h2,rfl⟩;have hi:=(AK.1 h1).1;obtain⟨b,h3,h4⟩:=cP (sl:=slS l) (F:=F) hi;rw[h2] at h3;cases h3;exact⟨⟨s.c0,0,0,0,0⟩,ab.2 ((h.fo _).2 ⟨i,s,h1,h4.1 rfl,rfl⟩),aa h1⟩
end
theorem Az.spec {N:Nat} {l:List T5} {L:Nat→Nat} {F:Nat→Prop} {La Fo:List T5} (hs:Bw N (slS l)) (h:Az N (slS l) L F [] La Fo):Ny N l (labF La) (treF Fo l):=
 ⟨slS l,Qy (slS l) F,Pp N L La,Bt l,Ul l,h.labOk hs,h.forOk hs,h.labIs hs,h.treIs hs fun i hi=>(h.kr i hi).1⟩
def Eo (bn n:Nat):Am Unit:=⟨fun _=>[[(bn,row [Z9 Z8 n] 3)]],fun _ t=>if Fp n t then[⟨t.c0,0,0,0,0⟩] else[],fun _ _=>(),fun _ t=>if Fp n t then none else some 3⟩
theorem chkC_C (bn n:Nat) (k:Unit):(Eo bn n).C k=[[(bn,row [Z9 Z8 n] 3)]]:=rfl
theorem zL (bn n:Nat):Bx (Eo bn n) 1 (fun _ t=>okT 3 t) 183 [] [pv bn]:=by
 rintro bx Pst Br bnd hP ps X ⟨⟩ t hX hk hb;have aa:tv t= .agg #[Z9 Z8 t.c0,Z9 Z8 t.c1,Z9 Z8 t.c2,Z9 Z8 t.c3,Z9 Z8 t.c4]:=rfl;rw[aa];unfold Jg;simp only[AB,AA];show Ct _ _ _ [X,[(bn,row [Z9 Z8 n] 3)]] _;have ti:=Dx hk;by_cases h:Fp n t
 ·simp only[Eo,if_pos h,CQ] at hb;have ab:=hP ps X ⟨t.c0,0,0,0,0⟩ hX (okT1 ti.1) hb;unfold Fp at h;obtain⟨h0,h1,h2,h3,h4⟩:=h;refine cG func183 fun _=>?_;repeat(refine sA ?_;intros)
  refine R.callV (hct:=by exact ab) (h:=?_);rintro _ _ ⟨X',rfl,⟨rfl,ac⟩|⟨rfl,hB⟩⟩
  ·repeat(refine sA ?_;intros)
   (refine dP [X',[(bn,row [Z9 Z8 n] 3)]] ?_;exact⟨X',(),rfl,.inl ⟨rfl,if_pos ⟨h0,h1,h2,h3,h4⟩,(by trivial),by simpa[Eo,Fp,h0,h1,h2,h3,h4] using ac⟩⟩)
  ·repeat(refine sA ?_;intros)
   (refine dP [X',[(bn,row [Z9 Z8 n] 3)]] ?_;exact⟨X',(),rfl,.inr (.inl ⟨rfl,hB⟩)⟩)
 ·have hn:(Eo bn n).err () t=some 3:=if_neg h;unfold Fp at h;by_cases h0:t.c0<0
  ·refine cG func183 fun _=>?_;repeat(refine sA ?_;intros)
   (refine dP [X,[(bn,row [Z9 Z8 n] 3)]] ?_;exact⟨X,(),rfl,.inr (.inr ⟨3,hn,by decide,rfl,ps,hX⟩)⟩)
  by_cases h1:t.c1<0
  ·refine cG func183 fun _=>?_;repeat(refine sA ?_;intros)
   (refine dP [X,[(bn,row [Z9 Z8 n] 3)]] ?_;exact⟨X,(),rfl,.inr (.inr ⟨3,hn,by decide,rfl,ps,hX⟩)⟩)
  by_cases h2:t.c2<0
  ·refine cG func183 fun _=>?_;repeat(refine sA ?_;intros)
   (refine dP [X,[(bn,row [Z9 Z8 n] 3)]] ?_;exact⟨X,(),rfl,.inr (.inr ⟨3,hn,by decide,rfl,ps,hX⟩)⟩)
  by_cases h3:(n:Int)≤t.c1
  ·refine cG func183 fun _=>?_;repeat(refine sA ?_;intros)
   (refine dP [X,[(bn,row [Z9 Z8 n] 3)]] ?_;exact⟨X,(),rfl,.inr (.inr ⟨3,hn,by decide,rfl,ps,hX⟩)⟩)
  have h4:(n:Int)≤t.c2:=oM;refine cG func183 fun _=>?_;repeat(refine sA ?_;intros)
  (refine dP [X,[(bn,row [Z9 Z8 n] 3)]] ?_;exact⟨X,(),rfl,.inr (.inr ⟨3,hn,by decide,rfl,ps,hX⟩)⟩)
theorem mH {bn n:Nat}:∀{ts:List T5} {k:Unit},(∀t∈ts,Fp n t)→(Eo bn n).all k ts=ts.map fun t=>⟨t.c0,0,0,0,0⟩
 |[],_,_=>rfl
 |t::ts,k,h=>by simp only[Am.all,AZ];rw[mH fun u hu=>h u (AF _ hu)];have:(Eo bn n).outs k t=[⟨t.c0,0,0,0,0⟩]:=if_pos (h t AE);rw[this];rfl
theorem mI {bn n:Nat}:∀{ts:List T5} {k:Unit},((Eo bn n).bad k ts=none↔∀t∈ts,Fp n t)∧((Eo bn n).bad k ts=none∨(Eo bn n).bad k ts=some 3)
 |[],_=>⟨by simp[Am.bad],.inl rfl⟩
 |t::ts,k=>by
  obtain⟨i1,i2⟩:=mI (bn:=bn) (n:=n) (ts:=ts) (k:=());simp only[Am.bad];by_cases h:Fp n t
  ·rw[show(Eo bn n).err k t=none from if_pos h];dsimp only;exact⟨by rw[show(Eo bn n).next k t=() from rfl,i1];simp[h],i2⟩
  ·rw[show(Eo bn n).err k t=some 3 from if_neg h];exact⟨by simp[h],.inr rfl⟩
theorem mJ (bn n:Nat) (k:Unit) (t:T5):((Eo bn n).outs k t).length≤1:=by unfold Eo;dsimp only;split<;>simp
def Qz (t:T5):List T5:=(if t.c1=t.c2 then[] else[⟨t.c1,t.c2,t.c0,0,0⟩])
theorem ckE:Bx (Cs [] (Qz)) 3 (fun _ t=>okT 3 t) 184 [] []:=mkU fun _ _ _ _ _ _ t s=>by
 by_cases h1:t.c1=t.c2
 ·exact mL0 s func184 (show Qz t=_ from if_pos h1)
 ·exact mL1 s func184 (show Qz t=_ from if_neg h1)
def Ra (t:T5):List T5:=[t,⟨t.c1,t.c0,t.c2,0,0⟩]
theorem hkB:Bx (Cs [] (Ra)) 3 (fun _ t=>okT 3 t) 186 [] []:=by
 rintro bx Pst Br bnd hP ps X ⟨⟩ t hX hk hb;have ac:tv t= .agg #[Z9 Z8 t.c0,Z9 Z8 t.c1,Z9 Z8 t.c2,Z9 Z8 t.c3,Z9 Z8 t.c4]:=rfl;rw[ac];unfold Jg;simp only[AB,AA];show Ct _ _ _ [X] _;have ti:=Dx hk;have ho:(Cs [] (Ra)).outs () t=[t,⟨t.c1,t.c0,t.c2,0,0⟩]:=by show Ra t=_;unfold Ra;rfl
 have ag:ps.length+2≤bnd:=by rw[ho] at hb;exact hb
 have aa:=hP ps X t hX hk oM;rw[show tv t= .agg #[Z9 Z8 t.c0,Z9 Z8 t.c1,Z9 Z8 t.c2,Z9 Z8 t.c3,Z9 Z8 t.c4] from rfl] at aa;have ab:=fun X' h=>hP (ps++[t]) X' ⟨t.c1,t.c0,t.c2,0,0⟩ h (by first|exact hk|exact Jd oA2 oA2 oA2) (by rw[AH,CQ];omega);rw[show tv ⟨t.c1,t.c0,t.c2,0,0⟩= .agg #[Z9 Z8 t.c1,Z9 Z8 t.c0,Z9 Z8 t.c2,Z9 Z8 0,Z9 Z8 0] from rfl] at ab;refine cG func186 fun _=>?_;repeat(refine sA ?_;intros)
 refine R.callV (hct:=by exact aa) (h:=?_);rintro _ _ ⟨X',rfl,⟨rfl,ad⟩|⟨rfl,hB⟩⟩
 ·repeat(refine sA ?_;intros)
  refine R.callV (hct:=by exact ab _ ad) (h:=?_);rintro _ _ ⟨X2,rfl,⟨rfl,ae⟩|⟨rfl,hB⟩⟩
  ·repeat(refine sA ?_;intros)
   (refine dP [X2] ?_;exact⟨X2,(),rfl,.inl ⟨rfl,rfl,(by trivial),by rw[ho];simpa using ae⟩⟩)
  ·repeat(refine sA ?_;intros)
   (refine dP [X2] ?_;exact⟨X2,(),rfl,.inr (.inl ⟨rfl,hB⟩)⟩)
 ·repeat(refine sA ?_;intros)
  (refine dP [X'] ?_;exact⟨X',(),rfl,.inr (.inl ⟨rfl,hB⟩)⟩)
def Od (bl:Nat):Am Int:=⟨fun k=>[[(bl,row [Z9 Z8 k] 2)]],fun k t=>if t.c0=k then[] else[t],fun _ t=>t.c0,fun _ _=>none⟩
theorem fstM_C (bl:Nat) (k:Int):(Od bl).C k=[[(bl,row [Z9 Z8 k] 2)]]:=rfl
theorem cQ (bl:Nat):∀(ts:List T5) (k:Int),(Od bl).all k ts=Jc k ts
 |[],_=>rfl
 |t::ts,k=>by
  simp only[Am.all,Jc];rw[show(Od bl).next k t=t.c0 from rfl,cQ bl ts];show(if t.c0=k then[] else[t])++_=_;by_cases h:t.c0=k
  ·rw[if_pos h,if_pos h,h];rfl
  ·rw[if_neg h,if_neg h];rfl
theorem fst_mk (bl:Nat):Bx (Od bl) 3 (fun _ t=>okT 3 t) 187 [] [pv bl]:=by
 rintro bx Pst Br bnd hP ps X k t hX hk hb;have aa:tv t= .agg #[Z9 Z8 t.c0,Z9 Z8 t.c1,Z9 Z8 t.c2,Z9 Z8 t.c3,Z9 Z8 t.c4]:=rfl;rw[aa];unfold Jg;simp only[AB,AA];show Ct _ _ _ [X,[(bl,row [Z9 Z8 k] 2)]] _;have ti:=Dx hk;by_cases h:t.c0=k
 ·have ho:(Od bl).outs k t=[]:=if_pos h;have hn:(Od bl).next k t=k:=h;refine cG func187 fun _=>?_;repeat(refine sA ?_;intros)
  (refine dP [X,[(bl,row [Z9 Z8 k] 2)]] ?_;exact⟨X,k,rfl,.inl ⟨rfl,rfl,hn.symm,by rw[ho,AP];exact hX⟩⟩)
 ·have ho:(Od bl).outs k t=[t]:=if_neg h;have ac:ps.length+1≤bnd:=by rw[ho] at hb;exact hb
  have ab:=hP ps X t hX hk ac;rw[aa] at ab;refine cG func187 fun _=>?_;repeat(refine sA ?_;intros)
  refine R.callV (hct:=by exact ab) (h:=?_);rintro _ _ ⟨X',rfl,⟨rfl,ad⟩|⟨rfl,hB⟩⟩
  ·repeat(refine sA ?_;intros)
   (refine dP [X',[(bl,row [Z9 Z8 t.c0] 2)]] ?_;exact⟨X',t.c0,rfl,.inl ⟨rfl,rfl,rfl,by rw[ho];exact ad⟩⟩)
  ·repeat(refine sA ?_;intros)
   (refine dP [X',[(bl,row [Z9 Z8 t.c0] 2)]] ?_;exact⟨X',t.c0,rfl,.inr (.inl ⟨rfl,hB⟩)⟩)
def hkSF (t:T5):List T5:=[t]
theorem hkS:Bx (Cs [] (hkSF)) 3 (fun _ t=>okT 3 t) 188 [] []:=mkU fun _ _ _ _ _ _ t s=>mL1 s func188 (show hkSF t=[t] from rfl)
theorem lkHook (p:Jp) (fa fb:Fl) (b8 b4 b5:Nat) (J:Jb) (A T:Nat) (ts:List T5) (Rl:Fl→Int→Prop) (hL:Jl p J fa fb 1 2 3 A T ts Rl):Fg p J 189 [pv b8,pv b4,pv b5] (Cr p.bj b8 b4 b5 fa fb) A T none ts fun f e Hx'=>Hx'=Cr p.bj b8 b4 b5 fa fb∧Rl f e:=lM hL func189
def Pq (t:T5):List T5:=(if t.c2=t.c3 then(if t.c0<t.c1 then[⟨t.c0,t.c0,0,0,0⟩] else[⟨t.c0,t.c1,0,0,0⟩]) else[⟨t.c0,t.c1,0,0,0⟩])
theorem hkH:Bx (Cs [] (Pq)) 2 (fun _ t=>okT 4 t) 190 [] []:=mkU fun _ _ _ _ _ _ t s=>by
 by_cases h1:t.c2=t.c3
 ·by_cases h2:t.c0<t.c1
  ·exact mL1 s func190 (show Pq t=_ from (if_pos h1).trans (if_pos h2))
  ·exact mL1 s func190 (show Pq t=_ from (if_pos h1).trans (if_neg h2))
 ·exact mL1 s func190 (show Pq t=_ from if_neg h1)
def rtSF (t:T5):List T5:=[t]
theorem rtS:Bx (Cs [] (rtSF)) 2 (fun _ t=>okT 2 t) 193 [] []:=mkU fun _ _ _ _ _ _ t s=>mL1 s func193 (show rtSF t=[t] from rfl)
theorem zM (p:Jp) (fa fb:Fl) (b8 b4 b5:Nat) (J:Jb) (A T:Nat) (ts:List T5) (Rl:Fl→Int→Prop) (hL:Jl p J fa fb 1 1 2 A T ts Rl):Fg p J 194 [pv b8,pv b4,pv b5] (Cr p.bj b8 b4 b5 fa fb) A T none ts fun f e Hx'=>Hx'=Cr p.bj b8 b4 b5 fa fb∧Rl f e:=lM hL func194
def Oe (bt:Nat):Am Bool:=⟨fun k=>[[(bt,row [.bool k] 4)]],fun _ t=>[⟨t.c0,t.c2,0,0,0⟩],fun k t=>k||decide (t.c1≠t.c2),fun _ _=>none⟩
theorem trnM_C (bt:Nat) (k:Bool):(Oe bt).C k=[[(bt,row [.bool k] 4)]]:=rfl
theorem cR (bt:Nat):∀(ts:List T5) (k:Bool),(Oe bt).all k ts=ts.map fun t=>⟨t.c0,t.c2,0,0,0⟩
 |[],_=>rfl
 |t::ts,k=>by simp only[Am.all,cR bt ts,AZ];rfl
theorem mK (bt:Nat):∀(ts:List T5) (k:Bool),(Oe bt).st k ts=(k||ts.any fun t=>decide (t.c1≠t.c2))
 |[],k=>by simp[Am.st]
 |t::ts,k=>by simp only[Am.st,mK bt ts,List.any_cons];show((k||decide (t.c1≠t.c2))||_)=_;rw[Bool.or_assoc]
theorem trn_mk (bt:Nat):Bx (Oe bt) 2 (fun _ t=>okT 3 t) 195 [] [pv bt]:=by
 rintro bx Pst Br bnd hP ps X k t hX hk hb;have ac:tv t= .agg #[Z9 Z8 t.c0,Z9 Z8 t.c1,Z9 Z8 t.c2,Z9 Z8 t.c3,Z9 Z8 t.c4]:=rfl;rw[ac];unfold Jg;simp only[AB,AA];show Ct _ _ _ [X,[(bt,row [.bool k] 4)]] _;have ti:=Dx hk;have ad:ps.length+1≤bnd:=hb;have ab:=hP ps X ⟨t.c0,t.c2,0,0,0⟩ hX (Ht ti.1 ti.2.2.1) ad;rw[show tv ⟨t.c0,t.c2,0,0,0⟩= .agg #[Z9 Z8 t.c0,Z9 Z8 t.c2,Z9 Z8 0,Z9 Z8 0,Z9 Z8 0] from rfl] at ab;cases k with
 |true=>
  refine cG func195 fun _=>?_;repeat(refine sA ?_;intros)
  refine R.callV (hct:=by exact ab) (h:=?_);rintro _ _ ⟨X',rfl,⟨rfl,aa⟩|⟨rfl,hB⟩⟩
  ·repeat(refine sA ?_;intros)
   (refine dP [X',[(bt,row [.bool true] 4)]] ?_;exact⟨X',true,rfl,.inl ⟨rfl,rfl,rfl,aa⟩⟩)
  ·repeat(refine sA ?_;intros)
   (refine dP [X',[(bt,row [.bool true] 4)]] ?_;exact⟨X',true,rfl,.inr (.inl ⟨rfl,hB⟩)⟩)
 |false=>
  by_cases h:t.c1=t.c2
  ·have hn:(Oe bt).next false t=false:=by show(false||decide (t.c1≠t.c2))=false;simp[h]
   have hd:dec (t.c1≠t.c2)=false:=Jf fun hh=>hh h;refine cG func195 fun _=>?_;repeat(refine sA ?_;intros)
   try rw[hd]
   refine R.callV (hct:=by exact ab) (h:=?_);rintro _ _ ⟨X',rfl,⟨rfl,aa⟩|⟨rfl,hB⟩⟩
   ·repeat(refine sA ?_;intros)
    (refine dP [X',[(bt,row [.bool false] 4)]] ?_;exact⟨X',false,rfl,.inl ⟨rfl,rfl,hn.symm,aa⟩⟩)
   ·repeat(refine sA ?_;intros)
    (refine dP [X',[(bt,row [.bool false] 4)]] ?_;exact⟨X',false,rfl,.inr (.inl ⟨rfl,hB⟩)⟩)
  ·have hn:(Oe bt).next false t=true:=by show(false||decide (t.c1≠t.c2))=true;simp[h]
   have hd:dec (t.c1≠t.c2)=true:=Fj h;refine cG func195 fun _=>?_;repeat(refine sA ?_;intros)
   try rw[hd]
   refine R.callV (hct:=by exact ab) (h:=?_);rintro _ _ ⟨X',rfl,⟨rfl,aa⟩|⟨rfl,hB⟩⟩
   ·repeat(refine sA ?_;intros)
    (refine dP [X',[(bt,row [.bool true] 4)]] ?_;exact⟨X',true,rfl,.inl ⟨rfl,rfl,hn.symm,aa⟩⟩)
   ·repeat(refine sA ?_;intros)
    (refine dP [X',[(bt,row [.bool true] 4)]] ?_;exact⟨X',true,rfl,.inr (.inl ⟨rfl,hB⟩)⟩)
theorem nT {a b c d:Int} (ha:Bd a) (hb:Bd b) (hc:Bd c) (hd:d=0):okT 3 ⟨a,b,c,0,d⟩:=by subst hd;exact Jd ha hb hc
theorem okT2z {a b c d:Int} (ha:Bd a) (hb:Bd b) (hc:c=0) (hd:d=0):okT 2 ⟨a,b,0,c,d⟩:=by subst hc hd;exact Ht ha hb
def Og (f0:Nat) (f1:Nat) (f3:Nat) (t:T5):List T5:=(if t.c3= -1 then[⟨t.c0,t.c1,t.c2,0,t.c4⟩] else[⟨t.c3,t.c1,t.c2,0,t.c4⟩])
theorem lk30 (bf:Nat) (bc:Nat) (f0:Nat) (f1:Nat) (f3:Nat):Bx (Cs [[(bf,row [Z9 Z8 f0,Z9 Z8 f1,Z9 Z8 ((3:Nat):Int),Z9 Z8 f3] 42)],[(bc,row [Z9 Z8 ((0:Nat):Int)] 3)]] (Og f0 f1 f3)) 3 (fun _ t=>okT 4 t) 197 [] [pv bf,pv bc]:=by
 rintro bx Pst Br bnd hP ps X ⟨⟩ t hX hk hb;have ac:tv t= .agg #[Z9 Z8 t.c0,Z9 Z8 t.c1,Z9 Z8 t.c2,Z9 Z8 t.c3,Z9 Z8 t.c4]:=rfl;rw[ac];unfold Jg;simp only[AB,AA];show Ct _ _ _ [X,[(bf,row [Z9 Z8 f0,Z9 Z8 f1,Z9 Z8 ((3:Nat):Int),Z9 Z8 f3] 42)],[(bc,row [Z9 Z8 ((0:Nat):Int)] 3)]] _;have ti:=Dx hk;by_cases h1:t.c3= -1
 ·
  have ho:(Cs [[(bf,row [Z9 Z8 f0,Z9 Z8 f1,Z9 Z8 ((3:Nat):Int),Z9 Z8 f3] 42)],[(bc,row [Z9 Z8 ((0:Nat):Int)] 3)]] (Og f0 f1 f3)).outs () t=[⟨t.c0,t.c1,t.c2,0,t.c4⟩]:=by show Og f0 f1 f3 t=_;unfold Og;rw[if_pos h1]
  have ad:ps.length+1≤bnd:=by rw[ho] at hb;exact hb
  have aa:=hP ps X ⟨t.c0,t.c1,t.c2,0,t.c4⟩ hX oA0 oM;rw[show tv ⟨t.c0,t.c1,t.c2,0,t.c4⟩= .agg #[Z9 Z8 t.c0,Z9 Z8 t.c1,Z9 Z8 t.c2,Z9 Z8 0,Z9 Z8 t.c4] from rfl] at aa;refine cG func197 fun _=>?_;repeat(refine sA ?_;intros)
  refine R.callV (hct:=by exact aa) (h:=?_);rintro _ _ ⟨X',rfl,⟨rfl,ab⟩|⟨rfl,hB⟩⟩
  ·repeat(refine sA ?_;intros)
   (refine Dn.post (Hr:=[X',[(bf,row [Z9 Z8 f0,Z9 Z8 f1,Z9 Z8 ((3:Nat):Int),Z9 Z8 f3] 42)],[(bc,row [Z9 Z8 ((0:Nat):Int)] 3)]]) DU (hR:=?_);exact⟨X',(),rfl,.inl ⟨rfl,rfl,(by trivial),by rw[ho];exact ab⟩⟩)
  ·repeat(refine sA ?_;intros)
   (refine Dn.post (Hr:=[X',[(bf,row [Z9 Z8 f0,Z9 Z8 f1,Z9 Z8 ((3:Nat):Int),Z9 Z8 f3] 42)],[(bc,row [Z9 Z8 ((0:Nat):Int)] 3)]]) DU (hR:=?_);exact⟨X',(),rfl,.inr (.inl ⟨rfl,hB⟩)⟩)
 ·
  have ho:(Cs [[(bf,row [Z9 Z8 f0,Z9 Z8 f1,Z9 Z8 ((3:Nat):Int),Z9 Z8 f3] 42)],[(bc,row [Z9 Z8 ((0:Nat):Int)] 3)]] (Og f0 f1 f3)).outs () t=[⟨t.c3,t.c1,t.c2,0,t.c4⟩]:=by show Og f0 f1 f3 t=_;unfold Og;rw[if_neg h1]
  have ad:ps.length+1≤bnd:=by rw[ho] at hb;exact hb
  have aa:=hP ps X ⟨t.c3,t.c1,t.c2,0,t.c4⟩ hX oA0 oM;rw[show tv ⟨t.c3,t.c1,t.c2,0,t.c4⟩= .agg #[Z9 Z8 t.c3,Z9 Z8 t.c1,Z9 Z8 t.c2,Z9 Z8 0,Z9 Z8 t.c4] from rfl] at aa;refine cG func197 fun _=>?_;repeat(refine sA ?_;intros)
  refine R.callV (hct:=by exact aa) (h:=?_);rintro _ _ ⟨X',rfl,⟨rfl,ab⟩|⟨rfl,hB⟩⟩
  ·repeat(refine sA ?_;intros)
   (refine Dn.post (Hr:=[X',[(bf,row [Z9 Z8 f0,Z9 Z8 f1,Z9 Z8 ((3:Nat):Int),Z9 Z8 f3] 42)],[(bc,row [Z9 Z8 ((0:Nat):Int)] 3)]]) DU (hR:=?_);exact⟨X',(),rfl,.inl ⟨rfl,rfl,(by trivial),by rw[ho];exact ab⟩⟩)
  ·repeat(refine sA ?_;intros)
   (refine Dn.post (Hr:=[X',[(bf,row [Z9 Z8 f0,Z9 Z8 f1,Z9 Z8 ((3:Nat):Int),Z9 Z8 f3] 42)],[(bc,row [Z9 Z8 ((0:Nat):Int)] 3)]]) DU (hR:=?_);exact⟨X',(),rfl,.inr (.inl ⟨rfl,hB⟩)⟩)
def Oh (f0:Nat) (f1:Nat) (f3:Nat) (t:T5):List T5:=(if t.c3= -1 then[⟨t.c0,t.c1,t.c2,0,t.c4⟩] else[⟨t.c0,t.c3,t.c2,0,t.c4⟩])
theorem lk31 (bf:Nat) (bc:Nat) (f0:Nat) (f1:Nat) (f3:Nat):Bx (Cs [[(bf,row [Z9 Z8 f0,Z9 Z8 f1,Z9 Z8 ((3:Nat):Int),Z9 Z8 f3] 42)],[(bc,row [Z9 Z8 ((1:Nat):Int)] 3)]] (Oh f0 f1 f3)) 3 (fun _ t=>okT 4 t) 197 [] [pv bf,pv bc]:=by
 rintro bx Pst Br bnd hP ps X ⟨⟩ t hX hk hb;have ac:tv t= .agg #[Z9 Z8 t.c0,Z9 Z8 t.c1,Z9 Z8 t.c2,Z9 Z8 t.c3,Z9 Z8 t.c4]:=rfl;rw[ac];unfold Jg;simp only[AB,AA];show Ct _ _ _ [X,[(bf,row [Z9 Z8 f0,Z9 Z8 f1,Z9 Z8 ((3:Nat):Int),Z9 Z8 f3] 42)],[(bc,row [Z9 Z8 ((1:Nat):Int)] 3)]] _;have ti:=Dx hk;by_cases h1:t.c3= -1
 ·
  have ho:(Cs [[(bf,row [Z9 Z8 f0,Z9 Z8 f1,Z9 Z8 ((3:Nat):Int),Z9 Z8 f3] 42)],[(bc,row [Z9 Z8 ((1:Nat):Int)] 3)]] (Oh f0 f1 f3)).outs () t=[⟨t.c0,t.c1,t.c2,0,t.c4⟩]:=by show Oh f0 f1 f3 t=_;unfold Oh;rw[if_pos h1]
  have ad:ps.length+1≤bnd:=by rw[ho] at hb;exact hb
  have aa:=hP ps X ⟨t.c0,t.c1,t.c2,0,t.c4⟩ hX oA0 oM;rw[show tv ⟨t.c0,t.c1,t.c2,0,t.c4⟩= .agg #[Z9 Z8 t.c0,Z9 Z8 t.c1,Z9 Z8 t.c2,Z9 Z8 0,Z9 Z8 t.c4] from rfl] at aa;refine cG func197 fun _=>?_;repeat(refine sA ?_;intros)
  refine R.callV (hct:=by exact aa) (h:=?_);rintro _ _ ⟨X',rfl,⟨rfl,ab⟩|⟨rfl,hB⟩⟩
  ·repeat(refine sA ?_;intros)
   (refine Dn.post (Hr:=[X',[(bf,row [Z9 Z8 f0,Z9 Z8 f1,Z9 Z8 ((3:Nat):Int),Z9 Z8 f3] 42)],[(bc,row [Z9 Z8 ((1:Nat):Int)] 3)]]) DU (hR:=?_);exact⟨X',(),rfl,.inl ⟨rfl,rfl,(by trivial),by rw[ho];exact ab⟩⟩)
  ·repeat(refine sA ?_;intros)
   (refine Dn.post (Hr:=[X',[(bf,row [Z9 Z8 f0,Z9 Z8 f1,Z9 Z8 ((3:Nat):Int),Z9 Z8 f3] 42)],[(bc,row [Z9 Z8 ((1:Nat):Int)] 3)]]) DU (hR:=?_);exact⟨X',(),rfl,.inr (.inl ⟨rfl,hB⟩)⟩)
 ·
  have ho:(Cs [[(bf,row [Z9 Z8 f0,Z9 Z8 f1,Z9 Z8 ((3:Nat):Int),Z9 Z8 f3] 42)],[(bc,row [Z9 Z8 ((1:Nat):Int)] 3)]] (Oh f0 f1 f3)).outs () t=[⟨t.c0,t.c3,t.c2,0,t.c4⟩]:=by show Oh f0 f1 f3 t=_;unfold Oh;rw[if_neg h1]
  have ad:ps.length+1≤bnd:=by rw[ho] at hb;exact hb
  have aa:=hP ps X ⟨t.c0,t.c3,t.c2,0,t.c4⟩ hX oA0 oM;rw[show tv ⟨t.c0,t.c3,t.c2,0,t.c4⟩= .agg #[Z9 Z8 t.c0,Z9 Z8 t.c3,Z9 Z8 t.c2,Z9 Z8 0,Z9 Z8 t.c4] from rfl] at aa;refine cG func197 fun _=>?_;repeat(refine sA ?_;intros)
  refine R.callV (hct:=by exact aa) (h:=?_);rintro _ _ ⟨X',rfl,⟨rfl,ab⟩|⟨rfl,hB⟩⟩
  ·repeat(refine sA ?_;intros)
   (refine Dn.post (Hr:=[X',[(bf,row [Z9 Z8 f0,Z9 Z8 f1,Z9 Z8 ((3:Nat):Int),Z9 Z8 f3] 42)],[(bc,row [Z9 Z8 ((1:Nat):Int)] 3)]]) DU (hR:=?_);exact⟨X',(),rfl,.inl ⟨rfl,rfl,(by trivial),by rw[ho];exact ab⟩⟩)
  ·repeat(refine sA ?_;intros)
   (refine Dn.post (Hr:=[X',[(bf,row [Z9 Z8 f0,Z9 Z8 f1,Z9 Z8 ((3:Nat):Int),Z9 Z8 f3] 42)],[(bc,row [Z9 Z8 ((1:Nat):Int)] 3)]]) DU (hR:=?_);exact⟨X',(),rfl,.inr (.inl ⟨rfl,hB⟩)⟩)
def Oi (f0:Nat) (f1:Nat) (f3:Nat) (t:T5):List T5:=(if t.c2= -1 then[⟨t.c0,t.c1,0,t.c3,t.c4⟩] else[⟨t.c0,t.c2,0,t.c3,t.c4⟩])
theorem lk21 (bf:Nat) (bc:Nat) (f0:Nat) (f1:Nat) (f3:Nat):Bx (Cs [[(bf,row [Z9 Z8 f0,Z9 Z8 f1,Z9 Z8 ((2:Nat):Int),Z9 Z8 f3] 42)],[(bc,row [Z9 Z8 ((1:Nat):Int)] 3)]] (Oi f0 f1 f3)) 2 (fun _ t=>okT 3 t) 197 [] [pv bf,pv bc]:=by
 rintro bx Pst Br bnd hP ps X ⟨⟩ t hX hk hb;have ac:tv t= .agg #[Z9 Z8 t.c0,Z9 Z8 t.c1,Z9 Z8 t.c2,Z9 Z8 t.c3,Z9 Z8 t.c4]:=rfl;rw[ac];unfold Jg;simp only[AB,AA];show Ct _ _ _ [X,[(bf,row [Z9 Z8 f0,Z9 Z8 f1,Z9 Z8 ((2:Nat):Int),Z9 Z8 f3] 42)],[(bc,row [Z9 Z8 ((1:Nat):Int)] 3)]] _;have ti:=Dx hk;by_cases h1:t.c2= -1
 ·
  have ho:(Cs [[(bf,row [Z9 Z8 f0,Z9 Z8 f1,Z9 Z8 ((2:Nat):Int),Z9 Z8 f3] 42)],[(bc,row [Z9 Z8 ((1:Nat):Int)] 3)]] (Oi f0 f1 f3)).outs () t=[⟨t.c0,t.c1,0,t.c3,t.c4⟩]:=by show Oi f0 f1 f3 t=_;unfold Oi;rw[if_pos h1]
  have ad:ps.length+1≤bnd:=by rw[ho] at hb;exact hb
  have aa:=hP ps X ⟨t.c0,t.c1,0,t.c3,t.c4⟩ hX oA1 oM;rw[show tv ⟨t.c0,t.c1,0,t.c3,t.c4⟩= .agg #[Z9 Z8 t.c0,Z9 Z8 t.c1,Z9 Z8 0,Z9 Z8 t.c3,Z9 Z8 t.c4] from rfl] at aa;refine cG func197 fun _=>?_;repeat(refine sA ?_;intros)
  refine R.callV (hct:=by exact aa) (h:=?_);rintro _ _ ⟨X',rfl,⟨rfl,ab⟩|⟨rfl,hB⟩⟩
  ·repeat(refine sA ?_;intros)
   (refine Dn.post (Hr:=[X',[(bf,row [Z9 Z8 f0,Z9 Z8 f1,Z9 Z8 ((2:Nat):Int),Z9 Z8 f3] 42)],[(bc,row [Z9 Z8 ((1:Nat):Int)] 3)]]) DU (hR:=?_);exact⟨X',(),rfl,.inl ⟨rfl,rfl,(by trivial),by rw[ho];exact ab⟩⟩)
  ·repeat(refine sA ?_;intros)
   (refine Dn.post (Hr:=[X',[(bf,row [Z9 Z8 f0,Z9 Z8 f1,Z9 Z8 ((2:Nat):Int),Z9 Z8 f3] 42)],[(bc,row [Z9 Z8 ((1:Nat):Int)] 3)]]) DU (hR:=?_);exact⟨X',(),rfl,.inr (.inl ⟨rfl,hB⟩)⟩)
 ·
  have ho:(Cs [[(bf,row [Z9 Z8 f0,Z9 Z8 f1,Z9 Z8 ((2:Nat):Int),Z9 Z8 f3] 42)],[(bc,row [Z9 Z8 ((1:Nat):Int)] 3)]] (Oi f0 f1 f3)).outs () t=[⟨t.c0,t.c2,0,t.c3,t.c4⟩]:=by show Oi f0 f1 f3 t=_;unfold Oi;rw[if_neg h1]
  have ad:ps.length+1≤bnd:=by rw[ho] at hb;exact hb
  have aa:=hP ps X ⟨t.c0,t.c2,0,t.c3,t.c4⟩ hX oA1 oM;rw[show tv ⟨t.c0,t.c2,0,t.c3,t.c4⟩= .agg #[Z9 Z8 t.c0,Z9 Z8 t.c2,Z9 Z8 0,Z9 Z8 t.c3,Z9 Z8 t.c4] from rfl] at aa;refine cG func197 fun _=>?_;repeat(refine sA ?_;intros)
  refine R.callV (hct:=by exact aa) (h:=?_);rintro _ _ ⟨X',rfl,⟨rfl,ab⟩|⟨rfl,hB⟩⟩
  ·repeat(refine sA ?_;intros)
   (refine Dn.post (Hr:=[X',[(bf,row [Z9 Z8 f0,Z9 Z8 f1,Z9 Z8 ((2:Nat):Int),Z9 Z8 f3] 42)],[(bc,row [Z9 Z8 ((1:Nat):Int)] 3)]]) DU (hR:=?_);exact⟨X',(),rfl,.inl ⟨rfl,rfl,(by trivial),by rw[ho];exact ab⟩⟩)
  ·repeat(refine sA ?_;intros)
   (refine Dn.post (Hr:=[X',[(bf,row [Z9 Z8 f0,Z9 Z8 f1,Z9 Z8 ((2:Nat):Int),Z9 Z8 f3] 42)],[(bc,row [Z9 Z8 ((1:Nat):Int)] 3)]]) DU (hR:=?_);exact⟨X',(),rfl,.inr (.inl ⟨rfl,hB⟩)⟩)
theorem lk30is (f0 f1 f3:Nat) (t:T5):Og f0 f1 f3 t=[Kj 3 0 t]:=by unfold Og Kj Dl;simp only[T5.col];by_cases h:t.c3= -1<;>simp[h]
theorem lk31is (f0 f1 f3:Nat) (t:T5):Oh f0 f1 f3 t=[Kj 3 1 t]:=by unfold Oh Kj Dl;simp only[T5.col];by_cases h:t.c3= -1<;>simp[h]
theorem lk21is (f0 f1 f3:Nat) (t:T5):Oi f0 f1 f3 t=[Kj 2 1 t]:=by unfold Oi Kj Dl;simp only[T5.col];by_cases h:t.c2= -1<;>simp[h]
theorem jn2 (bx:Nat) (t:T5) (X:Aa) (Rr:Value→Aa→Prop) (h:PutC bx ((fun t=>t) t) X Rr):Ct AC 192 [tv t,Jg bx] [X] (Wv Rr):=by
 have aa:tv t= .agg #[Z9 Z8 t.c0,Z9 Z8 t.c1,Z9 Z8 t.c2,Z9 Z8 t.c3,Z9 Z8 t.c4]:=rfl;rw[aa];unfold Jg;refine cG func192 fun _=>?_;repeat(refine sA ?_;intros)
 refine R.callV (hct:=by exact h) (h:=?_);rintro _ _ ⟨X',rfl,hR⟩;repeat(refine sA ?_;intros)
 (refine dP [X'] ?_;exact⟨X',rfl,hR⟩)
def jn1F (t:T5):List T5:=[⟨t.c2,0,0,0,0⟩]
theorem jn1:Bx (Cs [] (jn1F)) 1 (fun _ t=>okT 3 t) 191 [] []:=mkU fun _ _ _ _ _ _ t s=>mL1 s func191 (show jn1F t=[⟨t.c2,0,0,0,0⟩] from rfl)
def ls1F (t:T5):List T5:=[⟨t.c1,t.c0,0,0,0⟩]
theorem ls1:Bx (Cs [] (ls1F)) 2 (fun _ t=>okT 2 t) 198 [] []:=mkU fun _ _ _ _ _ _ t s=>mL1 s func198 (show ls1F t=[⟨t.c1,t.c0,0,0,0⟩] from rfl)
def nm1F (t:T5):List T5:=[t]
theorem nm1:Bx (Cs [] (nm1F)) 3 (fun _ t=>okT 3 t) 199 [] []:=mkU fun _ _ _ _ _ _ t s=>mL1 s func199 (show nm1F t=[t] from rfl)
theorem lkN2 (p:Jp) (fa fb:Fl) (b8 b4 b5:Nat) (J:Jb) (A T:Nat) (ts:List T5) (Rl:Fl→Int→Prop) (hL:Jl p J fa fb 0 1 1 A T ts Rl):Fg p J 200 [pv b8,pv b4,pv b5] (Cr p.bj b8 b4 b5 fa fb) A T none ts fun f e Hx'=>Hx'=Cr p.bj b8 b4 b5 fa fb∧Rl f e:=lM hL func200
theorem lkN3 (p:Jp) (fa fb:Fl) (b8 b4 b5:Nat) (J:Jb) (A T:Nat) (ts:List T5) (Rl:Fl→Int→Prop) (hL:Jl p J fa fb 0 2 2 A T ts Rl):Fg p J 201 [pv b8,pv b4,pv b5] (Cr p.bj b8 b4 b5 fa fb) A T none ts fun f e Hx'=>Hx'=Cr p.bj b8 b4 b5 fa fb∧Rl f e:=lM hL func201
def cpLF (t:T5):List T5:=(if t.c0=t.c1 then[] else[t])
theorem cpL:Bx (Cs [] (cpLF)) 3 (fun _ t=>okT 3 t) 151 [] []:=mkU fun _ _ _ _ _ _ t s=>by
 by_cases h1:t.c0=t.c1
 ·exact mL0 s func151 (show cpLF t=_ from if_pos h1)
 ·exact mL1 s func151 (show cpLF t=_ from if_neg h1)
end Go.Proofs.YtaofijjjheiknaaGreat
