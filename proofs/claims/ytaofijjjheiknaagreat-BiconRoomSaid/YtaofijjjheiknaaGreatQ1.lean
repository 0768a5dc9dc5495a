/-
  Parts of the proof, put together (1). No condition.
-/
import Derived.Defers
import Derived.KernelRfl
import Derived.Laws.Sem
import Derived.Laws.World
import Derived.Orders
import Derived.ChangeKeysEq
import Derived.Laws.Alloc2
import Derived.Laws.Append
import Derived.Laws.AppendOwn
import Derived.Laws.Build
import Derived.Laws.CopyOwn
import Derived.Laws.MakeOwn
import Derived.Laws.Pointers
import Derived.Laws.Rows
import Derived.Laws.Slices
import Derived.Laws.Small
import Derived.Laws.StructEq
import Derived.Laws.Tables
import Derived.Laws.Unary
set_option linter.unusedVariables false
set_option linter.unusedSimpArgs false
set_option linter.unnecessarySimpa false
set_option maxHeartbeats 4000000
theorem oA0 {p:Prop}(h:p:=by first|exact hk|exact nR (by first|exact ti.1|exact ti.2.1|exact ti.2.2.1|exact ti.2.2.2.1|exact ti.2.2.2.2) (by first|exact ti.1|exact ti.2.1|exact ti.2.2.1|exact ti.2.2.2.1|exact ti.2.2.2.2) (by first|exact ti.1|exact ti.2.1|exact ti.2.2.1|exact ti.2.2.2.1|exact ti.2.2.2.2) (hk.2 4 (by omega))|exact Iv (by first|exact ti.1|exact ti.2.1|exact ti.2.2.1|exact ti.2.2.2.1|exact ti.2.2.2.2|exact Gu|exact Oc|exact Mg|exact Od _|assumption|(unfold Av at*;omega)) (by first|exact ti.1|exact ti.2.1|exact ti.2.2.1|exact ti.2.2.2.1|exact ti.2.2.2.2|exact Gu|exact Oc|exact Mg|exact Od _|assumption|(unfold Av at*;omega)) (by first|exact ti.1|exact ti.2.1|exact ti.2.2.1|exact ti.2.2.2.1|exact ti.2.2.2.2|exact Gu|exact Oc|exact Mg|exact Od _|assumption|(unfold Av at*;omega))):p:=h
theorem oA1 {p:Prop}(h:p:=by first|exact hk|exact okT2z (by first|exact ti.1|exact ti.2.1|exact ti.2.2.1|exact ti.2.2.2.1|exact ti.2.2.2.2) (by first|exact ti.1|exact ti.2.1|exact ti.2.2.1|exact ti.2.2.2.1|exact ti.2.2.2.2) (hk.2 3 (by omega)) (hk.2 4 (by omega))|exact Hk (by first|exact ti.1|exact ti.2.1|exact ti.2.2.1|exact ti.2.2.2.1|exact ti.2.2.2.2|exact Gu|exact Oc|exact Mg|exact Od _|assumption|(unfold Av at*;omega)) (by first|exact ti.1|exact ti.2.1|exact ti.2.2.1|exact ti.2.2.2.1|exact ti.2.2.2.2|exact Gu|exact Oc|exact Mg|exact Od _|assumption|(unfold Av at*;omega))):p:=h
theorem oA2 {p:Prop}(h:p:=by first|exact ti.1|exact ti.2.1|exact ti.2.2.1|exact ti.2.2.2.1|exact ti.2.2.2.2|exact Gu|exact Oc|exact Mg|exact Od _|assumption|(unfold Av at*;omega)):p:=h
theorem oA3 {p:Prop}(h:p:=by repeat(first|exact Bt.nil|(apply Bt.cons;·(first|exact Ae.nil|(repeat(first|exact Ae.here|apply Ae.there)))))):p:=h
theorem oA4 {p:Prop}(h:p:=by repeat(first|exact Bt.nil|(apply Bt.cons;·(repeat(first|exact Ae.here|apply Ae.there|exact Ae.nil))))):p:=h
theorem oA5 {p:Prop}(h:p:=by first|exact .inr (by assumption)|exact .inl (by repeat(first|exact AE|apply AF))):p:=h
theorem oA6 {p:Prop}(h:p:=by first|exact ti.1|exact ti.2.1|exact ti.2.2.1|exact ti.2.2.2.1|exact ti.2.2.2.2):p:=h
theorem oA7 {p:Prop}(h:p:=by repeat(first|exact trivial|refine⟨rfl,?_⟩)):p:=h
theorem oA8 {p:Prop}(h:p:=by repeat(first|exact AE|apply AF)):p:=h
theorem oA9 {p:Prop}(h:p:=by first|rfl|(dsimp only;omega)):p:=h
theorem oA10 {p:Prop}(h:p:=by simp only[BJ,AJ,AO,AH];omega):p:=h
theorem oA11 {p:Prop}(h:p:=by simp only[AO,AJ]<;>omega):p:=h
theorem oA12 {p:Prop}(h:p:=by simp only[AJ,AO];omega):p:=h
theorem oA13 {p:Prop}(h:p:=by simp only[AH];omega):p:=h
theorem oA14 {p:Prop}(h:p:=by first|rfl|omega):p:=h
theorem oA15 {p:Prop}(h:p:=by simpa using h):p:=h
theorem oA16 {p:Prop}(h:p:=by simp;omega):p:=h
theorem oA17 {p:Prop}(h:p:=by assumption):p:=h
theorem oA18 {p:Prop}(h:p:=by decide):p:=h
theorem oA19 {p:Prop}(h:p:=by simp):p:=h
theorem oM {p:Prop}(h:p:=by omega):p:=h
theorem oD {p:Prop}(h:p:=by dsimp only;omega):p:=h
namespace Go.SL
theorem zT {p:Prop} (h:p:=by first|(with_reducible exact Int.toNat_natCast _)|assumption|exact rfl):p:=h
theorem zO {p:Prop} (h:p:=by first|omega|(constructor<;>omega)|(refine⟨?_,?_,?_⟩<;>omega)|(refine⟨?_,?_,?_,?_⟩<;>omega)):p:=h
abbrev Bb:=List (Nat×Value)
abbrev Aa:=List (Nat×Obj)
abbrev Hp:=List Aa
def lk (t:Nat):Bb→Option Value
 |[]=>none
 |(d,v)::L=>match Nat.beq t d with|true=>some v|false=>lk t L
def ev (L:Bb):Operand→Option Value
 | .tmp t=>lk t L
 | .const v=>some v
 | .global g=>some (.pointer (some ⟨g,0,none⟩))
 | .func f=>some (.func (.func f) #[] #[])
def evs (L:Bb):List Operand→Option (List Value)
 |[]=>some []
 |x::xs=>match ev L x with
  |some v=>match evs L xs with
   |some vs=>some (v::vs)
   |none=>none
  |none=>none
structure Fr (n:Nat) (a:Act) (L:Bb):Prop where
 size:a.tmps.size=n
 get:∀t v,lk t L=some v→a.tmps[t]? =some v
theorem Sy (t d:Nat) (v:Value) (L:Bb):lk t ((d,v)::L)=if t=d then some v else lk t L:=by
 unfold lk;by_cases h:t=d
 ·subst h;simp
 ·have:Nat.beq t d=false:=by
   cases hb:Nat.beq t d with
   |false=>rfl
   |true=>exact absurd (Nat.eq_of_beq_eq_true hb) h
  rw[this];simp only[if_neg h];cases L<;>rfl
theorem Fr.put {n:Nat} {a:Act} {L:Bb} (h:Fr n a L) {d:Nat} (hd:d<n) (v:Value):Fr n (a.put (some d) v) ((d,v)::L):=by
 constructor
 ·simp[Act.put,h.size]
 ·intro t u ht;rw[Sy] at ht;simp only[Act.put];by_cases e:t=d
  ·subst e;simp only[if_true,Option.some.injEq] at ht;subst ht;rw[Array.getElem?_setIfInBounds_self_of_lt (by have:=h.size;omega)]
  ·rw[if_neg e] at ht;rw[Array.getElem?_setIfInBounds_ne (fun x=>e x.symm)];exact h.get t u ht
theorem Fr.eval {n:Nat} {a:Act} {L:Bb} (h:Fr n a L) {x:Operand} {v:Value} (hx:ev L x=some v):a.eval x=v:=by
 cases x with
 |tmp t=>
  have:=h.get t v hx;simp[Act.eval,this]
 |const u=>simpa[ev,Act.eval] using hx
 |global g=>simpa[ev,Act.eval] using hx
 |func f=>simpa[ev,Act.eval] using hx
theorem Fr.evals {n:Nat} {a:Act} {L:Bb} (h:Fr n a L):∀{xs:List Operand} {vs:List Value},evs L xs=some vs→xs.map a.eval=vs
 |[],vs,hx=>by simp[evs] at hx;simp[hx]
 |x::xs,vs,hx=>by
  unfold evs at hx;cases h1:ev L x with
  |none=>simp[h1] at hx
  |some v=>
   simp only[h1] at hx;cases h2:evs L xs with
   |none=>simp[h2] at hx
   |some us=>
    simp only[h2,Option.some.injEq] at hx;subst hx;simp[h.eval h1,h.evals h2]
theorem Fr.sub {n:Nat} {a:Act} {L L':Bb} (h:Fr n a L) (hs:∀t v,lk t L'=some v→lk t L=some v):Fr n a L':=
 ⟨h.size,fun t v ht=>h.get t v (hs t v ht)⟩
def Ps (L:Bb):Bb→Prop
 |[]=>True
 |(d,v)::L'=>lk d L=some v∧Ps L L'
theorem Ps.lk {L:Bb}:∀{L':Bb},Ps L L'→∀t v,SL.lk t L'=some v→SL.lk t L=some v
 |[],_,t,v,h=>by simp[SL.lk] at h
 |(d,u)::L',hs,t,v,h=>by
  rw[Sy] at h;by_cases e:t=d
  ·subst e;simp only[if_true,Option.some.injEq] at h;subst h;exact hs.1
  ·rw[if_neg e] at h;exact Ps.lk hs.2 t v h
def Bj (H:Hp):List Nat:=H.flatten.map (·.1)
structure St (w0:World) (S:List Nat) (w:World) (H:Hp):Prop where
 nodup:(Bj H).Nodup
 sat:∀p∈H.flatten,w.heap[p.1]? =some p.2
 own:∀k∈Bj H,k∈S∨w0.heap.size≤k
 frame:∀b,b<w0.heap.size→b∉S→w.heap[b]? =w0.heap[b]?
 size:w0.heap.size≤w.heap.size
 os:w.os=w0.os
 tape:w.tape=w0.tape
 output:w.output=w0.output
theorem St.perm {w0:World} {S:List Nat} {w:World} {H H':Hp} (h:St w0 S w H) (hp:H.flatten.Perm H'.flatten):St w0 S w H':=
 {h with
  nodup:=(hp.map _).nodup_iff.1 h.nodup
  sat:=fun p hm=>h.sat p (hp.mem_iff.2 hm)
  own:=fun k hm=>h.own k ((hp.map _).mem_iff.2 hm)}
theorem St.drop {w0:World} {S:List Nat} {w:World} {c:Aa} {H:Hp} (h:St w0 S w (c::H)):St w0 S w H:=
 {h with
  nodup:=by have:=h.nodup;simp[Bj] at this⊢;exact(List.nodup_append.1 this).2.1
  sat:=fun p hm=>h.sat p (by simp only[List.flatten_cons,List.mem_append];exact .inr hm)
  own:=fun k hm=>h.own k (by simp only[Bj,List.flatten_cons,List.map_append,List.mem_append];exact .inr hm)}
theorem St.subl {w0:World} {S:List Nat} {w:World} {H F:Hp} (h:St w0 S w (H++F)):St w0 S w H:=
 {h with
  nodup:=by have:=h.nodup;simp only[Bj,List.flatten_append,List.map_append] at this⊢;exact(List.nodup_append.1 this).1
  sat:=fun p hm=>h.sat p (by simp only[List.flatten_append,List.mem_append];exact .inl hm)
  own:=fun k hm=>h.own k (by simp only[Bj,List.flatten_append,List.map_append,List.mem_append] at hm⊢;exact .inl hm)}
theorem St.lt {w0:World} {S:List Nat} {w:World} {H:Hp} (h:St w0 S w H) {p:Nat×Obj} (hp:p∈H.flatten):p.1<w.heap.size:=by have:=h.sat p hp;exact(Array.getElem?_eq_some_iff.1 this).1
theorem St.drew {w0:World} {S:List Nat} {w:World} {H:Hp} (h:St w0 S w H) (n:Nat):St w0 S {w with drawn:=n} H:=
 ⟨h.nodup,h.sat,h.own,h.frame,h.size,h.os,h.tape,h.output⟩
theorem St.alloc {w0:World} {S:List Nat} {w:World} {H:Hp} (h:St w0 S w H) (o:Obj):St w0 S {w with heap:=w.heap.push o} ([(w.heap.size,o)]::H) where
 nodup:=by have h1:=h.nodup;simp only[Bj,List.flatten_cons,List.map_cons,List.singleton_append,List.nodup_cons];refine⟨fun hm=>?_,h1⟩;obtain⟨p,hp,he⟩:=List.mem_map.1 hm;have:=h.lt hp;omega
 sat:=by
  intro p hp;simp only[List.flatten_cons,List.singleton_append,List.mem_cons] at hp;rcases hp with rfl|hp
  ·simp
  ·have:=h.lt hp;simp only[Array.getElem?_push];rw[if_neg oM];exact h.sat p hp
 own:=by
  intro k hk;simp only[Bj,List.flatten_cons,List.singleton_append,List.map_cons,List.mem_cons] at hk;rcases hk with rfl|hk
  ·right;exact h.size
  ·exact h.own k hk
 frame:=by intro b hb hs;have:=h.size;simp only[Array.getElem?_push];rw[if_neg oM];exact h.frame b hb hs
 size:=by have:=h.size;simp;omega
 os:=h.os
 tape:=h.tape
 output:=h.output
theorem St.set {w0:World} {S:List Nat} {w w':World} {b:Nat} {o o':Obj} {H:Hp} (h:St w0 S w ([(b,o)]::H)) (ad:w'.heap.size=w.heap.size) (hb:w'.heap[b]? =some o') (aa:∀k,k≠b→w'.heap[k]? =w.heap[k]?) (ae:w'.os=w.os) (ag:w'.tape=w.tape) (ab:w'.output=w.output):St w0 S w' ([(b,o')]::H) where
 nodup:=h.nodup
 sat:=by
  intro p hp;simp only[List.flatten_cons,List.singleton_append,List.mem_cons] at hp;have hn:=h.nodup;simp only[Bj,List.flatten_cons,List.singleton_append,List.map_cons,List.nodup_cons] at hn;rcases hp with rfl|hp
  ·exact hb
  ·rw[aa]
   ·exact h.sat p (by simp only[List.flatten_cons,List.singleton_append,List.mem_cons];exact .inr hp)
   ·rintro rfl;exact hn.1 (List.mem_map.2 ⟨p,hp,rfl⟩)
 own:=fun k hk=>h.own k (by simpa[Bj] using hk)
 frame:=by
  intro k hk hs;have ac:=h.own b (by simp[Bj]);rw[aa]
  ·exact h.frame k hk hs
  ·rintro rfl;rcases ac with h1|h1
   ·exact hs h1
   ·omega
 size:=by rw[ad];exact h.size
 os:=by rw[ae,h.os]
 tape:=by rw[ag,h.tape]
 output:=by rw[ab,h.output]
def Ch (P:Program) (s:Sem Next) (w:World) (R:Value→World→Prop):Prop:=
 match s.run P w with
 | .ok (.value v) w'=>R v w'
 | .ok .skip w'=>R undef w'
 | .ok (.enter f args) w'=>Calls P f args w' (fun e aa=>∃v,e= .returned v∧R v aa)
 |_=>False
theorem Ch.mono {P:Program} {s:Sem Next} {w:World} {R R':Value→World→Prop} (h:Ch P s w R) (hr:∀v w',R v w'→R' v w'):Ch P s w R':=by unfold Ch at*;split<;>simp_all;exact Calls.mono h fun e w' ⟨v,he,hv⟩=>⟨v,he,hr _ _ hv⟩
theorem Ch.ex {P:Program} {s:Sem Next} {w:World} {R:Value→World→Prop} (h:Ch P s w R):∃v w',R v w':=by
 unfold Ch at h;split at h
 ·exact⟨_,_,h⟩
 ·exact⟨_,_,h⟩
 ·obtain⟨e,w',fr,⟨v,_,hv⟩,_⟩:=h [];exact⟨v,w',hv⟩
 ·exact h.elim
theorem Ch.wp {P:Program} {o:Oper} {a:Act} {w:World} {R:Value→World→Prop} {next:Act→World→Prop} {Q:Exit→Act→World→Prop} (h:Ch P (execOp a.eval o) w R) (hr:∀v w',R v w'→next (a.put o.dst v) w'):o.wp P a w next Q:=by
 unfold Ch at h;unfold Oper.wp;split at h
 ·rename_i v w' hq;rw[hq];exact hr _ _ h
 ·rename_i w' hq;rw[hq];exact hr _ _ h
 ·rename_i f args w' hq;rw[hq];refine Calls.mono h fun e aa ⟨v,he,hv⟩=>?_;subst he;exact hr _ _ hv
 ·exact h.elim
inductive Cls where
 |pure|quiet|grow|eff (cross:List Nat)|defer
structure Rd where
 i:Nat
 Pr:Hp→Prop
section region
variable (P:Program) (ops:Array Oper) (Q:Exit→Act→World→Prop) (cls:Nat→Oper→Cls) (w0:World) (S:List Nat)
def QSem (s:Sem Next) (v:Value) (Pr:Hp→Prop):Prop:=
 (∀H H',Pr H→H.flatten.Perm H'.flatten→Pr H')∧(∀c H,Pr H→Pr (c::H))∧
 ∀H w,Pr H→St w0 S w H→Ch P s w fun v' w'=>v'=v∧St w0 S w' H
def W:List Nat→Act→Hp→List Rd→Prop
 |[],a,H,_=>∀w,St w0 S w H→Q .normal a w
 |i::rest,a,H,qs=>
  match ops[i]? with
  |none=>W rest a H qs
  |some o=>
   if Region.wanted o (yielded ops a.tmps) then
    match cls i o with
    | .pure=>∃v,(∀w,(execOp a.eval o).run P w= .ok (.value v) w)∧W rest (a.put o.dst v) H qs
    | .quiet=>∃v Pr,QSem P w0 S (execOp a.eval o) v Pr∧Pr H∧W rest (a.put o.dst v) H (⟨i,Pr⟩::qs)
    | .grow=>∃(mk:Nat→Value) (ob:Obj),(∀w,(execOp a.eval o).run P w= .ok (.value (mk w.heap.size)) {w with heap:=w.heap.push ob})∧
      ∀b,(∃w,St w0 S w ([(b,ob)]::H))→W rest (a.put o.dst (mk b)) ([(b,ob)]::H) qs
    | .eff cross=>∀w F,St w0 S w (H++F)→Ch P (execOp a.eval o) w fun v w'=>∃H',St w0 S w' (H'++F)∧
      (∀r∈qs,r.i∈cross→r.Pr H')∧W rest (a.put o.dst v) H' qs
    | .defer=>∃d,(∀w,(execOp a.eval o).run P w= .ok (.defer d) w)∧W rest (({a with defers:=d::a.defers}:Act).put o.dst undef) H qs
   else W rest (a.put o.dst undef) H qs
variable {P ops Q cls w0 S}
theorem W.perm:∀{l:List Nat} {a:Act} {H H':Hp} {qs:List Rd},W P ops Q cls w0 S l a H qs→H.flatten.Perm H'.flatten→W P ops Q cls w0 S l a H' qs
 |[],a,H,H',qs,h,hp=>fun w hw=>h w (hw.perm hp.symm)
 |i::rest,a,H,H',qs,h,hp=>by
  unfold W at*;cases ho:ops[i]? with
  |none=>simp only[ho] at*;exact W.perm h hp
  |some o=>
   simp only[ho] at*;split
   ·rename_i hw;simp only[hw,if_true] at h;cases hc:cls i o with
    |pure=>simp only[hc] at*;obtain⟨v,h1,h2⟩:=h;exact⟨v,h1,W.perm h2 hp⟩
    |quiet=>simp only[hc] at*;obtain⟨v,Pr,h1,h2,h3⟩:=h;exact⟨v,Pr,h1,h1.1 _ _ h2 hp,W.perm h3 hp⟩
    |grow=>
     simp only[hc] at*;obtain⟨mk,ob,h1,h2⟩:=h;refine⟨mk,ob,h1,fun b hb=>?_⟩;have hq:(([(b,ob)]::H).flatten).Perm (([(b,ob)]::H').flatten):=by simpa using hp.cons (b,ob)
     exact W.perm (h2 b (hb.imp fun w hw=>hw.perm hq.symm)) hq
    |eff cross=>simp only[hc] at*;exact fun w F hw=>h w F (hw.perm (by simpa using hp.symm.append_right F.flatten))
    |defer=>simp only[hc] at*;obtain⟨d,h1,h2⟩:=h;exact⟨d,h1,W.perm h2 hp⟩
   ·rename_i hw;simp only[hw] at h;exact W.perm h hp
def Ups (qs:List Rd):Prop:=∀r∈qs,∀c H,r.Pr H→r.Pr (c::H)
theorem Ups.nil:Ups []:=fun _ h=>by cases h
theorem Ups.cons {i:Nat} {v:Value} {s:Sem Next} {Pr:Hp→Prop} {qs:List Rd} (h:QSem P w0 S s v Pr) (hu:Ups qs):Ups (⟨i,Pr⟩::qs):=by
 intro r hr;rcases List.mem_cons.1 hr with rfl|hr
 ·exact h.2.1
 ·exact hu r hr
theorem St.nilF {w0:World} {S:List Nat} {w:World} {H:Hp}:St w0 S w (H++[])↔St w0 S w H:=by rw[List.append_nil]
theorem W.reads:∀{l:List Nat} {a:Act} {H:Hp} {qs aa:List Rd},W P ops Q cls w0 S l a H qs→(∀r∈aa,r∈qs)→W P ops Q cls w0 S l a H aa
 |[],a,H,qs,aa,h,hp=>h
 |i::rest,a,H,qs,aa,h,hp=>by
  unfold W at*;cases ho:ops[i]? with
  |none=>simp only[ho] at*;exact W.reads h hp
  |some o=>
   simp only[ho] at*;split
   ·rename_i hw;simp only[hw,if_true] at h;cases hc:cls i o with
    |pure=>simp only[hc] at*;obtain⟨v,h1,h2⟩:=h;exact⟨v,h1,W.reads h2 hp⟩
    |quiet=>
     simp only[hc] at*;obtain⟨v,Pr,h1,h2,h3⟩:=h;refine⟨v,Pr,h1,h2,W.reads h3 ?_⟩;intro r hr;rcases List.mem_cons.1 hr with rfl|hr
     ·exact List.mem_cons_self
     ·exact List.mem_cons_of_mem _ (hp r hr)
    |grow=>
     simp only[hc] at*;obtain⟨mk,ob,h1,h2⟩:=h;exact⟨mk,ob,h1,fun b hb=>W.reads (h2 b hb) hp⟩
    |eff cross=>
     simp only[hc] at*;exact fun w F hw=>(h w F hw).mono fun v w' ⟨H',h1,h2,h3⟩=>⟨H',h1,fun r hr=>h2 r (hp r hr),W.reads h3 hp⟩
    |defer=>simp only[hc] at*;obtain⟨d,h1,h2⟩:=h;exact⟨d,h1,W.reads h2 hp⟩
   ·rename_i hw;simp only[hw] at h;exact W.reads h hp
theorem W.step {i:Nat} {rest:List Nat} {a:Act} {H:Hp} {qs:List Rd} (h:W P ops Q cls w0 S (i::rest) a H qs) (aa:Ups qs) {w:World} (hw:St w0 S w H) {next:Act→World→Prop} (hn:∀a' w' H' qs',St w0 S w' H'→Ups qs'→W P ops Q cls w0 S rest a' H' qs'→next a' w'):wpOp P ops Q i next a w:=by
 unfold W at h;unfold wpOp;cases ho:ops[i]? with
 |none=>simp only[ho] at*;exact hn _ _ _ _ hw aa h
 |some o=>
  simp only[ho] at*;split
  ·rename_i ab;simp only[ab,if_true] at h;left;cases hc:cls i o with
   |pure=>
    simp only[hc] at h;obtain⟨v,h1,h2⟩:=h;simp only[Oper.wp,h1 w,Oper.upon];exact hn _ _ _ _ hw aa h2
   |quiet=>
    simp only[hc] at h;obtain⟨v,Pr,h1,h2,h3⟩:=h;exact(h1.2.2 H w h2 hw).wp fun v' w' ⟨e,hs⟩=>hn _ _ _ _ hs (aa.cons h1) (e▸h3)
   |grow=>
    simp only[hc] at h;obtain⟨mk,ob,h1,h2⟩:=h;simp only[Oper.wp,h1 w,Oper.upon];exact hn _ _ _ _ (hw.alloc ob) aa (h2 _ ⟨_,hw.alloc ob⟩)
   |eff cross=>
    simp only[hc] at h;exact(h w [] (St.nilF.2 hw)).wp fun v' w' ⟨H',hs,_,h3⟩=>hn _ _ _ _ (St.nilF.1 hs) aa h3
   |defer=>
    simp only[hc] at h;obtain⟨d,h1,h2⟩:=h;simp only[Oper.wp,h1 w,Oper.upon];exact hn _ _ _ _ hw aa h2
  ·rename_i ab;simp only[ab] at h;exact hn _ _ _ _ hw aa h
theorem W.text:∀{l:List Nat} {a:Act} {H:Hp} {qs:List Rd},W P ops Q cls w0 S l a H qs→Ups qs→∀{w:World},St w0 S w H→wpOps P ops Q l a w
 |[],_,_,_,h,_,w,hw=>h w hw
 |i::rest,a,H,qs,h,hup,w,hw=>by rw[wpOps_cons];exact h.step hup hw fun a' w' H' aa hs hu hW=>W.text hW hu hs
theorem W.plain {id:Nat} {a:Act} {H:Hp} (h:W P ops Q cls w0 S (List.range ops.size) a H []) {w:World} (hw:St w0 S w H):(Code.region id ops false).wp P Q a w:=wp_region (h.text Ups.nil hw)
def Uq (k:Nat) (x y:Cls):Bool:=
 match x,y with
 | .defer,_|_,.defer=>false
 | .pure,_|_,.pure=>true
 | .quiet,.quiet| .quiet,.grow| .grow,.grow=>true
 | .quiet,.eff cross=>cross.contains k
 | .eff _,.grow=>true
 |_,_=>false
def Qz (ops:Array Oper) (cls:Nat→Oper→Cls) (k i:Nat):Bool:=
 match ops[k]?,ops[i]? with
 |some ok,some oi=>ok.apart ops oi&&Uq k (cls k ok) (cls i oi)&&Region.noSelect #[ok,oi]
 |_,_=>true
theorem dA {ops:Array Oper} (o:Oper) (hs:∀cs b,o.op≠.select cs b) (a:Act) (dst:Option Tmp) (v:Value) (h:∀d,dst=some d→d∉o.looksAt ops):execOp (a.put dst v).eval o=execOp a.eval o:=execOp_put (ops:=ops) o hs a dst v h
theorem dB {s:Sem Next} {mk mk':Nat→Value} {ob aa:Obj} (h:∀w,s.run P w= .ok (.value (mk w.heap.size)) {w with heap:=w.heap.push ob}) (h':∀w,s.run P w= .ok (.value (mk' w.heap.size)) {w with heap:=w.heap.push aa}):mk=mk'∧ob=aa:=by
 constructor
 ·funext n;have:=(h {(default:World) with heap:=Array.replicate n ob}).symm.trans (h' _);simp only[Array.size_replicate,Result.ok.injEq,Next.value.injEq] at this;exact this.1
 ·have:=(h default).symm.trans (h' default);simp only[Result.ok.injEq,Next.value.injEq,World.mk.injEq] at this;have h2:=this.2.1;have h3:=congrArg Array.back? h2;simpa using h3
theorem W.swap {k i:Nat} {rest:List Nat} {a:Act} {H:Hp} {qs:List Rd} (h:W P ops Q cls w0 S (k::i::rest) a H qs) (ai:Qz ops cls k i=true) (ao:Ups qs) (ad:∃w,St w0 S w H):W P ops Q cls w0 S (i::k::rest) a H qs:=by
 unfold Qz at ai;cases hk:ops[k]? with
 |none=>
  unfold W at h⊢;simp only[hk] at h;unfold W at h;cases hi:ops[i]? with
  |none=>simp only[hi] at h⊢;unfold W;simp only[hk];exact h
  |some oi=>
   simp only[hi] at h⊢;split
   ·rename_i hw;simp only[hw,if_true] at h;cases hc:cls i oi with
    |pure=>simp only[hc] at h⊢;obtain⟨v,h1,h2⟩:=h;refine⟨v,h1,?_⟩;unfold W;simp only[hk];exact h2
    |quiet=>simp only[hc] at h⊢;obtain⟨v,Pr,h1,h2,h3⟩:=h;refine⟨v,Pr,h1,h2,?_⟩;unfold W;simp only[hk];exact h3
    |grow=>simp only[hc] at h⊢;obtain⟨mk,ob,h1,h2⟩:=h;refine⟨mk,ob,h1,fun b hb=>?_⟩;unfold W;simp only[hk];exact h2 b hb
    |eff cross=>
     simp only[hc] at h⊢;exact fun w F hw=>(h w F hw).mono fun v w' ⟨H',h1,h2,h3⟩=>⟨H',h1,h2,by unfold W;simp only[hk];exact h3⟩
    |defer=>simp only[hc] at h⊢;obtain⟨d,h1,h2⟩:=h;refine⟨d,h1,?_⟩;unfold W;simp only[hk];exact h2
   ·rename_i hw;simp only[hw] at h;unfold W;simp only[hk];exact h
 |some ok=>
  cases hi:ops[i]? with
  |none=>
   unfold W at h⊢;simp only[hk] at h;simp only[hi];unfold W;simp only[hk];split
   ·rename_i hw;simp only[hw,if_true] at h;cases hc:cls k ok with
    |pure=>simp only[hc] at h⊢;obtain⟨v,h1,h2⟩:=h;refine⟨v,h1,?_⟩;unfold W at h2;simp only[hi] at h2;exact h2
    |quiet=>simp only[hc] at h⊢;obtain⟨v,Pr,h1,h2,h3⟩:=h;refine⟨v,Pr,h1,h2,?_⟩;unfold W at h3;simp only[hi] at h3;exact h3
    |grow=>simp only[hc] at h⊢;obtain⟨mk,ob,h1,h2⟩:=h;refine⟨mk,ob,h1,fun b hb=>?_⟩;have h2:=h2 b hb;unfold W at h2;simp only[hi] at h2;exact h2
    |eff cross=>
     simp only[hc] at h⊢;exact fun w F hw=>(h w F hw).mono fun v w' ⟨H',h1,h2,h3⟩=>⟨H',h1,h2,by unfold W at h3;simp only[hi] at h3;exact h3⟩
    |defer=>simp only[hc] at h⊢;obtain⟨d,h1,h2⟩:=h;refine⟨d,h1,?_⟩;unfold W at h2;simp only[hi] at h2;exact h2
   ·rename_i hw;simp only[hw] at h;unfold W at h;simp only[hi] at h;exact h
  |some oi=>
   simp only[hk,hi,Bool.and_eq_true] at ai;obtain⟨⟨aq,aa⟩,ah⟩:=ai;have au:∀cs b,ok.op≠.select cs b:=fun cs b=>Region.noSelect_spec ah 0 ok cs b rfl;have av:∀cs b,oi.op≠.select cs b:=fun cs b=>Region.noSelect_spec ah 1 oi cs b rfl;obtain⟨aj,aw,ak⟩:=Oper.apart_spec aq;have al:∀d,ok.dst=some d→oi.dst≠some d:=aw;have ei:∀(a:Act) v,execOp (a.put ok.dst v).eval oi=execOp a.eval oi:=fun a v=>dA oi av a ok.dst v aj;have ek:∀(a:Act) v,execOp (a.put oi.dst v).eval ok=execOp a.eval ok:=fun a v=>dA ok au a oi.dst v ak;have wi:∀(a:Act) v,Region.wanted oi (yielded ops (a.put ok.dst v).tmps)=Region.wanted oi (yielded ops a.tmps):=fun a v=>wanted_put oi a ok.dst v aj;have wk:∀(a:Act) v,Region.wanted ok (yielded ops (a.put oi.dst v).tmps)=Region.wanted ok (yielded ops a.tmps):=fun a v=>wanted_put ok a oi.dst v ak;have pc:∀(a:Act) v u,(a.put ok.dst v).put oi.dst u=(a.put oi.dst u).put ok.dst v:=fun a v u=>Act.put_comm a v u al;unfold W at h⊢;simp only[hk] at h;simp only[hi];unfold W at h⊢;simp only[hi] at h;simp only[hk,wk,ek];simp only[wi,ei,pc] at h;by_cases ae:Region.wanted ok (yielded ops a.tmps)=true<;>by_cases ag:Region.wanted oi (yielded ops a.tmps)=true
   ·simp only[ae,ag,if_true] at h⊢;unfold Uq at aa;cases hck:cls k ok with
    |defer=>simp[hck] at aa
    |pure=>
     simp only[hck] at h aa⊢;obtain⟨v,h1,h2⟩:=h;cases hci:cls i oi with
     |defer=>simp[hci] at aa
     |pure=>simp only[hci] at h2⊢;obtain⟨u,h3,h4⟩:=h2;exact⟨u,h3,v,h1,h4⟩
     |quiet=>simp only[hci] at h2⊢;obtain⟨u,Pr,h3,h4,h5⟩:=h2;exact⟨u,Pr,h3,h4,v,h1,h5⟩
     |grow=>simp only[hci] at h2⊢;obtain⟨mk,ob,h3,h4⟩:=h2;exact⟨mk,ob,h3,fun b hb=>⟨v,h1,h4 b hb⟩⟩
     |eff cross=>
      simp only[hci] at h2⊢;exact fun w F hw=>(h2 w F hw).mono fun u w' ⟨H',h3,h4,h5⟩=>⟨H',h3,h4,v,h1,h5⟩
    |quiet=>
     simp only[hck] at h aa⊢;obtain⟨v,Pr,h1,h2,h3⟩:=h;cases hci:cls i oi with
     |defer=>simp[hci] at aa
     |pure=>simp only[hci] at h3⊢;obtain⟨u,h4,h5⟩:=h3;exact⟨u,h4,v,Pr,h1,h2,h5⟩
     |quiet=>
      simp only[hci] at h3⊢;obtain⟨u,ax,h4,h5,h6⟩:=h3;refine⟨u,ax,h4,h5,v,Pr,h1,h2,h6.reads ?_⟩;intro r hr;simp only[List.mem_cons] at hr⊢;rcases hr with hr|hr|hr
      ·exact .inr (.inl hr)
      ·exact .inl hr
      ·exact .inr (.inr hr)
     |grow=>simp only[hci] at h3⊢;obtain⟨mk,ob,h4,h5⟩:=h3;exact⟨mk,ob,h4,fun b hb=>⟨v,Pr,h1,h1.2.1 _ _ h2,h5 b hb⟩⟩
     |eff cross=>
      simp only[hci] at h3 aa⊢;refine fun w F hw=>(h3 w F hw).mono fun u w' ⟨H',h4,h5,h6⟩=>⟨H',h4,fun r hr=>h5 r (List.mem_cons_of_mem _ hr),v,Pr,h1,?_,h6⟩
      exact h5 ⟨k,Pr⟩ List.mem_cons_self (by simpa using aa)
    |grow=>
     simp only[hck] at h aa⊢;obtain⟨mk,ob,h1,h2⟩:=h;cases hci:cls i oi with
     |defer=>simp[hci] at aa
     |pure=>
      simp only[hci] at h2⊢;obtain⟨w1,ab⟩:=ad;obtain⟨u,h3,h4⟩:=h2 w1.heap.size ⟨_,ab.alloc ob⟩;refine⟨u,h3,mk,ob,h1,fun b hb=>?_⟩;obtain⟨u',h5,h6⟩:=h2 b hb;have:=(h3 default).symm.trans (h5 default);simp only[Result.ok.injEq,Next.value.injEq,and_true] at this;subst this;exact h6
     |quiet=>simp[hci] at aa
     |grow=>
      simp only[hci] at h2⊢;obtain⟨w1,ab⟩:=ad;obtain⟨mk',ac,h3,_⟩:=h2 w1.heap.size ⟨_,ab.alloc ob⟩;refine⟨mk',ac,h3,fun b' _=>⟨mk,ob,h1,fun b ⟨w,hb⟩=>?_⟩⟩;have am:St w0 S w ([(b',ac)]::[(b,ob)]::H):=hb.perm (by simpa using List.Perm.swap (b',ac) (b,ob) H.flatten);obtain⟨az,a0,h5,h6⟩:=h2 b ⟨w,am.drop⟩;obtain⟨e1,e2⟩:=dB h3 h5;subst e1 e2;exact(h6 b' ⟨w,am⟩).perm (by simpa using List.Perm.swap (b,ob) (b',ac) H.flatten)
     |eff cross=>simp[hci] at aa
    |eff cross=>
     simp only[hck] at h aa⊢;cases hci:cls i oi with
     |defer=>simp[hci] at aa
     |pure=>
      simp only[hci] at h⊢;obtain⟨w1,ab⟩:=ad;obtain⟨_,_,_,_,_,u,h3,_⟩:=(h w1 [] (St.nilF.2 ab)).ex;refine⟨u,h3,fun w F hw=>(h w F hw).mono fun v w' ⟨H',h4,h5,u',h6,h7⟩=>⟨H',h4,h5,?_⟩⟩;have:=(h3 default).symm.trans (h6 default);simp only[Result.ok.injEq,Next.value.injEq,and_true] at this;subst this;exact h7
     |quiet=>simp[hci] at aa
     |grow=>
      simp only[hci] at h⊢;obtain⟨w1,ab⟩:=ad;obtain⟨_,_,_,_,_,mk,ob,h3,_⟩:=(h w1 [] (St.nilF.2 ab)).ex;refine⟨mk,ob,h3,fun b _ w F hw=>?_⟩;have ay:St w0 S w (H++([(b,ob)]::F)):=hw.perm (by simpa using List.perm_middle.symm);refine(h w ([(b,ob)]::F) ay).mono fun v w' ⟨H',h4,h5,mk',ac,h6,h7⟩=>?_;obtain⟨e1,e2⟩:=dB h3 h6;subst e1 e2;have hs:St w0 S w' (([(b,ob)]::H')++F):=h4.perm (by simpa using List.perm_middle);exact⟨[(b,ob)]::H',hs,fun r hr hc=>ao r hr _ _ (h5 r hr hc),h7 b ⟨w',hs.subl⟩⟩
     |eff an=>simp[hci] at aa
   ·simp only[ae,ag,if_true] at h⊢;unfold Uq at aa;cases hck:cls k ok with
    |defer=>simp[hck] at aa
    |pure=>simp only[hck] at h⊢;exact h
    |quiet=>simp only[hck] at h⊢;exact h
    |grow=>simp only[hck] at h⊢;exact h
    |eff cross=>simp only[hck] at h⊢;exact h
   ·simp only[ae,ag,if_true] at h⊢;unfold Uq at aa;cases hci:cls i oi with
    |defer=>exfalso;cases hck:cls k ok<;>simp[hci,hck] at aa
    |pure=>simp only[hci] at h⊢;exact h
    |quiet=>simp only[hci] at h⊢;exact h
    |grow=>simp only[hci] at h⊢;exact h
    |eff cross=>simp only[hci] at h⊢;exact h
   ·simp only[ae,ag] at h⊢;exact h
theorem W.cons_congr {k:Nat} {l l':List Nat} {a:Act} {H:Hp} {qs:List Rd} (h:W P ops Q cls w0 S (k::l) a H qs) (ab:∃w,St w0 S w H) (aa:Ups qs) (hc:∀a H qs,(∃w,St w0 S w H)→Ups qs→W P ops Q cls w0 S l a H qs→W P ops Q cls w0 S l' a H qs):W P ops Q cls w0 S (k::l') a H qs:=by
 unfold W at h⊢;cases ho:ops[k]? with
 |none=>simp only[ho] at h⊢;exact hc _ _ _ ab aa h
 |some o=>
  simp only[ho] at h⊢;split
  ·rename_i hw;simp only[hw,if_true] at h;cases hcl:cls k o with
   |pure=>simp only[hcl] at h⊢;obtain⟨v,h1,h2⟩:=h;exact⟨v,h1,hc _ _ _ ab aa h2⟩
   |quiet=>simp only[hcl] at h⊢;obtain⟨v,Pr,h1,h2,h3⟩:=h;exact⟨v,Pr,h1,h2,hc _ _ _ ab (aa.cons h1) h3⟩
   |grow=>simp only[hcl] at h⊢;obtain⟨mk,ob,h1,h2⟩:=h;exact⟨mk,ob,h1,fun b hb=>hc _ _ _ hb aa (h2 b hb)⟩
   |eff cross=>
    simp only[hcl] at h⊢;exact fun w F hw=>(h w F hw).mono fun v w' ⟨H',h1,h2,h3⟩=>⟨H',h1,h2,hc _ _ _ ⟨_,h1.subl⟩ aa h3⟩
   |defer=>simp only[hcl] at h⊢;obtain⟨d,h1,h2⟩:=h;exact⟨d,h1,hc _ _ _ ab aa h2⟩
  ·rename_i hw;simp only[hw] at h;exact hc _ _ _ ab aa h
theorem W.front {i:Nat} {l2:List Nat}:∀{l1:List Nat} {a:Act} {H:Hp} {qs:List Rd},W P ops Q cls w0 S (l1++i::l2) a H qs→Ups qs→(∃w,St w0 S w H)→(∀k∈l1,Qz ops cls k i=true)→W P ops Q cls w0 S (i::(l1++l2)) a H qs
 |[],_,_,_,h,_,_,_=>h
 |k::l1,a,H,qs,h,hup,hex,hok=>by
  have h1:W P ops Q cls w0 S (k::i::(l1++l2)) a H qs:=
   W.cons_congr h hex hup fun a H qs hx hu hW=>W.front hW hu hx fun j hj=>hok j (List.mem_cons_of_mem _ hj)
  exact h1.swap (hok k List.mem_cons_self) hup hex
def Jm (ops:Array Oper) (i:Nat):List Nat:=
 match ops[i]? with
 |some o=>(o.after.toList.filter (Region.binds .any)).map (·.on)
 |none=>[]
def reach (ops:Array Oper):Nat→Nat→Nat→Bool
 |0,j,x=>(Jm ops j).contains x
 |n+1,j,x=>(Jm ops j).contains x||(Jm ops j).any fun p=>reach ops n p x
def Pt (ops:Array Oper) (cls:Nat→Oper→Cls):List Nat→List Nat→Bool
 |_,[]=>true
 |done,i::rest=>
  ((Jm ops i).all (fun p=>done.contains p)&&
  rest.all (fun j=>j !=i&&(reach ops rest.length j i||Qz ops cls i j)))&&Pt ops cls (i::done) rest
def Sz (ops:Array Oper) (cls:Nat→Oper→Cls) (ord:List Nat):Bool:=
 (List.range ops.size).all (fun i=>ord.contains i)&&decide (ord.length≤ops.size)&&ord.all (fun i=>decide (i<ops.size))&&Pt ops cls [] ord
theorem dC {x y:Nat}:∀{l:List Nat},(x::y::[]).Sublist l→∃s t,l=s++x::t∧y∈t
 |[],h=>by cases h
 |z::l,h=>by
  cases h with
  |cons _ h=>obtain⟨s,t,rfl,hy⟩:=dC h;exact⟨z::s,t,rfl,hy⟩
  |cons_cons _ h=>exact⟨[],l,rfl,List.singleton_sublist.1 h⟩
inductive Anc (ops:Array Oper):Nat→Nat→Prop
 |one {j x:Nat}:x∈Jm ops j→Anc ops j x
 |step {j p x:Nat}:p∈Jm ops j→Anc ops p x→Anc ops j x
theorem dD:∀(n:Nat) (j x:Nat),reach ops n j x=true→Anc ops j x
 |0,j,x,h=>by
  simp only[reach] at h;exact .one oA15
 |n+1,j,x,h=>by
  simp only[reach,Bool.or_eq_true,List.any_eq_true] at h;rcases h with h|⟨p,hp,h⟩
  ·exact .one oA15
  ·exact .step hp (dD n p x h)
theorem nS {listed:Nat→Prop} (aa:∀j,listed j→∀p∈Jm ops j,listed p) {j x:Nat} (h:Anc ops j x):(∀p∈Jm ops j,listed p)→listed x:=by
 induction h with
 |one hx=>exact fun hp=>hp _ hx
 |step hp _ ih=>exact fun hq=>ih (aa _ (hq _ hp))
theorem Xx:∀{l done:List Nat},Pt ops cls done l=true→∀l1 x l2,l=l1++x::l2→(∀p∈Jm ops x,p∈done∨p∈l1)∧∀j∈l2,j≠x∧(Anc ops j x∨Qz ops cls x j=true)
 |[],_,_,l1,x,l2,he=>by cases l1<;>simp at he
 |i::rest,done,h,l1,x,l2,he=>by
  simp only[Pt,Bool.and_eq_true,List.all_eq_true,List.contains_iff_mem,bne_iff_ne,Bool.or_eq_true] at h;obtain⟨⟨h1,h2⟩,h3⟩:=h;cases l1 with
  |nil=>
   simp only[List.nil_append,List.cons.injEq] at he;obtain⟨rfl,rfl⟩:=he;exact⟨fun p hp=> .inl (h1 p hp),fun j hj=>⟨(h2 j hj).1,(h2 j hj).2.imp (dD _ _ _) id⟩⟩
  |cons y l1=>
   simp only[List.cons_append,List.cons.injEq] at he;obtain⟨rfl,rfl⟩:=he;obtain⟨h4,h5⟩:=Xx h3 l1 x l2 rfl;refine⟨fun p hp=>?_,h5⟩;rcases h4 p hp with h|h
   ·rcases List.mem_cons.1 h with rfl|h
    ·exact .inr List.mem_cons_self
    ·exact .inl h
   ·exact .inr (List.mem_cons_of_mem _ h)
theorem dF:∀{l done:List Nat},Pt ops cls done l=true→l.Nodup
 |[],_,_=>List.nodup_nil
 |i::rest,done,h=>by simp only[Pt,Bool.and_eq_true,List.all_eq_true,bne_iff_ne] at h;exact List.nodup_cons.2 ⟨fun hm=>(h.1.2 i hm).1 rfl,dF h.2⟩
theorem W.any {aa:List Nat} (ah:Pt ops cls [] aa=true) (aj:∀i,i<ops.size→i∈aa) (ao:∀i∈aa,i<ops.size):∀(ac:Nat) (listed:Array Bool) (a:Act) (H:Hp) (qs:List Rd),Ups qs→listed.size=ops.size→(∀j,listed.getD j false=true→∀p∈Jm ops j,listed.getD p false=true)→(aa.filter fun j=> !listed.getD j true).length≤ac→W P ops Q cls w0 S (aa.filter fun j=> !listed.getD j true) a H qs→∀w,St w0 S w H→wpAny P .any ops Q ac listed a w:=by
 have ad:∀(listed:Array Bool) i,i∈Region.ready .any ops listed→listed.getD i true=false∧i<ops.size∧∀p∈Jm ops i,listed.getD p false=true:=by intro listed i hi;obtain⟨h1,o,ho,h2⟩:=mem_ready.1 hi;refine⟨h1,(Array.getElem?_eq_some_iff.1 ho).1,fun p hp=>?_⟩;simp only[Jm,ho,List.mem_map,List.mem_filter,Array.mem_toList_iff] at hp;obtain⟨e,⟨he,hb⟩,rfl⟩:=hp;exact h2 e he hb
 have ax:∀(listed:Array Bool),listed.size=ops.size→(aa.filter fun j=> !listed.getD j true)=[]→Region.ready .any ops listed=[]:=by intro listed ae hl;rw[List.eq_nil_iff_forall_not_mem];intro i hi;obtain⟨h1,h2,_⟩:=ad listed i hi;have:i∈aa.filter fun j=> !listed.getD j true:=List.mem_filter.2 ⟨aj i h2,by rw[h1];rfl⟩;rw[hl] at this;cases this
 have aq:∀(listed:Array Bool),listed.size=ops.size→∀x l,(aa.filter fun j=> !listed.getD j true)=x::l→x∈Region.ready .any ops listed:=by
  intro listed ae x l hl;obtain⟨l1,l2,ab,a2,hx,-⟩:=List.filter_eq_cons_iff.1 hl;have ak:=ao x (by rw[ab];simp);refine mem_ready.2 ⟨by simpa using hx,ops[x],Array.getElem?_eq_getElem ak,fun e he hb=>?_⟩;have hp:e.on∈Jm ops x:=by simp only[Jm,Array.getElem?_eq_getElem ak,List.mem_map,List.mem_filter,Array.mem_toList_iff];exact⟨e,⟨he,hb⟩,rfl⟩
  rcases(Xx ah l1 x l2 ab).1 _ hp with h|h
  ·cases h
  ·have h1:=a2 _ h;have h2:=ao e.on (by rw[ab];simp[h]);simp only[Bool.not_eq_true,Bool.not_eq_false'] at h1;simp only[Array.getD_eq_getD_getElem?,Array.getElem?_eq_getElem (show e.on<listed.size by omega),Option.getD_some] at h1⊢;exact h1
 intro ac;induction ac with
 |zero=>
  intro listed a H qs au ae av al hW w hw;have hl:(aa.filter fun j=> !listed.getD j true)=[]:=List.length_eq_zero_iff.1 (Nat.le_zero.1 al);rw[hl] at hW;exact⟨ax listed ae hl,hW w hw⟩
 |succ ac ih=>
  intro listed a H qs au ae av al hW w hw;refine⟨fun hr=>?_,fun i hi=>?_⟩
  ·cases hl:(aa.filter fun j=> !listed.getD j true) with
   |nil=>rw[hl] at hW;exact hW w hw
   |cons x l=>
    have:=aq listed ae x l hl;rw[hr] at this;cases this
  ·obtain⟨a3,ay,am⟩:=ad listed i hi;have az:i∈aa.filter fun j=> !listed.getD j true:=List.mem_filter.2 ⟨aj i ay,by rw[a3];rfl⟩;obtain⟨l1,l2,ab⟩:=List.append_of_mem az;have a4:(l1++i::l2).Nodup:=ab▸(dF ah).sublist List.filter_sublist;have a5:∀k∈l1,Qz ops cls k i=true:=by
    intro k hk;have a0:(k::i::[]).Sublist aa:=by
     have h1:(k::i::[]).Sublist (l1++i::l2):=by obtain⟨s,t,rfl⟩:=List.append_of_mem hk;simp only[List.append_assoc,List.cons_append];refine List.Sublist.trans ?_ (List.sublist_append_right s _);exact(List.Sublist.cons_cons _ (List.Sublist.trans (List.Sublist.cons_cons _ (List.nil_sublist l2)) (List.sublist_append_right t _)))
     rw[←ab] at h1;exact h1.trans List.filter_sublist
    obtain⟨s,t,a6,hit⟩:=dC a0;rcases((Xx ah s k t a6).2 i hit).2 with h|h
    ·exfalso;have:=nS (listed:=fun j=>listed.getD j false=true) av h am;have ai:listed.getD k true=false:=by
      have:k∈aa.filter fun j=> !listed.getD j true:=by rw[ab];simp[hk]
      simpa using(List.mem_filter.1 this).2
     have a1:k<listed.size:=by have:=ao k (List.mem_filter.1 (show k∈aa.filter fun j=> !listed.getD j true by rw[ab];simp[hk])).1;omega
     simp only[Array.getD_eq_getD_getElem?,Array.getElem?_eq_getElem a1,Option.getD_some] at this ai;rw[this] at ai;cases ai
    ·exact h
   rw[ab] at hW;have hF:=W.front hW au ⟨w,hw⟩ a5;have an:(aa.filter fun j=> !(listed.setIfInBounds i true).getD j true)=l1++l2:=by
    have h1:(aa.filter fun j=> !(listed.setIfInBounds i true).getD j true)=(aa.filter fun j=> !listed.getD j true).filter (·!=i):=by
     rw[List.filter_filter];apply List.filter_congr;intro j _;by_cases ag:j=i
     ·subst ag;simp[show j<listed.size by omega]
     ·rw[getD_set_ne true (Ne.symm ag)];simp[ag]
    rw[h1,ab];obtain⟨bh,a7,a8⟩:=List.nodup_append.1 a4;have a9:i∉l1:=fun h=>a8 i h i oA19 rfl;have bc:i∉l2:=(List.nodup_cons.1 a7).1;have f1:l1.filter (·!=i)=l1:=List.filter_eq_self.2 fun x hx=>by have aw:x≠i:=fun e=>a9 (e▸hx);simpa using aw
    have f2:l2.filter (·!=i)=l2:=List.filter_eq_self.2 fun x hx=>by have aw:x≠i:=fun e=>bc (e▸hx);simpa using aw
    simp[List.filter_append,f1,f2]
   refine hF.step au hw fun a' w' H' be hs bf bg=>?_;refine ih (listed.setIfInBounds i true) a' H' be bf (by simp[ae]) ?_ (by rw[an];have:=congrArg List.length ab;rw[List.length_append,List.length_cons] at this;rw[List.length_append];omega) (by rw[an];exact bg) w' hs;intro j hj p hp;by_cases ag:j=i
   ·subst ag;exact getD_set_true (am p hp)
   ·rw[getD_set_ne false (Ne.symm ag)] at hj;exact getD_set_true (av j hj p hp)
theorem W.draw {id:Nat} {a:Act} {H:Hp} (aa:List Nat) (hm:P.follows .mixedOrders=true) (ab:Sz ops cls aa=true) (h:W P ops Q cls w0 S aa a H []) {w:World} (hw:St w0 S w H):(Code.region id ops true).wp P Q a w:=by
 simp only[Sz,Bool.and_eq_true,List.all_eq_true,List.contains_iff_mem,decide_eq_true_eq,List.mem_range] at ab;obtain⟨⟨⟨h1,h4⟩,h2⟩,h3⟩:=ab;have hf:(aa.filter fun j=> !(Array.replicate ops.size false).getD j true)=aa:=by apply List.filter_eq_self.2;intro j hj;simp[h2 j hj]
 refine wp_region_any hm (W.any h3 h1 h2 ops.size _ a H [] Ups.nil oA19 ?_ ?_ (by rw[hf];exact h) _ (hw.drew _))
 ·intro j hj;simp[Array.getD_eq_getD_getElem?,Array.getElem?_replicate] at hj;split at hj<;>simp at hj
 ·rw[hf];exact h4
end region
end Go.SL
namespace Go.SL
open Go.RowKit
theorem nle {a b:Nat} (h:Nat.ble a b=true):a≤b:=Nat.le_of_ble_eq_true h
@[irreducible] def dec (p:Prop) [Decidable p]:Bool:=decide p
theorem Gc (p:Prop) [Decidable p]:dec p=decide p:=by unfold dec;rfl
theorem Ur {p:Prop} [Decidable p]:dec p=true↔p:=by rw[Gc];exact decide_eq_true_iff
theorem Dt {p:Prop} [Decidable p] (h:p):dec p=true:=Ur.2 h
theorem Jq {p:Prop} [Decidable p] (h:¬p):dec p=false:=by rw[Gc];exact decide_eq_false h
theorem nT {p q:Prop} [Decidable p] [Decidable q] (h:p↔q):dec p=dec q:=by rw[Gc,Gc];exact decide_eq_decide.2 h
def row (cs:List Value) (T:TypeId):Obj:= .cells cs.toArray T (0,0)
def An (cs:List Value) (T:TypeId) (fz:Nat×Nat):Obj:= .cells cs.toArray T fz
def Kt (ops:Array Oper) (j:Nat):Option Tmp:=(ops[j]?).bind (·.dst)
def Want (ops:Array Oper) (L:Bb):Option (Nat×Bool)→Prop
 |none=>True
 |some (j,b)=>∃t,Kt ops j=some t∧lk t L=some (.bool b)
def Xy (L:Bb) (v:Value):Option Tmp→Bb
 |some d=>(d,v)::L
 |none=>L
def okDst (n:Nat):Option Tmp→Prop
 |some d=>d<n
 |none=>True
def annLk (i:Nat):List (Nat×Cls)→Option Cls
 |[]=>none
 |(j,c)::l=>match Nat.beq i j with|true=>some c|false=>annLk i l
def kind:Op→Cls
 | .load .. => .quiet
 | .alloc .. | .box .. | .buildSlice .. | .makeMap .. | .makeSlice .. => .grow
 | .store .. | .lookup .. | .mapUpdate .. | .insert .. | .range .. | .next .. | .entry .. => .eff []
 | .call {callee:= .builtin .len,..}| .call {callee:= .builtin .cap,..}| .call {callee:= .builtin .max,..}| .call {callee:= .builtin .min,..}=> .pure
 | .call .. => .eff []
 | .defer .. => .defer
 |_=> .pure
def std (ann:List (Nat×Cls)) (i:Nat) (o:Oper):Cls:=
 match annLk i ann with
 |some c=>c
 |none=>kind o.op
def Ku:Nat→List Oper→List (Nat×Oper)
 |_,[]=>[]
 |k,o::os=>(k,o)::Ku (k+1) os
theorem Xz:∀(os:List Oper) (k:Nat) (p:Nat×Oper),p∈Ku k os→k≤p.1∧os[p.1-k]? =some p.2
 |[],k,p,h=>by simp[Ku] at h
 |o::os,k,p,h=>by
  simp only[Ku,List.mem_cons] at h;rcases h with rfl|h
  ·simp
  ·obtain⟨h1,h2⟩:=Xz os (k+1) p h;refine⟨oM,?_⟩;have:p.1-k=(p.1-(k+1))+1:=by omega
   rw[this];simpa using h2
theorem Ya:∀(os:List Oper) (k:Nat),(Ku k os).map (·.1)=List.range' k os.length
 |[],k=>by simp[Ku]
 |o::os,k=>by simp[Ku,Ya os (k+1),List.range'_succ]
theorem St.self {w0:World} {S:List Nat} {w:World} {Hf F:Hp} (h:St w0 S w (Hf++F)):St w (Bj Hf) w Hf where
 nodup:=by have:=h.nodup;simp only[Bj,List.flatten_append,List.map_append] at this⊢;exact(List.nodup_append.1 this).1
 sat:=fun p hp=>h.sat p (by simp only[List.flatten_append,List.mem_append];exact .inl hp)
 own:=fun k hk=> .inl hk
 frame:=fun _ _ _=>rfl
 size:=Nat.le_refl _
 os:=rfl
 tape:=rfl
 output:=rfl
theorem St.framed {w0:World} {S:List Nat} {w w':World} {Hf F H':Hp} (h:St w0 S w (Hf++F)) (h':St w (Bj Hf) w' H'):St w0 S w' (H'++F) where
 nodup:=by
  have h1:=h.nodup;simp only[Bj,List.flatten_append,List.map_append] at h1⊢;obtain⟨_,hF,hd⟩:=List.nodup_append.1 h1;refine List.nodup_append.2 ⟨h'.nodup,hF,?_⟩;intro a ha b hb e;subst e;rcases h'.own a ha with h2|h2
  ·exact hd a h2 a hb rfl
  ·obtain⟨p,hp,rfl⟩:=List.mem_map.1 hb;have:=h.lt (p:=p) (by simp only[List.flatten_append,List.mem_append];exact .inr hp);omega
 sat:=by
  intro p hp;simp only[List.flatten_append,List.mem_append] at hp;rcases hp with hp|hp
  ·exact h'.sat p hp
  ·have aa:p∈(Hf++F).flatten:=by simp only[List.flatten_append,List.mem_append];exact .inr hp
   rw[h'.frame p.1 (h.lt aa)]
   ·exact h.sat p aa
   ·intro hk;have h1:=h.nodup;simp only[Bj,List.flatten_append,List.map_append] at h1;exact(List.nodup_append.1 h1).2.2 p.1 hk p.1 (List.mem_map.2 ⟨p,hp,rfl⟩) rfl
 own:=by
  intro k hk;simp only[Bj,List.flatten_append,List.map_append,List.mem_append] at hk;rcases hk with hk|hk
  ·rcases h'.own k hk with h1|h1
   ·exact h.own k (by simp only[Bj,List.flatten_append,List.map_append,List.mem_append];exact .inl h1)
   ·right;have:=h.size;omega
  ·exact h.own k (by simp only[Bj,List.flatten_append,List.map_append,List.mem_append];exact .inr hk)
 frame:=by
  intro b hb hs;rw[h'.frame b (by have:=h.size;omega),h.frame b hb hs];intro hk;rcases h.own b (by simp only[Bj,List.flatten_append,List.map_append,List.mem_append];exact .inl hk) with h1|h1
  ·exact hs h1
  ·omega
 size:=by have:=h.size;have:=h'.size;omega
 os:=h'.os.trans h.os
 tape:=h'.tape.trans h.tape
 output:=h'.output.trans h.output
section
variable (P:Program) (ops:Array Oper) (Q:Exit→Act→World→Prop) (cls:Nat→Oper→Cls) (w0:World) (S:List Nat) (n:Nat)
def R (l:List (Nat×Oper)) (L:Bb) (D:List Deferred) (H:Hp) (qs:List Rd):Prop:=
 (∀p∈l,ops[p.1]? =some p.2)→∀a,Fr n a L→a.defers=D→W P ops Q cls w0 S (l.map (·.1)) a H qs
def R1 (k:Nat) (o:Oper) (l:List (Nat×Oper)) (L:Bb) (D:List Deferred) (H:Hp) (qs:List Rd):Prop:=
 (∀p∈(k,o)::l,ops[p.1]? =some p.2)→∀a,Fr n a L→a.defers=D→Region.wanted o (yielded ops a.tmps)=true→W P ops Q cls w0 S (k::l.map (·.1)) a H qs
def Dn (e:Exit) (L:Bb) (D:List Deferred) (H:Hp):Prop:=∀a w,Fr n a L→a.defers=D→St w0 S w H→Q e a w
def G (c:Code) (L:Bb) (D:List Deferred) (H:Hp):Prop:=∀a w,Fr n a L→a.defers=D→St w0 S w H→c.wp P Q a w
end
section steps
variable {P:Program} {ops:Array Oper} {Q:Exit→Act→World→Prop} {cls:Nat→Oper→Cls} {w0:World} {S:List Nat} {n:Nat}
variable {k:Nat} {o:Oper} {l:List (Nat×Oper)} {L:Bb} {D:List Deferred} {H:Hp} {qs:List Rd}
@[simp] theorem put_defers (a:Act) (d:Option Tmp) (v:Value):(a.put d v).defers=a.defers:=by cases d<;>rfl
theorem Fr.add {a:Act} (h:Fr n a L) {d:Option Tmp} (hd:okDst n d) (v:Value):Fr n (a.put d v) (Xy L v d):=by
 cases d with
 |none=>exact h
 |some d=>exact h.put hd v
theorem nU {a:Act} (h:Fr n a L) (hw:Want ops L o.guard):Region.wanted o (yielded ops a.tmps)=true:=by
 unfold Region.wanted;cases hg:o.guard with
 |none=>rfl
 |some g=>
  obtain⟨j,b⟩:=g;rw[hg] at hw;obtain⟨t,h1,h2⟩:=hw;have:=h.get t _ h2;simp only[Kt] at h1;simp[yielded,h1,this]
theorem nV {a:Act} (h:Fr n a L) {j:Nat} {b:Bool} (hg:o.guard=some (j,b)) {t:Nat} (h1:Kt ops j=some t) (h2:lk t L=some (.bool (!b))):Region.wanted o (yielded ops a.tmps)=false:=by
 unfold Region.wanted;have:=h.get t _ h2;simp only[Kt] at h1;rw[hg];cases b<;>simp[yielded,h1,this]
theorem R.nil (h:Dn Q w0 S n .normal L D H):R P ops Q cls w0 S n [] L D H qs:=fun _ a hf hd w hw=>h a w hf hd hw
theorem R.skip {d:Nat} {op:Op} {ty:TypeId} {pos:String} {af:Array Edge} {j:Nat} {b:Bool} {t:Nat} (h1:Kt ops j=some t:=by exact rfl) (h2:lk t L=some (.bool (!b)):=by exact rfl) (hn:d<n:=by exact nle rfl) (h:R P ops Q cls w0 S n l ((d,undef)::L) D H qs):R P ops Q cls w0 S n ((k,⟨some d,op,ty,pos,af,some (j,b)⟩)::l) L D H qs:=by
 intro hl a hf hD;have ho:=hl _ List.mem_cons_self;simp only[List.map_cons];unfold W;simp only[ho,nV (o:=⟨some d,op,ty,pos,af,some (j,b)⟩) hf rfl h1 h2];exact h (fun p hp=>hl p (List.mem_cons_of_mem _ hp)) _ (hf.put hn _) (by simpa using hD)
theorem nW {a:Act} (h:Fr n a L) {j:Nat} {b:Bool} (hg:o.guard=some (j,b)) {t:Nat} (h1:Kt ops j=some t) (h2:lk t L=some undef):Region.wanted o (yielded ops a.tmps)=false:=by
 unfold Region.wanted;have:=h.get t _ h2;simp only[Kt] at h1;rw[hg];cases b<;>simp[yielded,h1,this,undef]
theorem R.skipU {d:Nat} {op:Op} {ty:TypeId} {pos:String} {af:Array Edge} {j:Nat} {b:Bool} {t:Nat} (h1:Kt ops j=some t:=by exact rfl) (h2:lk t L=some undef:=by exact rfl) (hn:d<n:=by exact nle rfl) (h:R P ops Q cls w0 S n l ((d,undef)::L) D H qs):R P ops Q cls w0 S n ((k,⟨some d,op,ty,pos,af,some (j,b)⟩)::l) L D H qs:=by
 intro hl a hf hD;have ho:=hl _ List.mem_cons_self;simp only[List.map_cons];unfold W;simp only[ho,nW (o:=⟨some d,op,ty,pos,af,some (j,b)⟩) hf rfl h1 h2];exact h (fun p hp=>hl p (List.mem_cons_of_mem _ hp)) _ (hf.put hn _) (by simpa using hD)
theorem R.weaken {L':Bb} (hs:∀a,Fr n a L→Fr n a L') (h:R P ops Q cls w0 S n l L' D H qs):R P ops Q cls w0 S n l L D H qs:=
 fun hl a hf hD=>h hl a (hs a hf) hD
theorem R.split {j:Nat} {b:Bool} {t:Nat} {p:Prop} {_:Decidable p} (_:o.guard=some (j,b)) (_:Kt ops j=some t) (h2:lk t L=some (.bool (dec p))) (ht:p→R P ops Q cls w0 S n ((k,o)::l) ((t,.bool true)::L) D H qs) (hf:¬p→R P ops Q cls w0 S n ((k,o)::l) ((t,.bool false)::L) D H qs):R P ops Q cls w0 S n ((k,o)::l) L D H qs:=by
 by_cases hp:p
 ·refine R.weaken (fun a hf=>hf.sub fun t' v hv=>?_) (ht hp);rw[Sy] at hv;split at hv
  ·rename_i e;subst e;rw[h2];simpa[Gc,hp] using hv
  ·exact hv
 ·refine R.weaken (fun a hf=>hf.sub fun t' v hv=>?_) (hf hp);rw[Sy] at hv;split at hv
  ·rename_i e;subst e;rw[h2];simpa[Gc,hp] using hv
  ·exact hv
theorem R.splitT {j:Nat} {b:Bool} {t:Nat} {p:Prop} {_:Decidable p} (h0:o.guard=some (j,b):=by exact rfl) (h1:Kt ops j=some t:=by exact rfl) (h2:lk t L=some (.bool (dec p)):=by exact rfl) (hp:p:=by omega) (ht:R P ops Q cls w0 S n ((k,o)::l) ((t,.bool true)::L) D H qs):R P ops Q cls w0 S n ((k,o)::l) L D H qs:=
 R.split h0 h1 h2 (fun _=>ht) (fun h=>absurd hp h)
theorem R.splitF {j:Nat} {b:Bool} {t:Nat} {p:Prop} {_:Decidable p} (h0:o.guard=some (j,b):=by exact rfl) (h1:Kt ops j=some t:=by exact rfl) (h2:lk t L=some (.bool (dec p)):=by exact rfl) (hp:¬p:=by omega) (ht:R P ops Q cls w0 S n ((k,o)::l) ((t,.bool false)::L) D H qs):R P ops Q cls w0 S n ((k,o)::l) L D H qs:=
 R.split h0 h1 h2 (fun h=>absurd h hp) (fun _=>ht)
theorem R.enter0 {d:Option Tmp} {op:Op} {ty:TypeId} {pos:String} {af:Array Edge} (h:R1 P ops Q cls w0 S n k ⟨d,op,ty,pos,af,none⟩ l L D H qs):R P ops Q cls w0 S n ((k,⟨d,op,ty,pos,af,none⟩)::l) L D H qs:=fun hl a hf hD=>h hl a hf hD rfl
theorem R.enterT {j:Nat} {b:Bool} {t:Nat} (hg:o.guard=some (j,b):=by exact rfl) (h1:Kt ops j=some t:=by exact rfl) (h2:lk t L=some (.bool b):=by exact rfl) (h:R1 P ops Q cls w0 S n k o l L D H qs):R P ops Q cls w0 S n ((k,o)::l) L D H qs:=fun hl a hf hD=>h hl a hf hD (nU hf (by rw[hg];exact⟨t,h1,h2⟩))
theorem R1.pureStep {d:Nat} {v:Value} (hc:cls k o= .pure) (hd:o.dst=some d) (hn:d<n) (hv:∀a,Fr n a L→∀w,(execOp a.eval o).run P w= .ok (.value v) w) (h:R P ops Q cls w0 S n l ((d,v)::L) D H qs):R1 P ops Q cls w0 S n k o l L D H qs:=by
 intro hl a hf hD aa;have ho:=hl _ List.mem_cons_self;unfold W;simp only[ho,aa,if_true,hc];exact⟨v,hv a hf,h (fun p hp=>hl p (List.mem_cons_of_mem _ hp)) _ (by rw[hd];exact hf.put hn v) (by simpa using hD)⟩
theorem R1.quietStep {d:Nat} {v:Value} {Pr:Hp→Prop} (hc:cls k o= .quiet) (hd:o.dst=some d) (hn:d<n) (hv:∀a,Fr n a L→QSem P w0 S (execOp a.eval o) v Pr) (hp:Pr H) (h:R P ops Q cls w0 S n l ((d,v)::L) D H (⟨k,Pr⟩::qs)):R1 P ops Q cls w0 S n k o l L D H qs:=by
 intro hl a hf hD aa;have ho:=hl _ List.mem_cons_self;unfold W;simp only[ho,aa,if_true,hc];exact⟨v,Pr,hv a hf,hp,h (fun p hp=>hl p (List.mem_cons_of_mem _ hp)) _ (by rw[hd];exact hf.put hn v) (by simpa using hD)⟩
theorem R1.growStep {d:Nat} {mk:Nat→Value} {ob:Obj} (hc:cls k o= .grow) (hd:o.dst=some d) (hn:d<n) (hv:∀a,Fr n a L→∀w,(execOp a.eval o).run P w= .ok (.value (mk w.heap.size)) {w with heap:=w.heap.push ob}) (h:∀b,R P ops Q cls w0 S n l ((d,mk b)::L) D ([(b,ob)]::H) qs):R1 P ops Q cls w0 S n k o l L D H qs:=by
 intro hl a hf hD aa;have ho:=hl _ List.mem_cons_self;unfold W;simp only[ho,aa,if_true,hc];exact⟨mk,ob,hv a hf,fun b _=>h b (fun p hp=>hl p (List.mem_cons_of_mem _ hp)) _ (by rw[hd];exact hf.put hn _) (by simpa using hD)⟩
theorem R1.effStep {cross:List Nat} (hc:cls k o= .eff cross) (hn:okDst n o.dst) (hv:∀a w u T,Fr n a L→St u T w H→Ch P (execOp a.eval o) w fun v w'=>∃H',St u T w' H'∧(∀r∈qs,r.i∈cross→r.Pr H')∧R P ops Q cls w0 S n l (Xy L v o.dst) D H' qs):R1 P ops Q cls w0 S n k o l L D H qs:=by
 intro hl a hf hD aa;have ho:=hl _ List.mem_cons_self;unfold W;simp only[ho,aa,if_true,hc];exact fun w F hs=>(hv a w w (Bj H) hf hs.self).mono fun v w' ⟨H',h1,h2,h3⟩=>⟨H',hs.framed h1,h2,h3 (fun p hp=>hl p (List.mem_cons_of_mem _ hp)) _ (hf.add hn v) (by simpa using hD)⟩
theorem R1.deferStep {d:Deferred} (hc:cls k o= .defer) (hd:o.dst=none) (hv:∀a,Fr n a L→∀w,(execOp a.eval o).run P w= .ok (.defer d) w) (h:R P ops Q cls w0 S n l L (d::D) H qs):R1 P ops Q cls w0 S n k o l L D H qs:=by
 intro hl a hf hD aa;have ho:=hl _ List.mem_cons_self;unfold W;simp only[ho,aa,if_true,hc];exact⟨d,hv a hf,h (fun p hp=>hl p (List.mem_cons_of_mem _ hp)) _ (by rw[hd];exact⟨hf.size,hf.get⟩) (by rw[hd];simp[Act.put,hD])⟩
def Ae (c:Aa) (H H1:Hp):Prop:=H.flatten.Perm (c++H1.flatten)
theorem Ae.here {c:Aa} {H:Hp}:Ae c (c::H) H:=by simp[Ae]
theorem Ae.there {c c':Aa} {H H1:Hp} (h:Ae c H H1):Ae c (c'::H) (c'::H1):=by unfold Ae at*;simp only[List.flatten_cons];refine(List.Perm.append_left c' h).trans ?_;rw[←List.append_assoc,←List.append_assoc];exact List.Perm.append_right _ List.perm_append_comm
def Bt (H Hf F:Hp):Prop:=H.flatten.Perm (Hf++F).flatten
theorem zS {p:Prop} (h:p:=by repeat(first|exact Bt.nil|(apply Bt.cons;·(repeat(first|exact Ae.here|apply Ae.there|exact Ae.nil))))):p:=h
theorem Bt.nil {H:Hp}:Bt H [] H:=by simp[Bt]
theorem Bt.cons {c:Aa} {H H1 Hf F:Hp} (h1:Ae c H H1) (h2:Bt H1 Hf F):Bt H (c::Hf) F:=by unfold Bt Ae at*;simp only[List.cons_append,List.flatten_cons];exact h1.trans (List.Perm.append_left c h2)
def Has (b:Nat) (ob:Obj) (H:Hp):Prop:=(b,ob)∈H.flatten
theorem zA {p:Prop} (h:p:=by repeat(first|exact Has.here|apply Has.there)):p:=h
theorem Has.here {b:Nat} {ob:Obj} {c:Aa} {H:Hp}:Has b ob (((b,ob)::c)::H):=by simp[Has]
theorem Has.there {b:Nat} {ob:Obj} {c:Aa} {H:Hp} (h:Has b ob H):Has b ob (c::H):=by unfold Has at*;simp only[List.flatten_cons,List.mem_append];exact .inr h
theorem Has.in_ {b:Nat} {ob:Obj} {c:Aa} {H:Hp} (h:(b,ob)∈c):Has b ob (c::H):=by unfold Has at*;simp only[List.flatten_cons,List.mem_append];exact .inl h
theorem Has.st {b:Nat} {ob:Obj} {w:World} (h:Has b ob H) (hw:St w0 S w H):w.heap[b]? =some ob:=hw.sat _ h
theorem Has.perm {b:Nat} {ob:Obj} {H H':Hp} (h:Has b ob H) (hp:H.flatten.Perm H'.flatten):Has b ob H':=hp.mem_iff.1 h
def Upd (b:Nat) (ob ob':Obj) (H H':Hp):Prop:=∃F,Ae [(b,ob)] H F∧Ae [(b,ob')] H' F
theorem zU {p:Prop} (h:p:=by repeat(first|exact Upd.here|apply Upd.there)):p:=h
theorem Upd.here {b:Nat} {ob aa:Obj} {H:Hp}:Upd b ob aa ([(b,ob)]::H) ([(b,aa)]::H):=⟨H,.here,.here⟩
theorem Upd.there {b:Nat} {ob aa:Obj} {c:Aa} {H H':Hp} (h:Upd b ob aa H H'):Upd b ob aa (c::H) (c::H'):=
 let ⟨F,h1,h2⟩:=h;⟨c::F,h1.there,h2.there⟩
theorem Upd.st {b:Nat} {ob aa:Obj} {H':Hp} {w w':World} (h:Upd b ob aa H H') (hw:St w0 S w H) (ad:w'.heap.size=w.heap.size) (hb:w'.heap[b]? =some aa) (ac:∀k,k≠b→w'.heap[k]? =w.heap[k]?) (ae:w'.os=w.os) (ag:w'.tape=w.tape) (ab:w'.output=w.output):St w0 S w' H':=by
 obtain⟨F,h1,h2⟩:=h;have e1:St w0 S w ([(b,ob)]::F):=hw.perm (by simpa[Ae] using h1);exact(e1.set ad hb ac ae ag ab).perm (by simpa[Ae] using h2.symm)
theorem Upd.has {b:Nat} {ob aa:Obj} {H':Hp} (h:Upd b ob aa H H'):Has b ob H:=by obtain⟨F,h1,_⟩:=h;exact h1.mem_iff.2 oA19
end steps
class Cell1 (P:Program) (T:TypeId):Prop where
 agg:∀w,(isAgg T).run P w= .ok false w
 size:∀w,(sizeOf T).run P w= .ok 1 w
class AggN (P:Program) (T:TypeId) (m:outParam Nat):Prop where
 agg:∀w,(isAgg T).run P w= .ok true w
 size:∀w,(sizeOf T).run P w= .ok m w
class FieldOff (P:Program) (T i:Nat) (off:outParam Nat):Prop where
 run:∀a w,(Instr.fieldAt T (.pointer (some a)) i).run P w= .ok (.pointer (some (a.add off))) w
class SliceT (P:Program) (T:TypeId) (E sz:outParam Nat):Prop where
 und:P.underlying T=some (.slice E)
 size:∀w,(sizeOf E).run P w= .ok sz w
class ArrT (P:Program) (T:TypeId) (m E sz:outParam Nat):Prop where
 und:P.underlying T=some (.array m E)
 size:∀w,(sizeOf E).run P w= .ok sz w
class ZeroV (P:Program) (T:TypeId) (vs:outParam (List Value)):Prop where
 run:∃z:Value,z.cells=vs.toArray∧∀w,(zeroValue T).run P w= .ok z w
class IntT (P:Program) (T:TypeId) (k:outParam IntKind):Prop where
 und:P.underlying T=some (.int k)
class PtrT (P:Program) (T:TypeId):Prop where
 und:P.underlying T=some (.pointer (P.pointee T))
class MapT (P:Program) (T:TypeId) (K E:outParam Nat):Prop where
 und:P.underlying T=some (.map K E)
class BuildT (P:Program) (T:TypeId) (pl:outParam (Nat→Option (Nat×Nat))) (zero:outParam (List Value)):Prop where
 built:∀parts,P.built T parts=Instr.fill pl zero.toArray parts
class Callable (P:Program) (f:FuncId):Prop where
 run:∀args w,(callFunc f args).run P w= .ok (.enter f args) w
class Mixed (P:Program):Prop where
 mixed:P.follows .mixedOrders=true
theorem BuildT.ofS {P:Program} {T:TypeId} {pl:List (Nat×Nat)} {zero:List Value} (h:∀parts,P.built T parts=Instr.fill (pl.toArray[·]?) zero.toArray parts):BuildT P T (fun i=>pl[i]?) zero:=⟨fun parts=>by rw[h];simp⟩
theorem FieldOff.of {P:Program} {T i off m:Nat} (fs:Array Field) (f:Field) (hu:P.underlying T=some (.struct fs)) (hf:fs[i]? =some f) (ho:f.offset=off) (hs:∀w,(sizeOf f.type).run P w= .ok (m+1) w):FieldOff P T i off:=⟨fun a w=>by
 simp[Instr.fieldAt,underlying,hu,hf,Instr.sureAddr,fieldPlace,hs,ho]⟩
class Eq5 (P:Program) (T:TypeId):Prop where
 guard:∀op x y xs ys w,(eqGuard op T x y (.agg xs) (.agg ys)).run P w= .ok () w
 run:∀(a0 a1 a2 a3 a4 b0 b1 b2 b3 b4:Int) w,(Op.equal T (.agg #[.int .i64 a0,.int .i64 a1,.int .i64 a2,.int .i64 a3,.int .i64 a4])
  (.agg #[.int .i64 b0,.int .i64 b1,.int .i64 b2,.int .i64 b3,.int .i64 b4])).run P w= .ok (decide (a0=b0∧a1=b1∧a2=b2∧a3=b3∧a4=b4)) w
class Eq4 (P:Program) (T:TypeId):Prop where
 guard:∀op x y xs ys w,(eqGuard op T x y (.agg xs) (.agg ys)).run P w= .ok () w
 run:∀(a0 a1 a2 a3 b0 b1 b2 b3:Int) w,(Op.equal T (.agg #[.int .i64 a0,.int .i64 a1,.int .i64 a2,.int .i64 a3])
  (.agg #[.int .i64 b0,.int .i64 b1,.int .i64 b2,.int .i64 b3])).run P w= .ok (decide (a0=b0∧a1=b1∧a2=b2∧a3=b3)) w
theorem Eq5.of {P:Program} {T e:TypeId} {k:IntKind} {i:TypeInfo} (hu:P.underlying T=some (.array 5 e)) (he:P.underlying e=some (.int k)) (hi:P.info? e=some i) (ab:∀w,(isAgg e).run P w= .ok false w) (aa:P.cellsOf e=1) (hg:P.eqGuardType P.depth T=false):Eq5 P T where
 guard:=fun op x y xs ys w=>run_eqGuard_agg w op T x y xs ys hg
 run:=by intro a0 a1 a2 a3 a4 b0 b1 b2 b3 b4 w;have h:=run_equalIn_array (P:=P) w 9999 (t:=T) #[.int .i64 a0,.int .i64 a1,.int .i64 a2,.int .i64 a3,.int .i64 a4] #[.int .i64 b0,.int .i64 b1,.int .i64 b2,.int .i64 b3,.int .i64 b4] hu hi;unfold Op.equal Op.maxDepth;rw[h,aa];have hi:∀(a b:Int) w,(Op.equalIn 9999 e (.int .i64 a) (.int .i64 b)).run P w= .ok (a==b) w:=fun a b w=>run_equalIn_int w 9998 e .i64 k a b he;rw[show List.range 5=[0,1,2,3,4] from rfl];simp[Op.eqItems,part,ab,hi];by_cases h0:a0=b0<;>by_cases h1:a1=b1<;>by_cases h2:a2=b2<;>by_cases h3:a3=b3<;>by_cases h4:a4=b4<;>simp[h0,h1,h2,h3,h4]
theorem Eq4.of {P:Program} {T e:TypeId} {k:IntKind} {x0 x1 x2 x3:Field} (hu:P.underlying T=some (.struct #[x0,x1,x2,x3])) (hx:[x0,x1,x2,x3].all (fun f=>f.name != "_" &&f.type==e)=true) (ho:x0.offset=0∧x1.offset=1∧x2.offset=2∧x3.offset=3) (he:P.underlying e=some (.int k)) (ab:∀w,(isAgg e).run P w= .ok false w) (hg:P.eqGuardType P.depth T=false) (hp:P.stoodInHeld T=false):Eq4 P T where
 guard:=fun op x y xs ys w=>run_eqGuard_agg w op T x y xs ys hg
 run:=by
  intro a0 a1 a2 a3 b0 b1 b2 b3 w;have aa:P.fieldsOf T= #[x0,x1,x2,x3]:=by simp[Program.fieldsOf,hu]
  have h:=run_equalIn_struct (P:=P) w 9999 T #[.int .i64 a0,.int .i64 a1,.int .i64 a2,.int .i64 a3] #[.int .i64 b0,.int .i64 b1,.int .i64 b2,.int .i64 b3] (by rw[aa];exact hu) hp;unfold Op.equal Op.maxDepth;rw[h,aa];have hi:∀(a b:Int) w,(Op.equalIn 9999 e (.int .i64 a) (.int .i64 b)).run P w= .ok (a==b) w:=fun a b w=>run_equalIn_int w 9998 e .i64 k a b he;simp only[List.all_cons,List.all_nil,Bool.and_true,Bool.and_eq_true,bne_iff_ne,beq_iff_eq] at hx;obtain⟨⟨n0,t0⟩,⟨n1,t1⟩,⟨n2,t2⟩,⟨n3,t3⟩⟩:=hx;obtain⟨o0,o1,o2,o3⟩:=ho;simp[Op.eqFields,n0,n1,n2,n3,t0,t1,t2,t3,o0,o1,o2,o3,part,ab,hi];by_cases h0:a0=b0<;>by_cases h1:a1=b1<;>by_cases h2:a2=b2<;>by_cases h3:a3=b3<;>simp[h0,h1,h2,h3]
theorem ad1 (j:Nat):0+j*1=j:=by omega
section wraps
theorem Ah {n:Int} (h: -9223372036854775808≤n∧n≤9223372036854775807):IntKind.wrap .i64 n=n:=by
 have h1:(9223372036854775808:Int)=2^(64-1):=by decide
 simp only[IntKind.wrap,IntKind.bits,IntKind.signed,Bool.true_and,decide_eq_true_eq,←h1];split<;>omega
theorem Hl {n:Int} (h:0≤n∧n≤18446744073709551615):IntKind.wrap .u64 n=n:=by simp only[IntKind.wrap,IntKind.bits,IntKind.signed,Bool.false_and];simp;omega
end wraps
section ops
variable {P:Program} {ops:Array Oper} {Q:Exit→Act→World→Prop} {cls:Nat→Oper→Cls} {w0:World} {S:List Nat} {n:Nat}
variable {k:Nat} {l:List (Nat×Oper)} {L:Bb} {D:List Deferred} {H:Hp} {qs:List Rd}
variable {d:Nat} {ty:TypeId} {pos:String} {af:Array Edge} {g:Option (Nat×Bool)}
theorem R.move {x:Operand} {v:Value} (hx:ev L x=some v:=by exact rfl) (hc:cls k ⟨some d,.move x,ty,pos,af,g⟩= .pure:=by exact rfl) (hn:d<n:=by exact nle rfl) (h:R P ops Q cls w0 S n l ((d,v)::L) D H qs):R1 P ops Q cls w0 S n k ⟨some d,.move x,ty,pos,af,g⟩ l L D H qs:=
 R1.pureStep hc rfl hn (fun a hf w=>by simp[execOp,hf.eval hx]) h
theorem R.assign {x:Operand} {v:Value} (hx:ev L x=some v:=by exact rfl) (hc:cls k ⟨some d,.assign x,ty,pos,af,g⟩= .pure:=by exact rfl) (hn:d<n:=by exact nle rfl) (h:R P ops Q cls w0 S n l ((d,v)::L) D H qs):R1 P ops Q cls w0 S n k ⟨some d,.assign x,ty,pos,af,g⟩ l L D H qs:=
 R1.pureStep hc rfl hn (fun a hf w=>by simp[execOp,hf.eval hx]) h
theorem R.pickT {c x y:Operand} {v:Value} (hb:ev L c=some (.bool true):=by exact rfl) (hx:ev L x=some v:=by exact rfl) (hc:cls k ⟨some d,.pick c x y,ty,pos,af,g⟩= .pure:=by exact rfl) (hn:d<n:=by exact nle rfl) (h:R P ops Q cls w0 S n l ((d,v)::L) D H qs):R1 P ops Q cls w0 S n k ⟨some d,.pick c x y,ty,pos,af,g⟩ l L D H qs:=
 R1.pureStep hc rfl hn (fun a hf w=>by simp[execOp,hf.eval hb,hf.eval hx,asBool]) h
theorem R.pickF {c x y:Operand} {v:Value} (hb:ev L c=some (.bool false):=by exact rfl) (hx:ev L y=some v:=by exact rfl) (hc:cls k ⟨some d,.pick c x y,ty,pos,af,g⟩= .pure:=by exact rfl) (hn:d<n:=by exact nle rfl) (h:R P ops Q cls w0 S n l ((d,v)::L) D H qs):R1 P ops Q cls w0 S n k ⟨some d,.pick c x y,ty,pos,af,g⟩ l L D H qs:=
 R1.pureStep hc rfl hn (fun a hf w=>by simp[execOp,hf.eval hb,hf.eval hx,asBool]) h
theorem R.nilCheck {x:Operand} {a:Addr} (hx:ev L x=some (.pointer (some a)):=by exact rfl) (hc:cls k ⟨some d,.nilCheck x,ty,pos,af,g⟩= .pure:=by exact rfl) (hn:d<n:=by exact nle rfl) (h:R P ops Q cls w0 S n l ((d,.pointer (some a))::L) D H qs):R1 P ops Q cls w0 S n k ⟨some d,.nilCheck x,ty,pos,af,g⟩ l L D H qs:=
 R1.pureStep hc rfl hn (fun a hf w=>by simp[execOp,hf.eval hx]) h
theorem Addr.add_mk (b o m:Nat):(⟨b,o,none⟩:Addr).add m=⟨b,o+m,none⟩:=by
 unfold Go.Addr.add;split
 ·rename_i h;subst h;rfl
 ·rfl
theorem R.fieldAddr {T i off:Nat} [ho:FieldOff P T i off] {x:Operand} {b p:Nat} (hx:ev L x=some (.pointer (some ⟨b,p,none⟩)):=by exact rfl) {q:Nat} (hq:p+off=q:=by((first|exact ad1 _|exact ad4 _ _|exact Nat.zero_add _|exact Nat.add_zero _|exact ad2 _ _|exact ad3 _ _|(simp only[Nat.reduceAdd];done)|exact rfl))) (hc:cls k ⟨some d,.fieldAddr T x i,ty,pos,af,g⟩= .pure:=by exact rfl) (hn:d<n:=by exact nle rfl) (h:R P ops Q cls w0 S n l ((d,.pointer (some ⟨b,q,none⟩))::L) D H qs):R1 P ops Q cls w0 S n k ⟨some d,.fieldAddr T x i,ty,pos,af,g⟩ l L D H qs:=
 R1.pureStep hc rfl hn (fun a hf w=>by subst hq;simp[execOp,hf.eval hx,ho.run,Addr.add_mk]) h
theorem R.indexAddr {T E sz:Nat} [ho:SliceT P T E sz] {x y:Operand} {b p len cap j:Nat} {kk:IntKind} {i:Int} (hx:ev L x=some (.slice (some ⟨b,p,none⟩) len cap):=by exact rfl) (hy:ev L y=some (.int kk i):=by exact rfl) (h0:0≤i∧i<len:=by exact zO) (hj:i.toNat=j:=by exact zT) {q:Nat} (hq:p+j*sz=q:=by((first|exact ad1 _|exact ad4 _ _|exact Nat.zero_add _|exact Nat.add_zero _|exact ad2 _ _|exact ad3 _ _|(simp only[Nat.reduceAdd];done)|exact rfl))) (hc:cls k ⟨some d,.indexAddr T x y,ty,pos,af,g⟩= .pure:=by exact rfl) (hn:d<n:=by exact nle rfl) (h:R P ops Q cls w0 S n l ((d,.pointer (some ⟨b,q,none⟩))::L) D H qs):R1 P ops Q cls w0 S n k ⟨some d,.indexAddr T x y,ty,pos,af,g⟩ l L D H qs:=
 R1.pureStep hc rfl hn (fun a hf w=>by
  subst hj;subst hq;simp[execOp,hf.eval hx,hf.eval hy,Instr.indexAt,asIntOf,underlying,ho.und,ho.size,h0,Addr.add_mk]) h
theorem R.indexAddrA {T m E sz:Nat} [ho:ArrT P T m E sz] {x y:Operand} {b p j:Nat} {kk:IntKind} {i:Int} (hx:ev L x=some (.pointer (some ⟨b,p,none⟩)):=by exact rfl) (hy:ev L y=some (.int kk i):=by exact rfl) (h0:0≤i∧i<m:=by exact zO) (hj:i.toNat=j:=by exact zT) {q:Nat} (hq:p+j*sz=q:=by((first|exact ad1 _|exact ad4 _ _|exact Nat.zero_add _|exact Nat.add_zero _|exact ad2 _ _|exact ad3 _ _|(simp only[Nat.reduceAdd];done)|exact rfl))) (hc:cls k ⟨some d,.indexAddr T x y,ty,pos,af,g⟩= .pure:=by exact rfl) (hn:d<n:=by exact nle rfl) (h:R P ops Q cls w0 S n l ((d,.pointer (some ⟨b,q,none⟩))::L) D H qs):R1 P ops Q cls w0 S n k ⟨some d,.indexAddr T x y,ty,pos,af,g⟩ l L D H qs:=
 R1.pureStep hc rfl hn (fun a hf w=>by
  subst hj;subst hq;simp[execOp,hf.eval hx,hf.eval hy,Instr.indexAt,asIntOf,underlying,ho.und,ho.size,h0,Addr.add_mk,Instr.sureAddr]) h
theorem R.index1 {T m E:Nat} [ho:ArrT P T m E 1] [hE:Cell1 P E] {x y:Operand} {cs:List Value} {j:Nat} {kk:IntKind} {i:Int} {v:Value} (hx:ev L x=some (.agg cs.toArray):=by exact rfl) (hy:ev L y=some (.int kk i):=by exact rfl) (h0:0≤i∧i<m:=by exact zO) (hj:i.toNat=j:=by exact zT) (hv:cs[j]? =some v:=by((first|exact rfl|assumption))) (hc:cls k ⟨some d,.index T x y,ty,pos,af,g⟩= .pure:=by exact rfl) (hn:d<n:=by exact nle rfl) (h:R P ops Q cls w0 S n l ((d,v)::L) D H qs):R1 P ops Q cls w0 S n k ⟨some d,.index T x y,ty,pos,af,g⟩ l L D H qs:=
 R1.pureStep hc rfl hn (fun a hf w=>by
  subst hj;simp[execOp,hf.eval hx,hf.eval hy,Instr.index,asIntOf,underlying,ho.und,ho.size,h0,part,hE.agg,hv]) h
theorem R.extract {x:Operand} {i:Nat} {vs:List Value} {v:Value} (hx:ev L x=some (.tuple vs.toArray):=by exact rfl) (hv:vs[i]? =some v:=by exact rfl) (hc:cls k ⟨some d,.extract x i,ty,pos,af,g⟩= .pure:=by exact rfl) (hn:d<n:=by exact nle rfl) (h:R P ops Q cls w0 S n l ((d,v)::L) D H qs):R1 P ops Q cls w0 S n k ⟨some d,.extract x i,ty,pos,af,g⟩ l L D H qs:=
 R1.pureStep hc rfl hn (fun a hf w=>by simp[execOp,hf.eval hx,Instr.extract,hv]) h
section ints
variable {T yT:TypeId} {x y:Operand} {kk:IntKind} {a b:Int}
theorem R.addw (hx:ev L x=some (.int kk a):=by exact rfl) (hy:ev L y=some (.int kk b):=by exact rfl) {v:Int} (hv:kk.wrap (a+b)=v:=by((first|assumption|exact Ah oM|exact Hl oM|exact wrap_u32 oM|exact wrap_u8 oM|exact rfl))) (hc:cls k ⟨some d,.binOp .add T x y yT,ty,pos,af,g⟩= .pure:=by exact rfl) (hn:d<n:=by exact nle rfl) (h:R P ops Q cls w0 S n l ((d,.int kk v)::L) D H qs):R1 P ops Q cls w0 S n k ⟨some d,.binOp .add T x y yT,ty,pos,af,g⟩ l L D H qs:=
 R1.pureStep hc rfl hn (fun a hf w=>by simp[execOp,hf.eval hx,hf.eval hy,eqGuard,binOp,Op.intArith,hv]) h
theorem R.subw (hx:ev L x=some (.int kk a):=by exact rfl) (hy:ev L y=some (.int kk b):=by exact rfl) {v:Int} (hv:kk.wrap (a-b)=v:=by((first|assumption|exact Ah oM|exact Hl oM|exact wrap_u32 oM|exact wrap_u8 oM|exact rfl))) (hc:cls k ⟨some d,.binOp .sub T x y yT,ty,pos,af,g⟩= .pure:=by exact rfl) (hn:d<n:=by exact nle rfl) (h:R P ops Q cls w0 S n l ((d,.int kk v)::L) D H qs):R1 P ops Q cls w0 S n k ⟨some d,.binOp .sub T x y yT,ty,pos,af,g⟩ l L D H qs:=
 R1.pureStep hc rfl hn (fun a hf w=>by simp[execOp,hf.eval hx,hf.eval hy,eqGuard,binOp,Op.intArith,hv]) h
theorem R.mulw (hx:ev L x=some (.int kk a):=by exact rfl) (hy:ev L y=some (.int kk b):=by exact rfl) {v:Int} (hv:kk.wrap (a*b)=v:=by((first|assumption|exact Ah oM|exact Hl oM|exact wrap_u32 oM|exact wrap_u8 oM|exact rfl))) (hc:cls k ⟨some d,.binOp .mul T x y yT,ty,pos,af,g⟩= .pure:=by exact rfl) (hn:d<n:=by exact nle rfl) (h:R P ops Q cls w0 S n l ((d,.int kk v)::L) D H qs):R1 P ops Q cls w0 S n k ⟨some d,.binOp .mul T x y yT,ty,pos,af,g⟩ l L D H qs:=
 R1.pureStep hc rfl hn (fun a hf w=>by simp[execOp,hf.eval hx,hf.eval hy,eqGuard,binOp,Op.intArith,hv]) h
theorem R.quow (hx:ev L x=some (.int kk a):=by exact rfl) (hy:ev L y=some (.int kk b):=by exact rfl) (hb:b≠0:=by omega) {v:Int} (hv:kk.wrap (a.tdiv b)=v:=by((first|assumption|exact Ah oM|exact Hl oM|exact wrap_u32 oM|exact wrap_u8 oM|exact rfl))) (hc:cls k ⟨some d,.binOp .quo T x y yT,ty,pos,af,g⟩= .pure:=by exact rfl) (hn:d<n:=by exact nle rfl) (h:R P ops Q cls w0 S n l ((d,.int kk v)::L) D H qs):R1 P ops Q cls w0 S n k ⟨some d,.binOp .quo T x y yT,ty,pos,af,g⟩ l L D H qs:=
 R1.pureStep hc rfl hn (fun a hf w=>by simp[execOp,hf.eval hx,hf.eval hy,eqGuard,binOp,Op.intDiv,hv,hb]) h
theorem R.remw (hx:ev L x=some (.int kk a):=by exact rfl) (hy:ev L y=some (.int kk b):=by exact rfl) (hb:b≠0:=by omega) {v:Int} (hv:a.tmod b=v:=by exact rfl) (hc:cls k ⟨some d,.binOp .rem T x y yT,ty,pos,af,g⟩= .pure:=by exact rfl) (hn:d<n:=by exact nle rfl) (h:R P ops Q cls w0 S n l ((d,.int kk v)::L) D H qs):R1 P ops Q cls w0 S n k ⟨some d,.binOp .rem T x y yT,ty,pos,af,g⟩ l L D H qs:=
 R1.pureStep hc rfl hn (fun a hf w=>by simp[execOp,hf.eval hx,hf.eval hy,eqGuard,binOp,Op.intDiv,hv,hb]) h
def Gd (op:BinOp) (kk:IntKind) (a b:Int):Int:=
 match op with
 | .and=>kk.wrap (BitVec.ofInt kk.bits a&&&BitVec.ofInt kk.bits b).toNat
 | .or=>kk.wrap (BitVec.ofInt kk.bits a|||BitVec.ofInt kk.bits b).toNat
 | .xor=>kk.wrap (BitVec.ofInt kk.bits a^^^BitVec.ofInt kk.bits b).toNat
 | .andNot=>kk.wrap (BitVec.ofInt kk.bits a&&& ~~~BitVec.ofInt kk.bits b).toNat
 |_=>0
theorem R.and (hx:ev L x=some (.int kk a):=by exact rfl) (hy:ev L y=some (.int kk b):=by exact rfl) (hc:cls k ⟨some d,.binOp .and T x y yT,ty,pos,af,g⟩= .pure:=by exact rfl) (hn:d<n:=by exact nle rfl) (h:R P ops Q cls w0 S n l ((d,.int kk (Gd .and kk a b))::L) D H qs):R1 P ops Q cls w0 S n k ⟨some d,.binOp .and T x y yT,ty,pos,af,g⟩ l L D H qs:=
 R1.pureStep hc rfl hn (fun a hf w=>by simp[execOp,hf.eval hx,hf.eval hy,eqGuard,binOp,Op.intBits,Gd]) h
theorem R.or (hx:ev L x=some (.int kk a):=by exact rfl) (hy:ev L y=some (.int kk b):=by exact rfl) (hc:cls k ⟨some d,.binOp .or T x y yT,ty,pos,af,g⟩= .pure:=by exact rfl) (hn:d<n:=by exact nle rfl) (h:R P ops Q cls w0 S n l ((d,.int kk (Gd .or kk a b))::L) D H qs):R1 P ops Q cls w0 S n k ⟨some d,.binOp .or T x y yT,ty,pos,af,g⟩ l L D H qs:=
 R1.pureStep hc rfl hn (fun a hf w=>by simp[execOp,hf.eval hx,hf.eval hy,eqGuard,binOp,Op.intBits,Gd]) h
theorem R.xor (hx:ev L x=some (.int kk a):=by exact rfl) (hy:ev L y=some (.int kk b):=by exact rfl) (hc:cls k ⟨some d,.binOp .xor T x y yT,ty,pos,af,g⟩= .pure:=by exact rfl) (hn:d<n:=by exact nle rfl) (h:R P ops Q cls w0 S n l ((d,.int kk (Gd .xor kk a b))::L) D H qs):R1 P ops Q cls w0 S n k ⟨some d,.binOp .xor T x y yT,ty,pos,af,g⟩ l L D H qs:=
 R1.pureStep hc rfl hn (fun a hf w=>by simp[execOp,hf.eval hx,hf.eval hy,eqGuard,binOp,Op.intBits,Gd]) h
theorem R.shl {yk:IntKind} (hx:ev L x=some (.int kk a):=by exact rfl) (hy:ev L y=some (.int yk b):=by exact rfl) (hb:0≤b:=by omega) {v:Int} (hv:kk.wrap (a*2^(min b.toNat kk.bits))=v:=by((first|assumption|exact Ah oM|exact Hl oM|exact wrap_u32 oM|exact wrap_u8 oM|exact rfl))) (hc:cls k ⟨some d,.binOp .shl T x y yT,ty,pos,af,g⟩= .pure:=by exact rfl) (hn:d<n:=by exact nle rfl) (h:R P ops Q cls w0 S n l ((d,.int kk v)::L) D H qs):R1 P ops Q cls w0 S n k ⟨some d,.binOp .shl T x y yT,ty,pos,af,g⟩ l L D H qs:=
 R1.pureStep hc rfl hn (fun a hf w=>by
  have:¬b<0:=by omega
  simp[execOp,hf.eval hx,hf.eval hy,eqGuard,binOp,Op.shift,hv,this]) h
theorem R.shr {yk:IntKind} (hx:ev L x=some (.int kk a):=by exact rfl) (hy:ev L y=some (.int yk b):=by exact rfl) (hb:0≤b:=by omega) {v:Int} (hv:a.fdiv (2^(min b.toNat kk.bits))=v:=by((first|assumption|exact rfl))) (hc:cls k ⟨some d,.binOp .shr T x y yT,ty,pos,af,g⟩= .pure:=by exact rfl) (hn:d<n:=by exact nle rfl) (h:R P ops Q cls w0 S n l ((d,.int kk v)::L) D H qs):R1 P ops Q cls w0 S n k ⟨some d,.binOp .shr T x y yT,ty,pos,af,g⟩ l L D H qs:=
 R1.pureStep hc rfl hn (fun a hf w=>by
  have:¬b<0:=by omega
  simp[execOp,hf.eval hx,hf.eval hy,eqGuard,binOp,Op.shift,hv,this]) h
theorem R.lss (hx:ev L x=some (.int kk a):=by exact rfl) (hy:ev L y=some (.int kk b):=by exact rfl) (hc:cls k ⟨some d,.binOp .lss T x y yT,ty,pos,af,g⟩= .pure:=by exact rfl) (hn:d<n:=by exact nle rfl) (h:R P ops Q cls w0 S n l ((d,.bool (dec (a<b)))::L) D H qs):R1 P ops Q cls w0 S n k ⟨some d,.binOp .lss T x y yT,ty,pos,af,g⟩ l L D H qs:=
 R1.pureStep hc rfl hn (fun a hf w=>by simp[execOp,hf.eval hx,hf.eval hy,eqGuard,binOp,Op.intCmp,Gc]) h
theorem R.leq (hx:ev L x=some (.int kk a):=by exact rfl) (hy:ev L y=some (.int kk b):=by exact rfl) (hc:cls k ⟨some d,.binOp .leq T x y yT,ty,pos,af,g⟩= .pure:=by exact rfl) (hn:d<n:=by exact nle rfl) (h:R P ops Q cls w0 S n l ((d,.bool (dec (a≤b)))::L) D H qs):R1 P ops Q cls w0 S n k ⟨some d,.binOp .leq T x y yT,ty,pos,af,g⟩ l L D H qs:=
 R1.pureStep hc rfl hn (fun a hf w=>by simp[execOp,hf.eval hx,hf.eval hy,eqGuard,binOp,Op.intCmp,Gc]) h
theorem R.gtr (hx:ev L x=some (.int kk a):=by exact rfl) (hy:ev L y=some (.int kk b):=by exact rfl) (hc:cls k ⟨some d,.binOp .gtr T x y yT,ty,pos,af,g⟩= .pure:=by exact rfl) (hn:d<n:=by exact nle rfl) (h:R P ops Q cls w0 S n l ((d,.bool (dec (b<a)))::L) D H qs):R1 P ops Q cls w0 S n k ⟨some d,.binOp .gtr T x y yT,ty,pos,af,g⟩ l L D H qs:=
 R1.pureStep hc rfl hn (fun a hf w=>by simp[execOp,hf.eval hx,hf.eval hy,eqGuard,binOp,Op.intCmp,Gc]) h
theorem R.geq (hx:ev L x=some (.int kk a):=by exact rfl) (hy:ev L y=some (.int kk b):=by exact rfl) (hc:cls k ⟨some d,.binOp .geq T x y yT,ty,pos,af,g⟩= .pure:=by exact rfl) (hn:d<n:=by exact nle rfl) (h:R P ops Q cls w0 S n l ((d,.bool (dec (b≤a)))::L) D H qs):R1 P ops Q cls w0 S n k ⟨some d,.binOp .geq T x y yT,ty,pos,af,g⟩ l L D H qs:=
 R1.pureStep hc rfl hn (fun a hf w=>by simp[execOp,hf.eval hx,hf.eval hy,eqGuard,binOp,Op.intCmp,Gc]) h
theorem R.eql (hx:ev L x=some (.int kk a):=by exact rfl) (hy:ev L y=some (.int kk b):=by exact rfl) (hc:cls k ⟨some d,.binOp .eql T x y yT,ty,pos,af,g⟩= .pure:=by exact rfl) (hn:d<n:=by exact nle rfl) (h:R P ops Q cls w0 S n l ((d,.bool (dec (a=b)))::L) D H qs):R1 P ops Q cls w0 S n k ⟨some d,.binOp .eql T x y yT,ty,pos,af,g⟩ l L D H qs:=
 R1.pureStep hc rfl hn (fun a hf w=>by simp[execOp,hf.eval hx,hf.eval hy,eqGuard,binOp,Op.intCmp,Gc];rfl) h
theorem R.neq (hx:ev L x=some (.int kk a):=by exact rfl) (hy:ev L y=some (.int kk b):=by exact rfl) (hc:cls k ⟨some d,.binOp .neq T x y yT,ty,pos,af,g⟩= .pure:=by exact rfl) (hn:d<n:=by exact nle rfl) (h:R P ops Q cls w0 S n l ((d,.bool (dec (a≠b)))::L) D H qs):R1 P ops Q cls w0 S n k ⟨some d,.binOp .neq T x y yT,ty,pos,af,g⟩ l L D H qs:=
 R1.pureStep hc rfl hn (fun a hf w=>by simp[execOp,hf.eval hx,hf.eval hy,eqGuard,binOp,Op.intCmp,Gc,bne];rfl) h
theorem R.negw (hx:ev L x=some (.int kk a):=by exact rfl) {v:Int} (hv:kk.wrap (-a)=v:=by((first|assumption|exact Ah oM|exact Hl oM|exact wrap_u32 oM|exact wrap_u8 oM|exact rfl))) (hc:cls k ⟨some d,.unOp .neg T x,ty,pos,af,g⟩= .pure:=by exact rfl) (hn:d<n:=by exact nle rfl) (h:R P ops Q cls w0 S n l ((d,.int kk v)::L) D H qs):R1 P ops Q cls w0 S n k ⟨some d,.unOp .neg T x,ty,pos,af,g⟩ l L D H qs:=
 R1.pureStep hc rfl hn (fun a hf w=>by simp[execOp,hf.eval hx,Op.unary,Op.intArith,hv]) h
def Ll (kk:IntKind) (a:Int):Int:=Gd .xor kk (if kk.signed then-1 else kk.max) a
theorem R.xor1 (hx:ev L x=some (.int kk a):=by exact rfl) (hc:cls k ⟨some d,.unOp .xor T x,ty,pos,af,g⟩= .pure:=by exact rfl) (hn:d<n:=by exact nle rfl) (h:R P ops Q cls w0 S n l ((d,.int kk (Ll kk a))::L) D H qs):R1 P ops Q cls w0 S n k ⟨some d,.unOp .xor T x,ty,pos,af,g⟩ l L D H qs:=
 R1.pureStep hc rfl hn (fun a hf w=>by simp[execOp,hf.eval hx,Op.unary,Op.intBits,Ll,Gd]) h
theorem R.not {c:Bool} (hx:ev L x=some (.bool c):=by exact rfl) (hc:cls k ⟨some d,.unOp .not T x,ty,pos,af,g⟩= .pure:=by exact rfl) (hn:d<n:=by exact nle rfl) (h:R P ops Q cls w0 S n l ((d,.bool (!c))::L) D H qs):R1 P ops Q cls w0 S n k ⟨some d,.unOp .not T x,ty,pos,af,g⟩ l L D H qs:=
 R1.pureStep hc rfl hn (fun a hf w=>by simp[execOp,hf.eval hx,Op.unary]) h
theorem R.notP {p:Prop} {_:Decidable p} (hx:ev L x=some (.bool (dec p)):=by exact rfl) (hc:cls k ⟨some d,.unOp .not T x,ty,pos,af,g⟩= .pure:=by exact rfl) (hn:d<n:=by exact nle rfl) (h:R P ops Q cls w0 S n l ((d,.bool (dec (¬p)))::L) D H qs):R1 P ops Q cls w0 S n k ⟨some d,.unOp .not T x,ty,pos,af,g⟩ l L D H qs:=
 R1.pureStep hc rfl hn (fun a hf w=>by simp[execOp,hf.eval hx,Op.unary,Gc]) h
theorem R.convert {T2:TypeId} {k2 k1:IntKind} [h1:IntT P T k1] [h2:IntT P T2 k2] (hx:ev L x=some (.int kk a):=by exact rfl) {v:Int} (hv:k2.wrap a=v:=by((first|assumption|exact Ah oM|exact Hl oM|exact wrap_u32 oM|exact wrap_u8 oM|exact rfl))) (hc:cls k ⟨some d,.convert T T2 x,ty,pos,af,g⟩= .pure:=by exact rfl) (hn:d<n:=by exact nle rfl) (h:R P ops Q cls w0 S n l ((d,.int k2 v)::L) D H qs):R1 P ops Q cls w0 S n k ⟨some d,.convert T T2 x,ty,pos,af,g⟩ l L D H qs:=
 R1.pureStep hc rfl hn (fun a hf w=>by simp[execOp,hf.eval hx,Go.convert,underlying,h1.und,h2.und,Conv.intToInt,hv]) h
theorem R.max {aT:Array TypeId} {kb:IntKind} (hx:ev L x=some (.int kk a):=by exact rfl) (hy:ev L y=some (.int kb b):=by exact rfl) (hc:cls k ⟨some d,.call ⟨.builtin .max,#[x,y],aT⟩,ty,pos,af,g⟩= .pure:=by exact rfl) (hn:d<n:=by exact nle rfl) (h:R P ops Q cls w0 S n l ((d,.int kk (max a b))::L) D H qs):R1 P ops Q cls w0 S n k ⟨some d,.call ⟨.builtin .max,#[x,y],aT⟩,ty,pos,af,g⟩ l L D H qs:=
 R1.pureStep hc rfl hn (fun a hf w=>by simp[execOp,resolve,invoke,Go.builtin,hf.eval hx,hf.eval hy,Builtin.max_,Builtin.max2];omega) h
theorem R.min {aT:Array TypeId} {kb:IntKind} (hx:ev L x=some (.int kk a):=by exact rfl) (hy:ev L y=some (.int kb b):=by exact rfl) (hc:cls k ⟨some d,.call ⟨.builtin .min,#[x,y],aT⟩,ty,pos,af,g⟩= .pure:=by exact rfl) (hn:d<n:=by exact nle rfl) (h:R P ops Q cls w0 S n l ((d,.int kk (min a b))::L) D H qs):R1 P ops Q cls w0 S n k ⟨some d,.call ⟨.builtin .min,#[x,y],aT⟩,ty,pos,af,g⟩ l L D H qs:=
 R1.pureStep hc rfl hn (fun a hf w=>by simp[execOp,resolve,invoke,Go.builtin,hf.eval hx,hf.eval hy,Builtin.min_,Builtin.min2];omega) h
theorem R.len {aT E sz:Nat} [ho:SliceT P aT E sz] {p:Option Addr} {m c:Nat} (hx:ev L x=some (.slice p m c):=by exact rfl) (hc:cls k ⟨some d,.call ⟨.builtin .len,#[x],#[aT]⟩,ty,pos,af,g⟩= .pure:=by exact rfl) (hn:d<n:=by exact nle rfl) (h:R P ops Q cls w0 S n l ((d,.int .i64 (m:Int))::L) D H qs):R1 P ops Q cls w0 S n k ⟨some d,.call ⟨.builtin .len,#[x],#[aT]⟩,ty,pos,af,g⟩ l L D H qs:=
 R1.pureStep hc rfl hn (fun a hf w=>by simp[execOp,resolve,invoke,Go.builtin,hf.eval hx,Builtin.len_,underlying,ho.und,goInt]) h
theorem R.cap {aT E sz:Nat} [ho:SliceT P aT E sz] {p:Option Addr} {m c:Nat} (hx:ev L x=some (.slice p m c):=by exact rfl) (hc:cls k ⟨some d,.call ⟨.builtin .cap,#[x],#[aT]⟩,ty,pos,af,g⟩= .pure:=by exact rfl) (hn:d<n:=by exact nle rfl) (h:R P ops Q cls w0 S n l ((d,.int .i64 (c:Int))::L) D H qs):R1 P ops Q cls w0 S n k ⟨some d,.call ⟨.builtin .cap,#[x],#[aT]⟩,ty,pos,af,g⟩ l L D H qs:=
 R1.pureStep hc rfl hn (fun a hf w=>by simp[execOp,resolve,invoke,Go.builtin,hf.eval hx,Builtin.cap_,underlying,ho.und,goInt]) h
theorem R.eqlNil [ho:PtrT P T] {p:Option Addr} (hx:ev L x=some (.pointer p):=by exact rfl) (hy:ev L y=some (.pointer none):=by exact rfl) (hc:cls k ⟨some d,.binOp .eql T x y yT,ty,pos,af,g⟩= .pure:=by exact rfl) (hn:d<n:=by exact nle rfl) (h:R P ops Q cls w0 S n l ((d,.bool p.isNone)::L) D H qs):R1 P ops Q cls w0 S n k ⟨some d,.binOp .eql T x y yT,ty,pos,af,g⟩ l L D H qs:=
 R1.pureStep hc rfl hn (fun a hf w=>by simp[execOp,hf.eval hx,hf.eval hy,eqGuard,run_eql_pointer_nil _ T p ho.und]) h
theorem R.neqNil [ho:PtrT P T] {p:Option Addr} (hx:ev L x=some (.pointer p):=by exact rfl) (hy:ev L y=some (.pointer none):=by exact rfl) (hc:cls k ⟨some d,.binOp .neq T x y yT,ty,pos,af,g⟩= .pure:=by exact rfl) (hn:d<n:=by exact nle rfl) (h:R P ops Q cls w0 S n l ((d,.bool (!p.isNone))::L) D H qs):R1 P ops Q cls w0 S n k ⟨some d,.binOp .neq T x y yT,ty,pos,af,g⟩ l L D H qs:=
 R1.pureStep hc rfl hn (fun a hf w=>by simp[execOp,hf.eval hx,hf.eval hy,eqGuard,run_neq_pointer_nil _ T p ho.und]) h
theorem R.neq5 [ho:Eq5 P T] {a0 a1 a2 a3 a4 b0 b1 b2 b3 b4:Int} (hx:ev L x=some (.agg #[.int .i64 a0,.int .i64 a1,.int .i64 a2,.int .i64 a3,.int .i64 a4]):=by exact rfl) (hy:ev L y=some (.agg #[.int .i64 b0,.int .i64 b1,.int .i64 b2,.int .i64 b3,.int .i64 b4]):=by exact rfl) (hc:cls k ⟨some d,.binOp .neq T x y yT,ty,pos,af,g⟩= .pure:=by exact rfl) (hn:d<n:=by exact nle rfl) (h:R P ops Q cls w0 S n l ((d,.bool (dec (¬(a0=b0∧a1=b1∧a2=b2∧a3=b3∧a4=b4))))::L) D H qs):R1 P ops Q cls w0 S n k ⟨some d,.binOp .neq T x y yT,ty,pos,af,g⟩ l L D H qs:=
 R1.pureStep hc rfl hn (fun a hf w=>by simp[execOp,hf.eval hx,hf.eval hy,ho.guard,binOp,ho.run,Gc]) h
theorem R.eql4 [ho:Eq4 P T] {a0 a1 a2 a3 b0 b1 b2 b3:Int} (hx:ev L x=some (.agg #[.int .i64 a0,.int .i64 a1,.int .i64 a2,.int .i64 a3]):=by exact rfl) (hy:ev L y=some (.agg #[.int .i64 b0,.int .i64 b1,.int .i64 b2,.int .i64 b3]):=by exact rfl) (hc:cls k ⟨some d,.binOp .eql T x y yT,ty,pos,af,g⟩= .pure:=by exact rfl) (hn:d<n:=by exact nle rfl) (h:R P ops Q cls w0 S n l ((d,.bool (dec (a0=b0∧a1=b1∧a2=b2∧a3=b3)))::L) D H qs):R1 P ops Q cls w0 S n k ⟨some d,.binOp .eql T x y yT,ty,pos,af,g⟩ l L D H qs:=
 R1.pureStep hc rfl hn (fun a hf w=>by simp[execOp,hf.eval hx,hf.eval hy,ho.guard,binOp,ho.run,Gc]) h
end ints
theorem Ra {w:World} {b off:Nat} {cs:List Value} {E:TypeId} {fz:Nat×Nat} (hb:w.heap[b]? =some (An cs E fz)):w.cell? ⟨b,off,none⟩=cs[off]? :=by simp[World.cell?,hb,An]
def Gv (b off:Nat) (v:Value) (H:Hp):Prop:=∃cs E fz,Has b (An cs E fz) H∧cs[off]? =some v
theorem Gv.perm {b off:Nat} {v:Value} {H H':Hp} (h:Gv b off v H) (hp:H.flatten.Perm H'.flatten):Gv b off v H':=
 let ⟨cs,E,fz,h1,h2⟩:=h;⟨cs,E,fz,h1.perm hp,h2⟩
theorem Gv.there {b off:Nat} {v:Value} {c:Aa} {H:Hp} (h:Gv b off v H):Gv b off v (c::H):=
 let ⟨cs,E,fz,h1,h2⟩:=h;⟨cs,E,fz,h1.there,h2⟩
theorem R.load1 {T:TypeId} [ho:Cell1 P T] {x:Operand} {b off:Nat} {cs:List Value} {E:TypeId} {fz:Nat×Nat} {v:Value} (hx:ev L x=some (.pointer (some ⟨b,off,none⟩)):=by exact rfl) (hh:Has b (An cs E fz) H:=by exact zA) (hv:cs[off]? =some v:=by((first|exact rfl|assumption))) (hc:cls k ⟨some d,.load T x,ty,pos,af,g⟩= .quiet:=by exact rfl) (hn:d<n:=by exact nle rfl) (h:R P ops Q cls w0 S n l ((d,v)::L) D H (⟨k,Gv b off v⟩::qs)):R1 P ops Q cls w0 S n k ⟨some d,.load T x,ty,pos,af,g⟩ l L D H qs:=by
 refine R1.quietStep (Pr:=Gv b off v) hc rfl hn (fun a hf=>⟨fun _ _ h hp=>h.perm hp,fun _ _ h=>h.there,fun H w ⟨cs,E,fz,h1,h2⟩ hs=>?_⟩) ⟨cs,E,fz,hh,hv⟩ h;have aa:w.cell? ⟨b,off,none⟩=some v:=by rw[Ra (h1.st hs)];exact h2
 simp[Ch,execOp,hf.eval hx,Instr.loadAt,Instr.sureAddr,loadVar,ho.agg,aa,hs]
def Gw (b off:Nat) (vs:List Value) (H:Hp):Prop:=∃cs E fz,Has b (An cs E fz) H∧(cs.drop off).take vs.length=vs
theorem Gw.perm {b off:Nat} {v:List Value} {H H':Hp} (h:Gw b off v H) (hp:H.flatten.Perm H'.flatten):Gw b off v H':=
 let ⟨cs,E,fz,h1,h2⟩:=h;⟨cs,E,fz,h1.perm hp,h2⟩
theorem Gw.there {b off:Nat} {v:List Value} {c:Aa} {H:Hp} (h:Gw b off v H):Gw b off v (c::H):=
 let ⟨cs,E,fz,h1,h2⟩:=h;⟨cs,E,fz,h1.there,h2⟩
theorem R.loadN {T m:Nat} [ho:AggN P T m] {x:Operand} {b off:Nat} {cs vs:List Value} {E:TypeId} {fz:Nat×Nat} (hx:ev L x=some (.pointer (some ⟨b,off,none⟩)):=by exact rfl) (hh:Has b (An cs E fz) H:=by exact zA) (hv:(cs.drop off).take m=vs:=by((first|assumption|(dsimp only[List.drop,List.take];try exact rfl)|exact rfl))) (hl:vs.length=m:=by((first|exact rfl|assumption|(simp;done)))) (hc:cls k ⟨some d,.load T x,ty,pos,af,g⟩= .quiet:=by exact rfl) (hn:d<n:=by exact nle rfl) (h:R P ops Q cls w0 S n l ((d,.agg vs.toArray)::L) D H (⟨k,Gw b off vs⟩::qs)):R1 P ops Q cls w0 S n k ⟨some d,.load T x,ty,pos,af,g⟩ l L D H qs:=by
 refine R1.quietStep (Pr:=Gw b off vs) hc rfl hn (fun a hf=>⟨fun _ _ h hp=>h.perm hp,fun _ _ h=>h.there,fun H w ⟨cs,E,fz,h1,h2⟩ hs=>?_⟩) ⟨cs,E,fz,hh,by rw[hl];exact hv⟩ h;have aa:∀j v,vs[j]? =some v→w.cell? ((⟨b,off,none⟩:Addr).add j)=some v:=by
  intro j v hj;rw[Addr.add_mk,Ra (h1.st hs)];rw[←h2,List.getElem?_take,List.getElem?_drop] at hj;split at hj
  ·exact hj
  ·cases hj
 have:=run_loadCells_list (P:=P) w ⟨b,off,none⟩ vs aa;rw[hl] at this;simp[Ch,execOp,hf.eval hx,Instr.loadAt,Instr.sureAddr,loadVar,ho.agg,ho.size,this,hs]
theorem dG {b off:Nat} {cs:List Value} {E:TypeId} {v:Value} {H':Hp} {w:World} (hu:Upd b (row cs E) (row (cs.set off v) E) H H') (hw:St w0 S w H):St w0 S (w.setCell ⟨b,off,none⟩ v) H':=by
 refine hu.st hw oA19 ?_ ?_ rfl rfl rfl
 ·have:=hu.has.st hw;simp only[World.setCell,Array.getElem?_modify,if_true,this,Option.map_some,row];simp
 ·intro j hj;simp only[World.setCell,Array.getElem?_modify];rw[if_neg (fun e=>hj e.symm)]
theorem R.store1 {T:TypeId} [ho:Cell1 P T] {x y:Operand} {b off:Nat} {cs cs':List Value} {E:TypeId} {v:Value} {H':Hp} {cr:List Nat} (hx:ev L x=some (.pointer (some ⟨b,off,none⟩)):=by exact rfl) (hy:ev L y=some v:=by exact rfl) (h1:v.oneCell'=true:=by((first|exact rfl|assumption))) (hu:Upd b (row cs E) (row cs' E) H H':=by exact zU) (hs:cs.set off v=cs':=by((first|assumption|(dsimp only[List.set];try exact rfl)|exact rfl))) (ag:off<cs.length:=by((first|decide|omega|(simp;done)|(simp;omega)))) (hc:cls k ⟨none,.store T x y,ty,pos,af,g⟩= .eff cr:=by exact rfl) (hq:∀r∈qs,r.i∈cr→r.Pr H':=by((first|(intro _ _ h;cases h;done)|(repeat(first|exact qok_nil|(apply qok_cons;(·first|(intro hc;exact absurd hc (nmem rfl))|(intro _;apply Gv.mk;(·repeat(first|exact Has.here|apply Has.there));(first|exact rfl|assumption))|(intro _;apply Gw.mk;(·repeat(first|exact Has.here|apply Has.there));(first|exact rfl|assumption))))))))) (h:R P ops Q cls w0 S n l L D H' qs):R1 P ops Q cls w0 S n k ⟨none,.store T x y,ty,pos,af,g⟩ l L D H qs:=by
 refine R1.effStep hc trivial fun a w w0 S hf ab=>?_;have ac:w.cell? ⟨b,off,none⟩=some cs[off]:=by rw[Ra (fz:=(0,0)) (hu.has.st ab)];simp[ag]
 have ah:w.frozen? ⟨b,off,none⟩=false:=by simp[World.frozen?,hu.has.st ab,row]
 have ai:v.cells= #[v]:=by cases v<;>first|rfl|simp[Value.oneCell'] at h1
 have aa:=run_store P w ⟨b,off,none⟩ v .plain h1;simp only[ac,ah] at aa;subst hs;have ae:=dG hu ab;have ad:(store ((⟨b,off,none⟩:Addr).add 0) v).run P w= .ok () (w.setCell ⟨b,off,none⟩ v):=by rw[Addr.add_mk];simpa using aa
 have:(execOp a.eval ⟨none,.store T x y,ty,pos,af,g⟩).run P w= .ok .skip (w.setCell ⟨b,off,none⟩ v):=by simp[execOp,hf.eval hx,hf.eval hy,Instr.storeAt,Instr.sureAddr,storeVar,ho.size,ai,storeCells,ad]
 simp only[Ch,this];exact⟨H',ae,hq,h⟩
def Bq:List Value→Nat→List Value→List Value
 |cs,_,[]=>cs
 |cs,off,v::vs=>Bq (cs.set off v) (off+1) vs
theorem Rb:∀(vs cs:List Value) (off:Nat),(Bq cs off vs).length=cs.length
 |[],_,_=>rfl
 |v::vs,cs,off=>by rw[Bq,Rb vs];simp
theorem dH (P:Program) {b:Nat} {E:TypeId} {F:Hp}:∀(vs cs:List Value) (off i:Nat) (w:World),St w0 S w ([(b,row cs E)]::F)→off+i+vs.length≤cs.length→(∀v∈vs,v.oneCell'=true)→∃w',(storeCells ⟨b,off,none⟩ vs i).run P w= .ok () w'∧St w0 S w' ([(b,row (Bq cs (off+i) vs) E)]::F)
 |[],cs,off,i,w,hst,_,_=>⟨w,rfl,hst⟩
 |v::vs,cs,off,i,w,hst,hlen,h1=>by
  simp only[List.length_cons] at hlen;have hv:=h1 v List.mem_cons_self;have hh:Has b (row cs E) ([(b,row cs E)]::F):=Has.here;have ab:w.cell? ⟨b,off+i,none⟩=some (cs[off+i]' oM):=by rw[Ra (fz:=(0,0)) (hh.st hst)];simp[show off+i<cs.length by omega]
  have ad:w.frozen? ⟨b,off+i,none⟩=false:=by simp[World.frozen?,hh.st hst,row]
  have aa:=run_store P w ⟨b,off+i,none⟩ v .plain hv;simp only[ab,ad] at aa;have ac:St w0 S (w.setCell ⟨b,off+i,none⟩ v) ([(b,row (cs.set (off+i) v) E)]::F):=dG Upd.here hst;obtain⟨w',h2,h3⟩:=dH P vs (cs.set (off+i) v) off (i+1) _ ac oA16 (fun u hu=>h1 u (List.mem_cons_of_mem _ hu));refine⟨w',?_,h3⟩;rw[storeCells,Sem.run_bind,Addr.add_mk];simp only[aa,Bool.false_eq_true,if_false,Result.andThen_ok];exact h2
theorem R.storeN {T m:Nat} [ho:AggN P T m] {x y:Operand} {b off:Nat} {cs cs' vs:List Value} {E:TypeId} {H':Hp} {cr:List Nat} (hx:ev L x=some (.pointer (some ⟨b,off,none⟩)):=by exact rfl) (hy:ev L y=some (.agg vs.toArray):=by exact rfl) (h1:vs.all Value.oneCell'=true:=by((first|exact rfl|assumption))) (hl:vs.length=m:=by((first|exact rfl|assumption))) (hu:Upd b (row cs E) (row cs' E) H H':=by exact zU) (hs:Bq cs off vs=cs':=by((first|assumption|(dsimp only[Bq,List.set,Value.cells,List.toList_toArray];try exact rfl)|exact rfl))) (ac:off+m≤cs.length:=by((first|decide|omega|(simp;done)|(simp;omega)))) (hc:cls k ⟨none,.store T x y,ty,pos,af,g⟩= .eff cr:=by exact rfl) (hq:∀r∈qs,r.i∈cr→r.Pr H':=by((first|(intro _ _ h;cases h;done)|(repeat(first|exact qok_nil|(apply qok_cons;(·first|(intro hc;exact absurd hc (nmem rfl))|(intro _;apply Gv.mk;(·repeat(first|exact Has.here|apply Has.there));(first|exact rfl|assumption))|(intro _;apply Gw.mk;(·repeat(first|exact Has.here|apply Has.there));(first|exact rfl|assumption))))))))) (h:R P ops Q cls w0 S n l L D H' qs):R1 P ops Q cls w0 S n k ⟨none,.store T x y,ty,pos,af,g⟩ l L D H qs:=by
 refine R1.effStep hc trivial fun a w w0 S hf ab=>?_;subst hs;obtain⟨F,t1,t2⟩:=hu;have e1:St w0 S w ([(b,row cs E)]::F):=ab.perm (by simpa[Ae] using t1);obtain⟨w',h2,h3⟩:=dH P vs cs off 0 w e1 oM (by simpa using h1);have aa:St w0 S w' H':=h3.perm (by simpa[Ae] using t2.symm);have:(execOp a.eval ⟨none,.store T x y,ty,pos,af,g⟩).run P w= .ok .skip w':=by simp[execOp,hf.eval hx,hf.eval hy,Instr.storeAt,Instr.sureAddr,storeVar,ho.size,Value.cells,hl,h2]
 simp only[Ch,this];exact⟨H',aa,hq,h⟩
def Ta (pl:Nat→Option (Nat×Nat)):List Value→List (Nat×Value)→Option (List Value)
 |cs,[]=>some cs
 |cs,(i,v)::rest=>
  match pl i with
  |none=>none
  |some (off,size)=>if v.cells.size≠size||off+v.cells.size>cs.length then none else Ta pl (Bq cs off v.cells.toList) rest
theorem dI:∀(vs cs:List Value) (off i:Nat),((vs.zipIdx i).foldl (fun (cs:Array Value) (c,j)=>cs.setIfInBounds (off+j) c) cs.toArray)=(Bq cs (off+i) vs).toArray
 |[],_,_,_=>rfl
 |v::vs,cs,off,i=>by simp only[List.zipIdx_cons,List.foldl_cons,List.setIfInBounds_toArray];rw[dI vs (cs.set (off+i) v) off (i+1)];rfl
theorem Yb (pl:Nat→Option (Nat×Nat)):∀(parts:List (Nat×Value)) (cs:List Value),Instr.fill pl cs.toArray parts=(Ta pl cs parts).map List.toArray
 |[],cs=>rfl
 |(i,v)::rest,cs=>by
  unfold Instr.fill Ta;cases pl i with
  |none=>rfl
  |some p=>
   obtain⟨off,size⟩:=p;simp only[List.size_toArray];split
   ·rfl
   ·rw[←Array.foldl_toList];have h:=dI v.cells.toList cs off 0;simp only[Array.toList_zipIdx,Nat.add_zero] at h⊢;rw[h];exact Yb pl rest _
def Pu (L:Bb):List (Nat×Operand)→Option (List (Nat×Value))
 |[]=>some []
 |(i,x)::xs=>match ev L x with
  |some v=>match Pu L xs with
   |some vs=>some ((i,v)::vs)
   |none=>none
  |none=>none
theorem Fr.parts {n:Nat} {a:Act} {L:Bb} (h:Fr n a L):∀{xs:List (Nat×Operand)} {vs:List (Nat×Value)},Pu L xs=some vs→xs.map (fun (i,x)=>(i,a.eval x))=vs
 |[],vs,hx=>by simp[Pu] at hx;simp[hx]
 |(i,x)::xs,vs,hx=>by
  unfold Pu at hx;cases h1:ev L x with
  |none=>simp[h1] at hx
  |some v=>
   simp only[h1] at hx;cases h2:Pu L xs with
   |none=>simp[h2] at hx
   |some us=>
    simp only[h2,Option.some.injEq] at hx;subst hx;simp[h.eval h1,h.parts h2]
theorem R.build {T:TypeId} {pl:Nat→Option (Nat×Nat)} {zero:List Value} [ho:BuildT P T pl zero] {ps:List (Nat×Operand)} {vs:List (Nat×Value)} {cs cs':List Value} (hx:Pu L ps=some vs:=by exact rfl) (hf:Ta pl zero vs=some cs:=by exact rfl) (he:cs=cs':=by((first|assumption|(dsimp only[Bq,List.set,Value.cells,List.toList_toArray];try exact rfl)|exact rfl))) (hc:cls k ⟨some d,.build T ps.toArray,ty,pos,af,g⟩= .pure:=by exact rfl) (hn:d<n:=by exact nle rfl) (h:R P ops Q cls w0 S n l ((d,.agg cs'.toArray)::L) D H qs):R1 P ops Q cls w0 S n k ⟨some d,.build T ps.toArray,ty,pos,af,g⟩ l L D H qs:=
 R1.pureStep hc rfl hn (fun a aa w=>by
  subst he;have h1:=aa.parts hx;have h2:P.built T vs=some cs.toArray:=by rw[ho.built,Yb,hf];rfl
  have h3:=run_build (P:=P) w T vs.toArray cs.toArray h2;have h4:(ps.toArray.map fun (i,x)=>(i,a.eval x))=vs.toArray:=by rw[←h1];simp
  simp only[execOp,h4,Sem.run_bind,h3,Result.andThen_ok,Sem.run_pure]) h
theorem R.alloc {T:TypeId} {vs:List Value} [ho:ZeroV P T vs] (hc:cls k ⟨some d,.alloc T,ty,pos,af,g⟩= .grow:=by exact rfl) (hn:d<n:=by exact nle rfl) (h:∀b,R P ops Q cls w0 S n l ((d,.pointer (some ⟨b,0,none⟩))::L) D ([(b,row vs T)]::H) qs):R1 P ops Q cls w0 S n k ⟨some d,.alloc T,ty,pos,af,g⟩ l L D H qs:=
 R1.growStep (mk:=fun b=> .pointer (some ⟨b,0,none⟩)) (ob:=row vs T) hc rfl hn (fun a hf w=>by
  obtain⟨z,hz,hr⟩:=ho.run;simp[execOp,Instr.alloc,hr,newVar,newRow,hz,row]) h
theorem R.box {T:TypeId} {x:Operand} {v:Value} {vs:List Value} (hx:ev L x=some v:=by exact rfl) (hz:v.cells=vs.toArray:=by exact rfl) (hc:cls k ⟨some d,.box T x,ty,pos,af,g⟩= .grow:=by exact rfl) (hn:d<n:=by exact nle rfl) (h:∀b,R P ops Q cls w0 S n l ((d,.pointer (some ⟨b,0,none⟩))::L) D ([(b,row vs T)]::H) qs):R1 P ops Q cls w0 S n k ⟨some d,.box T x,ty,pos,af,g⟩ l L D H qs:=
 R1.growStep (mk:=fun b=> .pointer (some ⟨b,0,none⟩)) (ob:=row vs T) hc rfl hn (fun a hf w=>by
  simp[execOp,Instr.box,hf.eval hx,newVar,newRow,hz,row]) h
end ops
theorem St.sub {w0:World} {S:List Nat} {w:World} {H H' F:Hp} (h:St w0 S w H) (hs:Bt H H' F):St w0 S w H':=by
 have h1:St w0 S w (H'++F):=h.perm hs;have h3:St w0 S w (F++H'):=h1.perm (by simp only[List.flatten_append];exact List.perm_append_comm);clear h1 hs h;induction F with
 |nil=>exact h3
 |cons c F ih=>exact ih h3.drop
section code
variable {P:Program} {Q:Exit→Act→World→Prop} {w0:World} {S:List Nat} {n:Nat}
variable {L:Bb} {D:List Deferred} {H:Hp}
theorem G.plain {id:Nat} {os:List Oper} {l:List (Nat×Oper)} (hl:Ku 0 os=l:=by(first|(dsimp only[Ku,Nat.reduceAdd];try exact rfl)|exact rfl)) (h:R P os.toArray Q (std []) w0 S n l L D H []):G P Q w0 S n (.region id os.toArray false) L D H:=by
 intro a w hf hD hw;subst hl;have h1:=h (fun p hp=>by simpa using(Xz os 0 p hp).2) a hf hD;rw[Ya,←List.range_eq_range'] at h1;exact W.plain (by simpa using h1) hw
theorem G.draw [hm:Mixed P] {id:Nat} {os:List Oper} {l:List (Nat×Oper)} (aa:List (Nat×Cls)) (hl:Ku 0 os=l:=by(first|(dsimp only[Ku,Nat.reduceAdd];try exact rfl)|exact rfl)) (ab:Sz os.toArray (std aa) (List.range os.length)=true:=by(decide+kernel)) (h:R P os.toArray Q (std aa) w0 S n l L D H []):G P Q w0 S n (.region id os.toArray true) L D H:=by
 intro a w hf hD hw;subst hl;have h1:=h (fun p hp=>by simpa using(Xz os 0 p hp).2) a hf hD;rw[Ya,←List.range_eq_range'] at h1;exact W.draw _ hm.mixed ab h1 hw
theorem G.drawBy [hm:Mixed P] {id:Nat} {os:List Oper} (l:List (Nat×Oper)) (aa:List (Nat×Cls)) (hl:∀p∈l,os[p.1]? =some p.2) (ab:Sz os.toArray (std aa) (l.map (·.1))=true) (h:R P os.toArray Q (std aa) w0 S n l L D H []):G P Q w0 S n (.region id os.toArray true) L D H:=by
 intro a w hf hD hw;have h1:=h (fun p hp=>by simpa using hl p hp) a hf hD;exact W.draw _ hm.mixed ab h1 hw
theorem G.seq {x y:Code} (h:G P (Exit.then (fun a w=>y.wp P Q a w) Q) w0 S n x L D H):G P Q w0 S n (.seq x y) L D H:=
 fun a w hf hD hw=>wp_seq (h a w hf hD hw)
theorem G.skip (h:Dn Q w0 S n .normal L D H):G P Q w0 S n .skip L D H:=fun a w hf hD hw=>wp_skip (h a w hf hD hw)
theorem G.ret (h:Dn Q w0 S n .ret L D H):G P Q w0 S n .ret L D H:=fun a w hf hD hw=>wp_ret (h a w hf hD hw)
theorem G.exit {id:Nat} (h:Dn Q w0 S n (.exit id) L D H):G P Q w0 S n (.exit id) L D H:=fun a w hf hD hw=>wp_exit (h a w hf hD hw)
theorem G.block {id:Nat} {c:Code} (h:G P (Exit.inBlock id Q) w0 S n c L D H):G P Q w0 S n (.block id c) L D H:=
 fun a w hf hD hw=>wp_block (h a w hf hD hw)
theorem G.condT {c:Operand} {x y:Code} (hc:ev L c=some (.bool true):=by exact rfl) (h:G P Q w0 S n x L D H):G P Q w0 S n (.cond c x y) L D H:=
 fun a w hf hD hw=>wp_cond_true (hf.eval hc) (h a w hf hD hw)
theorem G.condF {c:Operand} {x y:Code} (hc:ev L c=some (.bool false):=by exact rfl) (h:G P Q w0 S n y L D H):G P Q w0 S n (.cond c x y) L D H:=
 fun a w hf hD hw=>wp_cond_false (hf.eval hc) (h a w hf hD hw)
theorem G.condP {c:Operand} {x y:Code} {p:Prop} {_:Decidable p} (hc:ev L c=some (.bool (dec p))) (ht:p→G P Q w0 S n x L D H) (hf:¬p→G P Q w0 S n y L D H):G P Q w0 S n (.cond c x y) L D H:=
 fun a w aa hD hw=>wp_cond_split (aa.eval hc) (fun e=>ht (Ur.1 e) a w aa hD hw) (fun e=>hf (fun hp=>by rw[Dt hp] at e;cases e) a w aa hD hw)
theorem G.condPT {c:Operand} {x y:Code} {p:Prop} {_:Decidable p} (hc:ev L c=some (.bool (dec p)):=by exact rfl) (hp:p:=by(first|decide|omega)) (ht:G P Q w0 S n x L D H):G P Q w0 S n (.cond c x y) L D H:=
 G.condP hc (fun _=>ht) (fun h=>absurd hp h)
theorem G.condPF {c:Operand} {x y:Code} {p:Prop} {_:Decidable p} (hc:ev L c=some (.bool (dec p)):=by exact rfl) (hp:¬p:=by(first|decide|omega)) (ht:G P Q w0 S n y L D H):G P Q w0 S n (.cond c x y) L D H:=
 G.condP hc (fun h=>absurd h hp) (fun _=>ht)
theorem G.condVT {c:Operand} {x y:Code} {b:Bool} (hc:ev L c=some (.bool b):=by exact rfl) (hb:b=true:=by assumption) (h:G P Q w0 S n x L D H):G P Q w0 S n (.cond c x y) L D H:=
 G.condT (by rw[hc,hb]) h
theorem G.condVF {c:Operand} {x y:Code} {b:Bool} (hc:ev L c=some (.bool b):=by exact rfl) (hb:b=false:=by assumption) (h:G P Q w0 S n y L D H):G P Q w0 S n (.cond c x y) L D H:=
 G.condF (by rw[hc,hb]) h
theorem Dn.next {y:Code} (h:G P Q w0 S n y L D H):Dn (Exit.then (fun a w=>y.wp P Q a w) Q) w0 S n .normal L D H:=h
theorem Dn.blockEnd {id:Nat} (h:Dn Q w0 S n .normal L D H):Dn (Exit.inBlock id Q) w0 S n .normal L D H:=h
theorem Dn.exitHere {id:Nat} (h:Dn Q w0 S n .normal L D H):Dn (Exit.inBlock id Q) w0 S n (.exit id) L D H:=fun a w hf hD hw=>by simp only[Exit.inBlock,if_true];exact h a w hf hD hw
theorem Dn.exitPast {id aa:Nat} (ab:id≠aa) (h:Dn Q w0 S n (.exit id) L D H):Dn (Exit.inBlock aa Q) w0 S n (.exit id) L D H:=fun a w hf hD hw=>by simp only[Exit.inBlock,if_neg ab];exact h a w hf hD hw
theorem Dn.exitThen {id:Nat} {K:Act→World→Prop} (h:Dn Q w0 S n (.exit id) L D H):Dn (Exit.then K Q) w0 S n (.exit id) L D H:=h
theorem Dn.retThen {K:Act→World→Prop} (h:Dn Q w0 S n .ret L D H):Dn (Exit.then K Q) w0 S n .ret L D H:=h
theorem Dn.retBlock {id:Nat} (h:Dn Q w0 S n .ret L D H):Dn (Exit.inBlock id Q) w0 S n .ret L D H:=h
def LoopK {X:Type} (w0:World) (S:List Nat) (n:Nat) (D:List Deferred) (I:X→Prop) (Lx:X→Bb) (Hx:X→Hp) (μ:X→Nat) (x:X) (a:Act) (w:World):Prop:=
 ∃x',I x'∧μ x'<μ x∧Fr n a (Lx x')∧a.defers=D∧St w0 S w (Hx x')
theorem Dn.round {X:Type} {I:X→Prop} {Lx:X→Bb} {Hx:X→Hp} {μ:X→Nat} {x:X} {F:Hp} (x':X) (hI:I x') (hμ:μ x'<μ x) (hL:Ps L (Lx x'):=by repeat(first|exact trivial|refine⟨rfl,?_⟩)) (hH:Bt H (Hx x') F:=by exact zS):Dn (Exit.then (LoopK w0 S n D I Lx Hx μ x) Q) w0 S n .normal L D H:=
 fun _ _ hf hD hw=>⟨x',hI,hμ,hf.sub fun t v=>hL.lk t v,hD,hw.sub hH⟩
theorem nX {c:Code} (J:Nat→Act→World→Prop) (body:∀m a w,J m a w→c.wp P (Exit.then (fun a' w'=>∃m',m'<m∧J m' a' w') Q) a w):∀m a w,J m a w→(Code.loop c).wp P Q a w:=by
 intro m a w h b k cs;have key:∀m a w,J m a w→∃e a' w',Q e a' w'∧Arrives P (lone (b.at a (.code c:: .inLoop c::k)) cs w) b k cs e a' w':=by
  intro m;induction m using Nat.strongRecOn with
  |_ m ih=>
   intro a w hJ;obtain⟨e,a₁,w₁,hq,aa⟩:=body m a w hJ b (.inLoop c::k) cs;cases e with
   |normal=>
    obtain⟨m',ac,ad⟩:=hq;obtain⟨e₂,a₂,w₂,ae,ab⟩:=ih m' ac a₁ w₁ ad;exact⟨e₂,a₂,w₂,ae,.of_steps (Steps.trans aa (.one step_inLoop)) ab⟩
   |exit id=>exact⟨_,a₁,w₁,hq,.pass (x:= .inLoop c) rfl (fun _ _=> .inl oA19) aa⟩
   |goto l=>exact⟨_,a₁,w₁,hq,.pass (x:= .inLoop c) rfl (fun _ _=> .inl oA19) aa⟩
   |ret=>exact⟨_,a₁,w₁,hq,.pass (x:= .inLoop c) rfl (fun _ _=> .inl oA19) aa⟩
   |panic ch=>exact⟨_,a₁,w₁,hq,.pass (x:= .inLoop c) rfl (fun _ _=> .inl oA19) aa⟩
   |outgrown=>exact⟨_,a₁,w₁,hq,.pass (x:= .inLoop c) rfl (fun _ _=> .inl oA19) aa⟩
 obtain⟨e,a',w',hq,aa⟩:=key m a w h;exact⟨e,a',w',hq,.of_steps (.one step_loop) aa⟩
theorem G.loop {X:Type} (I:X→Prop) (Lx:X→Bb) (Hx:X→Hp) (μ:X→Nat) (x0:X) {c:Code} {F:Hp} (hI:I x0) (hL:Ps L (Lx x0):=by repeat(first|exact trivial|refine⟨rfl,?_⟩)) (hH:Bt H (Hx x0) F:=by exact zS) (body:∀x,I x→G P (Exit.then (LoopK w0 S n D I Lx Hx μ x) Q) w0 S n c (Lx x) D (Hx x)):G P Q w0 S n (.loop c) L D H:=by
 intro a w hf hD hw;refine nX (fun m a w=>∃x,μ x=m∧I x∧Fr n a (Lx x)∧a.defers=D∧St w0 S w (Hx x)) ?_ (μ x0) a w ⟨x0,rfl,hI,hf.sub fun t v=>hL.lk t v,hD,hw.sub hH⟩;rintro m a w ⟨x,rfl,hI,hf,hD,hw⟩;refine wp_mono (body x hI a w hf hD hw) fun e a w hq=>?_;cases e<;>try exact hq
 obtain⟨x',h1,h2,h3,h4,h5⟩:=hq;exact⟨_,h2,x',rfl,h1,h3,h4,h5⟩
def CutK {X:Type} (w0:World) (S:List Nat) (n:Nat) (D:List Deferred) (I:X→Prop) (Lx:X→Bb) (Hx:X→Hp) (a:Act) (w:World):Prop:=
 ∃x,I x∧Fr n a (Lx x)∧a.defers=D∧St w0 S w (Hx x)
theorem G.cut {X:Type} (I:X→Prop) (Lx:X→Bb) (Hx:X→Hp) {D':List Deferred} {x y:Code} (h1:G P (Exit.then (CutK w0 S n D' I Lx Hx) Q) w0 S n x L D H) (h2:∀z,I z→G P Q w0 S n y (Lx z) D' (Hx z)):G P Q w0 S n (.seq x y) L D H:=fun a w hf hD hw=>by
 refine wp_seq (wp_mono (h1 a w hf hD hw) fun e a w hq=>?_);cases e<;>try exact hq
 obtain⟨z,h3,h4,h5,h6⟩:=hq;exact h2 z h3 a w h4 h5 h6
theorem Dn.meet {X:Type} {I:X→Prop} {Lx:X→Bb} {Hx:X→Hp} {F:Hp} (x:X) (hI:I x) (hL:Ps L (Lx x):=by repeat(first|exact trivial|refine⟨rfl,?_⟩)) (hH:Bt H (Hx x) F:=by exact zS):Dn (Exit.then (CutK w0 S n D I Lx Hx) Q) w0 S n .normal L D H:=
 fun _ _ hf hD hw=>⟨x,hI,hf.sub fun t v=>hL.lk t v,hD,hw.sub hH⟩
end code
def Js (w0:World) (S:List Nat) (R:Value→Hp→Prop) (e:Ending) (w:World):Prop:=∃v H',e= .returned v∧R v H'∧St w0 S w H'
def Ct (P:Program) (f:FuncId) (args:List Value) (H:Hp) (R:Value→Hp→Prop):Prop:=
 ∀w,St w (Bj H) w H→Calls P f args.toArray w (Js w (Bj H) R)
def Cd (P:Program) (f:FuncId) (args:List Value) (H:Hp) (R:Value→Hp→Prop):Prop:=
 ∀u w,St w (Bj H) w H→CallsD P f args.toArray u w fun e u' w'=>u'=u∧Js w (Bj H) R e w'
abbrev CtQ (P:Program) (f:FuncId) (args:List Value) (H:Hp) (v:Value):Prop:=Ct P f args H fun v' H'=>v'=v∧H'=H
theorem Ct.mono {P:Program} {f:FuncId} {args:List Value} {H:Hp} {R R':Value→Hp→Prop} (h:Ct P f args H R) (hr:∀v H',R v H'→R' v H'):Ct P f args H R':=
 fun w hw=>(h w hw).mono fun _ _ ⟨v,H',h1,h2,h3⟩=>⟨v,H',h1,hr _ _ h2,h3⟩
theorem Ct.frame {P:Program} {f:FuncId} {args:List Value} {Hf F:Hp} {R:Value→Hp→Prop} (h:Ct P f args Hf R) {w0:World} {S:List Nat} {w:World} (hw:St w0 S w (Hf++F)):Calls P f args.toArray w fun e w'=>∃v H',e= .returned v∧R v H'∧St w0 S w' (H'++F):=
 (h w hw.self).mono fun _ _ ⟨v,H',h1,h2,h3⟩=>⟨v,H',h1,h2,hw.framed h3⟩
def Cy:Nat→List Value→Bb
 |_,[]=>[]
 |i,v::vs=>(i,v)::Cy (i+1) vs
theorem dJ:∀(vs:List Value) (i t:Nat) (v:Value),lk t (Cy i vs)=some v→i≤t∧vs[t-i]? =some v
 |[],i,t,v,h=>by simp[Cy,lk] at h
 |u::vs,i,t,v,h=>by
  rw[Cy,Sy] at h;split at h
  ·rename_i e;subst e;simpa using h
  ·obtain⟨h1,h2⟩:=dJ vs (i+1) t v h;refine⟨oM,?_⟩;have:t-i=(t-(i+1))+1:=by omega
   rw[this];simpa using h2
theorem Yc {n:Nat} {args:List Value} (hn:args.length≤n):Fr n ⟨args.toArray++Array.replicate (n-args.toArray.size) undef,[]⟩ (Cy 0 args) where
 size:=by simp;omega
 get:=by intro t v h;obtain⟨_,h2⟩:=dJ args 0 t v h;have aa:=(List.getElem?_eq_some_iff.1 h2).1;rw[Array.getElem?_append_left (by simpa using aa)];simpa using h2
inductive Res (P:Program) (L:Bb) (H:Hp):List ResultVar→List Value→Prop
 |nil:Res P L H [] []
 |tmp {t:Tmp} {v:Value} {rs:List ResultVar} {vs:List Value}:lk t L=some v→Res P L H rs vs→Res P L H (.tmp t::rs) (v::vs)
 |cellN {t:Tmp} {T m:Nat} {b off:Nat} {cs us:List Value} {E:TypeId} {fz:Nat×Nat} {rs:List ResultVar} {vs:List Value}:AggN P T m→lk t L=some (.pointer (some ⟨b,off,none⟩))→
   Has b (An cs E fz) H→(cs.drop off).take m=us→us.length=m→Res P L H rs vs→Res P L H (.cell t T::rs) (.agg us.toArray::vs)
 |cell1 {t:Tmp} {T:Nat} {b off:Nat} {cs:List Value} {u:Value} {E:TypeId} {fz:Nat×Nat} {rs:List ResultVar} {vs:List Value}:Cell1 P T→lk t L=some (.pointer (some ⟨b,off,none⟩))→
   Has b (An cs E fz) H→cs[off]? =some u→Res P L H rs vs→Res P L H (.cell t T::rs) (u::vs)
def Gx:List Value→Value
 |[v]=>v
 |vs=> .tuple vs.toArray
section contracts
variable {P:Program} {f:FuncId} {fn:Func} {c:Code} {n:Nat} {args:List Value} {H:Hp} {R:Value→Hp→Prop}
theorem Ct.intro (hf:P.funcs[f]? =some fn) (hb:fn.body=some c) (ht:fn.ntmps=n) (hn:args.length≤n) (h:∀w0,G P (bodyPost P fn (Js w0 (Bj H) R)) w0 (Bj H) n c (Cy 0 args) [] H):Ct P f args H R:=fun w hw=>
 calls_of_wp hf hb (by rw[ht];exact h w _ _ (Yc hn) rfl hw)
theorem Ct.go {lq:_} (hf:P.funcs[f]?=some fn) (ht:fn.ntmps=n) (h:∀w0,G P (bodyPost P fn (Js w0 (Bj H) R)) w0 (Bj H) n c lq [] H) (hb:fn.body=some c:=by exact rfl) (hn:args.length≤n:=by exact nle rfl) (hl:Cy 0 args=lq:=by dsimp only[Cy,AD]):Ct P f args H R:=by subst hl;exact Ct.intro hf hb ht hn h
theorem cG {lq:_} (hf:P.funcs[f]?=some fn) (h:∀w0,G P (bodyPost P fn (Js w0 (Bj H) R)) w0 (Bj H) n c lq [] H) (ht:fn.ntmps=n:=by exact rfl) (hb:fn.body=some c:=by exact rfl) (hn:args.length≤n:=by exact nle rfl) (hl:Cy 0 args=lq:=by dsimp only[Cy,AD]):Ct P f args H R:=Ct.go hf ht h hb hn hl
theorem Cd.intro (hf:P.funcs[f]? =some fn) (hb:fn.body=some c) (ht:fn.ntmps=n) (hn:args.length≤n) (h:∀w0,G P (bodyPost P fn (Js w0 (Bj H) R)) w0 (Bj H) n c (Cy 0 args) [] H):Cd P f args H R:=fun u w hw=>
 callsD_of_wp hf hb (by rw[ht];exact h w _ _ (Yc hn) rfl hw)
theorem Ct.introD (hf:P.funcs[f]? =some fn) (hb:fn.body=some c) (ht:fn.ntmps=n) (hn:args.length≤n) (h:∀w0,G P (bodyPostD P fn (Js w0 (Bj H) R)) w0 (Bj H) n c (Cy 0 args) [] H):Ct P f args H R:=fun w hw=>
 calls_of_wp_defers hf hb (by rw[ht];exact h w _ _ (Yc hn) rfl hw)
theorem nY {w0:World} {S:List Nat} {a:Act} {L:Bb} {H:Hp} (hf:Fr n a L) (w:World) (hw:St w0 S w H):∀(rs:List ResultVar) (vs:List Value),Res P L H rs vs→(rs.mapM fun|ResultVar.tmp t=>(pure (a.tmps.getD t undef):Sem Value)| .cell x t=>do loadVar t (←asAddr (a.tmps.getD x undef))).run P w= .ok vs w:=by
 intro rs vs h;induction h with
 |nil=>simp
 | @tmp t v rs vs h1 _ ih=>
  have:=hf.get t v h1;rw[List.mapM_cons,Sem.run_bind];have e:(a.tmps.getD t undef)=v:=by simp[this]
  simp only[e,Sem.run_pure,Result.andThen_ok];rw[Sem.run_bind,ih];rfl
 | @cellN t T m b off cs us E fz rs vs ha h1 hh hv hl _ ih=>
  have:=hf.get t _ h1;rw[List.mapM_cons,Sem.run_bind];have e:(a.tmps.getD t undef)= .pointer (some ⟨b,off,none⟩):=by simp[this]
  have aa:∀j v,us[j]? =some v→w.cell? ((⟨b,off,none⟩:Addr).add j)=some v:=by
   intro j v hj;rw[Addr.add_mk,Ra (hh.st hw)];rw[←hv,List.getElem?_take,List.getElem?_drop] at hj;split at hj
   ·exact hj
   ·cases hj
  have h2:=run_loadCells_list (P:=P) w ⟨b,off,none⟩ us aa;rw[hl] at h2;have h3:(loadVar T ⟨b,off,none⟩).run P w= .ok (.agg us.toArray) w:=by simp[loadVar,ha.agg,ha.size,h2]
  have h4:((do let x←asAddr (a.tmps.getD t undef);loadVar T x):Sem Value).run P w= .ok (.agg us.toArray) w:=by rw[e];simp[asAddr,h3]
  erw [h4]
  simp only[Result.andThen_ok];rw[Sem.run_bind,ih];rfl
 | @cell1 t T b off cs u E fz rs vs ha h1 hh hv _ ih=>
  have:=hf.get t _ h1;rw[List.mapM_cons,Sem.run_bind];have e:(a.tmps.getD t undef)= .pointer (some ⟨b,off,none⟩):=by simp[this]
  have aa:w.cell? ⟨b,off,none⟩=some u:=by rw[Ra (hh.st hw)];exact hv
  have h3:(loadVar T ⟨b,off,none⟩).run P w= .ok u w:=by simp[loadVar,ha.agg,aa]
  have h4:((do let x←asAddr (a.tmps.getD t undef);loadVar T x):Sem Value).run P w= .ok u w:=by rw[e];simp[asAddr,h3]
  erw [h4]
  simp only[Result.andThen_ok];rw[Sem.run_bind,ih];rfl
theorem Yd {w0:World} {S:List Nat} {a:Act} {L:Bb} {H:Hp} (hf:Fr n a L) {rs:List ResultVar} {vs:List Value} (hr:fn.results=rs.toArray) (h:Res P L H rs vs) {w:World} (hw:St w0 S w H):(results fn a.tmps).run P w= .ok (Gx vs) w:=by
 unfold results;rw[hr];rw[List.mapM_toArray,Sem.run_bind,Sem.run_map];have h1:=nY (P:=P) hf w hw rs vs h
 erw [h1]
 simp only[Result.andThen_ok]
 match vs with
 |[]=>simp[Gx]
 |[v]=>simp[Gx]
 |v::u::vs=>simp[Gx]
theorem Dn.post {w0:World} {S:List Nat} {L:Bb} {H':Hp} {rs:List ResultVar} {vs:List Value} {Hr F:Hp} (hr:fn.results=rs.toArray) (h:Res P L H' rs vs:=by(repeat(first|exact Res.nil|(apply Res.tmp;exact rfl)|(apply Res.cellN;exact inferInstance;exact rfl;(·exact zA);(·(·(first|assumption|(dsimp only[List.drop,List.take];try exact rfl)|exact rfl)));(·(·(first|exact rfl|assumption|(simp;done)))))|(apply Res.cell1;exact inferInstance;exact rfl;(·exact zA);(·(·(first|exact rfl|assumption))))))) (hs:Bt H' Hr F:=by exact zS) (hR:R (Gx vs) Hr):Dn (bodyPost P fn (Js w0 S R)) w0 S n .ret L [] H':=fun _ _ hf hD hw=>
 ⟨hD,Gx vs,Yd hf hr h hw,Gx vs,Hr,rfl,hR,hw.sub hs⟩
theorem dP {w0:World} {S:List Nat} {L:Bb} {H':Hp} {rs:List ResultVar} {vs:List Value} {F:Hp} (Hr:Hp) (hR:R (Gx vs) Hr) (hr:fn.results=rs.toArray:=by exact rfl) (h:Res P L H' rs vs:=by(repeat(first|exact Res.nil|(apply Res.tmp;exact rfl)|(apply Res.cellN;exact inferInstance;exact rfl;(·exact zA);(·(·(first|assumption|(dsimp only[List.drop,List.take];try exact rfl)|exact rfl)));(·(·(first|exact rfl|assumption|(simp;done)))))|(apply Res.cell1;exact inferInstance;exact rfl;(·exact zA);(·(·(first|exact rfl|assumption))))))) (hs:Bt H' Hr F:=by exact zS):Dn (bodyPost P fn (Js w0 S R)) w0 S n .ret L [] H':=Dn.post (hr:=hr) (h:=h) (hs:=hs) (hR:=hR)
theorem Dn.postEnd {w0:World} {S:List Nat} {L:Bb} {H':Hp} {rs:List ResultVar} {vs:List Value} {Hr F:Hp} (hr:fn.results=rs.toArray) (h:Res P L H' rs vs:=by(repeat(first|exact Res.nil|(apply Res.tmp;exact rfl)|(apply Res.cellN;exact inferInstance;exact rfl;(·exact zA);(·(·(first|assumption|(dsimp only[List.drop,List.take];try exact rfl)|exact rfl)));(·(·(first|exact rfl|assumption|(simp;done)))))|(apply Res.cell1;exact inferInstance;exact rfl;(·exact zA);(·(·(first|exact rfl|assumption))))))) (hs:Bt H' Hr F:=by exact zS) (hR:R (Gx vs) Hr):Dn (bodyPost P fn (Js w0 S R)) w0 S n .normal L [] H':=fun _ _ hf hD hw=>
 ⟨hD,Gx vs,Yd hf hr h hw,Gx vs,Hr,rfl,hR,hw.sub hs⟩
theorem dE {w0:World} {S:List Nat} {L:Bb} {H':Hp} {rs:List ResultVar} {vs:List Value} {F:Hp} (Hr:Hp) (hR:R (Gx vs) Hr) (hr:fn.results=rs.toArray:=by exact rfl) (h:Res P L H' rs vs:=by(repeat(first|exact Res.nil|(apply Res.tmp;exact rfl)|(apply Res.cellN;exact inferInstance;exact rfl;(·exact zA);(·(·(first|assumption|(dsimp only[List.drop,List.take];try exact rfl)|exact rfl)));(·(·(first|exact rfl|assumption|(simp;done)))))|(apply Res.cell1;exact inferInstance;exact rfl;(·exact zA);(·(·(first|exact rfl|assumption))))))) (hs:Bt H' Hr F:=by exact zS):Dn (bodyPost P fn (Js w0 S R)) w0 S n .normal L [] H':=Dn.postEnd (hr:=hr) (h:=h) (hs:=hs) (hR:=hR)
def Lv (P:Program) (fn:Func) (w0:World) (S:List Nat) (n:Nat) (R:Value→Hp→Prop) (ds:List Deferred) (L:Bb) (H:Hp):Prop:=
 ∀a w,Fr n a L→St w0 S w H→Leaves P fn a.tmps (Js w0 S R) ds .returning w
theorem Dn.postD {w0:World} {S:List Nat} {L:Bb} {H':Hp} {D:List Deferred} (h:Lv P fn w0 S n R D L H'):Dn (bodyPostD P fn (Js w0 S R)) w0 S n .ret L D H':=
 fun a w hf hD hw=>by subst hD;exact h a w hf hw
theorem Lv.nil {w0:World} {S:List Nat} {L:Bb} {H':Hp} {rs:List ResultVar} {vs:List Value} {Hr F:Hp} (hr:fn.results=rs.toArray) (h:Res P L H' rs vs:=by(repeat(first|exact Res.nil|(apply Res.tmp;exact rfl)|(apply Res.cellN;exact inferInstance;exact rfl;(·exact zA);(·(·(first|assumption|(dsimp only[List.drop,List.take];try exact rfl)|exact rfl)));(·(·(first|exact rfl|assumption|(simp;done)))))|(apply Res.cell1;exact inferInstance;exact rfl;(·exact zA);(·(·(first|exact rfl|assumption))))))) (hs:Bt H' Hr F:=by exact zS) (hR:R (Gx vs) Hr):Lv P fn w0 S n R [] L H':=fun _ _ hf hw=>⟨Gx vs,Yd hf hr h hw,Gx vs,Hr,rfl,hR,hw.sub hs⟩
theorem lN {w0:World} {S:List Nat} {L:Bb} {H':Hp} {rs:List ResultVar} {vs:List Value} {F:Hp} (Hr:Hp) (hR:R (Gx vs) Hr) (hr:fn.results=rs.toArray:=by exact rfl) (h:Res P L H' rs vs:=by(repeat(first|exact Res.nil|(apply Res.tmp;exact rfl)|(apply Res.cellN;exact inferInstance;exact rfl;(·exact zA);(·(·(first|assumption|(dsimp only[List.drop,List.take];try exact rfl)|exact rfl)));(·(·(first|exact rfl|assumption|(simp;done)))))|(apply Res.cell1;exact inferInstance;exact rfl;(·exact zA);(·(·(first|exact rfl|assumption))))))) (hs:Bt H' Hr F:=by exact zS):Lv P fn w0 S n R [] L H':=Lv.nil (hr:=hr) (h:=h) (hs:=hs) (hR:=hR)
theorem Lv.cons {w0:World} {S:List Nat} {L:Bb} {H' Hf F:Hp} {fv:Fn} {cap aa:Array Value} {ds:List Deferred} {g:FuncId} {vs:List Value} {Rf:Value→Hp→Prop} (hi:∀w,(invoke (.fn fv cap) aa).run P w= .ok (.enter g vs.toArray) w) (hc:Cd P g vs Hf Rf) (hs:Bt H' Hf F) (h:∀v H2,Rf v H2→Lv P fn w0 S n R ds L (H2++F)):Lv P fn w0 S n R (⟨.fn fv cap,aa⟩::ds) L H':=by
 intro a w hf hw;have ab:St w0 S w (Hf++F):=hw.perm hs;refine leaves_cons oA19 (hi w) ((hc .returning w ab.self).mono ?_);rintro e u' w' ⟨rfl,v,H2,rfl,hR,ac⟩;exact h v H2 hR a w' hf (ab.framed ac)
end contracts
section calls
variable {P:Program} {ops:Array Oper} {Q:Exit→Act→World→Prop} {cls:Nat→Oper→Cls} {w0:World} {S:List Nat} {n:Nat}
variable {k:Nat} {l:List (Nat×Oper)} {L:Bb} {D:List Deferred} {H:Hp} {qs:List Rd}
variable {d:Nat} {ty:TypeId} {pos:String} {af:Array Edge} {g:Option (Nat×Bool)}
variable {f:FuncId} {as:List Operand} {aT:Array TypeId} {vs:List Value} {Hf F:Hp} {Rf:Value→Hp→Prop}
theorem Us [hf:Callable P f] {a:Act} (ab:Fr n a L) (aa:evs L as=some vs) {dst:Option Tmp} (w:World):(execOp a.eval ⟨dst,.call ⟨.value (.func f),as.toArray,aT⟩,ty,pos,af,g⟩).run P w= .ok (.enter f vs.toArray) w:=by
 have:=ab.evals aa;simp[execOp,resolve,Deferred.ofValue,Act.eval,invoke,hf.run,this]
theorem R.call [hf:Callable P f] (aa:evs L as=some vs:=by exact rfl) (hct:Ct P f vs Hf Rf) (hs:Bt H Hf F:=by exact zS) (hc:cls k ⟨some d,.call ⟨.value (.func f),as.toArray,aT⟩,ty,pos,af,g⟩= .eff []:=by exact rfl) (hn:d<n:=by exact nle rfl) (h:∀v H',Rf v H'→R P ops Q cls w0 S n l ((d,v)::L) D (H'++F) qs):R1 P ops Q cls w0 S n k ⟨some d,.call ⟨.value (.func f),as.toArray,aT⟩,ty,pos,af,g⟩ l L D H qs:=by
 refine R1.effStep hc hn fun a w w0 S ac ad=>?_;have ab:St w0 S w (Hf++F):=ad.perm hs;simp only[Ch,Us ac aa];exact(hct.frame ab).mono fun e w' ⟨v,H',h1,h2,h3⟩=>⟨v,h1,H'++F,h3,(by intro _ _ h;cases h),h v H' h2⟩
theorem cL [hf:Callable P f] (hct:Ct P f vs Hf Rf) (h:∀v H',Rf v H'→R P ops Q cls w0 S n l ((d,v)::L) D (H'++F) qs) (aa:evs L as=some vs:=by exact rfl) (hs:Bt H Hf F:=by exact zS) (hc:cls k ⟨some d,.call ⟨.value (.func f),as.toArray,aT⟩,ty,pos,af,g⟩= .eff []:=by exact rfl) (hn:d<n:=by exact nle rfl):R1 P ops Q cls w0 S n k ⟨some d,.call ⟨.value (.func f),as.toArray,aT⟩,ty,pos,af,g⟩ l L D H qs:=R.call (aa:=aa) (hct:=hct) (hs:=hs) (hc:=hc) (hn:=hn) (h:=h)
theorem R.callX [hf:Callable P f] {cr:List Nat} (aa:evs L as=some vs:=by exact rfl) (hct:Ct P f vs Hf Rf) (hs:Bt H Hf F:=by exact zS) (hc:cls k ⟨some d,.call ⟨.value (.func f),as.toArray,aT⟩,ty,pos,af,g⟩= .eff cr:=by exact rfl) (hn:d<n:=by exact nle rfl) (h:∀v H',Rf v H'→(∀r∈qs,r.i∈cr→r.Pr (H'++F))∧R P ops Q cls w0 S n l ((d,v)::L) D (H'++F) qs):R1 P ops Q cls w0 S n k ⟨some d,.call ⟨.value (.func f),as.toArray,aT⟩,ty,pos,af,g⟩ l L D H qs:=by
 refine R1.effStep hc hn fun a w w0 S ac ad=>?_;have ab:St w0 S w (Hf++F):=ad.perm hs;simp only[Ch,Us ac aa];exact(hct.frame ab).mono fun e w' ⟨v,H',h1,h2,h3⟩=>⟨v,h1,H'++F,h3,h v H' h2⟩
theorem cX [hf:Callable P f] {cr:List Nat} (hct:Ct P f vs Hf Rf) (h:∀v H',Rf v H'→(∀r∈qs,r.i∈cr→r.Pr (H'++F))∧R P ops Q cls w0 S n l ((d,v)::L) D (H'++F) qs) (aa:evs L as=some vs:=by exact rfl) (hs:Bt H Hf F:=by exact zS) (hc:cls k ⟨some d,.call ⟨.value (.func f),as.toArray,aT⟩,ty,pos,af,g⟩= .eff cr:=by exact rfl) (hn:d<n:=by exact nle rfl):R1 P ops Q cls w0 S n k ⟨some d,.call ⟨.value (.func f),as.toArray,aT⟩,ty,pos,af,g⟩ l L D H qs:=R.callX (aa:=aa) (hct:=hct) (hs:=hs) (hc:=hc) (hn:=hn) (h:=h)
theorem R.callP [hf:Callable P f] {v:Value} (aa:evs L as=some vs:=by exact rfl) (hct:CtQ P f vs Hf v) (hs:Bt H Hf F:=by exact zS) (hc:cls k ⟨some d,.call ⟨.value (.func f),as.toArray,aT⟩,ty,pos,af,g⟩= .eff []:=by exact rfl) (hn:d<n:=by exact nle rfl) (h:R P ops Q cls w0 S n l ((d,v)::L) D H qs):R1 P ops Q cls w0 S n k ⟨some d,.call ⟨.value (.func f),as.toArray,aT⟩,ty,pos,af,g⟩ l L D H qs:=by
 refine R1.effStep hc hn fun a w w0 S ac ad=>?_;have ab:St w0 S w (Hf++F):=ad.perm hs;simp only[Ch,Us ac aa];exact(hct.frame ab).mono fun e w' ⟨v',H',h1,⟨h2,h3⟩,h4⟩=>⟨v',h1,H,(by subst h3;exact h4.perm hs.symm),(by intro _ _ h;cases h),(by subst h2;exact h)⟩
theorem R.callQ [hf:Callable P f] {v:Value} (aa:evs L as=some vs:=by exact rfl) (hct:CtQ P f vs Hf v) (hs:Bt H Hf F:=by exact zS) (hc:cls k ⟨some d,.call ⟨.value (.func f),as.toArray,aT⟩,ty,pos,af,g⟩= .quiet:=by exact rfl) (hn:d<n:=by exact nle rfl) (h:R P ops Q cls w0 S n l ((d,v)::L) D H (⟨k,fun H=>∃F,Bt H Hf F⟩::qs)):R1 P ops Q cls w0 S n k ⟨some d,.call ⟨.value (.func f),as.toArray,aT⟩,ty,pos,af,g⟩ l L D H qs:=by
 refine R1.quietStep (Pr:=fun H=>∃F,Bt H Hf F) hc rfl hn (fun a ac=>⟨fun H1 H2 ⟨F,h1⟩ hp=>⟨F,hp.symm.trans h1⟩,fun c H1 ⟨F,h1⟩=>⟨c::F,?_⟩,fun H1 w ⟨F,h1⟩ ad=>?_⟩) ⟨F,hs⟩ h
 ·unfold Bt at*;simp only[List.flatten_cons,List.flatten_append];refine(List.Perm.append_left c h1).trans ?_;simp only[List.flatten_append,←List.append_assoc];exact List.Perm.append_right _ List.perm_append_comm
 ·have ab:St w0 S w (Hf++F):=ad.perm h1;simp only[Ch,Us ac aa];exact(hct.frame ab).mono fun e w' ⟨v',H',h2,⟨h3,h4⟩,h5⟩=>⟨v',h2,h3,by subst h4;exact h5.perm h1.symm⟩
end calls
theorem qok_nil {cr:List Nat} {H:Hp}:∀r∈([]:List Rd),r.i∈cr→r.Pr H:=fun _ h=>by cases h
theorem qok_cons {cr:List Nat} {H:Hp} {r:Rd} {qs:List Rd} (h:r.i∈cr→r.Pr H) (h2:∀r∈qs,r.i∈cr→r.Pr H):∀x∈(r::qs),x.i∈cr→x.Pr H:=by
 intro x hx;rcases List.mem_cons.1 hx with rfl|hx
 ·exact h
 ·exact h2 x hx
theorem nx {A B:Prop} (g:B) (h:A:=by (·(first|(intro _ _ h;cases h;done)|(repeat(first|exact qok_nil|(apply qok_cons;(·first|(intro hc;exact absurd hc (nmem rfl))|(intro _;apply Gv.mk;(·repeat(first|exact Has.here|apply Has.there));(first|exact rfl|assumption))|(intro _;apply Gw.mk;(·repeat(first|exact Has.here|apply Has.there));(first|exact rfl|assumption))))))))):A∧B:=⟨h,g⟩
theorem Gv.mk {b off:Nat} {v:Value} {cs:List Value} {E:TypeId} {fz:Nat×Nat} {H:Hp} (h1:Has b (An cs E fz) H) (h2:cs[off]? =some v):Gv b off v H:=⟨cs,E,fz,h1,h2⟩
theorem Gw.mk {b off:Nat} {vs cs:List Value} {E:TypeId} {fz:Nat×Nat} {H:Hp} (h1:Has b (An cs E fz) H) (h2:(cs.drop off).take vs.length=vs):Gw b off vs H:=⟨cs,E,fz,h1,h2⟩
attribute [irreducible] R R1 G Dn Lv Has Upd Ae Bt Ct Cd Gv Gw
end Go.SL
