/-
  Parts of the proof, put together: Sl1. No condition.
-/
import Derived.Defers
import Derived.KernelRfl
import Derived.Laws.Sem
import Derived.Laws.World
import Derived.Orders
set_option linter.unusedVariables false
set_option linter.unusedSimpArgs false
set_option linter.unnecessarySimpa false
set_option maxHeartbeats 4000000
namespace Go.SL
abbrev Slots:=List (Nat×Value)
abbrev Chunk:=List (Nat×Obj)
abbrev Hp:=List Chunk
def lk (t:Nat):Slots→Option Value
 |[]=>none
 |(d,v)::L=>match Nat.beq t d with|true=>some v|false=>lk t L
def ev (L:Slots):Operand→Option Value
 | .tmp t=>lk t L
 | .const v=>some v
 | .global g=>some (.pointer (some ⟨g,0,none⟩))
 | .func f=>some (.func (.func f) #[] #[])
def evs (L:Slots):List Operand→Option (List Value)
 |[]=>some []
 |x::xs=>match ev L x with
  |some v=>match evs L xs with
   |some vs=>some (v::vs)
   |none=>none
  |none=>none
structure Fr (n:Nat) (a:Act) (L:Slots):Prop where
 size:a.tmps.size=n
 get:∀t v,lk t L=some v→a.tmps[t]? =some v
theorem lk_cons (t d:Nat) (v:Value) (L:Slots):lk t ((d,v)::L)=if t=d then some v else lk t L:=by
 unfold lk
 by_cases h:t=d
 ·subst h;simp
 ·have:Nat.beq t d=false:=by
   cases hb:Nat.beq t d with
   |false=>rfl
   |true=>exact absurd (Nat.eq_of_beq_eq_true hb) h
  rw[this];simp only[if_neg h];cases L<;>rfl
theorem Fr.put {n:Nat} {a:Act} {L:Slots} (h:Fr n a L) {d:Nat} (hd:d<n) (v:Value):Fr n (a.put (some d) v) ((d,v)::L):=by
 constructor
 ·simp[Act.put,h.size]
 ·intro t u ht
  rw[lk_cons] at ht
  simp only[Act.put]
  by_cases e:t=d
  ·subst e
   simp only[if_true,Option.some.injEq] at ht
   subst ht
   rw[Array.getElem?_setIfInBounds_self_of_lt (by have:=h.size;omega)]
  ·rw[if_neg e] at ht
   rw[Array.getElem?_setIfInBounds_ne (fun x=>e x.symm)]
   exact h.get t u ht
theorem Fr.eval {n:Nat} {a:Act} {L:Slots} (h:Fr n a L) {x:Operand} {v:Value} (hx:ev L x=some v):a.eval x=v:=by
 cases x with
 |tmp t=>
  have:=h.get t v hx
  simp[Act.eval,this]
 |const u=>simpa[ev,Act.eval] using hx
 |global g=>simpa[ev,Act.eval] using hx
 |func f=>simpa[ev,Act.eval] using hx
theorem Fr.evals {n:Nat} {a:Act} {L:Slots} (h:Fr n a L):∀{xs:List Operand} {vs:List Value},evs L xs=some vs→xs.map a.eval=vs
 |[],vs,hx=>by simp[evs] at hx;simp[hx]
 |x::xs,vs,hx=>by
  unfold evs at hx
  cases h1:ev L x with
  |none=>simp[h1] at hx
  |some v=>
   simp only[h1] at hx
   cases h2:evs L xs with
   |none=>simp[h2] at hx
   |some us=>
    simp only[h2,Option.some.injEq] at hx
    subst hx
    simp[h.eval h1,h.evals h2]
theorem Fr.sub {n:Nat} {a:Act} {L L':Slots} (h:Fr n a L) (hs:∀t v,lk t L'=some v→lk t L=some v):Fr n a L':=
 ⟨h.size,fun t v ht=>h.get t v (hs t v ht)⟩
def Subs (L:Slots):Slots→Prop
 |[]=>True
 |(d,v)::L'=>lk d L=some v∧Subs L L'
theorem Subs.lk {L:Slots}:∀{L':Slots},Subs L L'→∀t v,SL.lk t L'=some v→SL.lk t L=some v
 |[],_,t,v,h=>by simp[SL.lk] at h
 |(d,u)::L',hs,t,v,h=>by
  rw[lk_cons] at h
  by_cases e:t=d
  ·subst e;simp only[if_true,Option.some.injEq] at h;subst h;exact hs.1
  ·rw[if_neg e] at h;exact Subs.lk hs.2 t v h
def keys (H:Hp):List Nat:=H.flatten.map (·.1)
structure St (w0:World) (S:List Nat) (w:World) (H:Hp):Prop where
 nodup:(keys H).Nodup
 sat:∀p∈H.flatten,w.heap[p.1]? =some p.2
 own:∀k∈keys H,k∈S∨w0.heap.size≤k
 frame:∀b,b<w0.heap.size→b∉S→w.heap[b]? =w0.heap[b]?
 size:w0.heap.size≤w.heap.size
 os:w.os=w0.os
 tape:w.tape=w0.tape
 output:w.output=w0.output
theorem St.perm {w0:World} {S:List Nat} {w:World} {H H':Hp} (h:St w0 S w H) (hp:H.flatten.Perm H'.flatten):St w0 S w H':=
 {h with
  nodup:=(hp.map _).nodup_iff.1 h.nodup
  sat:=fun p hm=>h.sat p (hp.mem_iff.2 hm)
  own:=fun k hm=>h.own k ((hp.map _).mem_iff.2 hm)}
theorem St.drop {w0:World} {S:List Nat} {w:World} {c:Chunk} {H:Hp} (h:St w0 S w (c::H)):St w0 S w H:=
 {h with
  nodup:=by have:=h.nodup;simp[keys] at this⊢;exact(List.nodup_append.1 this).2.1
  sat:=fun p hm=>h.sat p (by simp only[List.flatten_cons,List.mem_append];exact .inr hm)
  own:=fun k hm=>h.own k (by simp only[keys,List.flatten_cons,List.map_append,List.mem_append];exact .inr hm)}
theorem St.subl {w0:World} {S:List Nat} {w:World} {H F:Hp} (h:St w0 S w (H++F)):St w0 S w H:=
 {h with
  nodup:=by have:=h.nodup;simp only[keys,List.flatten_append,List.map_append] at this⊢;exact(List.nodup_append.1 this).1
  sat:=fun p hm=>h.sat p (by simp only[List.flatten_append,List.mem_append];exact .inl hm)
  own:=fun k hm=>h.own k (by simp only[keys,List.flatten_append,List.map_append,List.mem_append] at hm⊢;exact .inl hm)}
theorem St.lt {w0:World} {S:List Nat} {w:World} {H:Hp} (h:St w0 S w H) {p:Nat×Obj} (hp:p∈H.flatten):p.1<w.heap.size:=by
 have:=h.sat p hp
 exact(Array.getElem?_eq_some_iff.1 this).1
theorem St.drew {w0:World} {S:List Nat} {w:World} {H:Hp} (h:St w0 S w H) (n:Nat):St w0 S {w with drawn:=n} H:=
 ⟨h.nodup,h.sat,h.own,h.frame,h.size,h.os,h.tape,h.output⟩
theorem St.alloc {w0:World} {S:List Nat} {w:World} {H:Hp} (h:St w0 S w H) (o:Obj):
  St w0 S {w with heap:=w.heap.push o} ([(w.heap.size,o)]::H) where
 nodup:=by
  have h1:=h.nodup
  simp only[keys,List.flatten_cons,List.map_cons,List.singleton_append,List.nodup_cons]
  refine⟨fun hm=> ?_,h1⟩
  obtain⟨p,hp,he⟩:=List.mem_map.1 hm
  have:=h.lt hp
  omega
 sat:=by
  intro p hp
  simp only[List.flatten_cons,List.singleton_append,List.mem_cons] at hp
  rcases hp with rfl|hp
  ·simp
  ·have:=h.lt hp
   simp only[Array.getElem?_push]
   rw[if_neg (by omega)];exact h.sat p hp
 own:=by
  intro k hk
  simp only[keys,List.flatten_cons,List.singleton_append,List.map_cons,List.mem_cons] at hk
  rcases hk with rfl|hk
  ·right;exact h.size
  ·exact h.own k hk
 frame:=by
  intro b hb hs
  have:=h.size
  simp only[Array.getElem?_push]
  rw[if_neg (by omega)];exact h.frame b hb hs
 size:=by have:=h.size;simp;omega
 os:=h.os
 tape:=h.tape
 output:=h.output
theorem St.set {w0:World} {S:List Nat} {w w':World} {b:Nat} {o o':Obj} {H:Hp} (h:St w0 S w ([(b,o)]::H))
  (hsz:w'.heap.size=w.heap.size) (hb:w'.heap[b]? =some o') (hne:∀k,k≠b→w'.heap[k]? =w.heap[k]?)
  (hos:w'.os=w.os) (htp:w'.tape=w.tape) (hout:w'.output=w.output):St w0 S w' ([(b,o')]::H) where
 nodup:=h.nodup
 sat:=by
  intro p hp
  simp only[List.flatten_cons,List.singleton_append,List.mem_cons] at hp
  have hn:=h.nodup
  simp only[keys,List.flatten_cons,List.singleton_append,List.map_cons,List.nodup_cons] at hn
  rcases hp with rfl|hp
  ·exact hb
  ·rw[hne]
   ·exact h.sat p (by simp only[List.flatten_cons,List.singleton_append,List.mem_cons];exact .inr hp)
   ·rintro rfl
    exact hn.1 (List.mem_map.2 ⟨p,hp,rfl⟩)
 own:=fun k hk=>h.own k (by simpa[keys] using hk)
 frame:=by
  intro k hk hs
  have hown:=h.own b (by simp[keys])
  rw[hne]
  ·exact h.frame k hk hs
  ·rintro rfl
   rcases hown with h1|h1
   ·exact hs h1
   ·omega
 size:=by rw[hsz];exact h.size
 os:=by rw[hos,h.os]
 tape:=by rw[htp,h.tape]
 output:=by rw[hout,h.output]
def OpOk (P:Program) (s:Sem Next) (w:World) (R:Value→World→Prop):Prop:=
 match s.run P w with
 | .ok (.value v) w'=>R v w'
 | .ok .skip w'=>R undef w'
 | .ok (.enter f args) w'=>Calls P f args w' (fun e w''=>∃v,e= .returned v∧R v w'')
 |_=>False
theorem OpOk.mono {P:Program} {s:Sem Next} {w:World} {R R':Value→World→Prop} (h:OpOk P s w R) (hr:∀v w',R v w'→R' v w'):OpOk P s w R':=by
 unfold OpOk at*
 split<;>simp_all
 exact Calls.mono h fun e w' ⟨v,he,hv⟩=>⟨v,he,hr _ _ hv⟩
theorem OpOk.ex {P:Program} {s:Sem Next} {w:World} {R:Value→World→Prop} (h:OpOk P s w R):∃v w',R v w':=by
 unfold OpOk at h
 split at h
 ·exact⟨_,_,h⟩
 ·exact⟨_,_,h⟩
 ·obtain⟨e,w',fr,⟨v,_,hv⟩,_⟩:=h []
  exact⟨v,w',hv⟩
 ·exact h.elim
theorem OpOk.wp {P:Program} {o:Oper} {a:Act} {w:World} {R:Value→World→Prop} {next:Act→World→Prop} {Q:Exit→Act→World→Prop}
  (h:OpOk P (execOp a.eval o) w R) (hr:∀v w',R v w'→next (a.put o.dst v) w'):o.wp P a w next Q:=by
 unfold OpOk at h
 unfold Oper.wp
 split at h
 ·rename_i v w' hq;rw[hq];exact hr _ _ h
 ·rename_i w' hq;rw[hq];exact hr _ _ h
 ·rename_i f args w' hq;rw[hq]
  refine Calls.mono h fun e w'' ⟨v,he,hv⟩=> ?_
  subst he
  exact hr _ _ hv
 ·exact h.elim
inductive Cls where
 |pure|quiet|grow|eff (cross:List Nat)|defer
structure Rd where
 i:Nat
 Pr:Hp→Prop
section region
variable (P:Program) (ops:Array Oper) (Q:Exit→Act→World→Prop) (cls:Nat→Oper→Cls) (w0:World) (S:List Nat)
def QSem (s:Sem Next) (v:Value) (Pr:Hp→Prop):Prop:=
 (∀H H',Pr H→H.flatten.Perm H'.flatten→Pr H')∧(∀c H,Pr H→Pr (c::H))∧
 ∀H w,Pr H→St w0 S w H→OpOk P s w fun v' w'=>v'=v∧St w0 S w' H
def W:List Nat→Act→Hp→List Rd→Prop
 |[],a,H,_=>∀w,St w0 S w H→Q .normal a w
 |i::rest,a,H,qs=>
  match ops[i]? with
  |none=>W rest a H qs
  |some o=>
   if Region.wanted o (yielded ops a.tmps) then
    match cls i o with
    | .pure=>∃v,(∀w,(execOp a.eval o).run P w= .ok (.value v) w)∧W rest (a.put o.dst v) H qs
    | .quiet=>∃v Pr,QSem P w0 S (execOp a.eval o) v Pr∧Pr H∧W rest (a.put o.dst v) H (⟨i,Pr⟩::qs)
    | .grow=>∃(mk:Nat→Value) (ob:Obj),(∀w,(execOp a.eval o).run P w= .ok (.value (mk w.heap.size)) {w with heap:=w.heap.push ob})∧
      ∀b,(∃w,St w0 S w ([(b,ob)]::H))→W rest (a.put o.dst (mk b)) ([(b,ob)]::H) qs
    | .eff cross=>∀w F,St w0 S w (H++F)→OpOk P (execOp a.eval o) w fun v w'=>∃H',St w0 S w' (H'++F)∧
      (∀r∈qs,r.i∈cross→r.Pr H')∧W rest (a.put o.dst v) H' qs
    | .defer=>∃d,(∀w,(execOp a.eval o).run P w= .ok (.defer d) w)∧W rest (({a with defers:=d::a.defers}:Act).put o.dst undef) H qs
   else W rest (a.put o.dst undef) H qs
variable {P ops Q cls w0 S}
theorem W.perm:∀{l:List Nat} {a:Act} {H H':Hp} {qs:List Rd},W P ops Q cls w0 S l a H qs→H.flatten.Perm H'.flatten→W P ops Q cls w0 S l a H' qs
 |[],a,H,H',qs,h,hp=>fun w hw=>h w (hw.perm hp.symm)
 |i::rest,a,H,H',qs,h,hp=>by
  unfold W at*
  cases ho:ops[i]? with
  |none=>simp only[ho] at*;exact W.perm h hp
  |some o=>
   simp only[ho] at*
   split
   ·rename_i hw
    simp only[hw,if_true] at h
    cases hc:cls i o with
    |pure=>simp only[hc] at*;obtain⟨v,h1,h2⟩:=h;exact⟨v,h1,W.perm h2 hp⟩
    |quiet=>simp only[hc] at*;obtain⟨v,Pr,h1,h2,h3⟩:=h;exact⟨v,Pr,h1,h1.1 _ _ h2 hp,W.perm h3 hp⟩
    |grow=>
     simp only[hc] at*;obtain⟨mk,ob,h1,h2⟩:=h
     refine⟨mk,ob,h1,fun b hb=> ?_⟩
     have hq:(([(b,ob)]::H).flatten).Perm (([(b,ob)]::H').flatten):=by simpa using hp.cons (b,ob)
     exact W.perm (h2 b (hb.imp fun w hw=>hw.perm hq.symm)) hq
    |eff cross=>simp only[hc] at*;exact fun w F hw=>h w F (hw.perm (by simpa using hp.symm.append_right F.flatten))
    |defer=>simp only[hc] at*;obtain⟨d,h1,h2⟩:=h;exact⟨d,h1,W.perm h2 hp⟩
   ·rename_i hw
    simp only[hw] at h
    exact W.perm h hp
def Ups (qs:List Rd):Prop:=∀r∈qs,∀c H,r.Pr H→r.Pr (c::H)
theorem Ups.nil:Ups []:=fun _ h=>by cases h
theorem Ups.cons {i:Nat} {v:Value} {s:Sem Next} {Pr:Hp→Prop} {qs:List Rd} (h:QSem P w0 S s v Pr) (hu:Ups qs):Ups (⟨i,Pr⟩::qs):=by
 intro r hr
 rcases List.mem_cons.1 hr with rfl|hr
 ·exact h.2.1
 ·exact hu r hr
theorem St.nilF {w0:World} {S:List Nat} {w:World} {H:Hp}:St w0 S w (H++[])↔St w0 S w H:=by rw[List.append_nil]
theorem W.reads:∀{l:List Nat} {a:Act} {H:Hp} {qs qs':List Rd},W P ops Q cls w0 S l a H qs→(∀r∈qs',r∈qs)→W P ops Q cls w0 S l a H qs'
 |[],a,H,qs,qs',h,hp=>h
 |i::rest,a,H,qs,qs',h,hp=>by
  unfold W at*
  cases ho:ops[i]? with
  |none=>simp only[ho] at*;exact W.reads h hp
  |some o=>
   simp only[ho] at*
   split
   ·rename_i hw
    simp only[hw,if_true] at h
    cases hc:cls i o with
    |pure=>simp only[hc] at*;obtain⟨v,h1,h2⟩:=h;exact⟨v,h1,W.reads h2 hp⟩
    |quiet=>
     simp only[hc] at*;obtain⟨v,Pr,h1,h2,h3⟩:=h
     refine⟨v,Pr,h1,h2,W.reads h3 ?_⟩
     intro r hr
     rcases List.mem_cons.1 hr with rfl|hr
     ·exact List.mem_cons_self
     ·exact List.mem_cons_of_mem _ (hp r hr)
    |grow=>
     simp only[hc] at*;obtain⟨mk,ob,h1,h2⟩:=h
     exact⟨mk,ob,h1,fun b hb=>W.reads (h2 b hb) hp⟩
    |eff cross=>
     simp only[hc] at*
     exact fun w F hw=>(h w F hw).mono fun v w' ⟨H',h1,h2,h3⟩=>⟨H',h1,fun r hr=>h2 r (hp r hr),W.reads h3 hp⟩
    |defer=>simp only[hc] at*;obtain⟨d,h1,h2⟩:=h;exact⟨d,h1,W.reads h2 hp⟩
   ·rename_i hw
    simp only[hw] at h
    exact W.reads h hp
theorem W.step {i:Nat} {rest:List Nat} {a:Act} {H:Hp} {qs:List Rd} (h:W P ops Q cls w0 S (i::rest) a H qs) (hup:Ups qs) {w:World} (hw:St w0 S w H)
  {next:Act→World→Prop} (hn:∀a' w' H' qs',St w0 S w' H'→Ups qs'→W P ops Q cls w0 S rest a' H' qs'→next a' w'):wpOp P ops Q i next a w:=by
 unfold W at h
 unfold wpOp
 cases ho:ops[i]? with
 |none=>simp only[ho] at*;exact hn _ _ _ _ hw hup h
 |some o=>
  simp only[ho] at*
  split
  ·rename_i hwa
   simp only[hwa,if_true] at h
   left
   cases hc:cls i o with
   |pure=>
    simp only[hc] at h;obtain⟨v,h1,h2⟩:=h
    simp only[Oper.wp,h1 w,Oper.upon]
    exact hn _ _ _ _ hw hup h2
   |quiet=>
    simp only[hc] at h;obtain⟨v,Pr,h1,h2,h3⟩:=h
    exact(h1.2.2 H w h2 hw).wp fun v' w' ⟨e,hs⟩=>hn _ _ _ _ hs (hup.cons h1) (e▸h3)
   |grow=>
    simp only[hc] at h;obtain⟨mk,ob,h1,h2⟩:=h
    simp only[Oper.wp,h1 w,Oper.upon]
    exact hn _ _ _ _ (hw.alloc ob) hup (h2 _ ⟨_,hw.alloc ob⟩)
   |eff cross=>
    simp only[hc] at h
    exact(h w [] (St.nilF.2 hw)).wp fun v' w' ⟨H',hs,_,h3⟩=>hn _ _ _ _ (St.nilF.1 hs) hup h3
   |defer=>
    simp only[hc] at h;obtain⟨d,h1,h2⟩:=h
    simp only[Oper.wp,h1 w,Oper.upon]
    exact hn _ _ _ _ hw hup h2
  ·rename_i hwa
   simp only[hwa] at h
   exact hn _ _ _ _ hw hup h
theorem W.text:∀{l:List Nat} {a:Act} {H:Hp} {qs:List Rd},W P ops Q cls w0 S l a H qs→Ups qs→∀{w:World},St w0 S w H→wpOps P ops Q l a w
 |[],_,_,_,h,_,w,hw=>h w hw
 |i::rest,a,H,qs,h,hup,w,hw=>by
  rw[wpOps_cons]
  exact h.step hup hw fun a' w' H' qs' hs hu hW=>W.text hW hu hs
theorem W.plain {id:Nat} {a:Act} {H:Hp} (h:W P ops Q cls w0 S (List.range ops.size) a H []) {w:World} (hw:St w0 S w H):
  (Code.region id ops false).wp P Q a w:=wp_region (h.text Ups.nil hw)
def pairOk (k:Nat) (x y:Cls):Bool:=
 match x,y with
 | .defer,_|_,.defer=>false
 | .pure,_|_,.pure=>true
 | .quiet,.quiet| .quiet,.grow| .grow,.grow=>true
 | .quiet,.eff cross=>cross.contains k
 | .eff _,.grow=>true
 |_,_=>false
def swapOk (ops:Array Oper) (cls:Nat→Oper→Cls) (k i:Nat):Bool:=
 match ops[k]?,ops[i]? with
 |some ok,some oi=>ok.apart ops oi&&pairOk k (cls k ok) (cls i oi)&&Region.noSelect #[ok,oi]
 |_,_=>true
theorem run_put {ops:Array Oper} (o:Oper) (hs:∀cs b,o.op≠.select cs b) (a:Act) (dst:Option Tmp) (v:Value) (h:∀d,dst=some d→d∉o.looksAt ops):
  execOp (a.put dst v).eval o=execOp a.eval o:=execOp_put (ops:=ops) o hs a dst v h
theorem grow_same {s:Sem Next} {mk mk':Nat→Value} {ob ob':Obj} (h:∀w,s.run P w= .ok (.value (mk w.heap.size)) {w with heap:=w.heap.push ob})
  (h':∀w,s.run P w= .ok (.value (mk' w.heap.size)) {w with heap:=w.heap.push ob'}):mk=mk'∧ob=ob':=by
 constructor
 ·funext n
  have:=(h {(default:World) with heap:=Array.replicate n ob}).symm.trans (h' _)
  simp only[Array.size_replicate,Result.ok.injEq,Next.value.injEq] at this
  exact this.1
 ·have:=(h default).symm.trans (h' default)
  simp only[Result.ok.injEq,Next.value.injEq,World.mk.injEq] at this
  have h2:=this.2.1
  have h3:=congrArg Array.back? h2
  simpa using h3
theorem W.swap {k i:Nat} {rest:List Nat} {a:Act} {H:Hp} {qs:List Rd} (h:W P ops Q cls w0 S (k::i::rest) a H qs)
  (hok:swapOk ops cls k i=true) (hup:Ups qs) (hex:∃w,St w0 S w H):W P ops Q cls w0 S (i::k::rest) a H qs:=by
 unfold swapOk at hok
 cases hk:ops[k]? with
 |none=>
  unfold W at h⊢
  simp only[hk] at h
  unfold W at h
  cases hi:ops[i]? with
  |none=>simp only[hi] at h⊢;unfold W;simp only[hk];exact h
  |some oi=>
   simp only[hi] at h⊢
   split
   ·rename_i hw
    simp only[hw,if_true] at h
    cases hc:cls i oi with
    |pure=>simp only[hc] at h⊢;obtain⟨v,h1,h2⟩:=h;refine⟨v,h1,?_⟩;unfold W;simp only[hk];exact h2
    |quiet=>simp only[hc] at h⊢;obtain⟨v,Pr,h1,h2,h3⟩:=h;refine⟨v,Pr,h1,h2,?_⟩;unfold W;simp only[hk];exact h3
    |grow=>simp only[hc] at h⊢;obtain⟨mk,ob,h1,h2⟩:=h;refine⟨mk,ob,h1,fun b hb=> ?_⟩;unfold W;simp only[hk];exact h2 b hb
    |eff cross=>
     simp only[hc] at h⊢
     exact fun w F hw=>(h w F hw).mono fun v w' ⟨H',h1,h2,h3⟩=>⟨H',h1,h2,by unfold W;simp only[hk];exact h3⟩
    |defer=>simp only[hc] at h⊢;obtain⟨d,h1,h2⟩:=h;refine⟨d,h1,?_⟩;unfold W;simp only[hk];exact h2
   ·rename_i hw
    simp only[hw] at h
    unfold W;simp only[hk];exact h
 |some ok=>
  cases hi:ops[i]? with
  |none=>
   unfold W at h⊢
   simp only[hk] at h
   simp only[hi]
   unfold W
   simp only[hk]
   split
   ·rename_i hw
    simp only[hw,if_true] at h
    cases hc:cls k ok with
    |pure=>simp only[hc] at h⊢;obtain⟨v,h1,h2⟩:=h;refine⟨v,h1,?_⟩;unfold W at h2;simp only[hi] at h2;exact h2
    |quiet=>simp only[hc] at h⊢;obtain⟨v,Pr,h1,h2,h3⟩:=h;refine⟨v,Pr,h1,h2,?_⟩;unfold W at h3;simp only[hi] at h3;exact h3
    |grow=>simp only[hc] at h⊢;obtain⟨mk,ob,h1,h2⟩:=h;refine⟨mk,ob,h1,fun b hb=> ?_⟩;have h2:=h2 b hb;unfold W at h2;simp only[hi] at h2;exact h2
    |eff cross=>
     simp only[hc] at h⊢
     exact fun w F hw=>(h w F hw).mono fun v w' ⟨H',h1,h2,h3⟩=>⟨H',h1,h2,by unfold W at h3;simp only[hi] at h3;exact h3⟩
    |defer=>simp only[hc] at h⊢;obtain⟨d,h1,h2⟩:=h;refine⟨d,h1,?_⟩;unfold W at h2;simp only[hi] at h2;exact h2
   ·rename_i hw
    simp only[hw] at h
    unfold W at h;simp only[hi] at h;exact h
  |some oi=>
   simp only[hk,hi,Bool.and_eq_true] at hok
   obtain⟨⟨hap,hpair⟩,hsel⟩:=hok
   have hsk:∀cs b,ok.op≠.select cs b:=fun cs b=>Region.noSelect_spec hsel 0 ok cs b rfl
   have hsi:∀cs b,oi.op≠.select cs b:=fun cs b=>Region.noSelect_spec hsel 1 oi cs b rfl
   obtain⟨ap1,ap2,ap3⟩:=Oper.apart_spec hap
   have hne':∀d,ok.dst=some d→oi.dst≠some d:=ap2
   have ei:∀(a:Act) v,execOp (a.put ok.dst v).eval oi=execOp a.eval oi:=fun a v=>run_put oi hsi a ok.dst v ap1
   have ek:∀(a:Act) v,execOp (a.put oi.dst v).eval ok=execOp a.eval ok:=fun a v=>run_put ok hsk a oi.dst v ap3
   have wi:∀(a:Act) v,Region.wanted oi (yielded ops (a.put ok.dst v).tmps)=Region.wanted oi (yielded ops a.tmps):=fun a v=>wanted_put oi a ok.dst v ap1
   have wk:∀(a:Act) v,Region.wanted ok (yielded ops (a.put oi.dst v).tmps)=Region.wanted ok (yielded ops a.tmps):=fun a v=>wanted_put ok a oi.dst v ap3
   have pc:∀(a:Act) v u,(a.put ok.dst v).put oi.dst u=(a.put oi.dst u).put ok.dst v:=fun a v u=>Act.put_comm a v u hne'
   unfold W at h⊢
   simp only[hk] at h
   simp only[hi]
   unfold W at h⊢
   simp only[hi] at h
   simp only[hk,wk,ek]
   simp only[wi,ei,pc] at h
   by_cases hwk:Region.wanted ok (yielded ops a.tmps)=true<;>by_cases hwi:Region.wanted oi (yielded ops a.tmps)=true
   ·simp only[hwk,hwi,if_true] at h⊢
    unfold pairOk at hpair
    cases hck:cls k ok with
    |defer=>simp[hck] at hpair
    |pure=>
     simp only[hck] at h hpair⊢
     obtain⟨v,h1,h2⟩:=h
     cases hci:cls i oi with
     |defer=>simp[hci] at hpair
     |pure=>simp only[hci] at h2⊢;obtain⟨u,h3,h4⟩:=h2;exact⟨u,h3,v,h1,h4⟩
     |quiet=>simp only[hci] at h2⊢;obtain⟨u,Pr,h3,h4,h5⟩:=h2;exact⟨u,Pr,h3,h4,v,h1,h5⟩
     |grow=>simp only[hci] at h2⊢;obtain⟨mk,ob,h3,h4⟩:=h2;exact⟨mk,ob,h3,fun b hb=>⟨v,h1,h4 b hb⟩⟩
     |eff cross=>
      simp only[hci] at h2⊢
      exact fun w F hw=>(h2 w F hw).mono fun u w' ⟨H',h3,h4,h5⟩=>⟨H',h3,h4,v,h1,h5⟩
    |quiet=>
     simp only[hck] at h hpair⊢
     obtain⟨v,Pr,h1,h2,h3⟩:=h
     cases hci:cls i oi with
     |defer=>simp[hci] at hpair
     |pure=>simp only[hci] at h3⊢;obtain⟨u,h4,h5⟩:=h3;exact⟨u,h4,v,Pr,h1,h2,h5⟩
     |quiet=>
      simp only[hci] at h3⊢;obtain⟨u,Pr',h4,h5,h6⟩:=h3
      refine⟨u,Pr',h4,h5,v,Pr,h1,h2,h6.reads ?_⟩
      intro r hr
      simp only[List.mem_cons] at hr⊢
      rcases hr with hr|hr|hr
      ·exact .inr (.inl hr)
      ·exact .inl hr
      ·exact .inr (.inr hr)
     |grow=>simp only[hci] at h3⊢;obtain⟨mk,ob,h4,h5⟩:=h3;exact⟨mk,ob,h4,fun b hb=>⟨v,Pr,h1,h1.2.1 _ _ h2,h5 b hb⟩⟩
     |eff cross=>
      simp only[hci] at h3 hpair⊢
      refine fun w F hw=>(h3 w F hw).mono fun u w' ⟨H',h4,h5,h6⟩=>⟨H',h4,fun r hr=>h5 r (List.mem_cons_of_mem _ hr),v,Pr,h1,?_,h6⟩
      exact h5 ⟨k,Pr⟩ List.mem_cons_self (by simpa using hpair)
    |grow=>
     simp only[hck] at h hpair⊢
     obtain⟨mk,ob,h1,h2⟩:=h
     cases hci:cls i oi with
     |defer=>simp[hci] at hpair
     |pure=>
      simp only[hci] at h2⊢
      obtain⟨w1,hw1⟩:=hex
      obtain⟨u,h3,h4⟩:=h2 w1.heap.size ⟨_,hw1.alloc ob⟩
      refine⟨u,h3,mk,ob,h1,fun b hb=> ?_⟩
      obtain⟨u',h5,h6⟩:=h2 b hb
      have:=(h3 default).symm.trans (h5 default)
      simp only[Result.ok.injEq,Next.value.injEq,and_true] at this
      subst this;exact h6
     |quiet=>simp[hci] at hpair
     |grow=>
      simp only[hci] at h2⊢
      obtain⟨w1,hw1⟩:=hex
      obtain⟨mk',ob',h3,_⟩:=h2 w1.heap.size ⟨_,hw1.alloc ob⟩
      refine⟨mk',ob',h3,fun b' _=>⟨mk,ob,h1,fun b ⟨w,hb⟩=> ?_⟩⟩
      have hb2:St w0 S w ([(b',ob')]::[(b,ob)]::H):=hb.perm (by simpa using List.Perm.swap (b',ob') (b,ob) H.flatten)
      obtain⟨mk2,ob2,h5,h6⟩:=h2 b ⟨w,hb2.drop⟩
      obtain⟨e1,e2⟩:=grow_same h3 h5
      subst e1 e2
      exact(h6 b' ⟨w,hb2⟩).perm (by simpa using List.Perm.swap (b,ob) (b',ob') H.flatten)
     |eff cross=>simp[hci] at hpair
    |eff cross=>
     simp only[hck] at h hpair⊢
     cases hci:cls i oi with
     |defer=>simp[hci] at hpair
     |pure=>
      simp only[hci] at h⊢
      obtain⟨w1,hw1⟩:=hex
      obtain⟨_,_,_,_,_,u,h3,_⟩:=(h w1 [] (St.nilF.2 hw1)).ex
      refine⟨u,h3,fun w F hw=>(h w F hw).mono fun v w' ⟨H',h4,h5,u',h6,h7⟩=>⟨H',h4,h5,?_⟩⟩
      have:=(h3 default).symm.trans (h6 default)
      simp only[Result.ok.injEq,Next.value.injEq,and_true] at this
      subst this;exact h7
     |quiet=>simp[hci] at hpair
     |grow=>
      simp only[hci] at h⊢
      obtain⟨w1,hw1⟩:=hex
      obtain⟨_,_,_,_,_,mk,ob,h3,_⟩:=(h w1 [] (St.nilF.2 hw1)).ex
      refine⟨mk,ob,h3,fun b _ w F hw=> ?_⟩
      have hw2:St w0 S w (H++([(b,ob)]::F)):=hw.perm (by simpa using List.perm_middle.symm)
      refine(h w ([(b,ob)]::F) hw2).mono fun v w' ⟨H',h4,h5,mk',ob',h6,h7⟩=> ?_
      obtain⟨e1,e2⟩:=grow_same h3 h6
      subst e1 e2
      have hs:St w0 S w' (([(b,ob)]::H')++F):=h4.perm (by simpa using List.perm_middle)
      exact⟨[(b,ob)]::H',hs,fun r hr hc=>hup r hr _ _ (h5 r hr hc),h7 b ⟨w',hs.subl⟩⟩
     |eff cross'=>simp[hci] at hpair
   ·simp only[hwk,hwi,if_true] at h⊢
    unfold pairOk at hpair
    cases hck:cls k ok with
    |defer=>simp[hck] at hpair
    |pure=>simp only[hck] at h⊢;exact h
    |quiet=>simp only[hck] at h⊢;exact h
    |grow=>simp only[hck] at h⊢;exact h
    |eff cross=>simp only[hck] at h⊢;exact h
   ·simp only[hwk,hwi,if_true] at h⊢
    unfold pairOk at hpair
    cases hci:cls i oi with
    |defer=>exfalso;cases hck:cls k ok<;>simp[hci,hck] at hpair
    |pure=>simp only[hci] at h⊢;exact h
    |quiet=>simp only[hci] at h⊢;exact h
    |grow=>simp only[hci] at h⊢;exact h
    |eff cross=>simp only[hci] at h⊢;exact h
   ·simp only[hwk,hwi] at h⊢
    exact h
theorem W.cons_congr {k:Nat} {l l':List Nat} {a:Act} {H:Hp} {qs:List Rd} (h:W P ops Q cls w0 S (k::l) a H qs) (hex:∃w,St w0 S w H)
  (hup:Ups qs) (hc:∀a H qs,(∃w,St w0 S w H)→Ups qs→W P ops Q cls w0 S l a H qs→W P ops Q cls w0 S l' a H qs):W P ops Q cls w0 S (k::l') a H qs:=by
 unfold W at h⊢
 cases ho:ops[k]? with
 |none=>simp only[ho] at h⊢;exact hc _ _ _ hex hup h
 |some o=>
  simp only[ho] at h⊢
  split
  ·rename_i hw
   simp only[hw,if_true] at h
   cases hcl:cls k o with
   |pure=>simp only[hcl] at h⊢;obtain⟨v,h1,h2⟩:=h;exact⟨v,h1,hc _ _ _ hex hup h2⟩
   |quiet=>simp only[hcl] at h⊢;obtain⟨v,Pr,h1,h2,h3⟩:=h;exact⟨v,Pr,h1,h2,hc _ _ _ hex (hup.cons h1) h3⟩
   |grow=>simp only[hcl] at h⊢;obtain⟨mk,ob,h1,h2⟩:=h;exact⟨mk,ob,h1,fun b hb=>hc _ _ _ hb hup (h2 b hb)⟩
   |eff cross=>
    simp only[hcl] at h⊢
    exact fun w F hw=>(h w F hw).mono fun v w' ⟨H',h1,h2,h3⟩=>⟨H',h1,h2,hc _ _ _ ⟨_,h1.subl⟩ hup h3⟩
   |defer=>simp only[hcl] at h⊢;obtain⟨d,h1,h2⟩:=h;exact⟨d,h1,hc _ _ _ hex hup h2⟩
  ·rename_i hw
   simp only[hw] at h
   exact hc _ _ _ hex hup h
theorem W.front {i:Nat} {l2:List Nat}:∀{l1:List Nat} {a:Act} {H:Hp} {qs:List Rd},W P ops Q cls w0 S (l1++i::l2) a H qs→
  Ups qs→(∃w,St w0 S w H)→(∀k∈l1,swapOk ops cls k i=true)→W P ops Q cls w0 S (i::(l1++l2)) a H qs
 |[],_,_,_,h,_,_,_=>h
 |k::l1,a,H,qs,h,hup,hex,hok=>by
  have h1:W P ops Q cls w0 S (k::i::(l1++l2)) a H qs:=
   W.cons_congr h hex hup fun a H qs hx hu hW=>W.front hW hu hx fun j hj=>hok j (List.mem_cons_of_mem _ hj)
  exact h1.swap (hok k List.mem_cons_self) hup hex
def preds (ops:Array Oper) (i:Nat):List Nat:=
 match ops[i]? with
 |some o=>(o.after.toList.filter (Region.binds .any)).map (·.on)
 |none=>[]
def reach (ops:Array Oper):Nat→Nat→Nat→Bool
 |0,j,x=>(preds ops j).contains x
 |n+1,j,x=>(preds ops j).contains x||(preds ops j).any fun p=>reach ops n p x
def orderOk (ops:Array Oper) (cls:Nat→Oper→Cls):List Nat→List Nat→Bool
 |_,[]=>true
 |done,i::rest=>
  ((preds ops i).all (fun p=>done.contains p)&&
  rest.all (fun j=>j !=i&&(reach ops rest.length j i||swapOk ops cls i j)))&&orderOk ops cls (i::done) rest
def drawOk (ops:Array Oper) (cls:Nat→Oper→Cls) (ord:List Nat):Bool:=
 (List.range ops.size).all (fun i=>ord.contains i)&&decide (ord.length≤ops.size)&&ord.all (fun i=>decide (i<ops.size))&&orderOk ops cls [] ord
theorem sublist_pair {x y:Nat}:∀{l:List Nat},(x::y::[]).Sublist l→∃s t,l=s++x::t∧y∈t
 |[],h=>by cases h
 |z::l,h=>by
  cases h with
  |cons _ h=>obtain⟨s,t,rfl,hy⟩:=sublist_pair h;exact⟨z::s,t,rfl,hy⟩
  |cons_cons _ h=>exact⟨[],l,rfl,List.singleton_sublist.1 h⟩
inductive Anc (ops:Array Oper):Nat→Nat→Prop
 |one {j x:Nat}:x∈preds ops j→Anc ops j x
 |step {j p x:Nat}:p∈preds ops j→Anc ops p x→Anc ops j x
theorem reach_anc:∀(n:Nat) (j x:Nat),reach ops n j x=true→Anc ops j x
 |0,j,x,h=>by
  simp only[reach] at h
  exact .one (by simpa using h)
 |n+1,j,x,h=>by
  simp only[reach,Bool.or_eq_true,List.any_eq_true] at h
  rcases h with h|⟨p,hp,h⟩
  ·exact .one (by simpa using h)
  ·exact .step hp (reach_anc n p x h)
theorem anc_listed {listed:Nat→Prop} (hcl:∀j,listed j→∀p∈preds ops j,listed p) {j x:Nat} (h:Anc ops j x):(∀p∈preds ops j,listed p)→listed x:=by
 induction h with
 |one hx=>exact fun hp=>hp _ hx
 |step hp _ ih=>exact fun hq=>ih (hcl _ (hq _ hp))
theorem orderOk_spec:∀{l done:List Nat},orderOk ops cls done l=true→∀l1 x l2,l=l1++x::l2→
  (∀p∈preds ops x,p∈done∨p∈l1)∧∀j∈l2,j≠x∧(Anc ops j x∨swapOk ops cls x j=true)
 |[],_,_,l1,x,l2,he=>by cases l1<;>simp at he
 |i::rest,done,h,l1,x,l2,he=>by
  simp only[orderOk,Bool.and_eq_true,List.all_eq_true,List.contains_iff_mem,bne_iff_ne,Bool.or_eq_true] at h
  obtain⟨⟨h1,h2⟩,h3⟩:=h
  cases l1 with
  |nil=>
   simp only[List.nil_append,List.cons.injEq] at he
   obtain⟨rfl,rfl⟩:=he
   exact⟨fun p hp=> .inl (h1 p hp),fun j hj=>⟨(h2 j hj).1,(h2 j hj).2.imp (reach_anc _ _ _) id⟩⟩
  |cons y l1=>
   simp only[List.cons_append,List.cons.injEq] at he
   obtain⟨rfl,rfl⟩:=he
   obtain⟨h4,h5⟩:=orderOk_spec h3 l1 x l2 rfl
   refine⟨fun p hp=> ?_,h5⟩
   rcases h4 p hp with h|h
   ·rcases List.mem_cons.1 h with rfl|h
    ·exact .inr List.mem_cons_self
    ·exact .inl h
   ·exact .inr (List.mem_cons_of_mem _ h)
theorem orderOk_nodup:∀{l done:List Nat},orderOk ops cls done l=true→l.Nodup
 |[],_,_=>List.nodup_nil
 |i::rest,done,h=>by
  simp only[orderOk,Bool.and_eq_true,List.all_eq_true,bne_iff_ne] at h
  exact List.nodup_cons.2 ⟨fun hm=>(h.1.2 i hm).1 rfl,orderOk_nodup h.2⟩
theorem W.any {ord:List Nat} (hord:orderOk ops cls [] ord=true) (hall:∀i,i<ops.size→i∈ord) (hlt:∀i∈ord,i<ops.size):
  ∀(fuel:Nat) (listed:Array Bool) (a:Act) (H:Hp) (qs:List Rd),Ups qs→listed.size=ops.size→
   (∀j,listed.getD j false=true→∀p∈preds ops j,listed.getD p false=true)→
   (ord.filter fun j=> !listed.getD j true).length≤fuel→W P ops Q cls w0 S (ord.filter fun j=> !listed.getD j true) a H qs→
   ∀w,St w0 S w H→wpAny P .any ops Q fuel listed a w:=by
 have hready:∀(listed:Array Bool) i,i∈Region.ready .any ops listed→listed.getD i true=false∧i<ops.size∧∀p∈preds ops i,listed.getD p false=true:=by
  intro listed i hi
  obtain⟨h1,o,ho,h2⟩:=mem_ready.1 hi
  refine⟨h1,(Array.getElem?_eq_some_iff.1 ho).1,fun p hp=> ?_⟩
  simp only[preds,ho,List.mem_map,List.mem_filter,Array.mem_toList_iff] at hp
  obtain⟨e,⟨he,hb⟩,rfl⟩:=hp
  exact h2 e he hb
 have hnil:∀(listed:Array Bool),listed.size=ops.size→(ord.filter fun j=> !listed.getD j true)=[]→Region.ready .any ops listed=[]:=by
  intro listed hsz hl
  rw[List.eq_nil_iff_forall_not_mem]
  intro i hi
  obtain⟨h1,h2,_⟩:=hready listed i hi
  have:i∈ord.filter fun j=> !listed.getD j true:=List.mem_filter.2 ⟨hall i h2,by rw[h1];rfl⟩
  rw[hl] at this;cases this
 have hsome:∀(listed:Array Bool),listed.size=ops.size→∀x l,(ord.filter fun j=> !listed.getD j true)=x::l→x∈Region.ready .any ops listed:=by
  intro listed hsz x l hl
  obtain⟨l1,l2,hsp,hno,hx,-⟩:=List.filter_eq_cons_iff.1 hl
  have hxlt:=hlt x (by rw[hsp];simp)
  refine mem_ready.2 ⟨by simpa using hx,ops[x],Array.getElem?_eq_getElem hxlt,fun e he hb=> ?_⟩
  have hp:e.on∈preds ops x:=by
   simp only[preds,Array.getElem?_eq_getElem hxlt,List.mem_map,List.mem_filter,Array.mem_toList_iff]
   exact⟨e,⟨he,hb⟩,rfl⟩
  rcases(orderOk_spec hord l1 x l2 hsp).1 _ hp with h|h
  ·cases h
  ·have h1:=hno _ h
   have h2:=hlt e.on (by rw[hsp];simp[h])
   simp only[Bool.not_eq_true,Bool.not_eq_false'] at h1
   simp only[Array.getD_eq_getD_getElem?,Array.getElem?_eq_getElem (show e.on<listed.size by omega),Option.getD_some] at h1⊢
   exact h1
 intro fuel
 induction fuel with
 |zero=>
  intro listed a H qs hup hsz hcl hlen hW w hw
  have hl:(ord.filter fun j=> !listed.getD j true)=[]:=List.length_eq_zero_iff.1 (Nat.le_zero.1 hlen)
  rw[hl] at hW
  exact⟨hnil listed hsz hl,hW w hw⟩
 |succ fuel ih=>
  intro listed a H qs hup hsz hcl hlen hW w hw
  refine⟨fun hr=> ?_,fun i hi=> ?_⟩
  ·cases hl:(ord.filter fun j=> !listed.getD j true) with
   |nil=>rw[hl] at hW;exact hW w hw
   |cons x l=>
    have:=hsome listed hsz x l hl
    rw[hr] at this;cases this
  ·obtain⟨hun,hilt,hpre⟩:=hready listed i hi
   have hmem:i∈ord.filter fun j=> !listed.getD j true:=List.mem_filter.2 ⟨hall i hilt,by rw[hun];rfl⟩
   obtain⟨l1,l2,hsp⟩:=List.append_of_mem hmem
   have hnd:(l1++i::l2).Nodup:=hsp▸(orderOk_nodup hord).sublist List.filter_sublist
   have hsw:∀k∈l1,swapOk ops cls k i=true:=by
    intro k hk
    have hsub:(k::i::[]).Sublist ord:=by
     have h1:(k::i::[]).Sublist (l1++i::l2):=by
      obtain⟨s,t,rfl⟩:=List.append_of_mem hk
      simp only[List.append_assoc,List.cons_append]
      refine List.Sublist.trans ?_ (List.sublist_append_right s _)
      exact(List.Sublist.cons_cons _ (List.Sublist.trans (List.Sublist.cons_cons _ (List.nil_sublist l2)) (List.sublist_append_right t _)))
     rw[←hsp] at h1
     exact h1.trans List.filter_sublist
    obtain⟨s,t,hst,hit⟩:=sublist_pair hsub
    rcases((orderOk_spec hord s k t hst).2 i hit).2 with h|h
    ·exfalso
     have:=anc_listed (listed:=fun j=>listed.getD j false=true) hcl h hpre
     have hkun:listed.getD k true=false:=by
      have:k∈ord.filter fun j=> !listed.getD j true:=by rw[hsp];simp[hk]
      simpa using(List.mem_filter.1 this).2
     have hklt:k<listed.size:=by
      have:=hlt k (List.mem_filter.1 (show k∈ord.filter fun j=> !listed.getD j true by rw[hsp];simp[hk])).1;omega
     simp only[Array.getD_eq_getD_getElem?,Array.getElem?_eq_getElem hklt,Option.getD_some] at this hkun
     rw[this] at hkun;cases hkun
    ·exact h
   rw[hsp] at hW
   have hF:=W.front hW hup ⟨w,hw⟩ hsw
   have hnew:(ord.filter fun j=> !(listed.setIfInBounds i true).getD j true)=l1++l2:=by
    have h1:(ord.filter fun j=> !(listed.setIfInBounds i true).getD j true)=(ord.filter fun j=> !listed.getD j true).filter (·!=i):=by
     rw[List.filter_filter]
     apply List.filter_congr
     intro j _
     by_cases hji:j=i
     ·subst hji
      simp[show j<listed.size by omega]
     ·rw[getD_set_ne true (Ne.symm hji)]
      simp[hji]
    rw[h1,hsp]
    obtain⟨hn1,hn2,hn3⟩:=List.nodup_append.1 hnd
    have hi1:i∉l1:=fun h=>hn3 i h i (by simp) rfl
    have hi2:i∉l2:=(List.nodup_cons.1 hn2).1
    have f1:l1.filter (·!=i)=l1:=List.filter_eq_self.2 fun x hx=>by have hxi:x≠i:=fun e=>hi1 (e▸hx);simpa using hxi
    have f2:l2.filter (·!=i)=l2:=List.filter_eq_self.2 fun x hx=>by have hxi:x≠i:=fun e=>hi2 (e▸hx);simpa using hxi
    simp[List.filter_append,f1,f2]
   refine hF.step hup hw fun a' w' H' qs' hs hu' hW'=> ?_
   refine ih (listed.setIfInBounds i true) a' H' qs' hu' (by simp[hsz]) ?_ (by rw[hnew];have:=congrArg List.length hsp;rw[List.length_append,List.length_cons] at this;rw[List.length_append];omega) (by rw[hnew];exact hW') w' hs
   intro j hj p hp
   by_cases hji:j=i
   ·subst hji;exact getD_set_true (hpre p hp)
   ·rw[getD_set_ne false (Ne.symm hji)] at hj
    exact getD_set_true (hcl j hj p hp)
theorem W.draw {id:Nat} {a:Act} {H:Hp} (ord:List Nat) (hm:P.follows .mixedOrders=true) (hord:drawOk ops cls ord=true) (h:W P ops Q cls w0 S ord a H [])
  {w:World} (hw:St w0 S w H):(Code.region id ops true).wp P Q a w:=by
 simp only[drawOk,Bool.and_eq_true,List.all_eq_true,List.contains_iff_mem,decide_eq_true_eq,List.mem_range] at hord
 obtain⟨⟨⟨h1,h4⟩,h2⟩,h3⟩:=hord
 have hf:(ord.filter fun j=> !(Array.replicate ops.size false).getD j true)=ord:=by
  apply List.filter_eq_self.2
  intro j hj
  simp[h2 j hj]
 refine wp_region_any hm (W.any h3 h1 h2 ops.size _ a H [] Ups.nil (by simp) ?_ ?_ (by rw[hf];exact h) _ (hw.drew _))
 ·intro j hj
  simp[Array.getD_eq_getD_getElem?,Array.getElem?_replicate] at hj
  split at hj<;>simp at hj
 ·rw[hf];exact h4
end region
end Go.SL
