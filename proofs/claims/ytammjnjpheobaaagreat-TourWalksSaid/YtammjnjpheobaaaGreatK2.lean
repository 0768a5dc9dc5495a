/-
  Parts of the proof, put together: Sl2. No condition.
-/
import Derived.ChangeKeysEq
import Derived.Laws.Alloc2
import Derived.Laws.Append
import Derived.Laws.AppendOwn
import Derived.Laws.Build
import Derived.Laws.CopyOwn
import Derived.Laws.MakeOwn
import Derived.Laws.Pointers
import Derived.Laws.Rows
import Derived.Laws.Slices
import Derived.Laws.Small
import Derived.Laws.StructEq
import Derived.Laws.Tables
import Derived.Laws.Unary
import Derived.Test.YtammjnjpheobaaaGreatK1
set_option linter.unusedVariables false
set_option linter.unusedSimpArgs false
set_option linter.unnecessarySimpa false
set_option maxHeartbeats 4000000
namespace Go.SL
open Go.RowKit
theorem nle {a b:Nat} (h:Nat.ble a b=true):a≤b:=Nat.le_of_ble_eq_true h
@[irreducible] def dec (p:Prop) [Decidable p]:Bool:=decide p
theorem dec_eq (p:Prop) [Decidable p]:dec p=decide p:=by unfold dec;rfl
theorem dec_iff {p:Prop} [Decidable p]:dec p=true↔p:=by rw[dec_eq];exact decide_eq_true_iff
theorem dec_true {p:Prop} [Decidable p] (h:p):dec p=true:=dec_iff.2 h
theorem dec_false {p:Prop} [Decidable p] (h:¬p):dec p=false:=by rw[dec_eq];exact decide_eq_false h
theorem dec_congr {p q:Prop} [Decidable p] [Decidable q] (h:p↔q):dec p=dec q:=by rw[dec_eq,dec_eq];exact decide_eq_decide.2 h
def row (cs:List Value) (T:TypeId):Obj:= .cells cs.toArray T (0,0)
def rowf (cs:List Value) (T:TypeId) (fz:Nat×Nat):Obj:= .cells cs.toArray T fz
def dstOf (ops:Array Oper) (j:Nat):Option Tmp:=(ops[j]?).bind (·.dst)
def Want (ops:Array Oper) (L:Slots):Option (Nat×Bool)→Prop
 |none=>True
 |some (j,b)=>∃t,dstOf ops j=some t∧lk t L=some (.bool b)
def addSlot (L:Slots) (v:Value):Option Tmp→Slots
 |some d=>(d,v)::L
 |none=>L
def okDst (n:Nat):Option Tmp→Prop
 |some d=>d<n
 |none=>True
def annLk (i:Nat):List (Nat×Cls)→Option Cls
 |[]=>none
 |(j,c)::l=>match Nat.beq i j with|true=>some c|false=>annLk i l
def kind:Op→Cls
 | .load .. => .quiet
 | .alloc .. | .box .. | .buildSlice .. | .makeMap .. | .makeSlice .. => .grow
 | .store .. | .lookup .. | .mapUpdate .. | .insert .. | .range .. | .next .. | .entry .. => .eff []
 | .call {callee:= .builtin .len,..}| .call {callee:= .builtin .cap,..}| .call {callee:= .builtin .max,..}| .call {callee:= .builtin .min,..}=> .pure
 | .call .. => .eff []
 | .defer .. => .defer
 |_=> .pure
def std (ann:List (Nat×Cls)) (i:Nat) (o:Oper):Cls:=
 match annLk i ann with
 |some c=>c
 |none=>kind o.op
def enum:Nat→List Oper→List (Nat×Oper)
 |_,[]=>[]
 |k,o::os=>(k,o)::enum (k+1) os
theorem enum_get:∀(os:List Oper) (k:Nat) (p:Nat×Oper),p∈enum k os→k≤p.1∧os[p.1-k]? =some p.2
 |[],k,p,h=>by simp[enum] at h
 |o::os,k,p,h=>by
  simp only[enum,List.mem_cons] at h
  rcases h with rfl|h
  ·simp
  ·obtain⟨h1,h2⟩:=enum_get os (k+1) p h
   refine⟨by omega,?_⟩
   have:p.1-k=(p.1-(k+1))+1:=by omega
   rw[this];simpa using h2
theorem enum_range:∀(os:List Oper) (k:Nat),(enum k os).map (·.1)=List.range' k os.length
 |[],k=>by simp[enum]
 |o::os,k=>by simp[enum,enum_range os (k+1),List.range'_succ]
theorem St.self {w0:World} {S:List Nat} {w:World} {Hf F:Hp} (h:St w0 S w (Hf++F)):St w (keys Hf) w Hf where
 nodup:=by have:=h.nodup;simp only[keys,List.flatten_append,List.map_append] at this⊢;exact(List.nodup_append.1 this).1
 sat:=fun p hp=>h.sat p (by simp only[List.flatten_append,List.mem_append];exact .inl hp)
 own:=fun k hk=> .inl hk
 frame:=fun _ _ _=>rfl
 size:=Nat.le_refl _
 os:=rfl
 tape:=rfl
 output:=rfl
theorem St.framed {w0:World} {S:List Nat} {w w':World} {Hf F H':Hp} (h:St w0 S w (Hf++F)) (h':St w (keys Hf) w' H'):St w0 S w' (H'++F) where
 nodup:=by
  have h1:=h.nodup
  simp only[keys,List.flatten_append,List.map_append] at h1⊢
  obtain⟨_,hF,hd⟩:=List.nodup_append.1 h1
  refine List.nodup_append.2 ⟨h'.nodup,hF,?_⟩
  intro a ha b hb e
  subst e
  rcases h'.own a ha with h2|h2
  ·exact hd a h2 a hb rfl
  ·obtain⟨p,hp,rfl⟩:=List.mem_map.1 hb
   have:=h.lt (p:=p) (by simp only[List.flatten_append,List.mem_append];exact .inr hp)
   omega
 sat:=by
  intro p hp
  simp only[List.flatten_append,List.mem_append] at hp
  rcases hp with hp|hp
  ·exact h'.sat p hp
  ·have hin:p∈(Hf++F).flatten:=by simp only[List.flatten_append,List.mem_append];exact .inr hp
   rw[h'.frame p.1 (h.lt hin)]
   ·exact h.sat p hin
   ·intro hk
    have h1:=h.nodup
    simp only[keys,List.flatten_append,List.map_append] at h1
    exact(List.nodup_append.1 h1).2.2 p.1 hk p.1 (List.mem_map.2 ⟨p,hp,rfl⟩) rfl
 own:=by
  intro k hk
  simp only[keys,List.flatten_append,List.map_append,List.mem_append] at hk
  rcases hk with hk|hk
  ·rcases h'.own k hk with h1|h1
   ·exact h.own k (by simp only[keys,List.flatten_append,List.map_append,List.mem_append];exact .inl h1)
   ·right;have:=h.size;omega
  ·exact h.own k (by simp only[keys,List.flatten_append,List.map_append,List.mem_append];exact .inr hk)
 frame:=by
  intro b hb hs
  rw[h'.frame b (by have:=h.size;omega),h.frame b hb hs]
  intro hk
  rcases h.own b (by simp only[keys,List.flatten_append,List.map_append,List.mem_append];exact .inl hk) with h1|h1
  ·exact hs h1
  ·omega
 size:=by have:=h.size;have:=h'.size;omega
 os:=h'.os.trans h.os
 tape:=h'.tape.trans h.tape
 output:=h'.output.trans h.output
section
variable (P:Program) (ops:Array Oper) (Q:Exit→Act→World→Prop) (cls:Nat→Oper→Cls) (w0:World) (S:List Nat) (n:Nat)
def R (l:List (Nat×Oper)) (L:Slots) (D:List Deferred) (H:Hp) (qs:List Rd):Prop:=
 (∀p∈l,ops[p.1]? =some p.2)→∀a,Fr n a L→a.defers=D→W P ops Q cls w0 S (l.map (·.1)) a H qs
def R1 (k:Nat) (o:Oper) (l:List (Nat×Oper)) (L:Slots) (D:List Deferred) (H:Hp) (qs:List Rd):Prop:=
 (∀p∈(k,o)::l,ops[p.1]? =some p.2)→∀a,Fr n a L→a.defers=D→Region.wanted o (yielded ops a.tmps)=true→W P ops Q cls w0 S (k::l.map (·.1)) a H qs
def Dn (e:Exit) (L:Slots) (D:List Deferred) (H:Hp):Prop:=∀a w,Fr n a L→a.defers=D→St w0 S w H→Q e a w
def G (c:Code) (L:Slots) (D:List Deferred) (H:Hp):Prop:=∀a w,Fr n a L→a.defers=D→St w0 S w H→c.wp P Q a w
end
section steps
variable {P:Program} {ops:Array Oper} {Q:Exit→Act→World→Prop} {cls:Nat→Oper→Cls} {w0:World} {S:List Nat} {n:Nat}
variable {k:Nat} {o:Oper} {l:List (Nat×Oper)} {L:Slots} {D:List Deferred} {H:Hp} {qs:List Rd}
@[simp] theorem put_defers (a:Act) (d:Option Tmp) (v:Value):(a.put d v).defers=a.defers:=by cases d<;>rfl
theorem Fr.add {a:Act} (h:Fr n a L) {d:Option Tmp} (hd:okDst n d) (v:Value):Fr n (a.put d v) (addSlot L v d):=by
 cases d with
 |none=>exact h
 |some d=>exact h.put hd v
theorem wanted_of {a:Act} (h:Fr n a L) (hw:Want ops L o.guard):Region.wanted o (yielded ops a.tmps)=true:=by
 unfold Region.wanted
 cases hg:o.guard with
 |none=>rfl
 |some g=>
  obtain⟨j,b⟩:=g
  rw[hg] at hw
  obtain⟨t,h1,h2⟩:=hw
  have:=h.get t _ h2
  simp only[dstOf] at h1
  simp[yielded,h1,this]
theorem unwanted_of {a:Act} (h:Fr n a L) {j:Nat} {b:Bool} (hg:o.guard=some (j,b)) {t:Nat} (h1:dstOf ops j=some t) (h2:lk t L=some (.bool (!b))):
  Region.wanted o (yielded ops a.tmps)=false:=by
 unfold Region.wanted
 have:=h.get t _ h2
 simp only[dstOf] at h1
 rw[hg]
 cases b<;>simp[yielded,h1,this]
theorem R.nil (h:Dn Q w0 S n .normal L D H):R P ops Q cls w0 S n [] L D H qs:=fun _ a hf hd w hw=>h a w hf hd hw
theorem R.skip {d:Nat} {op:Op} {ty:TypeId} {pos:String} {af:Array Edge} {j:Nat} {b:Bool} {t:Nat} (h1:dstOf ops j=some t:=by exact rfl) (h2:lk t L=some (.bool (!b)):=by exact rfl) (hn:d<n:=by exact nle rfl)
  (h:R P ops Q cls w0 S n l ((d,undef)::L) D H qs):R P ops Q cls w0 S n ((k,⟨some d,op,ty,pos,af,some (j,b)⟩)::l) L D H qs:=by
 intro hl a hf hD
 have ho:=hl _ List.mem_cons_self
 simp only[List.map_cons]
 unfold W
 simp only[ho,unwanted_of (o:=⟨some d,op,ty,pos,af,some (j,b)⟩) hf rfl h1 h2]
 exact h (fun p hp=>hl p (List.mem_cons_of_mem _ hp)) _ (hf.put hn _) (by simpa using hD)
theorem unwanted_undef {a:Act} (h:Fr n a L) {j:Nat} {b:Bool} (hg:o.guard=some (j,b)) {t:Nat} (h1:dstOf ops j=some t) (h2:lk t L=some undef):
  Region.wanted o (yielded ops a.tmps)=false:=by
 unfold Region.wanted
 have:=h.get t _ h2
 simp only[dstOf] at h1
 rw[hg]
 cases b<;>simp[yielded,h1,this,undef]
theorem R.skipU {d:Nat} {op:Op} {ty:TypeId} {pos:String} {af:Array Edge} {j:Nat} {b:Bool} {t:Nat} (h1:dstOf ops j=some t:=by exact rfl) (h2:lk t L=some undef:=by exact rfl) (hn:d<n:=by exact nle rfl)
  (h:R P ops Q cls w0 S n l ((d,undef)::L) D H qs):R P ops Q cls w0 S n ((k,⟨some d,op,ty,pos,af,some (j,b)⟩)::l) L D H qs:=by
 intro hl a hf hD
 have ho:=hl _ List.mem_cons_self
 simp only[List.map_cons]
 unfold W
 simp only[ho,unwanted_undef (o:=⟨some d,op,ty,pos,af,some (j,b)⟩) hf rfl h1 h2]
 exact h (fun p hp=>hl p (List.mem_cons_of_mem _ hp)) _ (hf.put hn _) (by simpa using hD)
theorem R.weaken {L':Slots} (hs:∀a,Fr n a L→Fr n a L') (h:R P ops Q cls w0 S n l L' D H qs):R P ops Q cls w0 S n l L D H qs:=
 fun hl a hf hD=>h hl a (hs a hf) hD
theorem R.split {j:Nat} {b:Bool} {t:Nat} {p:Prop} {_:Decidable p} (_:o.guard=some (j,b)) (_:dstOf ops j=some t) (h2:lk t L=some (.bool (dec p)))
  (ht:p→R P ops Q cls w0 S n ((k,o)::l) ((t,.bool true)::L) D H qs) (hf:¬p→R P ops Q cls w0 S n ((k,o)::l) ((t,.bool false)::L) D H qs):
  R P ops Q cls w0 S n ((k,o)::l) L D H qs:=by
 by_cases hp:p
 ·refine R.weaken (fun a hf=>hf.sub fun t' v hv=> ?_) (ht hp)
  rw[lk_cons] at hv
  split at hv
  ·rename_i e;subst e;rw[h2];simpa[dec_eq,hp] using hv
  ·exact hv
 ·refine R.weaken (fun a hf=>hf.sub fun t' v hv=> ?_) (hf hp)
  rw[lk_cons] at hv
  split at hv
  ·rename_i e;subst e;rw[h2];simpa[dec_eq,hp] using hv
  ·exact hv
theorem R.splitT {j:Nat} {b:Bool} {t:Nat} {p:Prop} {_:Decidable p} (h0:o.guard=some (j,b):=by exact rfl) (h1:dstOf ops j=some t:=by exact rfl) (h2:lk t L=some (.bool (dec p)):=by exact rfl)
  (hp:p:=by omega) (ht:R P ops Q cls w0 S n ((k,o)::l) ((t,.bool true)::L) D H qs):R P ops Q cls w0 S n ((k,o)::l) L D H qs:=
 R.split h0 h1 h2 (fun _=>ht) (fun h=>absurd hp h)
theorem R.splitF {j:Nat} {b:Bool} {t:Nat} {p:Prop} {_:Decidable p} (h0:o.guard=some (j,b):=by exact rfl) (h1:dstOf ops j=some t:=by exact rfl) (h2:lk t L=some (.bool (dec p)):=by exact rfl)
  (hp:¬p:=by omega) (ht:R P ops Q cls w0 S n ((k,o)::l) ((t,.bool false)::L) D H qs):R P ops Q cls w0 S n ((k,o)::l) L D H qs:=
 R.split h0 h1 h2 (fun h=>absurd h hp) (fun _=>ht)
theorem R.enter0 {d:Option Tmp} {op:Op} {ty:TypeId} {pos:String} {af:Array Edge} (h:R1 P ops Q cls w0 S n k ⟨d,op,ty,pos,af,none⟩ l L D H qs):
  R P ops Q cls w0 S n ((k,⟨d,op,ty,pos,af,none⟩)::l) L D H qs:=fun hl a hf hD=>h hl a hf hD rfl
theorem R.enterT {j:Nat} {b:Bool} {t:Nat} (hg:o.guard=some (j,b):=by exact rfl) (h1:dstOf ops j=some t:=by exact rfl) (h2:lk t L=some (.bool b):=by exact rfl) (h:R1 P ops Q cls w0 S n k o l L D H qs):
  R P ops Q cls w0 S n ((k,o)::l) L D H qs:=fun hl a hf hD=>h hl a hf hD (wanted_of hf (by rw[hg];exact⟨t,h1,h2⟩))
theorem R1.pureStep {d:Nat} {v:Value} (hc:cls k o= .pure) (hd:o.dst=some d) (hn:d<n)
  (hv:∀a,Fr n a L→∀w,(execOp a.eval o).run P w= .ok (.value v) w) (h:R P ops Q cls w0 S n l ((d,v)::L) D H qs):
  R1 P ops Q cls w0 S n k o l L D H qs:=by
 intro hl a hf hD hwt
 have ho:=hl _ List.mem_cons_self
 unfold W
 simp only[ho,hwt,if_true,hc]
 exact⟨v,hv a hf,h (fun p hp=>hl p (List.mem_cons_of_mem _ hp)) _ (by rw[hd];exact hf.put hn v) (by simpa using hD)⟩
theorem R1.quietStep {d:Nat} {v:Value} {Pr:Hp→Prop} (hc:cls k o= .quiet) (hd:o.dst=some d) (hn:d<n)
  (hv:∀a,Fr n a L→QSem P w0 S (execOp a.eval o) v Pr) (hp:Pr H) (h:R P ops Q cls w0 S n l ((d,v)::L) D H (⟨k,Pr⟩::qs)):
  R1 P ops Q cls w0 S n k o l L D H qs:=by
 intro hl a hf hD hwt
 have ho:=hl _ List.mem_cons_self
 unfold W
 simp only[ho,hwt,if_true,hc]
 exact⟨v,Pr,hv a hf,hp,h (fun p hp=>hl p (List.mem_cons_of_mem _ hp)) _ (by rw[hd];exact hf.put hn v) (by simpa using hD)⟩
theorem R1.growStep {d:Nat} {mk:Nat→Value} {ob:Obj} (hc:cls k o= .grow) (hd:o.dst=some d) (hn:d<n)
  (hv:∀a,Fr n a L→∀w,(execOp a.eval o).run P w= .ok (.value (mk w.heap.size)) {w with heap:=w.heap.push ob})
  (h:∀b,R P ops Q cls w0 S n l ((d,mk b)::L) D ([(b,ob)]::H) qs):
  R1 P ops Q cls w0 S n k o l L D H qs:=by
 intro hl a hf hD hwt
 have ho:=hl _ List.mem_cons_self
 unfold W
 simp only[ho,hwt,if_true,hc]
 exact⟨mk,ob,hv a hf,fun b _=>h b (fun p hp=>hl p (List.mem_cons_of_mem _ hp)) _ (by rw[hd];exact hf.put hn _) (by simpa using hD)⟩
theorem R1.effStep {cross:List Nat} (hc:cls k o= .eff cross) (hn:okDst n o.dst)
  (hv:∀a w u T,Fr n a L→St u T w H→OpOk P (execOp a.eval o) w fun v w'=>∃H',St u T w' H'∧
   (∀r∈qs,r.i∈cross→r.Pr H')∧R P ops Q cls w0 S n l (addSlot L v o.dst) D H' qs):
  R1 P ops Q cls w0 S n k o l L D H qs:=by
 intro hl a hf hD hwt
 have ho:=hl _ List.mem_cons_self
 unfold W
 simp only[ho,hwt,if_true,hc]
 exact fun w F hs=>(hv a w w (keys H) hf hs.self).mono fun v w' ⟨H',h1,h2,h3⟩=>⟨H',hs.framed h1,h2,h3 (fun p hp=>hl p (List.mem_cons_of_mem _ hp)) _ (hf.add hn v) (by simpa using hD)⟩
theorem R1.deferStep {d:Deferred} (hc:cls k o= .defer) (hd:o.dst=none)
  (hv:∀a,Fr n a L→∀w,(execOp a.eval o).run P w= .ok (.defer d) w) (h:R P ops Q cls w0 S n l L (d::D) H qs):
  R1 P ops Q cls w0 S n k o l L D H qs:=by
 intro hl a hf hD hwt
 have ho:=hl _ List.mem_cons_self
 unfold W
 simp only[ho,hwt,if_true,hc]
 exact⟨d,hv a hf,h (fun p hp=>hl p (List.mem_cons_of_mem _ hp)) _ (by rw[hd];exact⟨hf.size,hf.get⟩) (by rw[hd];simp[Act.put,hD])⟩
def Take (c:Chunk) (H H1:Hp):Prop:=H.flatten.Perm (c++H1.flatten)
theorem Take.here {c:Chunk} {H:Hp}:Take c (c::H) H:=by simp[Take]
theorem Take.there {c c':Chunk} {H H1:Hp} (h:Take c H H1):Take c (c'::H) (c'::H1):=by
 unfold Take at*
 simp only[List.flatten_cons]
 refine(List.Perm.append_left c' h).trans ?_
 rw[←List.append_assoc,←List.append_assoc]
 exact List.Perm.append_right _ List.perm_append_comm
def Split (H Hf F:Hp):Prop:=H.flatten.Perm (Hf++F).flatten
theorem Split.nil {H:Hp}:Split H [] H:=by simp[Split]
theorem Split.cons {c:Chunk} {H H1 Hf F:Hp} (h1:Take c H H1) (h2:Split H1 Hf F):Split H (c::Hf) F:=by
 unfold Split Take at*
 simp only[List.cons_append,List.flatten_cons]
 exact h1.trans (List.Perm.append_left c h2)
def Has (b:Nat) (ob:Obj) (H:Hp):Prop:=(b,ob)∈H.flatten
theorem Has.here {b:Nat} {ob:Obj} {c:Chunk} {H:Hp}:Has b ob (((b,ob)::c)::H):=by simp[Has]
theorem Has.there {b:Nat} {ob:Obj} {c:Chunk} {H:Hp} (h:Has b ob H):Has b ob (c::H):=by
 unfold Has at*;simp only[List.flatten_cons,List.mem_append];exact .inr h
theorem Has.in_ {b:Nat} {ob:Obj} {c:Chunk} {H:Hp} (h:(b,ob)∈c):Has b ob (c::H):=by
 unfold Has at*;simp only[List.flatten_cons,List.mem_append];exact .inl h
theorem Has.st {b:Nat} {ob:Obj} {w:World} (h:Has b ob H) (hw:St w0 S w H):w.heap[b]? =some ob:=hw.sat _ h
theorem Has.perm {b:Nat} {ob:Obj} {H H':Hp} (h:Has b ob H) (hp:H.flatten.Perm H'.flatten):Has b ob H':=hp.mem_iff.1 h
def Upd (b:Nat) (ob ob':Obj) (H H':Hp):Prop:=∃F,Take [(b,ob)] H F∧Take [(b,ob')] H' F
theorem Upd.here {b:Nat} {ob ob':Obj} {H:Hp}:Upd b ob ob' ([(b,ob)]::H) ([(b,ob')]::H):=⟨H,.here,.here⟩
theorem Upd.there {b:Nat} {ob ob':Obj} {c:Chunk} {H H':Hp} (h:Upd b ob ob' H H'):Upd b ob ob' (c::H) (c::H'):=
 let ⟨F,h1,h2⟩:=h;⟨c::F,h1.there,h2.there⟩
theorem Upd.st {b:Nat} {ob ob':Obj} {H':Hp} {w w':World} (h:Upd b ob ob' H H') (hw:St w0 S w H)
  (hsz:w'.heap.size=w.heap.size) (hb:w'.heap[b]? =some ob') (hne:∀k,k≠b→w'.heap[k]? =w.heap[k]?)
  (hos:w'.os=w.os) (htp:w'.tape=w.tape) (hout:w'.output=w.output):St w0 S w' H':=by
 obtain⟨F,h1,h2⟩:=h
 have e1:St w0 S w ([(b,ob)]::F):=hw.perm (by simpa[Take] using h1)
 exact(e1.set hsz hb hne hos htp hout).perm (by simpa[Take] using h2.symm)
theorem Upd.has {b:Nat} {ob ob':Obj} {H':Hp} (h:Upd b ob ob' H H'):Has b ob H:=by
 obtain⟨F,h1,_⟩:=h
 exact h1.mem_iff.2 (by simp)
end steps
class Cell1 (P:Program) (T:TypeId):Prop where
 agg:∀w,(isAgg T).run P w= .ok false w
 size:∀w,(sizeOf T).run P w= .ok 1 w
class AggN (P:Program) (T:TypeId) (m:outParam Nat):Prop where
 agg:∀w,(isAgg T).run P w= .ok true w
 size:∀w,(sizeOf T).run P w= .ok m w
class FieldOff (P:Program) (T i:Nat) (off:outParam Nat):Prop where
 run:∀a w,(Instr.fieldAt T (.pointer (some a)) i).run P w= .ok (.pointer (some (a.add off))) w
class SliceT (P:Program) (T:TypeId) (E sz:outParam Nat):Prop where
 und:P.underlying T=some (.slice E)
 size:∀w,(sizeOf E).run P w= .ok sz w
class ArrT (P:Program) (T:TypeId) (m E sz:outParam Nat):Prop where
 und:P.underlying T=some (.array m E)
 size:∀w,(sizeOf E).run P w= .ok sz w
class ZeroV (P:Program) (T:TypeId) (vs:outParam (List Value)):Prop where
 run:∃z:Value,z.cells=vs.toArray∧∀w,(zeroValue T).run P w= .ok z w
class IntT (P:Program) (T:TypeId) (k:outParam IntKind):Prop where
 und:P.underlying T=some (.int k)
class PtrT (P:Program) (T:TypeId):Prop where
 und:P.underlying T=some (.pointer (P.pointee T))
class MapT (P:Program) (T:TypeId) (K E:outParam Nat):Prop where
 und:P.underlying T=some (.map K E)
class BuildT (P:Program) (T:TypeId) (pl:outParam (Nat→Option (Nat×Nat))) (zero:outParam (List Value)):Prop where
 built:∀parts,P.built T parts=Instr.fill pl zero.toArray parts
class Callable (P:Program) (f:FuncId):Prop where
 run:∀args w,(callFunc f args).run P w= .ok (.enter f args) w
class Mixed (P:Program):Prop where
 mixed:P.follows .mixedOrders=true
theorem BuildT.ofS {P:Program} {T:TypeId} {pl:List (Nat×Nat)} {zero:List Value} (h:∀parts,P.built T parts=Instr.fill (pl.toArray[·]?) zero.toArray parts):
  BuildT P T (fun i=>pl[i]?) zero:=⟨fun parts=>by rw[h];simp⟩
theorem FieldOff.of {P:Program} {T i off m:Nat} (fs:Array Field) (f:Field) (hu:P.underlying T=some (.struct fs)) (hf:fs[i]? =some f) (ho:f.offset=off)
  (hs:∀w,(sizeOf f.type).run P w= .ok (m+1) w):FieldOff P T i off:=⟨fun a w=>by
 simp[Instr.fieldAt,underlying,hu,hf,Instr.sureAddr,fieldPlace,hs,ho]⟩
class Eq5 (P:Program) (T:TypeId):Prop where
 guard:∀op x y xs ys w,(eqGuard op T x y (.agg xs) (.agg ys)).run P w= .ok () w
 run:∀(a0 a1 a2 a3 a4 b0 b1 b2 b3 b4:Int) w,(Op.equal T (.agg #[.int .i64 a0,.int .i64 a1,.int .i64 a2,.int .i64 a3,.int .i64 a4])
  (.agg #[.int .i64 b0,.int .i64 b1,.int .i64 b2,.int .i64 b3,.int .i64 b4])).run P w= .ok (decide (a0=b0∧a1=b1∧a2=b2∧a3=b3∧a4=b4)) w
class Eq4 (P:Program) (T:TypeId):Prop where
 guard:∀op x y xs ys w,(eqGuard op T x y (.agg xs) (.agg ys)).run P w= .ok () w
 run:∀(a0 a1 a2 a3 b0 b1 b2 b3:Int) w,(Op.equal T (.agg #[.int .i64 a0,.int .i64 a1,.int .i64 a2,.int .i64 a3])
  (.agg #[.int .i64 b0,.int .i64 b1,.int .i64 b2,.int .i64 b3])).run P w= .ok (decide (a0=b0∧a1=b1∧a2=b2∧a3=b3)) w
theorem Eq5.of {P:Program} {T e:TypeId} {k:IntKind} {i:TypeInfo} (hu:P.underlying T=some (.array 5 e)) (he:P.underlying e=some (.int k)) (hi:P.info? e=some i)
  (hag:∀w,(isAgg e).run P w= .ok false w) (hsz:P.cellsOf e=1) (hg:P.eqGuardType P.depth T=false):Eq5 P T where
 guard:=fun op x y xs ys w=>run_eqGuard_agg w op T x y xs ys hg
 run:=by
  intro a0 a1 a2 a3 a4 b0 b1 b2 b3 b4 w
  have h:=run_equalIn_array (P:=P) w 9999 (t:=T) #[.int .i64 a0,.int .i64 a1,.int .i64 a2,.int .i64 a3,.int .i64 a4] #[.int .i64 b0,.int .i64 b1,.int .i64 b2,.int .i64 b3,.int .i64 b4] hu hi
  unfold Op.equal Op.maxDepth
  rw[h,hsz]
  have hi:∀(a b:Int) w,(Op.equalIn 9999 e (.int .i64 a) (.int .i64 b)).run P w= .ok (a==b) w:=fun a b w=>run_equalIn_int w 9998 e .i64 k a b he
  rw[show List.range 5=[0,1,2,3,4] from rfl]
  simp[Op.eqItems,part,hag,hi]
  by_cases h0:a0=b0<;>by_cases h1:a1=b1<;>by_cases h2:a2=b2<;>by_cases h3:a3=b3<;>by_cases h4:a4=b4<;>simp[h0,h1,h2,h3,h4]
theorem Eq4.of {P:Program} {T e:TypeId} {k:IntKind} {x0 x1 x2 x3:Field} (hu:P.underlying T=some (.struct #[x0,x1,x2,x3]))
  (hx:[x0,x1,x2,x3].all (fun f=>f.name != "_" &&f.type==e)=true) (ho:x0.offset=0∧x1.offset=1∧x2.offset=2∧x3.offset=3)
  (he:P.underlying e=some (.int k)) (hag:∀w,(isAgg e).run P w= .ok false w) (hg:P.eqGuardType P.depth T=false) (hp:P.stoodInHeld T=false):Eq4 P T where
 guard:=fun op x y xs ys w=>run_eqGuard_agg w op T x y xs ys hg
 run:=by
  intro a0 a1 a2 a3 b0 b1 b2 b3 w
  have hfo:P.fieldsOf T= #[x0,x1,x2,x3]:=by simp[Program.fieldsOf,hu]
  have h:=run_equalIn_struct (P:=P) w 9999 T #[.int .i64 a0,.int .i64 a1,.int .i64 a2,.int .i64 a3] #[.int .i64 b0,.int .i64 b1,.int .i64 b2,.int .i64 b3] (by rw[hfo];exact hu) hp
  unfold Op.equal Op.maxDepth
  rw[h,hfo]
  have hi:∀(a b:Int) w,(Op.equalIn 9999 e (.int .i64 a) (.int .i64 b)).run P w= .ok (a==b) w:=fun a b w=>run_equalIn_int w 9998 e .i64 k a b he
  simp only[List.all_cons,List.all_nil,Bool.and_true,Bool.and_eq_true,bne_iff_ne,beq_iff_eq] at hx
  obtain⟨⟨n0,t0⟩,⟨n1,t1⟩,⟨n2,t2⟩,⟨n3,t3⟩⟩:=hx
  obtain⟨o0,o1,o2,o3⟩:=ho
  simp[Op.eqFields,n0,n1,n2,n3,t0,t1,t2,t3,o0,o1,o2,o3,part,hag,hi]
  by_cases h0:a0=b0<;>by_cases h1:a1=b1<;>by_cases h2:a2=b2<;>by_cases h3:a3=b3<;>simp[h0,h1,h2,h3]
theorem ad1 (j:Nat):0+j*1=j:=by omega
section wraps
theorem wrap_i64 {n:Int} (h: -9223372036854775808≤n∧n≤9223372036854775807):IntKind.wrap .i64 n=n:=by
 have h1:(9223372036854775808:Int)=2^(64-1):=by decide
 simp only[IntKind.wrap,IntKind.bits,IntKind.signed,Bool.true_and,decide_eq_true_eq,←h1];split<;>omega
theorem wrap_u64 {n:Int} (h:0≤n∧n≤18446744073709551615):IntKind.wrap .u64 n=n:=by
 simp only[IntKind.wrap,IntKind.bits,IntKind.signed,Bool.false_and];simp;omega
end wraps
section ops
variable {P:Program} {ops:Array Oper} {Q:Exit→Act→World→Prop} {cls:Nat→Oper→Cls} {w0:World} {S:List Nat} {n:Nat}
variable {k:Nat} {l:List (Nat×Oper)} {L:Slots} {D:List Deferred} {H:Hp} {qs:List Rd}
variable {d:Nat} {ty:TypeId} {pos:String} {af:Array Edge} {g:Option (Nat×Bool)}
theorem R.move {x:Operand} {v:Value} (hx:ev L x=some v:=by exact rfl) (hc:cls k ⟨some d,.move x,ty,pos,af,g⟩= .pure:=by exact rfl) (hn:d<n:=by exact nle rfl)
  (h:R P ops Q cls w0 S n l ((d,v)::L) D H qs):R1 P ops Q cls w0 S n k ⟨some d,.move x,ty,pos,af,g⟩ l L D H qs:=
 R1.pureStep hc rfl hn (fun a hf w=>by simp[execOp,hf.eval hx]) h
theorem R.assign {x:Operand} {v:Value} (hx:ev L x=some v:=by exact rfl) (hc:cls k ⟨some d,.assign x,ty,pos,af,g⟩= .pure:=by exact rfl) (hn:d<n:=by exact nle rfl)
  (h:R P ops Q cls w0 S n l ((d,v)::L) D H qs):R1 P ops Q cls w0 S n k ⟨some d,.assign x,ty,pos,af,g⟩ l L D H qs:=
 R1.pureStep hc rfl hn (fun a hf w=>by simp[execOp,hf.eval hx]) h
theorem R.pickT {c x y:Operand} {v:Value} (hb:ev L c=some (.bool true):=by exact rfl) (hx:ev L x=some v:=by exact rfl) (hc:cls k ⟨some d,.pick c x y,ty,pos,af,g⟩= .pure:=by exact rfl) (hn:d<n:=by exact nle rfl)
  (h:R P ops Q cls w0 S n l ((d,v)::L) D H qs):R1 P ops Q cls w0 S n k ⟨some d,.pick c x y,ty,pos,af,g⟩ l L D H qs:=
 R1.pureStep hc rfl hn (fun a hf w=>by simp[execOp,hf.eval hb,hf.eval hx,asBool]) h
theorem R.pickF {c x y:Operand} {v:Value} (hb:ev L c=some (.bool false):=by exact rfl) (hx:ev L y=some v:=by exact rfl) (hc:cls k ⟨some d,.pick c x y,ty,pos,af,g⟩= .pure:=by exact rfl) (hn:d<n:=by exact nle rfl)
  (h:R P ops Q cls w0 S n l ((d,v)::L) D H qs):R1 P ops Q cls w0 S n k ⟨some d,.pick c x y,ty,pos,af,g⟩ l L D H qs:=
 R1.pureStep hc rfl hn (fun a hf w=>by simp[execOp,hf.eval hb,hf.eval hx,asBool]) h
theorem R.nilCheck {x:Operand} {a:Addr} (hx:ev L x=some (.pointer (some a)):=by exact rfl) (hc:cls k ⟨some d,.nilCheck x,ty,pos,af,g⟩= .pure:=by exact rfl) (hn:d<n:=by exact nle rfl)
  (h:R P ops Q cls w0 S n l ((d,.pointer (some a))::L) D H qs):R1 P ops Q cls w0 S n k ⟨some d,.nilCheck x,ty,pos,af,g⟩ l L D H qs:=
 R1.pureStep hc rfl hn (fun a hf w=>by simp[execOp,hf.eval hx]) h
theorem Addr.add_mk (b o m:Nat):(⟨b,o,none⟩:Addr).add m=⟨b,o+m,none⟩:=by
 unfold Go.Addr.add
 split
 ·rename_i h;subst h;rfl
 ·rfl
theorem R.fieldAddr {T i off:Nat} [ho:FieldOff P T i off] {x:Operand} {b p:Nat} (hx:ev L x=some (.pointer (some ⟨b,p,none⟩)):=by exact rfl) {q:Nat} (hq:p+off=q:=by((first|exact ad1 _|exact ad4 _ _|exact Nat.zero_add _|exact Nat.add_zero _|exact ad2 _ _|exact ad3 _ _|(simp only[Nat.reduceAdd];done)|exact rfl)))
  (hc:cls k ⟨some d,.fieldAddr T x i,ty,pos,af,g⟩= .pure:=by exact rfl) (hn:d<n:=by exact nle rfl)
  (h:R P ops Q cls w0 S n l ((d,.pointer (some ⟨b,q,none⟩))::L) D H qs):R1 P ops Q cls w0 S n k ⟨some d,.fieldAddr T x i,ty,pos,af,g⟩ l L D H qs:=
 R1.pureStep hc rfl hn (fun a hf w=>by subst hq;simp[execOp,hf.eval hx,ho.run,Addr.add_mk]) h
theorem R.indexAddr {T E sz:Nat} [ho:SliceT P T E sz] {x y:Operand} {b p len cap j:Nat} {kk:IntKind} {i:Int} (hx:ev L x=some (.slice (some ⟨b,p,none⟩) len cap):=by exact rfl)
  (hy:ev L y=some (.int kk i):=by exact rfl) (h0:0≤i∧i<len:=by((first|omega|(constructor<;>omega)|(refine⟨?_,?_,?_⟩<;>omega)|(refine⟨?_,?_,?_,?_⟩<;>omega)))) (hj:i.toNat=j:=by((first|(with_reducible exact Int.toNat_natCast _)|assumption|exact rfl))) {q:Nat} (hq:p+j*sz=q:=by((first|exact ad1 _|exact ad4 _ _|exact Nat.zero_add _|exact Nat.add_zero _|exact ad2 _ _|exact ad3 _ _|(simp only[Nat.reduceAdd];done)|exact rfl)))
  (hc:cls k ⟨some d,.indexAddr T x y,ty,pos,af,g⟩= .pure:=by exact rfl) (hn:d<n:=by exact nle rfl)
  (h:R P ops Q cls w0 S n l ((d,.pointer (some ⟨b,q,none⟩))::L) D H qs):R1 P ops Q cls w0 S n k ⟨some d,.indexAddr T x y,ty,pos,af,g⟩ l L D H qs:=
 R1.pureStep hc rfl hn (fun a hf w=>by
  subst hj;subst hq
  simp[execOp,hf.eval hx,hf.eval hy,Instr.indexAt,asIntOf,underlying,ho.und,ho.size,h0,Addr.add_mk]) h
theorem R.indexAddrA {T m E sz:Nat} [ho:ArrT P T m E sz] {x y:Operand} {b p j:Nat} {kk:IntKind} {i:Int} (hx:ev L x=some (.pointer (some ⟨b,p,none⟩)):=by exact rfl)
  (hy:ev L y=some (.int kk i):=by exact rfl) (h0:0≤i∧i<m:=by((first|omega|(constructor<;>omega)|(refine⟨?_,?_,?_⟩<;>omega)|(refine⟨?_,?_,?_,?_⟩<;>omega)))) (hj:i.toNat=j:=by((first|(with_reducible exact Int.toNat_natCast _)|assumption|exact rfl))) {q:Nat} (hq:p+j*sz=q:=by((first|exact ad1 _|exact ad4 _ _|exact Nat.zero_add _|exact Nat.add_zero _|exact ad2 _ _|exact ad3 _ _|(simp only[Nat.reduceAdd];done)|exact rfl)))
  (hc:cls k ⟨some d,.indexAddr T x y,ty,pos,af,g⟩= .pure:=by exact rfl) (hn:d<n:=by exact nle rfl)
  (h:R P ops Q cls w0 S n l ((d,.pointer (some ⟨b,q,none⟩))::L) D H qs):R1 P ops Q cls w0 S n k ⟨some d,.indexAddr T x y,ty,pos,af,g⟩ l L D H qs:=
 R1.pureStep hc rfl hn (fun a hf w=>by
  subst hj;subst hq
  simp[execOp,hf.eval hx,hf.eval hy,Instr.indexAt,asIntOf,underlying,ho.und,ho.size,h0,Addr.add_mk,Instr.sureAddr]) h
theorem R.index1 {T m E:Nat} [ho:ArrT P T m E 1] [hE:Cell1 P E] {x y:Operand} {cs:List Value} {j:Nat} {kk:IntKind} {i:Int} {v:Value} (hx:ev L x=some (.agg cs.toArray):=by exact rfl)
  (hy:ev L y=some (.int kk i):=by exact rfl) (h0:0≤i∧i<m:=by((first|omega|(constructor<;>omega)|(refine⟨?_,?_,?_⟩<;>omega)|(refine⟨?_,?_,?_,?_⟩<;>omega)))) (hj:i.toNat=j:=by((first|(with_reducible exact Int.toNat_natCast _)|assumption|exact rfl))) (hv:cs[j]? =some v:=by((first|exact rfl|assumption)))
  (hc:cls k ⟨some d,.index T x y,ty,pos,af,g⟩= .pure:=by exact rfl) (hn:d<n:=by exact nle rfl)
  (h:R P ops Q cls w0 S n l ((d,v)::L) D H qs):R1 P ops Q cls w0 S n k ⟨some d,.index T x y,ty,pos,af,g⟩ l L D H qs:=
 R1.pureStep hc rfl hn (fun a hf w=>by
  subst hj
  simp[execOp,hf.eval hx,hf.eval hy,Instr.index,asIntOf,underlying,ho.und,ho.size,h0,part,hE.agg,hv]) h
theorem R.extract {x:Operand} {i:Nat} {vs:List Value} {v:Value} (hx:ev L x=some (.tuple vs.toArray):=by exact rfl) (hv:vs[i]? =some v:=by exact rfl)
  (hc:cls k ⟨some d,.extract x i,ty,pos,af,g⟩= .pure:=by exact rfl) (hn:d<n:=by exact nle rfl)
  (h:R P ops Q cls w0 S n l ((d,v)::L) D H qs):R1 P ops Q cls w0 S n k ⟨some d,.extract x i,ty,pos,af,g⟩ l L D H qs:=
 R1.pureStep hc rfl hn (fun a hf w=>by simp[execOp,hf.eval hx,Instr.extract,hv]) h
section ints
variable {T yT:TypeId} {x y:Operand} {kk:IntKind} {a b:Int}
theorem R.addw (hx:ev L x=some (.int kk a):=by exact rfl) (hy:ev L y=some (.int kk b):=by exact rfl) {v:Int} (hv:kk.wrap (a+b)=v:=by((first|assumption|exact wrap_i64 (by omega)|exact wrap_u64 (by omega)|exact wrap_u32 (by omega)|exact wrap_u8 (by omega)|exact rfl)))
  (hc:cls k ⟨some d,.binOp .add T x y yT,ty,pos,af,g⟩= .pure:=by exact rfl) (hn:d<n:=by exact nle rfl)
  (h:R P ops Q cls w0 S n l ((d,.int kk v)::L) D H qs):R1 P ops Q cls w0 S n k ⟨some d,.binOp .add T x y yT,ty,pos,af,g⟩ l L D H qs:=
 R1.pureStep hc rfl hn (fun a hf w=>by simp[execOp,hf.eval hx,hf.eval hy,eqGuard,binOp,Op.intArith,hv]) h
theorem R.subw (hx:ev L x=some (.int kk a):=by exact rfl) (hy:ev L y=some (.int kk b):=by exact rfl) {v:Int} (hv:kk.wrap (a-b)=v:=by((first|assumption|exact wrap_i64 (by omega)|exact wrap_u64 (by omega)|exact wrap_u32 (by omega)|exact wrap_u8 (by omega)|exact rfl)))
  (hc:cls k ⟨some d,.binOp .sub T x y yT,ty,pos,af,g⟩= .pure:=by exact rfl) (hn:d<n:=by exact nle rfl)
  (h:R P ops Q cls w0 S n l ((d,.int kk v)::L) D H qs):R1 P ops Q cls w0 S n k ⟨some d,.binOp .sub T x y yT,ty,pos,af,g⟩ l L D H qs:=
 R1.pureStep hc rfl hn (fun a hf w=>by simp[execOp,hf.eval hx,hf.eval hy,eqGuard,binOp,Op.intArith,hv]) h
theorem R.mulw (hx:ev L x=some (.int kk a):=by exact rfl) (hy:ev L y=some (.int kk b):=by exact rfl) {v:Int} (hv:kk.wrap (a*b)=v:=by((first|assumption|exact wrap_i64 (by omega)|exact wrap_u64 (by omega)|exact wrap_u32 (by omega)|exact wrap_u8 (by omega)|exact rfl)))
  (hc:cls k ⟨some d,.binOp .mul T x y yT,ty,pos,af,g⟩= .pure:=by exact rfl) (hn:d<n:=by exact nle rfl)
  (h:R P ops Q cls w0 S n l ((d,.int kk v)::L) D H qs):R1 P ops Q cls w0 S n k ⟨some d,.binOp .mul T x y yT,ty,pos,af,g⟩ l L D H qs:=
 R1.pureStep hc rfl hn (fun a hf w=>by simp[execOp,hf.eval hx,hf.eval hy,eqGuard,binOp,Op.intArith,hv]) h
theorem R.quow (hx:ev L x=some (.int kk a):=by exact rfl) (hy:ev L y=some (.int kk b):=by exact rfl) (hb:b≠0:=by omega) {v:Int} (hv:kk.wrap (a.tdiv b)=v:=by((first|assumption|exact wrap_i64 (by omega)|exact wrap_u64 (by omega)|exact wrap_u32 (by omega)|exact wrap_u8 (by omega)|exact rfl)))
  (hc:cls k ⟨some d,.binOp .quo T x y yT,ty,pos,af,g⟩= .pure:=by exact rfl) (hn:d<n:=by exact nle rfl)
  (h:R P ops Q cls w0 S n l ((d,.int kk v)::L) D H qs):R1 P ops Q cls w0 S n k ⟨some d,.binOp .quo T x y yT,ty,pos,af,g⟩ l L D H qs:=
 R1.pureStep hc rfl hn (fun a hf w=>by simp[execOp,hf.eval hx,hf.eval hy,eqGuard,binOp,Op.intDiv,hv,hb]) h
theorem R.remw (hx:ev L x=some (.int kk a):=by exact rfl) (hy:ev L y=some (.int kk b):=by exact rfl) (hb:b≠0:=by omega) {v:Int} (hv:a.tmod b=v:=by exact rfl)
  (hc:cls k ⟨some d,.binOp .rem T x y yT,ty,pos,af,g⟩= .pure:=by exact rfl) (hn:d<n:=by exact nle rfl)
  (h:R P ops Q cls w0 S n l ((d,.int kk v)::L) D H qs):R1 P ops Q cls w0 S n k ⟨some d,.binOp .rem T x y yT,ty,pos,af,g⟩ l L D H qs:=
 R1.pureStep hc rfl hn (fun a hf w=>by simp[execOp,hf.eval hx,hf.eval hy,eqGuard,binOp,Op.intDiv,hv,hb]) h
def bits2 (op:BinOp) (kk:IntKind) (a b:Int):Int:=
 match op with
 | .and=>kk.wrap (BitVec.ofInt kk.bits a&&&BitVec.ofInt kk.bits b).toNat
 | .or=>kk.wrap (BitVec.ofInt kk.bits a|||BitVec.ofInt kk.bits b).toNat
 | .xor=>kk.wrap (BitVec.ofInt kk.bits a^^^BitVec.ofInt kk.bits b).toNat
 | .andNot=>kk.wrap (BitVec.ofInt kk.bits a&&& ~~~BitVec.ofInt kk.bits b).toNat
 |_=>0
theorem R.and (hx:ev L x=some (.int kk a):=by exact rfl) (hy:ev L y=some (.int kk b):=by exact rfl)
  (hc:cls k ⟨some d,.binOp .and T x y yT,ty,pos,af,g⟩= .pure:=by exact rfl) (hn:d<n:=by exact nle rfl)
  (h:R P ops Q cls w0 S n l ((d,.int kk (bits2 .and kk a b))::L) D H qs):R1 P ops Q cls w0 S n k ⟨some d,.binOp .and T x y yT,ty,pos,af,g⟩ l L D H qs:=
 R1.pureStep hc rfl hn (fun a hf w=>by simp[execOp,hf.eval hx,hf.eval hy,eqGuard,binOp,Op.intBits,bits2]) h
theorem R.or (hx:ev L x=some (.int kk a):=by exact rfl) (hy:ev L y=some (.int kk b):=by exact rfl)
  (hc:cls k ⟨some d,.binOp .or T x y yT,ty,pos,af,g⟩= .pure:=by exact rfl) (hn:d<n:=by exact nle rfl)
  (h:R P ops Q cls w0 S n l ((d,.int kk (bits2 .or kk a b))::L) D H qs):R1 P ops Q cls w0 S n k ⟨some d,.binOp .or T x y yT,ty,pos,af,g⟩ l L D H qs:=
 R1.pureStep hc rfl hn (fun a hf w=>by simp[execOp,hf.eval hx,hf.eval hy,eqGuard,binOp,Op.intBits,bits2]) h
theorem R.xor (hx:ev L x=some (.int kk a):=by exact rfl) (hy:ev L y=some (.int kk b):=by exact rfl)
  (hc:cls k ⟨some d,.binOp .xor T x y yT,ty,pos,af,g⟩= .pure:=by exact rfl) (hn:d<n:=by exact nle rfl)
  (h:R P ops Q cls w0 S n l ((d,.int kk (bits2 .xor kk a b))::L) D H qs):R1 P ops Q cls w0 S n k ⟨some d,.binOp .xor T x y yT,ty,pos,af,g⟩ l L D H qs:=
 R1.pureStep hc rfl hn (fun a hf w=>by simp[execOp,hf.eval hx,hf.eval hy,eqGuard,binOp,Op.intBits,bits2]) h
theorem R.shl {yk:IntKind} (hx:ev L x=some (.int kk a):=by exact rfl) (hy:ev L y=some (.int yk b):=by exact rfl) (hb:0≤b:=by omega) {v:Int} (hv:kk.wrap (a*2^(min b.toNat kk.bits))=v:=by((first|assumption|exact wrap_i64 (by omega)|exact wrap_u64 (by omega)|exact wrap_u32 (by omega)|exact wrap_u8 (by omega)|exact rfl)))
  (hc:cls k ⟨some d,.binOp .shl T x y yT,ty,pos,af,g⟩= .pure:=by exact rfl) (hn:d<n:=by exact nle rfl)
  (h:R P ops Q cls w0 S n l ((d,.int kk v)::L) D H qs):R1 P ops Q cls w0 S n k ⟨some d,.binOp .shl T x y yT,ty,pos,af,g⟩ l L D H qs:=
 R1.pureStep hc rfl hn (fun a hf w=>by
  have:¬b<0:=by omega
  simp[execOp,hf.eval hx,hf.eval hy,eqGuard,binOp,Op.shift,hv,this]) h
theorem R.shr {yk:IntKind} (hx:ev L x=some (.int kk a):=by exact rfl) (hy:ev L y=some (.int yk b):=by exact rfl) (hb:0≤b:=by omega) {v:Int} (hv:a.fdiv (2^(min b.toNat kk.bits))=v:=by((first|assumption|exact rfl)))
  (hc:cls k ⟨some d,.binOp .shr T x y yT,ty,pos,af,g⟩= .pure:=by exact rfl) (hn:d<n:=by exact nle rfl)
  (h:R P ops Q cls w0 S n l ((d,.int kk v)::L) D H qs):R1 P ops Q cls w0 S n k ⟨some d,.binOp .shr T x y yT,ty,pos,af,g⟩ l L D H qs:=
 R1.pureStep hc rfl hn (fun a hf w=>by
  have:¬b<0:=by omega
  simp[execOp,hf.eval hx,hf.eval hy,eqGuard,binOp,Op.shift,hv,this]) h
theorem R.lss (hx:ev L x=some (.int kk a):=by exact rfl) (hy:ev L y=some (.int kk b):=by exact rfl)
  (hc:cls k ⟨some d,.binOp .lss T x y yT,ty,pos,af,g⟩= .pure:=by exact rfl) (hn:d<n:=by exact nle rfl)
  (h:R P ops Q cls w0 S n l ((d,.bool (dec (a<b)))::L) D H qs):R1 P ops Q cls w0 S n k ⟨some d,.binOp .lss T x y yT,ty,pos,af,g⟩ l L D H qs:=
 R1.pureStep hc rfl hn (fun a hf w=>by simp[execOp,hf.eval hx,hf.eval hy,eqGuard,binOp,Op.intCmp,dec_eq]) h
theorem R.leq (hx:ev L x=some (.int kk a):=by exact rfl) (hy:ev L y=some (.int kk b):=by exact rfl)
  (hc:cls k ⟨some d,.binOp .leq T x y yT,ty,pos,af,g⟩= .pure:=by exact rfl) (hn:d<n:=by exact nle rfl)
  (h:R P ops Q cls w0 S n l ((d,.bool (dec (a≤b)))::L) D H qs):R1 P ops Q cls w0 S n k ⟨some d,.binOp .leq T x y yT,ty,pos,af,g⟩ l L D H qs:=
 R1.pureStep hc rfl hn (fun a hf w=>by simp[execOp,hf.eval hx,hf.eval hy,eqGuard,binOp,Op.intCmp,dec_eq]) h
theorem R.gtr (hx:ev L x=some (.int kk a):=by exact rfl) (hy:ev L y=some (.int kk b):=by exact rfl)
  (hc:cls k ⟨some d,.binOp .gtr T x y yT,ty,pos,af,g⟩= .pure:=by exact rfl) (hn:d<n:=by exact nle rfl)
  (h:R P ops Q cls w0 S n l ((d,.bool (dec (b<a)))::L) D H qs):R1 P ops Q cls w0 S n k ⟨some d,.binOp .gtr T x y yT,ty,pos,af,g⟩ l L D H qs:=
 R1.pureStep hc rfl hn (fun a hf w=>by simp[execOp,hf.eval hx,hf.eval hy,eqGuard,binOp,Op.intCmp,dec_eq]) h
theorem R.geq (hx:ev L x=some (.int kk a):=by exact rfl) (hy:ev L y=some (.int kk b):=by exact rfl)
  (hc:cls k ⟨some d,.binOp .geq T x y yT,ty,pos,af,g⟩= .pure:=by exact rfl) (hn:d<n:=by exact nle rfl)
  (h:R P ops Q cls w0 S n l ((d,.bool (dec (b≤a)))::L) D H qs):R1 P ops Q cls w0 S n k ⟨some d,.binOp .geq T x y yT,ty,pos,af,g⟩ l L D H qs:=
 R1.pureStep hc rfl hn (fun a hf w=>by simp[execOp,hf.eval hx,hf.eval hy,eqGuard,binOp,Op.intCmp,dec_eq]) h
theorem R.eql (hx:ev L x=some (.int kk a):=by exact rfl) (hy:ev L y=some (.int kk b):=by exact rfl)
  (hc:cls k ⟨some d,.binOp .eql T x y yT,ty,pos,af,g⟩= .pure:=by exact rfl) (hn:d<n:=by exact nle rfl)
  (h:R P ops Q cls w0 S n l ((d,.bool (dec (a=b)))::L) D H qs):R1 P ops Q cls w0 S n k ⟨some d,.binOp .eql T x y yT,ty,pos,af,g⟩ l L D H qs:=
 R1.pureStep hc rfl hn (fun a hf w=>by simp[execOp,hf.eval hx,hf.eval hy,eqGuard,binOp,Op.intCmp,dec_eq];rfl) h
theorem R.neq (hx:ev L x=some (.int kk a):=by exact rfl) (hy:ev L y=some (.int kk b):=by exact rfl)
  (hc:cls k ⟨some d,.binOp .neq T x y yT,ty,pos,af,g⟩= .pure:=by exact rfl) (hn:d<n:=by exact nle rfl)
  (h:R P ops Q cls w0 S n l ((d,.bool (dec (a≠b)))::L) D H qs):R1 P ops Q cls w0 S n k ⟨some d,.binOp .neq T x y yT,ty,pos,af,g⟩ l L D H qs:=
 R1.pureStep hc rfl hn (fun a hf w=>by simp[execOp,hf.eval hx,hf.eval hy,eqGuard,binOp,Op.intCmp,dec_eq,bne];rfl) h
theorem R.negw (hx:ev L x=some (.int kk a):=by exact rfl) {v:Int} (hv:kk.wrap (-a)=v:=by((first|assumption|exact wrap_i64 (by omega)|exact wrap_u64 (by omega)|exact wrap_u32 (by omega)|exact wrap_u8 (by omega)|exact rfl)))
  (hc:cls k ⟨some d,.unOp .neg T x,ty,pos,af,g⟩= .pure:=by exact rfl) (hn:d<n:=by exact nle rfl)
  (h:R P ops Q cls w0 S n l ((d,.int kk v)::L) D H qs):R1 P ops Q cls w0 S n k ⟨some d,.unOp .neg T x,ty,pos,af,g⟩ l L D H qs:=
 R1.pureStep hc rfl hn (fun a hf w=>by simp[execOp,hf.eval hx,Op.unary,Op.intArith,hv]) h
def bitsNot (kk:IntKind) (a:Int):Int:=bits2 .xor kk (if kk.signed then-1 else kk.max) a
theorem R.xor1 (hx:ev L x=some (.int kk a):=by exact rfl)
  (hc:cls k ⟨some d,.unOp .xor T x,ty,pos,af,g⟩= .pure:=by exact rfl) (hn:d<n:=by exact nle rfl)
  (h:R P ops Q cls w0 S n l ((d,.int kk (bitsNot kk a))::L) D H qs):R1 P ops Q cls w0 S n k ⟨some d,.unOp .xor T x,ty,pos,af,g⟩ l L D H qs:=
 R1.pureStep hc rfl hn (fun a hf w=>by simp[execOp,hf.eval hx,Op.unary,Op.intBits,bitsNot,bits2]) h
theorem R.not {c:Bool} (hx:ev L x=some (.bool c):=by exact rfl)
  (hc:cls k ⟨some d,.unOp .not T x,ty,pos,af,g⟩= .pure:=by exact rfl) (hn:d<n:=by exact nle rfl)
  (h:R P ops Q cls w0 S n l ((d,.bool (!c))::L) D H qs):R1 P ops Q cls w0 S n k ⟨some d,.unOp .not T x,ty,pos,af,g⟩ l L D H qs:=
 R1.pureStep hc rfl hn (fun a hf w=>by simp[execOp,hf.eval hx,Op.unary]) h
theorem R.notP {p:Prop} {_:Decidable p} (hx:ev L x=some (.bool (dec p)):=by exact rfl)
  (hc:cls k ⟨some d,.unOp .not T x,ty,pos,af,g⟩= .pure:=by exact rfl) (hn:d<n:=by exact nle rfl)
  (h:R P ops Q cls w0 S n l ((d,.bool (dec (¬p)))::L) D H qs):R1 P ops Q cls w0 S n k ⟨some d,.unOp .not T x,ty,pos,af,g⟩ l L D H qs:=
 R1.pureStep hc rfl hn (fun a hf w=>by simp[execOp,hf.eval hx,Op.unary,dec_eq]) h
theorem R.convert {T2:TypeId} {k2 k1:IntKind} [h1:IntT P T k1] [h2:IntT P T2 k2] (hx:ev L x=some (.int kk a):=by exact rfl) {v:Int} (hv:k2.wrap a=v:=by((first|assumption|exact wrap_i64 (by omega)|exact wrap_u64 (by omega)|exact wrap_u32 (by omega)|exact wrap_u8 (by omega)|exact rfl)))
  (hc:cls k ⟨some d,.convert T T2 x,ty,pos,af,g⟩= .pure:=by exact rfl) (hn:d<n:=by exact nle rfl)
  (h:R P ops Q cls w0 S n l ((d,.int k2 v)::L) D H qs):R1 P ops Q cls w0 S n k ⟨some d,.convert T T2 x,ty,pos,af,g⟩ l L D H qs:=
 R1.pureStep hc rfl hn (fun a hf w=>by simp[execOp,hf.eval hx,Go.convert,underlying,h1.und,h2.und,Conv.intToInt,hv]) h
theorem R.max {aT:Array TypeId} {kb:IntKind} (hx:ev L x=some (.int kk a):=by exact rfl) (hy:ev L y=some (.int kb b):=by exact rfl)
  (hc:cls k ⟨some d,.call ⟨.builtin .max,#[x,y],aT⟩,ty,pos,af,g⟩= .pure:=by exact rfl) (hn:d<n:=by exact nle rfl)
  (h:R P ops Q cls w0 S n l ((d,.int kk (max a b))::L) D H qs):R1 P ops Q cls w0 S n k ⟨some d,.call ⟨.builtin .max,#[x,y],aT⟩,ty,pos,af,g⟩ l L D H qs:=
 R1.pureStep hc rfl hn (fun a hf w=>by simp[execOp,resolve,invoke,Go.builtin,hf.eval hx,hf.eval hy,Builtin.max_,Builtin.max2];omega) h
theorem R.min {aT:Array TypeId} {kb:IntKind} (hx:ev L x=some (.int kk a):=by exact rfl) (hy:ev L y=some (.int kb b):=by exact rfl)
  (hc:cls k ⟨some d,.call ⟨.builtin .min,#[x,y],aT⟩,ty,pos,af,g⟩= .pure:=by exact rfl) (hn:d<n:=by exact nle rfl)
  (h:R P ops Q cls w0 S n l ((d,.int kk (min a b))::L) D H qs):R1 P ops Q cls w0 S n k ⟨some d,.call ⟨.builtin .min,#[x,y],aT⟩,ty,pos,af,g⟩ l L D H qs:=
 R1.pureStep hc rfl hn (fun a hf w=>by simp[execOp,resolve,invoke,Go.builtin,hf.eval hx,hf.eval hy,Builtin.min_,Builtin.min2];omega) h
theorem R.len {aT E sz:Nat} [ho:SliceT P aT E sz] {p:Option Addr} {m c:Nat} (hx:ev L x=some (.slice p m c):=by exact rfl)
  (hc:cls k ⟨some d,.call ⟨.builtin .len,#[x],#[aT]⟩,ty,pos,af,g⟩= .pure:=by exact rfl) (hn:d<n:=by exact nle rfl)
  (h:R P ops Q cls w0 S n l ((d,.int .i64 (m:Int))::L) D H qs):R1 P ops Q cls w0 S n k ⟨some d,.call ⟨.builtin .len,#[x],#[aT]⟩,ty,pos,af,g⟩ l L D H qs:=
 R1.pureStep hc rfl hn (fun a hf w=>by simp[execOp,resolve,invoke,Go.builtin,hf.eval hx,Builtin.len_,underlying,ho.und,goInt]) h
theorem R.cap {aT E sz:Nat} [ho:SliceT P aT E sz] {p:Option Addr} {m c:Nat} (hx:ev L x=some (.slice p m c):=by exact rfl)
  (hc:cls k ⟨some d,.call ⟨.builtin .cap,#[x],#[aT]⟩,ty,pos,af,g⟩= .pure:=by exact rfl) (hn:d<n:=by exact nle rfl)
  (h:R P ops Q cls w0 S n l ((d,.int .i64 (c:Int))::L) D H qs):R1 P ops Q cls w0 S n k ⟨some d,.call ⟨.builtin .cap,#[x],#[aT]⟩,ty,pos,af,g⟩ l L D H qs:=
 R1.pureStep hc rfl hn (fun a hf w=>by simp[execOp,resolve,invoke,Go.builtin,hf.eval hx,Builtin.cap_,underlying,ho.und,goInt]) h
theorem R.eqlNil [ho:PtrT P T] {p:Option Addr} (hx:ev L x=some (.pointer p):=by exact rfl) (hy:ev L y=some (.pointer none):=by exact rfl)
  (hc:cls k ⟨some d,.binOp .eql T x y yT,ty,pos,af,g⟩= .pure:=by exact rfl) (hn:d<n:=by exact nle rfl)
  (h:R P ops Q cls w0 S n l ((d,.bool p.isNone)::L) D H qs):R1 P ops Q cls w0 S n k ⟨some d,.binOp .eql T x y yT,ty,pos,af,g⟩ l L D H qs:=
 R1.pureStep hc rfl hn (fun a hf w=>by simp[execOp,hf.eval hx,hf.eval hy,eqGuard,run_eql_pointer_nil _ T p ho.und]) h
theorem R.neqNil [ho:PtrT P T] {p:Option Addr} (hx:ev L x=some (.pointer p):=by exact rfl) (hy:ev L y=some (.pointer none):=by exact rfl)
  (hc:cls k ⟨some d,.binOp .neq T x y yT,ty,pos,af,g⟩= .pure:=by exact rfl) (hn:d<n:=by exact nle rfl)
  (h:R P ops Q cls w0 S n l ((d,.bool (!p.isNone))::L) D H qs):R1 P ops Q cls w0 S n k ⟨some d,.binOp .neq T x y yT,ty,pos,af,g⟩ l L D H qs:=
 R1.pureStep hc rfl hn (fun a hf w=>by simp[execOp,hf.eval hx,hf.eval hy,eqGuard,run_neq_pointer_nil _ T p ho.und]) h
theorem R.eql5 [ho:Eq5 P T] {a0 a1 a2 a3 a4 b0 b1 b2 b3 b4:Int} (hx:ev L x=some (.agg #[.int .i64 a0,.int .i64 a1,.int .i64 a2,.int .i64 a3,.int .i64 a4]):=by exact rfl)
  (hy:ev L y=some (.agg #[.int .i64 b0,.int .i64 b1,.int .i64 b2,.int .i64 b3,.int .i64 b4]):=by exact rfl)
  (hc:cls k ⟨some d,.binOp .eql T x y yT,ty,pos,af,g⟩= .pure:=by exact rfl) (hn:d<n:=by exact nle rfl)
  (h:R P ops Q cls w0 S n l ((d,.bool (dec (a0=b0∧a1=b1∧a2=b2∧a3=b3∧a4=b4)))::L) D H qs):R1 P ops Q cls w0 S n k ⟨some d,.binOp .eql T x y yT,ty,pos,af,g⟩ l L D H qs:=
 R1.pureStep hc rfl hn (fun a hf w=>by simp[execOp,hf.eval hx,hf.eval hy,ho.guard,binOp,ho.run,dec_eq]) h
theorem R.neq5 [ho:Eq5 P T] {a0 a1 a2 a3 a4 b0 b1 b2 b3 b4:Int} (hx:ev L x=some (.agg #[.int .i64 a0,.int .i64 a1,.int .i64 a2,.int .i64 a3,.int .i64 a4]):=by exact rfl)
  (hy:ev L y=some (.agg #[.int .i64 b0,.int .i64 b1,.int .i64 b2,.int .i64 b3,.int .i64 b4]):=by exact rfl)
  (hc:cls k ⟨some d,.binOp .neq T x y yT,ty,pos,af,g⟩= .pure:=by exact rfl) (hn:d<n:=by exact nle rfl)
  (h:R P ops Q cls w0 S n l ((d,.bool (dec (¬(a0=b0∧a1=b1∧a2=b2∧a3=b3∧a4=b4))))::L) D H qs):R1 P ops Q cls w0 S n k ⟨some d,.binOp .neq T x y yT,ty,pos,af,g⟩ l L D H qs:=
 R1.pureStep hc rfl hn (fun a hf w=>by simp[execOp,hf.eval hx,hf.eval hy,ho.guard,binOp,ho.run,dec_eq]) h
theorem R.eql4 [ho:Eq4 P T] {a0 a1 a2 a3 b0 b1 b2 b3:Int} (hx:ev L x=some (.agg #[.int .i64 a0,.int .i64 a1,.int .i64 a2,.int .i64 a3]):=by exact rfl)
  (hy:ev L y=some (.agg #[.int .i64 b0,.int .i64 b1,.int .i64 b2,.int .i64 b3]):=by exact rfl)
  (hc:cls k ⟨some d,.binOp .eql T x y yT,ty,pos,af,g⟩= .pure:=by exact rfl) (hn:d<n:=by exact nle rfl)
  (h:R P ops Q cls w0 S n l ((d,.bool (dec (a0=b0∧a1=b1∧a2=b2∧a3=b3)))::L) D H qs):R1 P ops Q cls w0 S n k ⟨some d,.binOp .eql T x y yT,ty,pos,af,g⟩ l L D H qs:=
 R1.pureStep hc rfl hn (fun a hf w=>by simp[execOp,hf.eval hx,hf.eval hy,ho.guard,binOp,ho.run,dec_eq]) h
end ints
theorem cell_of {w:World} {b off:Nat} {cs:List Value} {E:TypeId} {fz:Nat×Nat} (hb:w.heap[b]? =some (rowf cs E fz)):w.cell? ⟨b,off,none⟩=cs[off]? :=by
 simp[World.cell?,hb,rowf]
def CellPr (b off:Nat) (v:Value) (H:Hp):Prop:=∃cs E fz,Has b (rowf cs E fz) H∧cs[off]? =some v
theorem CellPr.perm {b off:Nat} {v:Value} {H H':Hp} (h:CellPr b off v H) (hp:H.flatten.Perm H'.flatten):CellPr b off v H':=
 let ⟨cs,E,fz,h1,h2⟩:=h;⟨cs,E,fz,h1.perm hp,h2⟩
theorem CellPr.there {b off:Nat} {v:Value} {c:Chunk} {H:Hp} (h:CellPr b off v H):CellPr b off v (c::H):=
 let ⟨cs,E,fz,h1,h2⟩:=h;⟨cs,E,fz,h1.there,h2⟩
theorem R.load1 {T:TypeId} [ho:Cell1 P T] {x:Operand} {b off:Nat} {cs:List Value} {E:TypeId} {fz:Nat×Nat} {v:Value} (hx:ev L x=some (.pointer (some ⟨b,off,none⟩)):=by exact rfl)
  (hh:Has b (rowf cs E fz) H:=by((repeat(first|exact Has.here|apply Has.there)))) (hv:cs[off]? =some v:=by((first|exact rfl|assumption))) (hc:cls k ⟨some d,.load T x,ty,pos,af,g⟩= .quiet:=by exact rfl) (hn:d<n:=by exact nle rfl)
  (h:R P ops Q cls w0 S n l ((d,v)::L) D H (⟨k,CellPr b off v⟩::qs)):R1 P ops Q cls w0 S n k ⟨some d,.load T x,ty,pos,af,g⟩ l L D H qs:=by
 refine R1.quietStep (Pr:=CellPr b off v) hc rfl hn (fun a hf=>⟨fun _ _ h hp=>h.perm hp,fun _ _ h=>h.there,fun H w ⟨cs,E,fz,h1,h2⟩ hs=> ?_⟩) ⟨cs,E,fz,hh,hv⟩ h
 have hcell:w.cell? ⟨b,off,none⟩=some v:=by rw[cell_of (h1.st hs)];exact h2
 simp[OpOk,execOp,hf.eval hx,Instr.loadAt,Instr.sureAddr,loadVar,ho.agg,hcell,hs]
def CellsPr (b off:Nat) (vs:List Value) (H:Hp):Prop:=∃cs E fz,Has b (rowf cs E fz) H∧(cs.drop off).take vs.length=vs
theorem CellsPr.perm {b off:Nat} {v:List Value} {H H':Hp} (h:CellsPr b off v H) (hp:H.flatten.Perm H'.flatten):CellsPr b off v H':=
 let ⟨cs,E,fz,h1,h2⟩:=h;⟨cs,E,fz,h1.perm hp,h2⟩
theorem CellsPr.there {b off:Nat} {v:List Value} {c:Chunk} {H:Hp} (h:CellsPr b off v H):CellsPr b off v (c::H):=
 let ⟨cs,E,fz,h1,h2⟩:=h;⟨cs,E,fz,h1.there,h2⟩
theorem R.loadN {T m:Nat} [ho:AggN P T m] {x:Operand} {b off:Nat} {cs vs:List Value} {E:TypeId} {fz:Nat×Nat} (hx:ev L x=some (.pointer (some ⟨b,off,none⟩)):=by exact rfl)
  (hh:Has b (rowf cs E fz) H:=by((repeat(first|exact Has.here|apply Has.there)))) (hv:(cs.drop off).take m=vs:=by((first|assumption|(dsimp only[List.drop,List.take];try exact rfl)|exact rfl))) (hl:vs.length=m:=by((first|exact rfl|assumption|(simp;done)))) (hc:cls k ⟨some d,.load T x,ty,pos,af,g⟩= .quiet:=by exact rfl) (hn:d<n:=by exact nle rfl)
  (h:R P ops Q cls w0 S n l ((d,.agg vs.toArray)::L) D H (⟨k,CellsPr b off vs⟩::qs)):R1 P ops Q cls w0 S n k ⟨some d,.load T x,ty,pos,af,g⟩ l L D H qs:=by
 refine R1.quietStep (Pr:=CellsPr b off vs) hc rfl hn (fun a hf=>⟨fun _ _ h hp=>h.perm hp,fun _ _ h=>h.there,fun H w ⟨cs,E,fz,h1,h2⟩ hs=> ?_⟩) ⟨cs,E,fz,hh,by rw[hl];exact hv⟩ h
 have hcell:∀j v,vs[j]? =some v→w.cell? ((⟨b,off,none⟩:Addr).add j)=some v:=by
  intro j v hj
  rw[Addr.add_mk,cell_of (h1.st hs)]
  rw[←h2,List.getElem?_take,List.getElem?_drop] at hj
  split at hj
  ·exact hj
  ·cases hj
 have:=run_loadCells_list (P:=P) w ⟨b,off,none⟩ vs hcell
 rw[hl] at this
 simp[OpOk,execOp,hf.eval hx,Instr.loadAt,Instr.sureAddr,loadVar,ho.agg,ho.size,this,hs]
theorem setCell_st {b off:Nat} {cs:List Value} {E:TypeId} {v:Value} {H':Hp} {w:World} (hu:Upd b (row cs E) (row (cs.set off v) E) H H') (hw:St w0 S w H):
  St w0 S (w.setCell ⟨b,off,none⟩ v) H':=by
 refine hu.st hw (by simp) ?_ ?_ rfl rfl rfl
 ·have:=hu.has.st hw
  simp only[World.setCell,Array.getElem?_modify,if_true,this,Option.map_some,row]
  simp
 ·intro j hj
  simp only[World.setCell,Array.getElem?_modify]
  rw[if_neg (fun e=>hj e.symm)]
theorem R.store1 {T:TypeId} [ho:Cell1 P T] {x y:Operand} {b off:Nat} {cs cs':List Value} {E:TypeId} {v:Value} {H':Hp} {cr:List Nat} (hx:ev L x=some (.pointer (some ⟨b,off,none⟩)):=by exact rfl)
  (hy:ev L y=some v:=by exact rfl) (h1:v.oneCell'=true:=by((first|exact rfl|assumption))) (hu:Upd b (row cs E) (row cs' E) H H':=by((repeat(first|exact Upd.here|apply Upd.there)))) (hs:cs.set off v=cs':=by((first|assumption|(dsimp only[List.set];try exact rfl)|exact rfl))) (hlt:off<cs.length:=by((first|decide|omega|(simp;done)|(simp;omega))))
  (hc:cls k ⟨none,.store T x y,ty,pos,af,g⟩= .eff cr:=by exact rfl) (hq:∀r∈qs,r.i∈cr→r.Pr H':=by((first|(intro _ _ h;cases h;done)|(repeat(first|exact qok_nil|(apply qok_cons;(·first|(intro hc;exact absurd hc (nmem rfl))|(intro _;apply CellPr.mk;(·repeat(first|exact Has.here|apply Has.there));(first|exact rfl|assumption))|(intro _;apply CellsPr.mk;(·repeat(first|exact Has.here|apply Has.there));(first|exact rfl|assumption)))))))))
  (h:R P ops Q cls w0 S n l L D H' qs):R1 P ops Q cls w0 S n k ⟨none,.store T x y,ty,pos,af,g⟩ l L D H qs:=by
 refine R1.effStep hc trivial fun a w w0 S hf hst=> ?_
 have hcell:w.cell? ⟨b,off,none⟩=some cs[off]:=by
  rw[cell_of (fz:=(0,0)) (hu.has.st hst)];simp[hlt]
 have hfz:w.frozen? ⟨b,off,none⟩=false:=by simp[World.frozen?,hu.has.st hst,row]
 have hcs:v.cells= #[v]:=by cases v<;>first|rfl|simp[Value.oneCell'] at h1
 have hrun:=run_store P w ⟨b,off,none⟩ v .plain h1
 simp only[hcell,hfz] at hrun
 subst hs
 have hst':=setCell_st hu hst
 have hrun':(store ((⟨b,off,none⟩:Addr).add 0) v).run P w= .ok () (w.setCell ⟨b,off,none⟩ v):=by
  rw[Addr.add_mk];simpa using hrun
 have:(execOp a.eval ⟨none,.store T x y,ty,pos,af,g⟩).run P w= .ok .skip (w.setCell ⟨b,off,none⟩ v):=by
  simp[execOp,hf.eval hx,hf.eval hy,Instr.storeAt,Instr.sureAddr,storeVar,ho.size,hcs,storeCells,hrun']
 simp only[OpOk,this]
 exact⟨H',hst',hq,h⟩
def setL:List Value→Nat→List Value→List Value
 |cs,_,[]=>cs
 |cs,off,v::vs=>setL (cs.set off v) (off+1) vs
theorem length_setL:∀(vs cs:List Value) (off:Nat),(setL cs off vs).length=cs.length
 |[],_,_=>rfl
 |v::vs,cs,off=>by rw[setL,length_setL vs];simp
theorem run_storeCells_setL (P:Program) {b:Nat} {E:TypeId} {F:Hp}:∀(vs cs:List Value) (off i:Nat) (w:World),St w0 S w ([(b,row cs E)]::F)→off+i+vs.length≤cs.length→
  (∀v∈vs,v.oneCell'=true)→∃w',(storeCells ⟨b,off,none⟩ vs i).run P w= .ok () w'∧St w0 S w' ([(b,row (setL cs (off+i) vs) E)]::F)
 |[],cs,off,i,w,hst,_,_=>⟨w,rfl,hst⟩
 |v::vs,cs,off,i,w,hst,hlen,h1=>by
  simp only[List.length_cons] at hlen
  have hv:=h1 v List.mem_cons_self
  have hh:Has b (row cs E) ([(b,row cs E)]::F):=Has.here
  have hcell:w.cell? ⟨b,off+i,none⟩=some (cs[off+i]'(by omega)):=by
   rw[cell_of (fz:=(0,0)) (hh.st hst)];simp[show off+i<cs.length by omega]
  have hfz:w.frozen? ⟨b,off+i,none⟩=false:=by simp[World.frozen?,hh.st hst,row]
  have hrun:=run_store P w ⟨b,off+i,none⟩ v .plain hv
  simp only[hcell,hfz] at hrun
  have hst':St w0 S (w.setCell ⟨b,off+i,none⟩ v) ([(b,row (cs.set (off+i) v) E)]::F):=setCell_st Upd.here hst
  obtain⟨w',h2,h3⟩:=run_storeCells_setL P vs (cs.set (off+i) v) off (i+1) _ hst' (by simp;omega) (fun u hu=>h1 u (List.mem_cons_of_mem _ hu))
  refine⟨w',?_,h3⟩
  rw[storeCells,Sem.run_bind,Addr.add_mk]
  simp only[hrun,Bool.false_eq_true,if_false,Result.andThen_ok]
  exact h2
theorem R.storeN {T m:Nat} [ho:AggN P T m] {x y:Operand} {b off:Nat} {cs cs' vs:List Value} {E:TypeId} {H':Hp} {cr:List Nat} (hx:ev L x=some (.pointer (some ⟨b,off,none⟩)):=by exact rfl)
  (hy:ev L y=some (.agg vs.toArray):=by exact rfl) (h1:vs.all Value.oneCell'=true:=by((first|exact rfl|assumption))) (hl:vs.length=m:=by((first|exact rfl|assumption))) (hu:Upd b (row cs E) (row cs' E) H H':=by((repeat(first|exact Upd.here|apply Upd.there)))) (hs:setL cs off vs=cs':=by((first|assumption|(dsimp only[setL,List.set,Value.cells,List.toList_toArray];try exact rfl)|exact rfl))) (hlt:off+m≤cs.length:=by((first|decide|omega|(simp;done)|(simp;omega))))
  (hc:cls k ⟨none,.store T x y,ty,pos,af,g⟩= .eff cr:=by exact rfl) (hq:∀r∈qs,r.i∈cr→r.Pr H':=by((first|(intro _ _ h;cases h;done)|(repeat(first|exact qok_nil|(apply qok_cons;(·first|(intro hc;exact absurd hc (nmem rfl))|(intro _;apply CellPr.mk;(·repeat(first|exact Has.here|apply Has.there));(first|exact rfl|assumption))|(intro _;apply CellsPr.mk;(·repeat(first|exact Has.here|apply Has.there));(first|exact rfl|assumption)))))))))
  (h:R P ops Q cls w0 S n l L D H' qs):R1 P ops Q cls w0 S n k ⟨none,.store T x y,ty,pos,af,g⟩ l L D H qs:=by
 refine R1.effStep hc trivial fun a w w0 S hf hst=> ?_
 subst hs
 obtain⟨F,t1,t2⟩:=hu
 have e1:St w0 S w ([(b,row cs E)]::F):=hst.perm (by simpa[Take] using t1)
 obtain⟨w',h2,h3⟩:=run_storeCells_setL P vs cs off 0 w e1 (by omega) (by simpa using h1)
 have hst':St w0 S w' H':=h3.perm (by simpa[Take] using t2.symm)
 have:(execOp a.eval ⟨none,.store T x y,ty,pos,af,g⟩).run P w= .ok .skip w':=by
  simp[execOp,hf.eval hx,hf.eval hy,Instr.storeAt,Instr.sureAddr,storeVar,ho.size,Value.cells,hl,h2]
 simp only[OpOk,this]
 exact⟨H',hst',hq,h⟩
def fillL (pl:Nat→Option (Nat×Nat)):List Value→List (Nat×Value)→Option (List Value)
 |cs,[]=>some cs
 |cs,(i,v)::rest=>
  match pl i with
  |none=>none
  |some (off,size)=>if v.cells.size≠size||off+v.cells.size>cs.length then none else fillL pl (setL cs off v.cells.toList) rest
theorem foldl_setL:∀(vs cs:List Value) (off i:Nat),((vs.zipIdx i).foldl (fun (cs:Array Value) (c,j)=>cs.setIfInBounds (off+j) c) cs.toArray)=(setL cs (off+i) vs).toArray
 |[],_,_,_=>rfl
 |v::vs,cs,off,i=>by
  simp only[List.zipIdx_cons,List.foldl_cons,List.setIfInBounds_toArray]
  rw[foldl_setL vs (cs.set (off+i) v) off (i+1)]
  rfl
theorem fill_fillL (pl:Nat→Option (Nat×Nat)):∀(parts:List (Nat×Value)) (cs:List Value),Instr.fill pl cs.toArray parts=(fillL pl cs parts).map List.toArray
 |[],cs=>rfl
 |(i,v)::rest,cs=>by
  unfold Instr.fill fillL
  cases pl i with
  |none=>rfl
  |some p=>
   obtain⟨off,size⟩:=p
   simp only[List.size_toArray]
   split
   ·rfl
   ·rw[←Array.foldl_toList]
    have h:=foldl_setL v.cells.toList cs off 0
    simp only[Array.toList_zipIdx,Nat.add_zero] at h⊢
    rw[h]
    exact fill_fillL pl rest _
def evParts (L:Slots):List (Nat×Operand)→Option (List (Nat×Value))
 |[]=>some []
 |(i,x)::xs=>match ev L x with
  |some v=>match evParts L xs with
   |some vs=>some ((i,v)::vs)
   |none=>none
  |none=>none
theorem Fr.parts {n:Nat} {a:Act} {L:Slots} (h:Fr n a L):∀{xs:List (Nat×Operand)} {vs:List (Nat×Value)},evParts L xs=some vs→xs.map (fun (i,x)=>(i,a.eval x))=vs
 |[],vs,hx=>by simp[evParts] at hx;simp[hx]
 |(i,x)::xs,vs,hx=>by
  unfold evParts at hx
  cases h1:ev L x with
  |none=>simp[h1] at hx
  |some v=>
   simp only[h1] at hx
   cases h2:evParts L xs with
   |none=>simp[h2] at hx
   |some us=>
    simp only[h2,Option.some.injEq] at hx
    subst hx
    simp[h.eval h1,h.parts h2]
theorem R.build {T:TypeId} {pl:Nat→Option (Nat×Nat)} {zero:List Value} [ho:BuildT P T pl zero] {ps:List (Nat×Operand)} {vs:List (Nat×Value)} {cs cs':List Value}
  (hx:evParts L ps=some vs:=by exact rfl) (hf:fillL pl zero vs=some cs:=by exact rfl) (he:cs=cs':=by((first|assumption|(dsimp only[setL,List.set,Value.cells,List.toList_toArray];try exact rfl)|exact rfl)))
  (hc:cls k ⟨some d,.build T ps.toArray,ty,pos,af,g⟩= .pure:=by exact rfl) (hn:d<n:=by exact nle rfl)
  (h:R P ops Q cls w0 S n l ((d,.agg cs'.toArray)::L) D H qs):R1 P ops Q cls w0 S n k ⟨some d,.build T ps.toArray,ty,pos,af,g⟩ l L D H qs:=
 R1.pureStep hc rfl hn (fun a hfr w=>by
  subst he
  have h1:=hfr.parts hx
  have h2:P.built T vs=some cs.toArray:=by rw[ho.built,fill_fillL,hf];rfl
  have h3:=run_build (P:=P) w T vs.toArray cs.toArray h2
  have h4:(ps.toArray.map fun (i,x)=>(i,a.eval x))=vs.toArray:=by rw[←h1];simp
  simp only[execOp,h4,Sem.run_bind,h3,Result.andThen_ok,Sem.run_pure]) h
theorem R.alloc {T:TypeId} {vs:List Value} [ho:ZeroV P T vs]
  (hc:cls k ⟨some d,.alloc T,ty,pos,af,g⟩= .grow:=by exact rfl) (hn:d<n:=by exact nle rfl)
  (h:∀b,R P ops Q cls w0 S n l ((d,.pointer (some ⟨b,0,none⟩))::L) D ([(b,row vs T)]::H) qs):R1 P ops Q cls w0 S n k ⟨some d,.alloc T,ty,pos,af,g⟩ l L D H qs:=
 R1.growStep (mk:=fun b=> .pointer (some ⟨b,0,none⟩)) (ob:=row vs T) hc rfl hn (fun a hf w=>by
  obtain⟨z,hz,hr⟩:=ho.run
  simp[execOp,Instr.alloc,hr,newVar,newRow,hz,row]) h
theorem R.box {T:TypeId} {x:Operand} {v:Value} {vs:List Value} (hx:ev L x=some v:=by exact rfl) (hz:v.cells=vs.toArray:=by exact rfl)
  (hc:cls k ⟨some d,.box T x,ty,pos,af,g⟩= .grow:=by exact rfl) (hn:d<n:=by exact nle rfl)
  (h:∀b,R P ops Q cls w0 S n l ((d,.pointer (some ⟨b,0,none⟩))::L) D ([(b,row vs T)]::H) qs):R1 P ops Q cls w0 S n k ⟨some d,.box T x,ty,pos,af,g⟩ l L D H qs:=
 R1.growStep (mk:=fun b=> .pointer (some ⟨b,0,none⟩)) (ob:=row vs T) hc rfl hn (fun a hf w=>by
  simp[execOp,Instr.box,hf.eval hx,newVar,newRow,hz,row]) h
end ops
theorem St.sub {w0:World} {S:List Nat} {w:World} {H H' F:Hp} (h:St w0 S w H) (hs:Split H H' F):St w0 S w H':=by
 have h1:St w0 S w (H'++F):=h.perm hs
 have h3:St w0 S w (F++H'):=h1.perm (by simp only[List.flatten_append];exact List.perm_append_comm)
 clear h1 hs h
 induction F with
 |nil=>exact h3
 |cons c F ih=>exact ih h3.drop
section code
variable {P:Program} {Q:Exit→Act→World→Prop} {w0:World} {S:List Nat} {n:Nat}
variable {L:Slots} {D:List Deferred} {H:Hp}
theorem G.plain {id:Nat} {os:List Oper} {l:List (Nat×Oper)} (hl:enum 0 os=l:=by(first|(dsimp only[enum,Nat.reduceAdd];try exact rfl)|exact rfl)) (h:R P os.toArray Q (std []) w0 S n l L D H []):
  G P Q w0 S n (.region id os.toArray false) L D H:=by
 intro a w hf hD hw
 subst hl
 have h1:=h (fun p hp=>by simpa using(enum_get os 0 p hp).2) a hf hD
 rw[enum_range,←List.range_eq_range'] at h1
 exact W.plain (by simpa using h1) hw
theorem G.draw [hm:Mixed P] {id:Nat} {os:List Oper} {l:List (Nat×Oper)} (ann:List (Nat×Cls)) (hl:enum 0 os=l:=by(first|(dsimp only[enum,Nat.reduceAdd];try exact rfl)|exact rfl)) (hok:drawOk os.toArray (std ann) (List.range os.length)=true:=by(decide+kernel))
  (h:R P os.toArray Q (std ann) w0 S n l L D H []):G P Q w0 S n (.region id os.toArray true) L D H:=by
 intro a w hf hD hw
 subst hl
 have h1:=h (fun p hp=>by simpa using(enum_get os 0 p hp).2) a hf hD
 rw[enum_range,←List.range_eq_range'] at h1
 exact W.draw _ hm.mixed hok h1 hw
theorem G.drawBy [hm:Mixed P] {id:Nat} {os:List Oper} (l:List (Nat×Oper)) (ann:List (Nat×Cls)) (hl:∀p∈l,os[p.1]? =some p.2) (hok:drawOk os.toArray (std ann) (l.map (·.1))=true)
  (h:R P os.toArray Q (std ann) w0 S n l L D H []):G P Q w0 S n (.region id os.toArray true) L D H:=by
 intro a w hf hD hw
 have h1:=h (fun p hp=>by simpa using hl p hp) a hf hD
 exact W.draw _ hm.mixed hok h1 hw
theorem G.seq {x y:Code} (h:G P (Exit.then (fun a w=>y.wp P Q a w) Q) w0 S n x L D H):G P Q w0 S n (.seq x y) L D H:=
 fun a w hf hD hw=>wp_seq (h a w hf hD hw)
theorem G.skip (h:Dn Q w0 S n .normal L D H):G P Q w0 S n .skip L D H:=fun a w hf hD hw=>wp_skip (h a w hf hD hw)
theorem G.ret (h:Dn Q w0 S n .ret L D H):G P Q w0 S n .ret L D H:=fun a w hf hD hw=>wp_ret (h a w hf hD hw)
theorem G.exit {id:Nat} (h:Dn Q w0 S n (.exit id) L D H):G P Q w0 S n (.exit id) L D H:=fun a w hf hD hw=>wp_exit (h a w hf hD hw)
theorem G.block {id:Nat} {c:Code} (h:G P (Exit.inBlock id Q) w0 S n c L D H):G P Q w0 S n (.block id c) L D H:=
 fun a w hf hD hw=>wp_block (h a w hf hD hw)
theorem G.condT {c:Operand} {x y:Code} (hc:ev L c=some (.bool true):=by exact rfl) (h:G P Q w0 S n x L D H):G P Q w0 S n (.cond c x y) L D H:=
 fun a w hf hD hw=>wp_cond_true (hf.eval hc) (h a w hf hD hw)
theorem G.condF {c:Operand} {x y:Code} (hc:ev L c=some (.bool false):=by exact rfl) (h:G P Q w0 S n y L D H):G P Q w0 S n (.cond c x y) L D H:=
 fun a w hf hD hw=>wp_cond_false (hf.eval hc) (h a w hf hD hw)
theorem G.condP {c:Operand} {x y:Code} {p:Prop} {_:Decidable p} (hc:ev L c=some (.bool (dec p))) (ht:p→G P Q w0 S n x L D H) (hf:¬p→G P Q w0 S n y L D H):
  G P Q w0 S n (.cond c x y) L D H:=
 fun a w hfr hD hw=>wp_cond_split (hfr.eval hc) (fun e=>ht (dec_iff.1 e) a w hfr hD hw) (fun e=>hf (fun hp=>by rw[dec_true hp] at e;cases e) a w hfr hD hw)
theorem G.condPT {c:Operand} {x y:Code} {p:Prop} {_:Decidable p} (hc:ev L c=some (.bool (dec p)):=by exact rfl) (hp:p:=by(first|decide|omega)) (ht:G P Q w0 S n x L D H):G P Q w0 S n (.cond c x y) L D H:=
 G.condP hc (fun _=>ht) (fun h=>absurd hp h)
theorem G.condPF {c:Operand} {x y:Code} {p:Prop} {_:Decidable p} (hc:ev L c=some (.bool (dec p)):=by exact rfl) (hp:¬p:=by(first|decide|omega)) (ht:G P Q w0 S n y L D H):G P Q w0 S n (.cond c x y) L D H:=
 G.condP hc (fun h=>absurd h hp) (fun _=>ht)
theorem G.condVT {c:Operand} {x y:Code} {b:Bool} (hc:ev L c=some (.bool b):=by exact rfl) (hb:b=true:=by assumption) (h:G P Q w0 S n x L D H):G P Q w0 S n (.cond c x y) L D H:=
 G.condT (by rw[hc,hb]) h
theorem G.condVF {c:Operand} {x y:Code} {b:Bool} (hc:ev L c=some (.bool b):=by exact rfl) (hb:b=false:=by assumption) (h:G P Q w0 S n y L D H):G P Q w0 S n (.cond c x y) L D H:=
 G.condF (by rw[hc,hb]) h
theorem Dn.next {y:Code} (h:G P Q w0 S n y L D H):Dn (Exit.then (fun a w=>y.wp P Q a w) Q) w0 S n .normal L D H:=h
theorem Dn.blockEnd {id:Nat} (h:Dn Q w0 S n .normal L D H):Dn (Exit.inBlock id Q) w0 S n .normal L D H:=h
theorem Dn.exitHere {id:Nat} (h:Dn Q w0 S n .normal L D H):Dn (Exit.inBlock id Q) w0 S n (.exit id) L D H:=fun a w hf hD hw=>by
 simp only[Exit.inBlock,if_true];exact h a w hf hD hw
theorem Dn.exitPast {id id':Nat} (hne:id≠id') (h:Dn Q w0 S n (.exit id) L D H):Dn (Exit.inBlock id' Q) w0 S n (.exit id) L D H:=fun a w hf hD hw=>by
 simp only[Exit.inBlock,if_neg hne];exact h a w hf hD hw
theorem Dn.exitThen {id:Nat} {K:Act→World→Prop} (h:Dn Q w0 S n (.exit id) L D H):Dn (Exit.then K Q) w0 S n (.exit id) L D H:=h
theorem Dn.retThen {K:Act→World→Prop} (h:Dn Q w0 S n .ret L D H):Dn (Exit.then K Q) w0 S n .ret L D H:=h
theorem Dn.retBlock {id:Nat} (h:Dn Q w0 S n .ret L D H):Dn (Exit.inBlock id Q) w0 S n .ret L D H:=h
def LoopK {X:Type} (w0:World) (S:List Nat) (n:Nat) (D:List Deferred) (I:X→Prop) (Lx:X→Slots) (Hx:X→Hp) (μ:X→Nat) (x:X) (a:Act) (w:World):Prop:=
 ∃x',I x'∧μ x'<μ x∧Fr n a (Lx x')∧a.defers=D∧St w0 S w (Hx x')
theorem Dn.round {X:Type} {I:X→Prop} {Lx:X→Slots} {Hx:X→Hp} {μ:X→Nat} {x:X} {F:Hp} (x':X) (hI:I x') (hμ:μ x'<μ x) (hL:Subs L (Lx x'):=by repeat(first|exact trivial|refine⟨rfl,?_⟩)) (hH:Split H (Hx x') F:=by repeat(first|exact Split.nil|(apply Split.cons;·(repeat(first|exact Take.here|apply Take.there|exact Take.nil))))):
  Dn (Exit.then (LoopK w0 S n D I Lx Hx μ x) Q) w0 S n .normal L D H:=
 fun _ _ hf hD hw=>⟨x',hI,hμ,hf.sub fun t v=>hL.lk t v,hD,hw.sub hH⟩
theorem loop_wp {c:Code} (J:Nat→Act→World→Prop) (body:∀m a w,J m a w→c.wp P (Exit.then (fun a' w'=>∃m',m'<m∧J m' a' w') Q) a w):
  ∀m a w,J m a w→(Code.loop c).wp P Q a w:=by
 intro m a w h b k cs
 have key:∀m a w,J m a w→∃e a' w',Q e a' w'∧Arrives P (lone (b.at a (.code c:: .inLoop c::k)) cs w) b k cs e a' w':=by
  intro m
  induction m using Nat.strongRecOn with
  |_ m ih=>
   intro a w hJ
   obtain⟨e,a₁,w₁,hq,harr⟩:=body m a w hJ b (.inLoop c::k) cs
   cases e with
   |normal=>
    obtain⟨m',hlt,hJ'⟩:=hq
    obtain⟨e₂,a₂,w₂,hq₂,harr₂⟩:=ih m' hlt a₁ w₁ hJ'
    exact⟨e₂,a₂,w₂,hq₂,.of_steps (Steps.trans harr (.one step_inLoop)) harr₂⟩
   |exit id=>exact⟨_,a₁,w₁,hq,.pass (x:= .inLoop c) rfl (fun _ _=> .inl (by simp)) harr⟩
   |goto l=>exact⟨_,a₁,w₁,hq,.pass (x:= .inLoop c) rfl (fun _ _=> .inl (by simp)) harr⟩
   |ret=>exact⟨_,a₁,w₁,hq,.pass (x:= .inLoop c) rfl (fun _ _=> .inl (by simp)) harr⟩
   |panic ch=>exact⟨_,a₁,w₁,hq,.pass (x:= .inLoop c) rfl (fun _ _=> .inl (by simp)) harr⟩
   |outgrown=>exact⟨_,a₁,w₁,hq,.pass (x:= .inLoop c) rfl (fun _ _=> .inl (by simp)) harr⟩
 obtain⟨e,a',w',hq,harr⟩:=key m a w h
 exact⟨e,a',w',hq,.of_steps (.one step_loop) harr⟩
theorem G.loop {X:Type} (I:X→Prop) (Lx:X→Slots) (Hx:X→Hp) (μ:X→Nat) (x0:X) {c:Code} {F:Hp} (hI:I x0) (hL:Subs L (Lx x0):=by repeat(first|exact trivial|refine⟨rfl,?_⟩)) (hH:Split H (Hx x0) F:=by repeat(first|exact Split.nil|(apply Split.cons;·(repeat(first|exact Take.here|apply Take.there|exact Take.nil)))))
  (body:∀x,I x→G P (Exit.then (LoopK w0 S n D I Lx Hx μ x) Q) w0 S n c (Lx x) D (Hx x)):G P Q w0 S n (.loop c) L D H:=by
 intro a w hf hD hw
 refine loop_wp (fun m a w=>∃x,μ x=m∧I x∧Fr n a (Lx x)∧a.defers=D∧St w0 S w (Hx x)) ?_ (μ x0) a w ⟨x0,rfl,hI,hf.sub fun t v=>hL.lk t v,hD,hw.sub hH⟩
 rintro m a w ⟨x,rfl,hI,hf,hD,hw⟩
 refine wp_mono (body x hI a w hf hD hw) fun e a w hq=> ?_
 cases e<;>try exact hq
 obtain⟨x',h1,h2,h3,h4,h5⟩:=hq
 exact⟨_,h2,x',rfl,h1,h3,h4,h5⟩
def CutK {X:Type} (w0:World) (S:List Nat) (n:Nat) (D:List Deferred) (I:X→Prop) (Lx:X→Slots) (Hx:X→Hp) (a:Act) (w:World):Prop:=
 ∃x,I x∧Fr n a (Lx x)∧a.defers=D∧St w0 S w (Hx x)
theorem G.cut {X:Type} (I:X→Prop) (Lx:X→Slots) (Hx:X→Hp) {D':List Deferred} {x y:Code} (h1:G P (Exit.then (CutK w0 S n D' I Lx Hx) Q) w0 S n x L D H)
  (h2:∀z,I z→G P Q w0 S n y (Lx z) D' (Hx z)):G P Q w0 S n (.seq x y) L D H:=fun a w hf hD hw=>by
 refine wp_seq (wp_mono (h1 a w hf hD hw) fun e a w hq=> ?_)
 cases e<;>try exact hq
 obtain⟨z,h3,h4,h5,h6⟩:=hq
 exact h2 z h3 a w h4 h5 h6
theorem Dn.meet {X:Type} {I:X→Prop} {Lx:X→Slots} {Hx:X→Hp} {F:Hp} (x:X) (hI:I x) (hL:Subs L (Lx x):=by repeat(first|exact trivial|refine⟨rfl,?_⟩)) (hH:Split H (Hx x) F:=by repeat(first|exact Split.nil|(apply Split.cons;·(repeat(first|exact Take.here|apply Take.there|exact Take.nil))))):
  Dn (Exit.then (CutK w0 S n D I Lx Hx) Q) w0 S n .normal L D H:=
 fun _ _ hf hD hw=>⟨x,hI,hf.sub fun t v=>hL.lk t v,hD,hw.sub hH⟩
end code
def Post (w0:World) (S:List Nat) (R:Value→Hp→Prop) (e:Ending) (w:World):Prop:=∃v H',e= .returned v∧R v H'∧St w0 S w H'
def Ct (P:Program) (f:FuncId) (args:List Value) (H:Hp) (R:Value→Hp→Prop):Prop:=
 ∀w,St w (keys H) w H→Calls P f args.toArray w (Post w (keys H) R)
def Cd (P:Program) (f:FuncId) (args:List Value) (H:Hp) (R:Value→Hp→Prop):Prop:=
 ∀u w,St w (keys H) w H→CallsD P f args.toArray u w fun e u' w'=>u'=u∧Post w (keys H) R e w'
abbrev CtQ (P:Program) (f:FuncId) (args:List Value) (H:Hp) (v:Value):Prop:=Ct P f args H fun v' H'=>v'=v∧H'=H
theorem Ct.mono {P:Program} {f:FuncId} {args:List Value} {H:Hp} {R R':Value→Hp→Prop} (h:Ct P f args H R) (hr:∀v H',R v H'→R' v H'):Ct P f args H R':=
 fun w hw=>(h w hw).mono fun _ _ ⟨v,H',h1,h2,h3⟩=>⟨v,H',h1,hr _ _ h2,h3⟩
theorem Ct.frame {P:Program} {f:FuncId} {args:List Value} {Hf F:Hp} {R:Value→Hp→Prop} (h:Ct P f args Hf R) {w0:World} {S:List Nat} {w:World} (hw:St w0 S w (Hf++F)):
  Calls P f args.toArray w fun e w'=>∃v H',e= .returned v∧R v H'∧St w0 S w' (H'++F):=
 (h w hw.self).mono fun _ _ ⟨v,H',h1,h2,h3⟩=>⟨v,H',h1,h2,hw.framed h3⟩
def argSlots:Nat→List Value→Slots
 |_,[]=>[]
 |i,v::vs=>(i,v)::argSlots (i+1) vs
theorem lk_argSlots:∀(vs:List Value) (i t:Nat) (v:Value),lk t (argSlots i vs)=some v→i≤t∧vs[t-i]? =some v
 |[],i,t,v,h=>by simp[argSlots,lk] at h
 |u::vs,i,t,v,h=>by
  rw[argSlots,lk_cons] at h
  split at h
  ·rename_i e;subst e;simpa using h
  ·obtain⟨h1,h2⟩:=lk_argSlots vs (i+1) t v h
   refine⟨by omega,?_⟩
   have:t-i=(t-(i+1))+1:=by omega
   rw[this];simpa using h2
theorem fr_start {n:Nat} {args:List Value} (hn:args.length≤n):Fr n ⟨args.toArray++Array.replicate (n-args.toArray.size) undef,[]⟩ (argSlots 0 args) where
 size:=by simp;omega
 get:=by
  intro t v h
  obtain⟨_,h2⟩:=lk_argSlots args 0 t v h
  have hlt:=(List.getElem?_eq_some_iff.1 h2).1
  rw[Array.getElem?_append_left (by simpa using hlt)]
  simpa using h2
inductive Res (P:Program) (L:Slots) (H:Hp):List ResultVar→List Value→Prop
 |nil:Res P L H [] []
 |tmp {t:Tmp} {v:Value} {rs:List ResultVar} {vs:List Value}:lk t L=some v→Res P L H rs vs→Res P L H (.tmp t::rs) (v::vs)
 |cellN {t:Tmp} {T m:Nat} {b off:Nat} {cs us:List Value} {E:TypeId} {fz:Nat×Nat} {rs:List ResultVar} {vs:List Value}:AggN P T m→lk t L=some (.pointer (some ⟨b,off,none⟩))→
   Has b (rowf cs E fz) H→(cs.drop off).take m=us→us.length=m→Res P L H rs vs→Res P L H (.cell t T::rs) (.agg us.toArray::vs)
 |cell1 {t:Tmp} {T:Nat} {b off:Nat} {cs:List Value} {u:Value} {E:TypeId} {fz:Nat×Nat} {rs:List ResultVar} {vs:List Value}:Cell1 P T→lk t L=some (.pointer (some ⟨b,off,none⟩))→
   Has b (rowf cs E fz) H→cs[off]? =some u→Res P L H rs vs→Res P L H (.cell t T::rs) (u::vs)
def packV:List Value→Value
 |[v]=>v
 |vs=> .tuple vs.toArray
section contracts
variable {P:Program} {f:FuncId} {fn:Func} {c:Code} {n:Nat} {args:List Value} {H:Hp} {R:Value→Hp→Prop}
theorem Ct.intro (hf:P.funcs[f]? =some fn) (hb:fn.body=some c) (ht:fn.ntmps=n) (hn:args.length≤n)
  (h:∀w0,G P (bodyPost P fn (Post w0 (keys H) R)) w0 (keys H) n c (argSlots 0 args) [] H):Ct P f args H R:=fun w hw=>
 calls_of_wp hf hb (by rw[ht];exact h w _ _ (fr_start hn) rfl hw)
theorem Cd.intro (hf:P.funcs[f]? =some fn) (hb:fn.body=some c) (ht:fn.ntmps=n) (hn:args.length≤n)
  (h:∀w0,G P (bodyPost P fn (Post w0 (keys H) R)) w0 (keys H) n c (argSlots 0 args) [] H):Cd P f args H R:=fun u w hw=>
 callsD_of_wp hf hb (by rw[ht];exact h w _ _ (fr_start hn) rfl hw)
theorem Ct.introD (hf:P.funcs[f]? =some fn) (hb:fn.body=some c) (ht:fn.ntmps=n) (hn:args.length≤n)
  (h:∀w0,G P (bodyPostD P fn (Post w0 (keys H) R)) w0 (keys H) n c (argSlots 0 args) [] H):Ct P f args H R:=fun w hw=>
 calls_of_wp_defers hf hb (by rw[ht];exact h w _ _ (fr_start hn) rfl hw)
theorem run_mapM_res {w0:World} {S:List Nat} {a:Act} {L:Slots} {H:Hp} (hf:Fr n a L) (w:World) (hw:St w0 S w H):∀(rs:List ResultVar) (vs:List Value),Res P L H rs vs→
  (rs.mapM fun|ResultVar.tmp t=>(pure (a.tmps.getD t undef):Sem Value)| .cell x t=>do loadVar t (←asAddr (a.tmps.getD x undef))).run P w= .ok vs w:=by
 intro rs vs h
 induction h with
 |nil=>simp
 | @tmp t v rs vs h1 _ ih=>
  have:=hf.get t v h1
  rw[List.mapM_cons,Sem.run_bind]
  have e:(a.tmps.getD t undef)=v:=by simp[this]
  simp only[e,Sem.run_pure,Result.andThen_ok]
  rw[Sem.run_bind,ih]
  rfl
 | @cellN t T m b off cs us E fz rs vs ha h1 hh hv hl _ ih=>
  have:=hf.get t _ h1
  rw[List.mapM_cons,Sem.run_bind]
  have e:(a.tmps.getD t undef)= .pointer (some ⟨b,off,none⟩):=by simp[this]
  have hcell:∀j v,us[j]? =some v→w.cell? ((⟨b,off,none⟩:Addr).add j)=some v:=by
   intro j v hj
   rw[Addr.add_mk,cell_of (hh.st hw)]
   rw[←hv,List.getElem?_take,List.getElem?_drop] at hj
   split at hj
   ·exact hj
   ·cases hj
  have h2:=run_loadCells_list (P:=P) w ⟨b,off,none⟩ us hcell
  rw[hl] at h2
  have h3:(loadVar T ⟨b,off,none⟩).run P w= .ok (.agg us.toArray) w:=by simp[loadVar,ha.agg,ha.size,h2]
  have h4:((do let x←asAddr (a.tmps.getD t undef);loadVar T x):Sem Value).run P w= .ok (.agg us.toArray) w:=by rw[e];simp[asAddr,h3]
  erw [h4]
  simp only[Result.andThen_ok]
  rw[Sem.run_bind,ih]
  rfl
 | @cell1 t T b off cs u E fz rs vs ha h1 hh hv _ ih=>
  have:=hf.get t _ h1
  rw[List.mapM_cons,Sem.run_bind]
  have e:(a.tmps.getD t undef)= .pointer (some ⟨b,off,none⟩):=by simp[this]
  have hcell:w.cell? ⟨b,off,none⟩=some u:=by rw[cell_of (hh.st hw)];exact hv
  have h3:(loadVar T ⟨b,off,none⟩).run P w= .ok u w:=by simp[loadVar,ha.agg,hcell]
  have h4:((do let x←asAddr (a.tmps.getD t undef);loadVar T x):Sem Value).run P w= .ok u w:=by rw[e];simp[asAddr,h3]
  erw [h4]
  simp only[Result.andThen_ok]
  rw[Sem.run_bind,ih]
  rfl
theorem run_results {w0:World} {S:List Nat} {a:Act} {L:Slots} {H:Hp} (hf:Fr n a L) {rs:List ResultVar} {vs:List Value} (hr:fn.results=rs.toArray) (h:Res P L H rs vs) {w:World} (hw:St w0 S w H):
  (results fn a.tmps).run P w= .ok (packV vs) w:=by
 unfold results
 rw[hr]
 rw[List.mapM_toArray,Sem.run_bind,Sem.run_map]
 have h1:=run_mapM_res (P:=P) hf w hw rs vs h
 erw [h1]
 simp only[Result.andThen_ok]
 match vs with
 |[]=>simp[packV]
 |[v]=>simp[packV]
 |v::u::vs=>simp[packV]
theorem Dn.post {w0:World} {S:List Nat} {L:Slots} {H':Hp} {rs:List ResultVar} {vs:List Value} {Hr F:Hp} (hr:fn.results=rs.toArray) (h:Res P L H' rs vs:=by(repeat(first|exact Res.nil|(apply Res.tmp;exact rfl)|(apply Res.cellN;exact inferInstance;exact rfl;(·(·(repeat(first|exact Has.here|apply Has.there))));(·(·(first|assumption|(dsimp only[List.drop,List.take];try exact rfl)|exact rfl)));(·(·(first|exact rfl|assumption|(simp;done)))))|(apply Res.cell1;exact inferInstance;exact rfl;(·(·(repeat(first|exact Has.here|apply Has.there))));(·(·(first|exact rfl|assumption))))))) (hs:Split H' Hr F:=by repeat(first|exact Split.nil|(apply Split.cons;·(repeat(first|exact Take.here|apply Take.there|exact Take.nil))))) (hR:R (packV vs) Hr):
  Dn (bodyPost P fn (Post w0 S R)) w0 S n .ret L [] H':=fun _ _ hf hD hw=>
 ⟨hD,packV vs,run_results hf hr h hw,packV vs,Hr,rfl,hR,hw.sub hs⟩
theorem Dn.postEnd {w0:World} {S:List Nat} {L:Slots} {H':Hp} {rs:List ResultVar} {vs:List Value} {Hr F:Hp} (hr:fn.results=rs.toArray) (h:Res P L H' rs vs:=by(repeat(first|exact Res.nil|(apply Res.tmp;exact rfl)|(apply Res.cellN;exact inferInstance;exact rfl;(·(·(repeat(first|exact Has.here|apply Has.there))));(·(·(first|assumption|(dsimp only[List.drop,List.take];try exact rfl)|exact rfl)));(·(·(first|exact rfl|assumption|(simp;done)))))|(apply Res.cell1;exact inferInstance;exact rfl;(·(·(repeat(first|exact Has.here|apply Has.there))));(·(·(first|exact rfl|assumption))))))) (hs:Split H' Hr F:=by repeat(first|exact Split.nil|(apply Split.cons;·(repeat(first|exact Take.here|apply Take.there|exact Take.nil))))) (hR:R (packV vs) Hr):
  Dn (bodyPost P fn (Post w0 S R)) w0 S n .normal L [] H':=fun _ _ hf hD hw=>
 ⟨hD,packV vs,run_results hf hr h hw,packV vs,Hr,rfl,hR,hw.sub hs⟩
def Lv (P:Program) (fn:Func) (w0:World) (S:List Nat) (n:Nat) (R:Value→Hp→Prop) (ds:List Deferred) (L:Slots) (H:Hp):Prop:=
 ∀a w,Fr n a L→St w0 S w H→Leaves P fn a.tmps (Post w0 S R) ds .returning w
theorem Dn.postD {w0:World} {S:List Nat} {L:Slots} {H':Hp} {D:List Deferred} (h:Lv P fn w0 S n R D L H'):Dn (bodyPostD P fn (Post w0 S R)) w0 S n .ret L D H':=
 fun a w hf hD hw=>by subst hD;exact h a w hf hw
theorem Lv.nil {w0:World} {S:List Nat} {L:Slots} {H':Hp} {rs:List ResultVar} {vs:List Value} {Hr F:Hp} (hr:fn.results=rs.toArray) (h:Res P L H' rs vs:=by(repeat(first|exact Res.nil|(apply Res.tmp;exact rfl)|(apply Res.cellN;exact inferInstance;exact rfl;(·(·(repeat(first|exact Has.here|apply Has.there))));(·(·(first|assumption|(dsimp only[List.drop,List.take];try exact rfl)|exact rfl)));(·(·(first|exact rfl|assumption|(simp;done)))))|(apply Res.cell1;exact inferInstance;exact rfl;(·(·(repeat(first|exact Has.here|apply Has.there))));(·(·(first|exact rfl|assumption))))))) (hs:Split H' Hr F:=by repeat(first|exact Split.nil|(apply Split.cons;·(repeat(first|exact Take.here|apply Take.there|exact Take.nil))))) (hR:R (packV vs) Hr):
  Lv P fn w0 S n R [] L H':=fun _ _ hf hw=>⟨packV vs,run_results hf hr h hw,packV vs,Hr,rfl,hR,hw.sub hs⟩
theorem Lv.cons {w0:World} {S:List Nat} {L:Slots} {H' Hf F:Hp} {fv:Fn} {cap dargs:Array Value} {ds:List Deferred} {g:FuncId} {vs:List Value} {Rf:Value→Hp→Prop}
  (hi:∀w,(invoke (.fn fv cap) dargs).run P w= .ok (.enter g vs.toArray) w) (hc:Cd P g vs Hf Rf) (hs:Split H' Hf F)
  (h:∀v H2,Rf v H2→Lv P fn w0 S n R ds L (H2++F)):Lv P fn w0 S n R (⟨.fn fv cap,dargs⟩::ds) L H':=by
 intro a w hf hw
 have hw':St w0 S w (Hf++F):=hw.perm hs
 refine leaves_cons (by simp) (hi w) ((hc .returning w hw'.self).mono ?_)
 rintro e u' w' ⟨rfl,v,H2,rfl,hR,hst⟩
 exact h v H2 hR a w' hf (hw'.framed hst)
end contracts
section calls
variable {P:Program} {ops:Array Oper} {Q:Exit→Act→World→Prop} {cls:Nat→Oper→Cls} {w0:World} {S:List Nat} {n:Nat}
variable {k:Nat} {l:List (Nat×Oper)} {L:Slots} {D:List Deferred} {H:Hp} {qs:List Rd}
variable {d:Nat} {ty:TypeId} {pos:String} {af:Array Edge} {g:Option (Nat×Bool)}
variable {f:FuncId} {as:List Operand} {aT:Array TypeId} {vs:List Value} {Hf F:Hp} {Rf:Value→Hp→Prop}
theorem run_call [hf:Callable P f] {a:Act} (hfr:Fr n a L) (hargs:evs L as=some vs) {dst:Option Tmp} (w:World):
  (execOp a.eval ⟨dst,.call ⟨.value (.func f),as.toArray,aT⟩,ty,pos,af,g⟩).run P w= .ok (.enter f vs.toArray) w:=by
 have:=hfr.evals hargs
 simp[execOp,resolve,Deferred.ofValue,Act.eval,invoke,hf.run,this]
theorem R.call [hf:Callable P f] (hargs:evs L as=some vs:=by exact rfl) (hct:Ct P f vs Hf Rf) (hs:Split H Hf F:=by repeat(first|exact Split.nil|(apply Split.cons;·(repeat(first|exact Take.here|apply Take.there|exact Take.nil))))) (hc:cls k ⟨some d,.call ⟨.value (.func f),as.toArray,aT⟩,ty,pos,af,g⟩= .eff []:=by exact rfl)
  (hn:d<n:=by exact nle rfl) (h:∀v H',Rf v H'→R P ops Q cls w0 S n l ((d,v)::L) D (H'++F) qs):
  R1 P ops Q cls w0 S n k ⟨some d,.call ⟨.value (.func f),as.toArray,aT⟩,ty,pos,af,g⟩ l L D H qs:=by
 refine R1.effStep hc hn fun a w w0 S hfr hst=> ?_
 have hst':St w0 S w (Hf++F):=hst.perm hs
 simp only[OpOk,run_call hfr hargs]
 exact(hct.frame hst').mono fun e w' ⟨v,H',h1,h2,h3⟩=>⟨v,h1,H'++F,h3,(by intro _ _ h;cases h),h v H' h2⟩
theorem R.callX [hf:Callable P f] {cr:List Nat} (hargs:evs L as=some vs:=by exact rfl) (hct:Ct P f vs Hf Rf) (hs:Split H Hf F:=by repeat(first|exact Split.nil|(apply Split.cons;·(repeat(first|exact Take.here|apply Take.there|exact Take.nil))))) (hc:cls k ⟨some d,.call ⟨.value (.func f),as.toArray,aT⟩,ty,pos,af,g⟩= .eff cr:=by exact rfl)
  (hn:d<n:=by exact nle rfl) (h:∀v H',Rf v H'→(∀r∈qs,r.i∈cr→r.Pr (H'++F))∧R P ops Q cls w0 S n l ((d,v)::L) D (H'++F) qs):
  R1 P ops Q cls w0 S n k ⟨some d,.call ⟨.value (.func f),as.toArray,aT⟩,ty,pos,af,g⟩ l L D H qs:=by
 refine R1.effStep hc hn fun a w w0 S hfr hst=> ?_
 have hst':St w0 S w (Hf++F):=hst.perm hs
 simp only[OpOk,run_call hfr hargs]
 exact(hct.frame hst').mono fun e w' ⟨v,H',h1,h2,h3⟩=>⟨v,h1,H'++F,h3,h v H' h2⟩
theorem R.callP [hf:Callable P f] {v:Value} (hargs:evs L as=some vs:=by exact rfl) (hct:CtQ P f vs Hf v) (hs:Split H Hf F:=by repeat(first|exact Split.nil|(apply Split.cons;·(repeat(first|exact Take.here|apply Take.there|exact Take.nil))))) (hc:cls k ⟨some d,.call ⟨.value (.func f),as.toArray,aT⟩,ty,pos,af,g⟩= .eff []:=by exact rfl)
  (hn:d<n:=by exact nle rfl) (h:R P ops Q cls w0 S n l ((d,v)::L) D H qs):
  R1 P ops Q cls w0 S n k ⟨some d,.call ⟨.value (.func f),as.toArray,aT⟩,ty,pos,af,g⟩ l L D H qs:=by
 refine R1.effStep hc hn fun a w w0 S hfr hst=> ?_
 have hst':St w0 S w (Hf++F):=hst.perm hs
 simp only[OpOk,run_call hfr hargs]
 exact(hct.frame hst').mono fun e w' ⟨v',H',h1,⟨h2,h3⟩,h4⟩=>⟨v',h1,H,(by subst h3;exact h4.perm hs.symm),(by intro _ _ h;cases h),(by subst h2;exact h)⟩
theorem R.callQ [hf:Callable P f] {v:Value} (hargs:evs L as=some vs:=by exact rfl) (hct:CtQ P f vs Hf v) (hs:Split H Hf F:=by repeat(first|exact Split.nil|(apply Split.cons;·(repeat(first|exact Take.here|apply Take.there|exact Take.nil))))) (hc:cls k ⟨some d,.call ⟨.value (.func f),as.toArray,aT⟩,ty,pos,af,g⟩= .quiet:=by exact rfl)
  (hn:d<n:=by exact nle rfl) (h:R P ops Q cls w0 S n l ((d,v)::L) D H (⟨k,fun H=>∃F,Split H Hf F⟩::qs)):
  R1 P ops Q cls w0 S n k ⟨some d,.call ⟨.value (.func f),as.toArray,aT⟩,ty,pos,af,g⟩ l L D H qs:=by
 refine R1.quietStep (Pr:=fun H=>∃F,Split H Hf F) hc rfl hn (fun a hfr=>⟨fun H1 H2 ⟨F,h1⟩ hp=>⟨F,hp.symm.trans h1⟩,fun c H1 ⟨F,h1⟩=>⟨c::F,?_⟩,fun H1 w ⟨F,h1⟩ hst=> ?_⟩) ⟨F,hs⟩ h
 ·unfold Split at*
  simp only[List.flatten_cons,List.flatten_append]
  refine(List.Perm.append_left c h1).trans ?_
  simp only[List.flatten_append,←List.append_assoc]
  exact List.Perm.append_right _ List.perm_append_comm
 ·have hst':St w0 S w (Hf++F):=hst.perm h1
  simp only[OpOk,run_call hfr hargs]
  exact(hct.frame hst').mono fun e w' ⟨v',H',h2,⟨h3,h4⟩,h5⟩=>⟨v',h2,h3,by subst h4;exact h5.perm h1.symm⟩
end calls
theorem qok_nil {cr:List Nat} {H:Hp}:∀r∈([]:List Rd),r.i∈cr→r.Pr H:=fun _ h=>by cases h
theorem qok_cons {cr:List Nat} {H:Hp} {r:Rd} {qs:List Rd} (h:r.i∈cr→r.Pr H) (h2:∀r∈qs,r.i∈cr→r.Pr H):∀x∈(r::qs),x.i∈cr→x.Pr H:=by
 intro x hx
 rcases List.mem_cons.1 hx with rfl|hx
 ·exact h
 ·exact h2 x hx
theorem CellPr.mk {b off:Nat} {v:Value} {cs:List Value} {E:TypeId} {fz:Nat×Nat} {H:Hp} (h1:Has b (rowf cs E fz) H) (h2:cs[off]? =some v):CellPr b off v H:=⟨cs,E,fz,h1,h2⟩
theorem CellsPr.mk {b off:Nat} {vs cs:List Value} {E:TypeId} {fz:Nat×Nat} {H:Hp} (h1:Has b (rowf cs E fz) H) (h2:(cs.drop off).take vs.length=vs):CellsPr b off vs H:=⟨cs,E,fz,h1,h2⟩
attribute [irreducible] R R1 G Dn Lv Has Upd Take Split Ct Cd CellPr CellsPr
end Go.SL
