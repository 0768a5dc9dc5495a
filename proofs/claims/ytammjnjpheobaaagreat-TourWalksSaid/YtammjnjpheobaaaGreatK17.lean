/-
  Parts of the proof, put together: MergeSt2, Merge. No condition.
-/
import Derived.Test.YtammjnjpheobaaaGreatK16
set_option linter.unusedVariables false
set_option linter.unusedSimpArgs false
set_option linter.unnecessarySimpa false
set_option maxHeartbeats 4000000
namespace Go.SL
section apart
variable {Q:Exit→Act→World→Prop} {w0:World} {S:List Nat} {n:Nat} {L:Slots} {D:List Deferred} {H:Hp}
theorem Dn.nodup {e:Exit} (h:(keys H).Nodup→Dn Q w0 S n e L D H):Dn Q w0 S n e L D H:=by
 unfold Dn at h⊢
 exact fun a w hf hD hw=>h hw.nodup a w hf hD hw
theorem apart_take {H Ha Hb:Hp} {c1 c2:Chunk} (h:(keys H).Nodup) (h1:Take c1 H Ha) (h2:Take c2 Ha Hb):∀k∈c1.map (·.1),k∉c2.map (·.1):=by
 unfold Take at h1 h2
 have h3:H.flatten.Perm (c1++(c2++Hb.flatten)):=h1.trans (List.Perm.append_left _ h2)
 unfold keys at h
 have h4:=(h3.map (fun p=>p.1)).nodup_iff.1 h
 rw[List.map_append,List.map_append] at h4
 intro k hk hk2
 exact(List.nodup_append.1 h4).2.2 k hk k (List.mem_append_left _ hk2) rfl
variable {P:Program} {ops:Array Oper} {cls:Nat→Oper→Cls} {k:Nat} {l:List (Nat×Oper)} {qs:List Rd}
theorem putP_perm {c c1 c2:Chunk} {Ha Hb:Hp} (h1:Take c1 H Ha) (h2:Take c2 Ha Hb) (hp:(c1++c2).Perm c):H.flatten.Perm ((c::Hb).flatten):=by
 refine(join_perm h1 h2).trans ?_
 simp only[List.flatten_cons]
 exact hp.append_right _
theorem R.joinP {c c1 c2:Chunk} {Ha Hb:Hp} (hp:(c1++c2).Perm c) (h1:Take c1 H Ha) (h2:Take c2 Ha Hb) (h:R P ops Q cls w0 S n l L D (c::Hb) qs):R P ops Q cls w0 S n l L D H qs:=R.recut (putP_perm h1 h2 hp) h
theorem Dn.joinP {e:Exit} {c c1 c2:Chunk} {Ha Hb:Hp} (hp:(c1++c2).Perm c) (h1:Take c1 H Ha) (h2:Take c2 Ha Hb) (h:Dn Q w0 S n e L D (c::Hb)):Dn Q w0 S n e L D H:=Dn.recut (putP_perm h1 h2 hp) h
end apart
end Go.SL
namespace Go.Proofs.YtammjnjpheobaaaGreat
open Go.SL Go.Spc Go.Tup Go.Srt
def Rdr.src (r:Rdr):Fl×List T5:=(r.f,r.ts)
theorem RdSt.bx_mem {bw:Nat} {W:Wk} {r:Rdr} (h:RdSt bw W r):r.bx∈r.cx.map (·.1):=by
 unfold RdSt at h
 split at h
 ·obtain⟨_,buf,n,a,e,_⟩:=h
  rw[e];simp
 ·obtain⟨_,_,_,_,_,_,_,e⟩:=h
  rw[e];simp
theorem bx_apart {bw:Nat} {W:Wk} {rds:List Rdr} (h:∀r∈rds,RdSt bw W r) {b:Nat} (hb:b∉(rdAll rds).map (·.1)):b∉rds.map (·.bx):=by
 intro hm
 obtain⟨r,hr,rfl⟩:=List.mem_map.1 hm
 apply hb
 obtain⟨p,hp,e⟩:=List.mem_map.1 (h r hr).bx_mem
 rw[←e]
 refine List.mem_map.2 ⟨p,?_,rfl⟩
 unfold rdAll
 exact List.mem_flatMap.2 ⟨r,hr,List.mem_append_left _ hp⟩
theorem sd_weak {o:T5} {once:Bool} {l:List T5} (h:Sd (ltO o) once l):Sd (ltO o) false l:=by
 cases once with
 |false=>exact h
 |true=>
  unfold Sd at*
  refine h.imp fun hab=> ?_
  simp only[if_true] at hab
  simp only[Bool.false_eq_true,if_false]
  exact(ltO_swo o).asym _ _ hab
theorem MSt.permH {bw:Nat} {W:Wk} {o:T5} {rds:List Rdr} {hl hl':List Hd} (h:MSt bw W o rds hl) (hp:hl'.Perm hl):MSt bw W o rds hl' where
 rd:=h.rd
 nd:=h.nd
 hd:=fun x hx=>h.hd x (hp.mem_iff.1 hx)
 ex:=fun j r hj ho=>by
  obtain⟨x,hx,e⟩:=h.ex j r hj ho
  exact⟨x,hp.mem_iff.2 hx,e⟩
 one:=((hp.map _).nodup_iff).2 h.one
 sd:=h.sd
theorem MSt.move {bw:Nat} {W W':Wk} {o:T5} {rds:List Rdr} {hl:List Hd} (h:MSt bw W o rds hl) (hs:W'.δ.size=W.δ.size):MSt bw W' o rds hl:=
 {h with rd:=fun r hr=>(h.rd r hr).move hs}
theorem MSt.nil (bw:Nat) (W:Wk) (o:T5):MSt bw W o [] []:=⟨by simp,by simp,by simp,by simp,by simp,by simp⟩
theorem MSt.add {bw:Nat} {W W':Wk} {o:T5} {rds:List Rdr} {hl:List Hd} {r:Rdr} {t:T5} (h:MSt bw W o rds hl) (hs:W'.δ.size=W.δ.size) (hr:RdSt bw W' r) (ho:r.opn=true) (hp:0<r.pos) (ht:r.ts[r.pos-1]? =some t)
  (hb:r.bx∉rds.map (·.bx)) (hsd:Sd (ltO o) false r.ts):MSt bw W' o (rds++[r]) (hl++[⟨t,rds.length,r.bx⟩]) where
 rd:=fun q hq=>by
  rcases List.mem_append.1 hq with hq|hq
  ·exact(h.rd q hq).move hs
  ·simp only[List.mem_singleton] at hq;subst hq;exact hr
 nd:=by
  rw[List.map_append,List.nodup_append]
  refine⟨h.nd,by simp,?_⟩
  intro a ha b hb2 e
  simp only[List.map_cons,List.map_nil,List.mem_singleton] at hb2
  subst hb2;subst e;exact hb ha
 hd:=fun x hx=>by
  rcases List.mem_append.1 hx with hx|hx
  ·obtain⟨q,h1,h2⟩:=h.hd x hx
   exact⟨q,by rw[List.getElem?_append_left (List.getElem?_eq_some_iff.1 h1).1];exact h1,h2⟩
  ·simp only[List.mem_singleton] at hx;subst hx
   exact⟨r,by simp,ho,rfl,hp,ht⟩
 ex:=fun j q hj hq=>by
  by_cases hlt:j<rds.length
  ·rw[List.getElem?_append_left hlt] at hj
   obtain⟨x,hx,e⟩:=h.ex j q hj hq
   exact⟨x,List.mem_append_left _ hx,e⟩
  ·have hjl:=(List.getElem?_eq_some_iff.1 hj).1
   rw[List.length_append,List.length_singleton] at hjl
   obtain rfl:j=rds.length:=by omega
   exact⟨_,List.mem_append_right _ List.mem_cons_self,rfl⟩
 one:=by
  rw[List.map_append,List.nodup_append]
  refine⟨h.one,by simp,?_⟩
  intro a ha b hb2 e
  simp only[List.map_cons,List.map_nil,List.mem_singleton] at hb2
  subst hb2;subst e
  obtain⟨x,hx,e⟩:=List.mem_map.1 ha
  obtain⟨q,h1,_⟩:=h.hd x hx
  have:=(List.getElem?_eq_some_iff.1 h1).1
  omega
 sd:=fun q hq=>by
  rcases List.mem_append.1 hq with hq|hq
  ·exact h.sd q hq
  ·simp only[List.mem_singleton] at hq;subst hq;exact hsd
theorem mid_get {α:Type} {A B:List α} {r r':α} {j:Nat} (h:j≠A.length):(A++r'::B)[j]? =(A++r::B)[j]? :=by
 by_cases hlt:j<A.length
 ·rw[List.getElem?_append_left hlt,List.getElem?_append_left hlt]
 ·rw[List.getElem?_append_right (by omega),List.getElem?_append_right (by omega)]
  obtain⟨i,hi⟩:∃i,j-A.length=i+1:=⟨j-A.length-1,by omega⟩
  rw[hi];simp
theorem mid_at {α:Type} {A B:List α} {r:α}:(A++r::B)[A.length]? =some r:=by simp
theorem MSt.step {bw:Nat} {W W':Wk} {o:T5} {A B:List Rdr} {r r':Rdr} {x:Hd} {tl:List Hd} {t:T5} (h:MSt bw W o (A++r::B) (x::tl)) (hA:A.length=x.run) (hs:W'.δ.size=W.δ.size) (hr:RdSt bw W' r') (hb:r'.bx=r.bx) (hx:r.bx=x.rd) (hts:r'.ts=r.ts) (ho:r'.opn=true) (hp:0<r'.pos)
  (ht:r'.ts[r'.pos-1]? =some t):MSt bw W' o (A++r'::B) ({x with t:=t}::tl) where
 rd:=fun q hq=>by
  rcases List.mem_append.1 hq with hq|hq
  ·exact(h.rd q (List.mem_append_left _ hq)).move hs
  ·rcases List.mem_cons.1 hq with rfl|hq
   ·exact hr
   ·exact(h.rd q (List.mem_append_right _ (List.mem_cons_of_mem _ hq))).move hs
 nd:=by have:=h.nd;simp only[List.map_append,List.map_cons,hb] at this⊢;exact this
 hd:=fun y hy=>by
  have hone:=h.one
  rw[List.map_cons,List.nodup_cons] at hone
  rcases List.mem_cons.1 hy with rfl|hy
  ·exact⟨r',by dsimp only;rw[←hA];exact mid_at,ho,hb.trans hx,hp,ht⟩
  ·obtain⟨q,h1,h2⟩:=h.hd y (List.mem_cons_of_mem _ hy)
   refine⟨q,?_,h2⟩
   rw[mid_get (r:=r) (by rw[hA];intro e;exact hone.1 (List.mem_map.2 ⟨y,hy,e⟩))]
   exact h1
 ex:=fun j q hj hq=>by
  by_cases e:j=A.length
  ·exact⟨_,List.mem_cons_self,by dsimp only;omega⟩
  ·rw[mid_get (r:=r) e] at hj
   obtain⟨y,hy,e2⟩:=h.ex j q hj hq
   rcases List.mem_cons.1 hy with rfl|hy
   ·omega
   ·exact⟨y,List.mem_cons_of_mem _ hy,e2⟩
 one:=by have:=h.one;simpa using this
 sd:=fun q hq=>by
  rcases List.mem_append.1 hq with hq|hq
  ·exact h.sd q (List.mem_append_left _ hq)
  ·rcases List.mem_cons.1 hq with rfl|hq
   ·rw[hts];exact h.sd r (by simp)
   ·exact h.sd q (List.mem_append_right _ (List.mem_cons_of_mem _ hq))
theorem MSt.close {bw:Nat} {W W':Wk} {o:T5} {A B:List Rdr} {r r':Rdr} {x:Hd} {tl:List Hd} (h:MSt bw W o (A++r::B) (x::tl)) (hA:A.length=x.run) (hs:W'.δ.size=W.δ.size) (hr:RdSt bw W' r') (hb:r'.bx=r.bx) (hts:r'.ts=r.ts) (ho:r'.opn=false):
  MSt bw W' o (A++r'::B) tl where
 rd:=fun q hq=>by
  rcases List.mem_append.1 hq with hq|hq
  ·exact(h.rd q (List.mem_append_left _ hq)).move hs
  ·rcases List.mem_cons.1 hq with rfl|hq
   ·exact hr
   ·exact(h.rd q (List.mem_append_right _ (List.mem_cons_of_mem _ hq))).move hs
 nd:=by have:=h.nd;simp only[List.map_append,List.map_cons,hb] at this⊢;exact this
 hd:=fun y hy=>by
  have hone:=h.one
  rw[List.map_cons,List.nodup_cons] at hone
  obtain⟨q,h1,h2⟩:=h.hd y (List.mem_cons_of_mem _ hy)
  refine⟨q,?_,h2⟩
  rw[mid_get (r:=r) (by rw[hA];intro e;exact hone.1 (List.mem_map.2 ⟨y,hy,e⟩))]
  exact h1
 ex:=fun j q hj hq=>by
  by_cases e:j=A.length
  ·subst e;rw[mid_at] at hj;cases hj;rw[ho] at hq;cases hq
  ·rw[mid_get (r:=r) e] at hj
   obtain⟨y,hy,e2⟩:=h.ex j q hj hq
   rcases List.mem_cons.1 hy with rfl|hy
   ·omega
   ·exact⟨y,hy,e2⟩
 one:=by have:=h.one;rw[List.map_cons,List.nodup_cons] at this;exact this.2
 sd:=fun q hq=>by
  rcases List.mem_append.1 hq with hq|hq
  ·exact h.sd q (List.mem_append_left _ hq)
  ·rcases List.mem_cons.1 hq with rfl|hq
   ·rw[hts];exact h.sd r (by simp)
   ·exact h.sd q (List.mem_append_right _ (List.mem_cons_of_mem _ hq))
structure CSt (bw:Nat) (W:Wk) (rs:List Rdr) (l:List Hd):Prop where
 rd:∀r∈rs,RdSt bw W r
 lr:∀x∈l,∃r∈rs,r.bx=x.rd
 rl:∀r∈rs,r.opn=true→∃x∈l,x.rd=r.bx
 nd:(rs.map (·.bx)).Nodup
theorem CSt.move {bw:Nat} {W W':Wk} {rs:List Rdr} {l:List Hd} (h:CSt bw W rs l) (hs:W'.δ.size=W.δ.size):CSt bw W' rs l:={h with rd:=fun r hr=>(h.rd r hr).move hs}
theorem MSt.cst {bw:Nat} {W:Wk} {o:T5} {rds:List Rdr} {hl:List Hd} (h:MSt bw W o rds hl):CSt bw W rds hl where
 rd:=h.rd
 lr:=fun x hx=>by
  obtain⟨r,h1,_,h2,_⟩:=h.hd x hx
  exact⟨r,List.mem_of_getElem? h1,h2⟩
 rl:=fun r hr ho=>by
  obtain⟨j,hj,e⟩:=List.getElem_of_mem hr
  obtain⟨x,hx,e2⟩:=h.ex j r (by rw[List.getElem?_eq_getElem hj,e]) ho
  obtain⟨q,h1,_,h2,_⟩:=h.hd x hx
  rw[e2,List.getElem?_eq_getElem hj,e] at h1
  cases h1
  exact⟨x,hx,h2.symm⟩
 nd:=h.nd
theorem CSt.one {bw:Nat} {W W':Wk} {A B:List Rdr} {r r':Rdr} {l:List Hd} (h:CSt bw W (A++r::B) l) (hs:W'.δ.size=W.δ.size) (hr:RdSt bw W' r') (hb:r'.bx=r.bx) (ho:r'.opn=false):CSt bw W' (A++r'::B) l where
 rd:=fun q hq=>by
  rcases List.mem_append.1 hq with hq|hq
  ·exact(h.rd q (List.mem_append_left _ hq)).move hs
  ·rcases List.mem_cons.1 hq with rfl|hq
   ·exact hr
   ·exact(h.rd q (List.mem_append_right _ (List.mem_cons_of_mem _ hq))).move hs
 lr:=fun x hx=>by
  obtain⟨q,hq,e⟩:=h.lr x hx
  rcases List.mem_append.1 hq with hq|hq
  ·exact⟨q,List.mem_append_left _ hq,e⟩
  ·rcases List.mem_cons.1 hq with rfl|hq
   ·exact⟨r',List.mem_append_right _ List.mem_cons_self,hb.trans e⟩
   ·exact⟨q,List.mem_append_right _ (List.mem_cons_of_mem _ hq),e⟩
 rl:=fun q hq hqo=>by
  rcases List.mem_append.1 hq with hq|hq
  ·exact h.rl q (List.mem_append_left _ hq) hqo
  ·rcases List.mem_cons.1 hq with rfl|hq
   ·rw[ho] at hqo;cases hqo
   ·exact h.rl q (List.mem_append_right _ (List.mem_cons_of_mem _ hq)) hqo
 nd:=by have:=h.nd;simp only[List.map_append,List.map_cons,hb] at this⊢;exact this
def rdA (s k:Nat) (rds:List Rdr):Nat:=(rds.map fun r=>nblocks s k r.pos).sum
def left (rds:List Rdr):List T5:=(rds.map remOf).flatten
theorem rdA_mid (s k:Nat) (A B:List Rdr) (r:Rdr):rdA s k (A++r::B)=rdA s k A+(nblocks s k r.pos+rdA s k B):=by simp[rdA,List.sum_append]
theorem left_mid (A B:List Rdr) (r:Rdr):left (A++r::B)=left A++(remOf r++left B):=by simp[left]
theorem rdA_app (s k:Nat) (A:List Rdr) (r:Rdr):rdA s k (A++[r])=rdA s k A+nblocks s k r.pos:=by simp[rdA,List.sum_append]
theorem rdGrants_app (A:List Rdr) (r:Rdr):rdGrants (A++[r])=rdGrants A++(if r.opn=true then[r.g] else[]):=by
 unfold rdGrants
 rw[List.filter_append,List.map_append]
 congr 1
 by_cases h:r.opn=true
 ·rw[if_pos h,List.filter_cons_of_pos h];rfl
 ·rw[if_neg h,List.filter_cons_of_neg h];rfl
theorem rdAll_mid (A B:List Rdr) (r:Rdr):(rdAll (A++r::B)).Perm ((r.cx++r.cb)++rdAll (A++B)):=by
 have h:(A++r::B).Perm (r::(A++B)):=List.perm_middle
 refine(rdAll_perm h).trans ?_
 simp[rdAll]
theorem rdGrants_mid (A B:List Rdr) (r:Rdr) (ho:r.opn=true):(rdGrants (A++r::B)).Perm (r.g::rdGrants (A++B)):=by
 have h:(A++r::B).Perm (r::(A++B)):=List.perm_middle
 refine(rdGrants_perm h).trans ?_
 unfold rdGrants;rw[List.filter_cons_of_pos ho];exact .refl _
theorem rdGrants_mid0 (A B:List Rdr) (r:Rdr) (ho:r.opn=false):(rdGrants (A++r::B)).Perm (rdGrants (A++B)):=by
 have h:(A++r::B).Perm (r::(A++B)):=List.perm_middle
 refine(rdGrants_perm h).trans ?_
 unfold rdGrants;rw[List.filter_cons_of_neg (by simp[ho])]
theorem rdA_le {s k:Nat} {rds:List Rdr} (h:∀r∈rds,r.pos≤r.f.count):rdA s k rds≤((rds.map Rdr.src).map fun r=>nblocks s k r.1.count).sum:=by
 induction rds with
 |nil=>simp[rdA]
 |cons r rds ih=>
  have h1:=ih fun q hq=>h q (List.mem_cons_of_mem _ hq)
  have h2:nblocks s k r.pos≤nblocks s k r.f.count:=nblocks_mono (h r List.mem_cons_self)
  simp only[rdA,List.map_cons,List.sum_cons,Rdr.src] at h1⊢
  omega
end Go.Proofs.YtammjnjpheobaaaGreat
namespace Go.Proofs.YtammjnjpheobaaaGreat
open Go.SL Go.Spc Go.Tup Go.Srt
theorem rdAll_mid' (A B:List Rdr) {r:Rdr} {cx cb:Chunk} (h1:r.cx=cx) (h2:r.cb=cb):((cx++cb)++rdAll (A++B)).Perm (rdAll (A++r::B)):=by
 subst h1 h2;exact(rdAll_mid A B r).symm
theorem heap_set {o:T5} {x y:Hd} {tl:List Hd} (h:HeapFrom (ltH o) (x::tl) (x::tl).length 0):HeapFrom (ltH o) (y::tl) (y::tl).length 1:=by
 intro c h1 h2 h3
 have e:∀j,0<j→at_ (y::tl) j=at_ (x::tl) j:=fun j hj=>by
  obtain⟨i,rfl⟩:∃i,j=i+1:=⟨j-1,by omega⟩
  rfl
 rw[e _ h1,e _ h3]
 exact h c h1 h2 (Nat.zero_le _)
structure MergeX2 where
 cd:Chunk
 ca:Chunk
 cs:Chunk
 cx:Chunk
 cb:Chunk
 W:Wk
 rds:List Rdr
 hl:List Hd
 ps:List T5
 last:T5
 sm:Bool
 rest:List Value
structure MergeX1 where
 i:Nat
 cnt:Nat
 cd:Chunk
 ca:Chunk
 W:Wk
 rds:List Rdr
 hl:List Hd
 p:Option Addr
 cap:Nat
 vc:Chunk
structure MergeIn (W:Wk) (k:Nat) (o:T5) (once:Bool) (rs:List (Fl×List T5)):Prop where
 k1:1≤k
 k5:k≤5
 two:2≤rs.length
 ok:∀r∈rs,r.1.width=k∧FileOk W.δ.disk W.δ.size [r.1.ext] r.1 r.2∧Sd (ltO o) once r.2∧0<r.1.count
 live:∀r∈rs,r.1.ext∈W.live
 room:(rs.length+1)*W.δ.size≤W.α.room-W.α.used
 acts:W.δ.acts≤100000000000
 cnt:(rs.map (·.1.count)).sum≤1000000
def filesA (s k:Nat) (rs:List (Fl×List T5)):Nat:=(rs.map fun r=>nblocks s k r.1.count).sum
theorem sum_take_le {l:List Nat} {i:Nat}:(l.take i).sum≤l.sum:=by
 have h:=congrArg List.sum (List.take_append_drop i l)
 rw[List.sum_append] at h;omega
theorem len_le_sum {rs:List (Fl×List T5)} (h:∀r∈rs,0<r.1.count):rs.length≤(rs.map (·.1.count)).sum:=by
 induction rs with
 |nil=>simp
 |cons r rs ih=>
  have h1:=ih fun q hq=>h q (List.mem_cons_of_mem _ hq)
  have h2:=h r List.mem_cons_self
  simp only[List.map_cons,List.sum_cons,List.length_cons];omega
theorem filesA_le {s k:Nat} (hp:1≤holds s k) {rs:List (Fl×List T5)}:filesA s k rs≤(rs.map (·.1.count)).sum:=by
 induction rs with
 |nil=>simp[filesA]
 |cons r rs ih=>
  have h2:=nblocks_le (n:=r.1.count) hp
  simp only[filesA,List.map_cons,List.sum_cons] at ih⊢;omega
theorem merge_ct (bz bw bd ba bs:Nat) (W:Wk) (cd ca cs:Chunk) (h:Wc bd ba bs W cd ca cs) (k:Nat) (o:T5) (once:Bool) (rs:List (Fl×List T5)) (hin:MergeIn W k o once rs) (vb off vcap:Nat) (cells:List Value)
  (hcell:∀(i:Nat) (r:Fl×List T5),rs[i]? =some r→(cells.drop (off+i*4)).take 4=[.int .i64 (r.1.first:Int),.int .i64 (r.1.blocks:Int),.int .i64 (r.1.width:Int),.int .i64 (r.1.count:Int)]) (p:Option Addr) (n cap:Nat) (last:T5) (sm:Bool):
  Ct Tryz.prog 164 [pv bz,.slice (some ⟨vb,off,none⟩) rs.length vcap] [sRow bz bw o once p n cap last sm,wrow bw bd ba bs,cd,ca,cs,[(vb,row cells 27)]] fun v H'=>
   ∃cd' ca' cs' W' last' sm',H'=[sRow bz bw o once p n cap last' sm',wrow bw bd ba bs,cd',ca',cs',[(vb,row cells 27)]]∧Wc bd ba bs W' cd' ca' cs'∧
    Ev W W' (filesA W.δ.size k rs+nblocks W.δ.size k (rs.map (·.1.count)).sum) (nblocks W.δ.size k (rs.map (·.1.count)).sum)∧Keep W.live W W'∧W'.α.gs.Perm W.α.gs∧
    ((∃f out,v= .tuple #[flv f,.int .i64 0]∧W'.live.Perm (addF f W.live)∧f.width=k∧0<f.count∧f.count≤(rs.map (·.1.count)).sum∧FileOk W'.δ.disk W.δ.size [f.ext] f out∧Sd (ltO o) once out∧Go.Srt.Sp (ltO o) once (rs.flatMap (·.2)) out)∨
     (v= .tuple #[flv ⟨0,0,0,0⟩,.int .i64 5]∧big W.σ.free<nblocks W.δ.size k (rs.map (·.1.count)).sum∧W'.live.Perm W.live)∨
     (v= .tuple #[flv ⟨0,0,0,0⟩,.int .i64 6]∧W.δ.fault≠-1∧W'.live.Perm W.live)):=by
 obtain⟨⟨hs1,hs2⟩,hbk,hfr⟩:=h.dev.num
 obtain⟨hu1,hu2,_,hu4⟩:=h.ar.num
 have hk1:=hin.k1
 have hk5:=hin.k5
 have hp:=holds_pos hs1 hk1 hk5
 have hcnt:=hin.cnt
 have hrl:rs.length≤(rs.map (·.1.count)).sum:=len_le_sum fun r hr=>(hin.ok r hr).2.2.2
 have hfA:filesA W.δ.size k rs≤(rs.map (·.1.count)).sum:=filesA_le hp
 have hacW:=hin.acts
 have htwo:=hin.two
 unfold sRow sCells
 refine Ct.introD Tryz.func164 rfl Tryz.ntmps164 (nle rfl) fun w0=> ?_;dsimp only[argSlots,Nat.reduceAdd]
 repeat(first|(refine st ?_;intros)|refine G.draw [] (h:= ?_)|refine G.draw (id:=15) [(10,.eff [0])] (h:= ?_)|(refine cq hN ?_))
 rename_i b4 bh bc
 have hroom:=hin.room
 have hrN:(rs.length+1)*W.δ.size=rs.length*W.δ.size+W.δ.size:=Nat.succ_mul _ _
 refine G.loop (X:=MergeX1) (fun x=>x.i≤rs.length∧x.i=x.rds.length∧x.hl.length=x.i∧x.cnt=((rs.take x.i).map (·.1.count)).sum∧Wc bd ba bs x.W x.cd x.ca cs∧Ev W x.W (rdA W.δ.size k x.rds) 0∧x.W.δ.disk=W.δ.disk∧x.W.live=W.live∧x.W.σ=W.σ∧
   x.W.α.gs.Perm (rdGrants x.rds++W.α.gs)∧x.W.α.used=W.α.used+x.i*W.δ.size∧x.rds.map Rdr.src=rs.take x.i∧(∀r∈x.rds,r.opn=true∧r.pos=1)∧MSt bw x.W o x.rds x.hl∧Vec 237 7 x.p x.i x.cap (hcells x.hl) x.vc)
  (fun x=>[(30,.int .i64 (x.i:Int)),(7,.int .i64 (x.cnt:Int)),(28,.slice (some ⟨vb,off,none⟩) rs.length vcap),(29,.int .i64 (rs.length:Int)),(6,pv bc),(4,pv b4),(0,pv bz),(1,.slice (some ⟨vb,off,none⟩) rs.length vcap)])
  (fun x=>[[(b4,row [.int .i64 0,.int .i64 0,.int .i64 0,.int .i64 0] 27)],[(bc,row [pv bh] 232)],[(bh,row [.slice x.p x.i x.cap,.int .i64 o.c0,.int .i64 o.c1,.int .i64 o.c2,.int .i64 o.c3,.int .i64 o.c4] 235)],x.vc,wrow bw bd ba bs,x.cd,x.ca,cs,rdAll x.rds,[(vb,row cells 27)],[(bz,row [pv bw,.int .i64 o.c0,.int .i64 o.c1,.int .i64 o.c2,.int .i64 o.c3,.int .i64 o.c4,.bool once,.slice p n cap,.int .i64 last.c0,.int .i64 last.c1,.int .i64 last.c2,.int .i64 last.c3,.int .i64 last.c4,.bool sm] 186)]])
  (fun x=>rs.length-x.i) ⟨0,0,cd,ca,W,[],[],none,0,[]⟩
  ⟨Nat.zero_le _,rfl,rfl,by simp,h,Ev.refl W,rfl,rfl,rfl,.refl _,by simp,by simp,by simp,MSt.nil _ _ _,Vec.nil _ _⟩ (by repeat(first|exact trivial|refine⟨rfl,?_⟩)) (by repeat(first|exact Split.nil|(apply Split.cons;·(first|exact Take.nil|(repeat(first|exact Take.here|apply Take.there)))))) ?_
 rintro⟨i,cnt,cd1,ca1,W1,rds,hl,p1,cap1,vc⟩ ⟨hi,hird,hhl,hct,hW1,hE1,hd1,hl1,hσ1,hg1,hus1,hsrc,hop1,hM1,hV1⟩
 dsimp only at hi hird hhl hct hW1 hE1 hd1 hl1 hσ1 hg1 hus1 hsrc hop1 hM1 hV1⊢
 subst hhl
 have hsz1:=hE1.size
 have hrm1:W1.α.room=W.α.room:=hE1.room
 have hac1:=hE1.acts
 have hCl:=fun (W':Wk) (cd' ca' cs':Chunk) (hWc:Wc bd ba bs W' cd' ca' cs') (l:List Hd) (p:Option Addr) (cap:Nat) (vc:Chunk) (hV:Vec 237 7 p l.length cap (hcells l) vc) (hle:l.length≤1000000) (rs:List Rdr) (base:List Gr) (hg:W'.α.gs.Perm (rdGrants rs++base)) (hC:CSt bw W' rs l)=>
  closeAll_cb bc bh bw bd ba bs W' cd' ca' cs' hWc o l p cap vc hV hle rs base hg hC.rd hC.lr hC.rl hC.nd
 unfold cellH headsRow at hCl
 have hrdA:rdA W.δ.size k rds≤filesA W.δ.size k rs:=by
  refine Nat.le_trans (rdA_le fun r hr=> ?_) ?_
  ·have h1:r.src∈rs.take hl.length:=by rw[←hsrc];exact List.mem_map.2 ⟨r,hr,rfl⟩
   have h2:=(hin.ok _ (List.mem_of_mem_take h1)).2.2.2
   have h3:=(hop1 r hr).2
   unfold Rdr.src at h2
   dsimp only at h2
   omega
  ·rw[hsrc,List.map_take];exact sum_take_le
 by_cases hlt:hl.length<rs.length
 ·have hri:rs[hl.length]? =Option.some rs[hl.length]:=List.getElem?_eq_getElem hlt
  have hcl:=hcell hl.length _ hri
  obtain⟨hf1,hf2,hf3,hf4⟩:=hin.ok _ (List.getElem_mem hlt)
  have hfl:=hin.live _ (List.getElem_mem hlt)
  have hmul:(hl.length+1)*W.δ.size≤rs.length*W.δ.size:=Nat.mul_le_mul_right _ (by omega)
  rw[Nat.succ_mul] at hmul
  have htk:((rs.take (hl.length+1)).map (·.1.count)).sum=((rs.take hl.length).map (·.1.count)).sum+rs[hl.length].1.count:=by rw[List.take_add_one,hri,List.map_append,List.sum_append];simp
  have htk2:rs.take (hl.length+1)=rs.take hl.length++[rs[hl.length]]:=by rw[List.take_add_one,hri];rfl
  have hcl2:((rs.take (hl.length+1)).map (·.1.count)).sum≤(rs.map (·.1.count)).sum:=by rw[List.map_take];exact sum_take_le
  generalize hrr:rs[hl.length]=r at*
  obtain⟨f,ts⟩:=r
  dsimp only at hcl hf1 hf2 hf3 hf4 hfl htk
  have hfo:FileOk W1.δ.disk W1.δ.size [f.ext] f ts:=by rw[hd1,hsz1];exact hf2
  have hRd:=Read_u bw bd ba bs W1 cd1 ca1 cs hW1 f ts [f.ext] hfo (by rw[hsz1,hrm1,hus1];omega)
  have hflv:flv f= .agg #[.int .i64 (f.first:Int),.int .i64 (f.blocks:Int),.int .i64 (f.width:Int),.int .i64 (f.count:Int)]:=rfl
  rw[hflv] at hRd
  repeat(first|(refine st ?_;intros)|refine G.draw [] (h:= ?_)|refine G.draw (id:=15) [(10,.eff [0])] (h:= ?_)|(refine cq hN ?_))
  refine R.call (hct:=hRd) (h:= ?_)
  rintro _ _ ⟨bx,g,ca2,α2,cx,cb,rfl,rfl,hW2,hE2,hg2,hgn,hr2⟩
  try dsimp only[List.cons_append,List.nil_append]
  repeat(first|(refine st ?_;intros)|refine G.draw [] (h:= ?_)|refine G.draw (id:=15) [(10,.eff [0])] (h:= ?_)|(refine cq hN ?_))
  have htl:=hf2.len
  have ht0:ts[0]? =Option.some ts[0]:=List.getElem?_eq_getElem (by omega)
  have hNx:=Next_u bw bd ba bs {W1 with α:=α2} cd1 ca2 cs hW2 bx f ts [f.ext] (by dsimp only;exact hfo) (by dsimp only;rw[hl1];simpa using hfl) g (rdGrants rds++W.α.gs) (hg2.trans (hg1.cons _)) 0 cx cb hr2 _ ht0 (by dsimp only;omega)
  have htv:tv ts[0]= .agg #[.int .i64 (ts[0]).c0,.int .i64 (ts[0]).c1,.int .i64 (ts[0]).c2,.int .i64 (ts[0]).c3,.int .i64 (ts[0]).c4]:=rfl
  have hz:tv T5.zero= .agg #[.int .i64 T5.zero.c0,.int .i64 T5.zero.c1,.int .i64 T5.zero.c2,.int .i64 T5.zero.c3,.int .i64 T5.zero.c4]:=rfl
  rw[htv,hz] at hNx
  generalize ht:ts[0]=t at*
  refine R.call (hct:=hNx) (h:= ?_)
  rintro _ _ ⟨cd3,ca3,W3,cx3,cb3,rfl,hW3,hE3,hd3,hσ3,hl3,⟨rfl,hα3,hr3⟩|⟨rfl,hf3b,hδ3,hg3,hx3⟩⟩
  try dsimp only[List.cons_append,List.nil_append]
  ·have e1:IntKind.wrap .i64 ((cnt:Int)+(f.count:Int))=((cnt+f.count:Nat):Int):=by rw[wrap_i64 (by omega)];rfl
   have e2:IntKind.wrap .i64 ((hl.length:Int)+1)=((hl.length+1:Nat):Int):=by rw[wrap_i64 (by omega)];rfl
   have hh0:=hrr
   repeat(first|(refine st ?_;intros)|refine G.draw [] (h:= ?_)|refine G.draw (id:=15) [(10,.eff [0])] (h:= ?_)|(refine cq hN ?_))
   rename_i p' cap' c' hV'
   apply Dn.nodup;intro hnd
   have hap:=apart_take (c1:=cx3) (c2:=rdAll rds) hnd (by(repeat(first|exact Take.here|apply Take.there))) (by(repeat(first|exact Take.here|apply Take.there)))
   apply Dn.join (c1:=cx3) (c2:=cb3)
   ·(repeat(first|exact Take.here|apply Take.there))
   ·(repeat(first|exact Take.here|apply Take.there))
   apply Dn.join (c1:=rdAll rds) (c2:=cx3++cb3)
   ·(repeat(first|exact Take.here|apply Take.there))
   ·(repeat(first|exact Take.here|apply Take.there))
   have hr3':IsRd bw bx W3 f ts g 1 cx3 cb3:=hr3
   have hrd3:RdSt bw W3 ⟨bx,f,ts,g,1,true,cx3,cb3⟩:=by unfold RdSt;rw[if_pos rfl];exact hr3'
   have hE4:=(hE1.trans hE2).trans hE3
   rw[show rdAll rds++(cx3++cb3)=rdAll (rds++[⟨bx,f,ts,g,1,true,cx3,cb3⟩]) by simp[rdAll]]
   refine Dn.round ⟨hl.length+1,cnt+f.count,cd3,ca3,W3,rds++[⟨bx,f,ts,g,1,true,cx3,cb3⟩],hl++[⟨t,hl.length,bx⟩],p',cap',c'⟩ ⟨hlt,by dsimp only;rw[List.length_append,List.length_singleton];omega,by dsimp only;rw[List.length_append,List.length_singleton],by dsimp only;omega,hW3,?_,hd3.trans hd1,hl3.trans hl1,hσ3.trans hσ1,?_,?_,?_,?_,?_,?_⟩ (by dsimp only;omega)
   ·have h0:nblocks W.δ.size k 0=0:=nblocks_zero hp
    have:=hE4
    rw[hf1] at this
    dsimp only at this⊢
    rw[rdA_app]
    refine this.weak ?_ (Nat.le_refl _)
    show _+0+(nblocks W1.δ.size k (0+1)-nblocks W1.δ.size k 0)≤_+nblocks W.δ.size k 1
    rw[hsz1,h0,Nat.zero_add];omega
   ·dsimp only
    rw[hα3,rdGrants_app,if_pos rfl]
    refine(hg2.trans (hg1.cons _)).trans ?_
    rw[List.append_assoc]
    exact List.perm_middle.symm
   ·have e3:=hW3.ar.num.2.2.2
    have e4:=hW1.ar.num.2.2.2
    dsimp only at hgn⊢
    rw[e3,hα3,(hg2.map (·.n)).sum_nat,List.map_cons,List.sum_cons,←e4,hgn,hus1,hsz1,Nat.succ_mul];omega
   ·dsimp only
    rw[List.map_append,hsrc,htk2];rfl
   ·intro r hr
    rcases List.mem_append.1 hr with hr|hr
    ·exact hop1 r hr
    ·simp only[List.mem_singleton] at hr;subst hr;exact⟨rfl,rfl⟩
   ·have hbx:bx∉rds.map (·.bx):=bx_apart (W:=W3) (fun r hr=>(hM1.rd r hr).move (by rw[hE3.size,hE2.size])) (hap bx (by have:=hrd3.bx_mem;exact this))
    have:=hM1.add (W':=W3) (r:=⟨bx,f,ts,g,1,true,cx3,cb3⟩) (t:=t) (by rw[hE3.size,hE2.size]) hrd3 rfl Nat.one_pos ht0 hbx (sd_weak hf3)
    rw[←hird] at this
    exact this
   ·rw[hcells_app];exact hV'
  ·have hRc:=RClosed_u bx cx3 hx3
   repeat(first|(refine st ?_;intros)|refine G.draw [] (h:= ?_)|refine G.draw (id:=15) [(10,.eff [0])] (h:= ?_)|(refine cq hN ?_))
   refine R.call (hct:=hRc) (h:= ?_)
   rintro _ _ ⟨rfl,rfl⟩
   try dsimp only[List.cons_append,List.nil_append]
   repeat(first|(refine st ?_;intros)|refine G.draw [] (h:= ?_)|refine G.draw (id:=15) [(10,.eff [0])] (h:= ?_)|(refine cq hN ?_))
   have hC3:=hCl W3 cd3 ca3 cs hW3 hl p1 cap1 vc hV1 (by omega) rds W.α.gs hg3 (hM1.cst.move (by rw[hE3.size,hE2.size]))
   refine Go.SL.Lv.call (hc:=hC3.2) (h:= ?_)
   rintro _ _ ⟨ca4,α4,rs4,rfl,rfl,hW4,hE5,hg4⟩
   try dsimp only[List.cons_append,List.nil_append]
   have hE4:=hE1.trans hE2
   have hE3b:=hE3
   (refine Go.SL.Lv.nil (Hr:=[[(bz,row [pv bw,.int .i64 o.c0,.int .i64 o.c1,.int .i64 o.c2,.int .i64 o.c3,.int .i64 o.c4,.bool once,.slice p n cap,.int .i64 last.c0,.int .i64 last.c1,.int .i64 last.c2,.int .i64 last.c3,.int .i64 last.c4,.bool sm] 186)],wrow bw bd ba bs,cd3,ca4,cs,[(vb,row cells 27)]]) Tryz.results164 (hR:= ?_);refine⟨cd3,ca4,cs,_,last,sm,rfl,hW4,?_,?_,hg4,.inr (.inr ⟨rfl,?_,?_⟩)⟩)
   ·have h5:=(hE4.trans hE3b).trans hE5
    rw[hf1] at h5
    refine h5.weak ?_ (Nat.zero_le _)
    show _+0+(nblocks W1.δ.size k (0+1)-nblocks W1.δ.size k 0)+0≤_
    rw[hsz1,Nat.zero_add]
    have h6:nblocks W.δ.size k 1≤nblocks W.δ.size k (rs.map (·.1.count)).sum:=nblocks_mono (by omega)
    omega
   ·exact fun x _=>by show W3.δ.disk x=_;rw[hd3];dsimp only;rw[hd1]
   ·intro e
    have:=(hE1.trans hE2).fault e
    dsimp only at this hf3b
    omega
   ·show W3.live.Perm W.live
    rw[hl3];dsimp only;rw[hl1]
 ·obtain hle:hl.length=rs.length:=by omega
  have htk:rs.take hl.length=rs:=by rw[hle,List.take_length]
  rw[htk] at hct hsrc
  obtain⟨_,h0|⟨hb,rest,rfl,rfl,hvl,hmc,hcm⟩⟩:=hV1
  ·omega
  have hIn:=Init_ct bh hb cap1 o hl rest (by omega)
  unfold HeadsH headV at hIn
  repeat(first|(refine st ?_;intros)|refine G.draw [] (h:= ?_)|refine G.draw (id:=15) [(10,.eff [0])] (h:= ?_)|(refine cq hN ?_))
  refine R.call (hct:=hIn) (h:= ?_)
  rintro _ _ ⟨hlB,rfl,rfl,hp2,hh2⟩
  try dsimp only[List.cons_append,List.nil_append]
  have hw2:cells[off+Int.toNat 0+2]? =Option.some (.int .i64 (k:Int)):=by
   have h0:rs[0]? =Option.some rs[0]:=List.getElem?_eq_getElem (by omega)
   have h1:=hcell 0 _ h0
   have h2:=(hin.ok _ (List.getElem_mem (show 0<rs.length by omega))).1
   have h3:((cells.drop (off+0*4)).take 4)[2]? =Option.some (.int .i64 (rs[0].1.width:Int)):=by rw[h1];rfl
   rw[List.getElem?_take_of_lt (by omega),List.getElem?_drop] at h3
   rw[←h2];simpa using h3
  have hM2:=hM1.permH hp2
  have hlB2:hlB.length=rs.length:=by rw[hp2.length_eq,hle]
  have hWr:=Write_u bw bd ba bs W1 cd1 ca1 cs hW1 k cnt hk1 hk5 (by omega) (by rw[hsz1,hrm1,hus1,hle];omega)
  rw[hsz1] at hWr
  repeat(first|(refine st ?_;intros)|refine G.draw [] (h:= ?_)|refine G.draw (id:=15) [(10,.eff [0])] (h:= ?_)|(refine cq hN ?_))
  apply R.call
  ·exact rfl
  ·exact hWr
  ·exact(by repeat(first|exact Split.nil|(apply Split.cons;·(repeat(first|exact Take.here|apply Take.there|exact Take.nil)))))
  ·exact rfl
  ·exact nle rfl
  rintro _ _ (⟨hfit,bx,first,gw,cd3,ca3,cs3,W3,cx,cb,rfl,rfl,hW3,hE3,e3,e4,e5,e6,e7⟩|⟨hfull,rfl,cd3,ca3,cs3,W3,rfl,hW3,hE3,e3,e4,e5⟩)
  ·dsimp only[List.cons_append,List.nil_append]
   repeat(first|(refine st ?_;intros)|refine G.draw [] (h:= ?_)|refine G.draw (id:=15) [(10,.eff [0])] (h:= ?_)|(refine cq hN ?_))
   have hleft1:left rds=rs.flatMap (·.2):=by
    unfold left
    rw[←hsrc,List.flatMap_map,List.flatMap]
    refine congrArg List.flatten (List.map_congr_left fun r hr=> ?_)
    obtain⟨h1,h2⟩:=hop1 r hr
    unfold remOf Rdr.src
    rw[if_pos h1,h2];rfl
   refine G.loop (X:=MergeX2) (fun x=>Wc bd ba bs x.W x.cd x.ca x.cs∧Ev W x.W (rdA W.δ.size k x.rds+x.ps.length/holds W.δ.size k) (nblocks W.δ.size k cnt)∧Keep W.live W x.W∧LvOf first (nblocks W.δ.size k cnt) W.live x.W.live∧x.W.α.gs.Perm (gw::(rdGrants x.rds++W.α.gs))∧
     MSt bw x.W o x.rds x.hl∧HeapFrom (ltH o) x.hl x.hl.length 0∧Em o once (rs.flatMap (·.2)) x.ps (left x.rds)∧IsWr bw bx x.W first (nblocks W.δ.size k cnt) k cnt gw x.ps x.cx x.cb∧Last x.ps x.last x.sm∧
     x.rds.map Rdr.src=rs∧(∀r∈x.rds,r.pos≤r.f.count)∧x.ps.length+(left x.rds).length≤cnt∧cap1*7≤x.hl.length*7+x.rest.length∧x.hl.length≤rs.length)
    (fun _=>[(14,pv bx),(6,pv bc),(4,pv b4),(0,pv bz)])
    (fun x=>[wrow bw bd ba bs,x.cd,x.ca,x.cs,x.cx,x.cb,[(bh,row [.slice (some ⟨hb,0,none⟩) x.hl.length cap1,.int .i64 o.c0,.int .i64 o.c1,.int .i64 o.c2,.int .i64 o.c3,.int .i64 o.c4] 235)],[(hb,row (hcells x.hl++x.rest) 237)],
     [(b4,row [.int .i64 0,.int .i64 0,.int .i64 0,.int .i64 0] 27)],[(bc,row [pv bh] 232)],rdAll x.rds,[(vb,row cells 27)],[(bz,row [pv bw,.int .i64 o.c0,.int .i64 o.c1,.int .i64 o.c2,.int .i64 o.c3,.int .i64 o.c4,.bool once,.slice p n cap,.int .i64 x.last.c0,.int .i64 x.last.c1,.int .i64 x.last.c2,.int .i64 x.last.c3,.int .i64 x.last.c4,.bool x.sm] 186)]])
    (fun x=>(left x.rds).length) ⟨cd3,ca3,cs3,cx,cb,W3,rds,hlB,[],last,false,rest⟩
    ⟨hW3,?_,?_,?_,?_,?_,?_,?_,?_,?_,?_,?_,?_,?_,?_⟩ (body:= ?_)
   ·exact(hE1.trans hE3).weak (by dsimp only;simp) (by omega)
   ·exact fun y _=>by show W3.δ.disk y=_;rw[e3,hd1]
   ·dsimp only;rw[←hl1];exact e6
   ·exact e4.trans (hg1.cons _)
   ·exact hM2.move hE3.size
   ·exact hh2
   ·dsimp only
    rw[hleft1];exact Em.start (Go.Srt.Sp.refl _ _)
   ·exact e7
   ·rfl
   ·exact hsrc
   ·intro r hr
    dsimp only at hr
    have h1:r.src∈rs:=by rw[←hsrc];exact List.mem_map.2 ⟨r,hr,rfl⟩
    have h2:=(hin.ok _ h1).2.2.2
    have h3:=(hop1 r hr).2
    unfold Rdr.src at h2
    dsimp only at h2
    omega
   ·dsimp only
    rw[hleft1,hct,List.length_nil,Nat.zero_add,List.length_flatMap]
    refine Nat.le_of_eq (congrArg List.sum (List.map_congr_left fun r hr=>(hin.ok r hr).2.1.len))
   ·dsimp only
    rw[hcells_length] at hvl
    rw[hlB2,←hle];exact hvl
   ·dsimp only;omega
   rintro⟨cd4,ca4,cs4,cx4,cb4,W4,rds4,hl4,ps4,last4,sm4,rest4⟩ ⟨hW4,hE4,hK4,hL4,hg4,hM4,hh4,hm4,hw4,hls4,hsrc4,hpos4,hlen4,hcap4,hhl4⟩
   dsimp only at hW4 hE4 hK4 hL4 hg4 hM4 hh4 hm4 hw4 hls4 hsrc4 hpos4 hlen4 hcap4 hhl4⊢
   have hN:=HLen_ct bh hb cap1 o hl4 rest4
   unfold HeadsH at hN
   have hV4:Vec 237 7 (some ⟨hb,0,none⟩) hl4.length cap1 (hcells hl4) [(hb,row (hcells hl4++rest4) 237)]:=⟨by rw[hcells_length],.inr ⟨hb,rest4,rfl,rfl,by rw[hcells_length];exact hcap4,by omega,hcm⟩⟩
   by_cases hne:0<hl4.length
   ·obtain⟨x,tl,rfl⟩:∃x tl,hl4=x::tl:=by
     cases hl4 with
     |nil=>simp at hne
     |cons x tl=>exact⟨x,tl,rfl⟩
    obtain⟨a1,a2,a3,a4⟩:=hfacts (rest:=rest4) hne
    obtain⟨A,r,B,rfl,hA,ho,hrb,hpp,hrt,hrm,hAs,hBs⟩:=hM4.top hne hh4
    have hat:at_ (x::tl) 0=x:=rfl
    rw[hat] at a4 hA hrb hrt hrm hAs hBs
    obtain⟨xt,xrun,xrd⟩:=x
    dsimp only at hA hrb hrt hrm hAs hBs
    subst hA hrb
    unfold Hd.cells at a4
    dsimp only at a4
    have hrin:r.src∈rs:=by rw[←hsrc4];exact List.mem_map.2 ⟨r,by simp,rfl⟩
    obtain⟨hf1,hf2,hf3,hf4⟩:=hin.ok _ hrin
    have hfl:=hin.live _ hrin
    unfold Rdr.src at hf1 hf2 hf3 hf4 hfl
    dsimp only at hf1 hf2 hf3 hf4 hfl
    have htl:=hf2.len
    have hposr:=hpos4 r (by simp)
    have hxt:xt∈r.ts:=List.mem_of_getElem? hrt
    have hsz4:=hE4.size
    have hac4:=hE4.acts
    have hpsc:ps4.length<cnt:=by
     have:=congrArg List.length (left_mid A B r)
     rw[hrm] at this
     simp only[List.length_append,List.length_cons] at this
     omega
    have hdv:ps4.length/holds W.δ.size k≤ps4.length:=Nat.div_le_self _ _
    have hrA4:rdA W.δ.size k (A++r::B)≤filesA W.δ.size k rs:=by
     rw[←hsrc4];exact rdA_le hpos4
    have hPt:=put_ct bz bw bd ba bs W4 cd4 ca4 cs4 hW4 bx first _ k cnt gw ps4 cx4 cb4 hw4 _ hg4 W.live hL4 hpsc xt (by rw[←hf1];exact hf2.fit _ hxt) (by omega) o once p n cap last4 sm4 hls4
    unfold sRow sCells at hPt
    rw[hsz4] at hPt
    have htv:tv xt= .agg #[.int .i64 xt.c0,.int .i64 xt.c1,.int .i64 xt.c2,.int .i64 xt.c3,.int .i64 xt.c4]:=rfl
    rw[htv] at hPt
    repeat(first|(refine st ?_;intros)|refine G.draw [] (h:= ?_)|refine G.draw (id:=15) [(10,.eff [0])] (h:= ?_)|(refine cq hN ?_))
    refine R.call (hct:=hPt) (h:= ?_)
    rintro _ _ ⟨cd5,ca5,cs5,W5,cx5,cb5,last5,sm5,rfl,hW5,hE5,hK5,⟨rfl,e8,e9,e10,e11,e12⟩|⟨rfl,e8,e9,e10,e11,e12⟩⟩
    try dsimp only[List.cons_append,List.nil_append]
    ·have hsz5:=hE5.size
     have hac5:=hE5.acts
     have hem:=emit_len o once ps4 xt
     have hm5:=Em.merge (A:=A.map remOf) (B:=B.map remOf) (t:=xt) (r:=r.ts.drop r.pos) (by have:=hm4;unfold left at this;rw[List.map_append,List.map_cons,hrm] at this;exact this) hAs hBs (by rw[←hrm];exact remOf_sd (hM4.sd r (by simp)))
     have hdv5:(emit o once ps4 xt).length/holds W.δ.size k≤(emit o once ps4 xt).length:=Nat.div_le_self _ _
     have hmon:ps4.length/holds W.δ.size k≤(emit o once ps4 xt).length/holds W.δ.size k:=Nat.div_le_div_right hem.1
     have hK45:=hK4.trans hK5
     have hemn:(emit o once ps4 xt).length/holds W.δ.size k≤nblocks W.δ.size k cnt:=by unfold nblocks;exact Nat.div_le_div_right (by omega)
     have hrA6:r.pos<r.ts.length→rdA W.δ.size k A+(nblocks W.δ.size k (r.pos+1)+rdA W.δ.size k B)≤filesA W.δ.size k rs:=fun hlt=>by
      have h1:=rdA_le (s:=W.δ.size) (k:=k) (rds:=A++{r with pos:=r.pos+1}::B) (fun q hq=>by
       rcases List.mem_append.1 hq with hq|hq
       ·exact hpos4 q (List.mem_append_left _ hq)
       ·rcases List.mem_cons.1 hq with rfl|hq
        ·dsimp only;omega
        ·exact hpos4 q (List.mem_append_right _ (List.mem_cons_of_mem _ hq)))
      rw[rdA_mid] at h1
      have h2:(A++{r with pos:=r.pos+1}::B).map Rdr.src=rs:=by rw[←hsrc4,List.map_append,List.map_append];rfl
      rw[h2] at h1;exact h1
     have hrd4:=hM4.rd r (by simp)
     unfold RdSt at hrd4
     rw[if_pos ho] at hrd4
     have hg5:W5.α.gs.Perm (r.g::gw::(rdGrants (A++B)++W.α.gs)):=by
      rw[e8]
      refine hg4.trans ?_
      refine(((rdGrants_mid A B r ho).append_right _).cons _).trans ?_
      exact List.Perm.swap _ _ _
     have hfo5:FileOk W5.δ.disk W5.δ.size [r.f.ext] r.f r.ts:=by
      rw[hsz5,hsz4]
      exact hf2.keep fun y hy=>hK45 y (by obtain⟨e,he,h2⟩:=hy;simp only[List.mem_singleton] at he;subst he;exact⟨_,hfl,h2⟩)
     have hsb5:∀e∈[r.f.ext],e∈W5.live:=by
      intro e he
      simp only[List.mem_singleton] at he
      subst he
      rw[e10]
      unfold LvOf at hL4
      split at hL4
      ·exact hL4.mem_iff.2 hfl
      ·exact hL4.mem_iff.2 (List.mem_cons_of_mem _ hfl)
     have hz:tv T5.zero= .agg #[.int .i64 T5.zero.c0,.int .i64 T5.zero.c1,.int .i64 T5.zero.c2,.int .i64 T5.zero.c3,.int .i64 T5.zero.c4]:=rfl
     have hr5:IsRd bw r.bx W5 r.f r.ts r.g r.pos r.cx r.cb:=hrd4.move hsz5
     repeat(first|(refine st ?_;intros)|refine G.draw [] (h:= ?_)|refine G.draw (id:=15) [(10,.eff [0])] (h:= ?_)|(refine cq hN ?_))
     apply R1.open (rdAll_mid A B r)
     ·(repeat(first|exact Take.here|apply Take.there))
     apply R1.open (c:=r.cx++r.cb) (c1:=r.cx) (c2:=r.cb) (.refl _)
     ·(repeat(first|exact Take.here|apply Take.there))
     by_cases hend:r.pos<r.ts.length
     ·have htg:r.ts[r.pos]? =Option.some r.ts[r.pos]:=List.getElem?_eq_getElem hend
      have hNx:=Next_u bw bd ba bs W5 cd5 ca5 cs5 hW5 r.bx r.f r.ts [r.f.ext] hfo5 hsb5 r.g _ hg5 r.pos r.cx r.cb hr5 _ htg (by omega)
      have htv2:tv r.ts[r.pos]= .agg #[.int .i64 (r.ts[r.pos]).c0,.int .i64 (r.ts[r.pos]).c1,.int .i64 (r.ts[r.pos]).c2,.int .i64 (r.ts[r.pos]).c3,.int .i64 (r.ts[r.pos]).c4]:=rfl
      rw[htv2,hz] at hNx
      generalize hyt:r.ts[r.pos]=yt at*
      refine R.call (hct:=hNx) (h:= ?_)
      rintro _ _ ⟨cd6,ca6,W6,cx6,cb6,rfl,hW6,hE6,hd6,hσ6,hl6',⟨rfl,hα6,hr6⟩|⟨rfl,hf6,hδ6,hg6,hx6⟩⟩
      try dsimp only[List.cons_append,List.nil_append]
      ·have hset5:setL (hcells (⟨xt,A.length,r.bx⟩::tl)++rest4) 0 [.int .i64 yt.c0,.int .i64 yt.c1,.int .i64 yt.c2,.int .i64 yt.c3,.int .i64 yt.c4]=hcells (⟨yt,A.length,r.bx⟩::tl)++rest4:=by simp[hcells,Hd.cells,setL]
       have hlen7:5≤(hcells (⟨xt,A.length,r.bx⟩::tl)++rest4).length:=by rw[List.length_append,hcells_length,List.length_cons];omega
       have hFx:=Fix_ct bh hb cap1 o (⟨yt,A.length,r.bx⟩::tl) rest4 (by rw[List.length_cons] at hhl4⊢;omega) (heap_set hh4)
       unfold HeadsH headV at hFx
       repeat(first|(refine st ?_;intros)|refine G.draw [] (h:= ?_)|refine G.draw (id:=15) [(10,.eff [0])] (h:= ?_)|(refine cq hN ?_))
       refine R.call (hct:=hFx) (h:= ?_)
       rintro _ _ ⟨hl6,rfl,rfl,hp6,hh6⟩
       try dsimp only[List.cons_append,List.nil_append]
       repeat(first|(refine st ?_;intros)|refine G.draw [] (h:= ?_)|refine G.draw (id:=15) [(10,.eff [0])] (h:= ?_)|(refine cq hN ?_))
       apply Dn.join (c1:=cx6) (c2:=cb6)
       ·(repeat(first|exact Take.here|apply Take.there))
       ·(repeat(first|exact Take.here|apply Take.there))
       obtain⟨r6,hr6e⟩:∃r6:Rdr,r6={r with pos:=r.pos+1,cx:=cx6,cb:=cb6}:=⟨_,rfl⟩
       apply Dn.joinP (c:=rdAll (A++r6::B)) (c1:=cx6++cb6) (c2:=rdAll (A++B)) (rdAll_mid' A B (by rw[hr6e]) (by rw[hr6e]))
       ·(repeat(first|exact Take.here|apply Take.there))
       ·(repeat(first|exact Take.here|apply Take.there))
       have hsz6:=hE6.size
       have h6o:r6.opn=true:=by rw[hr6e];exact ho
       have h6p:r6.pos=r.pos+1:=by rw[hr6e]
       have h6t:r6.ts=r.ts:=by rw[hr6e]
       have h6f:r6.f=r.f:=by rw[hr6e]
       have h6b:r6.bx=r.bx:=by rw[hr6e]
       have h6g:r6.g=r.g:=by rw[hr6e]
       have hrs6:RdSt bw W6 r6:=by unfold RdSt;rw[if_pos h6o,hr6e];exact hr6
       have hrem6:remOf r6=r.ts.drop r.pos:=by unfold remOf;rw[if_pos h6o,h6p,h6t,Nat.add_sub_cancel]
       have hl64:=hp6.length_eq
       rw[List.length_cons] at hl64 hhl4 hcap4
       have hleft:(left (A++r6::B)).length+1=(left (A++r::B)).length:=by
        rw[left_mid,left_mid,hrem6,hrm];simp only[List.length_append,List.length_cons];omega
       refine Dn.round ⟨cd6,ca6,cs5,cx5,cb5,W6,A++r6::B,hl6,emit o once ps4 xt,last5,sm5,rest4⟩ ⟨hW6,?_,hK45.trans fun y _=>by rw[hd6],by rw[hl6',e10];exact hL4,?_,?_,hh6,?_,e11.move hsz6 fun y _ _=>by rw[hd6],e12,?_,?_,?_,?_,?_⟩ (by dsimp only;omega)
       ·have h7:=(hE4.trans hE5).trans hE6
        rw[hsz5,hsz4,hf1] at h7
        refine h7.weak ?_ (Nat.le_refl _)
        dsimp only
        rw[rdA_mid,rdA_mid,h6p]
        have:=nblocks_mono (s:=W.δ.size) (k:=k) (show r.pos≤r.pos+1 by omega)
        omega
       ·dsimp only
        rw[hα6]
        refine hg5.trans ((List.Perm.swap _ _ _).trans (List.Perm.cons _ ?_))
        have:=(rdGrants_mid A B r6 h6o).symm.append_right W.α.gs
        rw[h6g] at this
        exact this
       ·exact(hM4.step rfl (by rw[hsz6,hsz5]) hrs6 h6b rfl h6t h6o (by omega) (by rw[h6t,h6p,Nat.add_sub_cancel];exact htg)).permH hp6
       ·dsimp only
        unfold left
        rw[List.map_append,List.map_cons,hrem6];exact hm5
       ·dsimp only
        rw[←hsrc4,List.map_append,List.map_append,List.map_cons,List.map_cons]
        unfold Rdr.src;rw[h6t,h6f]
       ·intro q hq
        dsimp only at hq
        rcases List.mem_append.1 hq with hq|hq
        ·exact hpos4 q (List.mem_append_left _ hq)
        ·rcases List.mem_cons.1 hq with rfl|hq
         ·rw[h6p,h6f];omega
         ·exact hpos4 q (List.mem_append_right _ (List.mem_cons_of_mem _ hq))
       ·dsimp only;omega
       ·dsimp only;omega
       ·dsimp only;omega
      ·obtain⟨rc,hrce⟩:∃rc:Rdr,rc={r with opn:=false,cx:=cx6,cb:=cb6}:=⟨_,rfl⟩
       have hco:rc.opn=false:=by rw[hrce]
       have hrsc:RdSt bw W6 rc:=by unfold RdSt;rw[if_neg (by rw[hco];simp),hrce];exact hx6
       apply R.join (c1:=cx6) (c2:=cb6)
       ·(repeat(first|exact Take.here|apply Take.there))
       ·(repeat(first|exact Take.here|apply Take.there))
       apply R.joinP (c:=rdAll (A++rc::B)) (c1:=cx6++cb6) (c2:=rdAll (A++B)) (rdAll_mid' A B (by rw[hrce]) (by rw[hrce]))
       ·(repeat(first|exact Take.here|apply Take.there))
       ·(repeat(first|exact Take.here|apply Take.there))
       have hsz6:=hE6.size
       have hwm:IsWr bw bx W6 first (nblocks W.δ.size k cnt) k cnt gw (emit o once ps4 xt) cx5 cb5:=e11.move hsz6 fun y _ _=>by rw[hd6]
       have hDr:=Drop_uB bw bd ba bs W6 cd6 ca6 cs5 hW6 bx first _ k cnt gw _ cx5 cb5 hwm _ hg6 W.live (by rw[hl6',e10];exact hL4)
       repeat(first|(refine st ?_;intros)|refine G.draw [] (h:= ?_)|refine G.draw (id:=15) [(10,.eff [0])] (h:= ?_)|(refine cq hN ?_))
       refine Go.SL.Lv.call (hc:=hDr.2) (h:= ?_)
       rintro _ _ ⟨cd7,ca7,cs7,W7,cx7,cb7,rfl,rfl,hW7,hE7,hδ7,hg7,hl7,hx7⟩
       try dsimp only[List.cons_append,List.nil_append]
       have hC7:=hCl W7 cd7 ca7 cs7 hW7 _ _ cap1 _ hV4 (by omega) (A++rc::B) W.α.gs (hg7.trans ((rdGrants_mid0 A B rc hco).symm.append_right _)) ((hM4.cst.move (W':=W5) hsz5).one (by rw[hE7.size,hsz6]) (by unfold RdSt at hrsc⊢;rw[if_neg (by rw[hco];simp)] at hrsc⊢;exact hrsc) (by rw[hrce]) hco)
       refine Go.SL.Lv.call (hc:=hC7.2) (h:= ?_)
       rintro _ _ ⟨ca8,α8,rs8,rfl,rfl,hW8,hE8,hg8⟩
       try dsimp only[List.cons_append,List.nil_append]
       (refine Go.SL.Lv.nil (Hr:=[[(bz,row [pv bw,.int .i64 o.c0,.int .i64 o.c1,.int .i64 o.c2,.int .i64 o.c3,.int .i64 o.c4,.bool once,.slice p n cap,.int .i64 last5.c0,.int .i64 last5.c1,.int .i64 last5.c2,.int .i64 last5.c3,.int .i64 last5.c4,.bool sm5] 186)],wrow bw bd ba bs,cd7,ca8,cs7,[(vb,row cells 27)]]) Tryz.results164 (hR:= ?_);refine⟨cd7,ca8,cs7,_,last5,sm5,rfl,hW8,?_,?_,hg8,.inr (.inr ⟨rfl,?_,hl7⟩)⟩)
       ·have h7:=(((hE4.trans hE5).trans hE6).trans hE7).trans hE8
        rw[hsz5,hsz4,hf1] at h7
        rw[←hct]
        refine h7.weak ?_ (Nat.le_refl _)
        have h8:=hrA6 hend
        rw[rdA_mid]
        have:=nblocks_mono (s:=W.δ.size) (k:=k) (show r.pos≤r.pos+1 by omega)
        omega
       ·exact fun y hy=>by show W7.δ.disk y=_;rw[hδ7];rw[hd6];exact hK45 y hy
       ·intro e
        have:=(hE4.trans hE5).fault e
        omega
     ·have hpe:r.pos=r.f.count:=by omega
      have hNe:=NextEnd_u bw r.bx W5 r.f r.ts r.g r.cx r.cb (by rw[←hpe];exact hr5)
      rw[hz] at hNe
      refine R.call (hct:=hNe) (h:= ?_)
      rintro _ _ ⟨rfl,rfl⟩
      try dsimp only[List.cons_append,List.nil_append]
      have hPp:=PopH_ct bh hb cap1 o (⟨xt,A.length,r.bx⟩::tl) rest4 (by omega) (by omega) hne hh4
      unfold HeadsH headV at hPp
      have hRc:=RClose_u bw bd ba bs W5 cd5 ca5 cs5 hW5 r.bx r.f r.ts r.g _ hg5 r.pos r.cx r.cb hr5
      repeat(first|(refine st ?_;intros)|refine G.draw [] (h:= ?_)|refine G.draw (id:=15) [(10,.eff [0])] (h:= ?_)|(refine cq hN ?_))
      refine R.call (hct:=hPp) (h:= ?_)
      rintro _ _ ⟨hl6,y6,rfl,hy6,rfl,hp6,hln6,hh6⟩
      try dsimp only[List.cons_append,List.nil_append]
      have hy7:y6=⟨xt,A.length,r.bx⟩:=hy6
      subst hy7
      repeat(first|(refine st ?_;intros)|refine G.draw [] (h:= ?_)|refine G.draw (id:=15) [(10,.eff [0])] (h:= ?_)|(refine cq hN ?_))
      refine R.call (hct:=hRc) (h:= ?_)
      rintro _ _ ⟨ca7,α7,cx7,rfl,rfl,hW7,hE7,hg7,hx7⟩
      try dsimp only[List.cons_append,List.nil_append]
      repeat(first|(refine st ?_;intros)|refine G.draw [] (h:= ?_)|refine G.draw (id:=15) [(10,.eff [0])] (h:= ?_)|(refine cq hN ?_))
      obtain⟨rc,hrce⟩:∃rc:Rdr,rc={r with opn:=false,cx:=cx7}:=⟨_,rfl⟩
      have hco:rc.opn=false:=by rw[hrce]
      have hct7:rc.ts=r.ts:=by rw[hrce]
      have hcf7:rc.f=r.f:=by rw[hrce]
      have hcp7:rc.pos=r.pos:=by rw[hrce]
      have hcb7:rc.bx=r.bx:=by rw[hrce]
      have hrsc:RdSt bw {W5 with α:=α7} rc:=by unfold RdSt;rw[if_neg (by rw[hco];simp),hrce];exact hx7
      apply Dn.join (c1:=cx7) (c2:=r.cb)
      ·(repeat(first|exact Take.here|apply Take.there))
      ·(repeat(first|exact Take.here|apply Take.there))
      apply Dn.joinP (c:=rdAll (A++rc::B)) (c1:=cx7++r.cb) (c2:=rdAll (A++B)) (rdAll_mid' A B (by rw[hrce]) (by rw[hrce]))
      ·(repeat(first|exact Take.here|apply Take.there))
      ·(repeat(first|exact Take.here|apply Take.there))
      have hremc:remOf rc=[]:=by unfold remOf;rw[hco];rfl
      have hdr:r.ts.drop r.pos=[]:=List.drop_of_length_le (by omega)
      rw[hdr] at hm5 hrm
      have hleft:(left (A++rc::B)).length+1=(left (A++r::B)).length:=by
       rw[left_mid,left_mid,hremc,hrm];simp only[List.length_append,List.length_cons,List.length_nil];omega
      rw[List.length_cons] at hln6 hhl4 hcap4
      have hE57:=(hE4.trans hE5).trans hE7
      refine Dn.round ⟨cd5,ca7,cs5,cx5,cb5,{W5 with α:=α7},A++rc::B,hl6,emit o once ps4 xt,last5,sm5,Hd.cells ⟨xt,A.length,r.bx⟩++rest4⟩ ⟨hW7,?_,hK45,by dsimp only;rw[e10];exact hL4,?_,?_,hh6,?_,e11.move rfl fun _ _ _=>rfl,e12,?_,?_,?_,?_,?_⟩ (by dsimp only;omega)
      ·refine hE57.weak ?_ (Nat.le_refl _)
       dsimp only
       rw[rdA_mid,rdA_mid,hcp7]
       omega
      ·dsimp only
       exact hg7.trans (((rdGrants_mid0 A B rc hco).symm.append_right _).cons _)
      ·refine(MSt.close (W':={W5 with α:=α7}) (hM4.permH hp6) rfl hsz5 hrsc hcb7 hct7 hco)
      ·dsimp only
       unfold left
       rw[List.map_append,List.map_cons,hremc];exact hm5
      ·dsimp only
       rw[←hsrc4,List.map_append,List.map_append,List.map_cons,List.map_cons]
       unfold Rdr.src;rw[hct7,hcf7]
      ·intro q hq
       dsimp only at hq
       rcases List.mem_append.1 hq with hq|hq
       ·exact hpos4 q (List.mem_append_left _ hq)
       ·rcases List.mem_cons.1 hq with rfl|hq
        ·rw[hcp7,hcf7];omega
        ·exact hpos4 q (List.mem_append_right _ (List.mem_cons_of_mem _ hq))
      ·dsimp only;omega
      ·dsimp only
       rw[List.length_append,show(Hd.cells ⟨xt,A.length,r.bx⟩).length=7 from rfl];omega
      ·dsimp only;omega
    ·repeat(first|(refine st ?_;intros)|refine G.draw [] (h:= ?_)|refine G.draw (id:=15) [(10,.eff [0])] (h:= ?_)|(refine cq hN ?_))
     refine Go.SL.Lv.call (hc:=(Dropped_uB bx cx5 e12).2) (h:= ?_)
     rintro _ _ ⟨rfl,rfl⟩
     try dsimp only[List.cons_append,List.nil_append]
     have hC7:=hCl W5 cd5 ca5 cs5 hW5 _ _ cap1 _ hV4 (by omega) (A++r::B) W.α.gs e10 (hM4.cst.move hE5.size)
     refine Go.SL.Lv.call (hc:=hC7.2) (h:= ?_)
     rintro _ _ ⟨ca8,α8,rs8,rfl,rfl,hW8,hE8,hg8⟩
     try dsimp only[List.cons_append,List.nil_append]
     (refine Go.SL.Lv.nil (Hr:=[[(bz,row [pv bw,.int .i64 o.c0,.int .i64 o.c1,.int .i64 o.c2,.int .i64 o.c3,.int .i64 o.c4,.bool once,.slice p n cap,.int .i64 last5.c0,.int .i64 last5.c1,.int .i64 last5.c2,.int .i64 last5.c3,.int .i64 last5.c4,.bool sm5] 186)],wrow bw bd ba bs,cd5,ca8,cs5,[(vb,row cells 27)]]) Tryz.results164 (hR:= ?_);refine⟨cd5,ca8,cs5,_,last5,sm5,rfl,hW8,?_,?_,hg8,.inr (.inr ⟨rfl,?_,e11⟩)⟩)
     ·have h7:=(hE4.trans hE5).trans hE8
      rw[←hct]
      refine h7.weak ?_ (Nat.le_refl _)
      have hem:=emit_len o once ps4 xt
      have hemn:(emit o once ps4 xt).length/holds W.δ.size k≤nblocks W.δ.size k cnt:=by unfold nblocks;exact Nat.div_le_div_right (by omega)
      have hdn:ps4.length/holds W.δ.size k≤nblocks W.δ.size k cnt:=by unfold nblocks;exact Nat.div_le_div_right (by omega)
      omega
     ·exact hK4.trans hK5
     ·intro e
      have:=hE4.fault e
      omega
   ·have hl0:hl4=[]:=by
     cases hl4 with
     |nil=>rfl
     |cons x tl=>simp at hne
    subst hl0
    have hcls:∀r∈rds4,r.opn=false:=by
     intro r hr
     cases ho:r.opn with
     |false=>rfl
     |true=>
      obtain⟨x,hx,_⟩:=hM4.cst.rl r hr ho
      simp at hx
    have hleft0:left rds4=[]:=by
     unfold left
     rw[List.flatten_eq_nil_iff]
     intro l hl
     obtain⟨r,hr,rfl⟩:=List.mem_map.1 hl
     unfold remOf;rw[hcls r hr];rfl
    have hrg0:rdGrants rds4=[]:=by
     unfold rdGrants
     rw[List.filter_eq_nil_iff.2 (fun r hr=>by rw[hcls r hr];simp)];rfl
    rw[hleft0] at hm4 hlen4
    rw[List.length_nil,Nat.add_zero] at hlen4
    have hsz4:=hE4.size
    have hac4:=hE4.acts
    have hdv:ps4.length/holds W.δ.size k≤ps4.length:=Nat.div_le_self _ _
    have hrA4:rdA W.δ.size k rds4≤filesA W.δ.size k rs:=by
     rw[←hsrc4];exact rdA_le hpos4
    have hCw:=Close_u bw bd ba bs W4 cd4 ca4 cs4 hW4 bx first _ k cnt gw ps4 cx4 cb4 hw4 _ hg4 W.live hL4 (by omega)
    rw[hsz4] at hCw
    have hpn:nblocks W.δ.size k ps4.length≤nblocks W.δ.size k cnt:=nblocks_mono hlen4
    have hpd:ps4.length/holds W.δ.size k≤nblocks W.δ.size k ps4.length:=by unfold nblocks;exact Nat.div_le_div_right (by omega)
    repeat(first|(refine st ?_;intros)|refine G.draw [] (h:= ?_)|refine G.draw (id:=15) [(10,.eff [0])] (h:= ?_)|(refine cq hN ?_))
    refine R.call (hct:=hCw) (h:= ?_)
    rintro _ _ ⟨cd5,ca5,cs5,W5,cx5,cb5,rfl,hW5,hE5,hK5,hg5,hx5,⟨f,rfl,e8,e9,e10,e11⟩|⟨rfl,e8,e9,e10⟩⟩
    try dsimp only[List.cons_append,List.nil_append]
    ·have hflv:flv f= .agg #[.int .i64 (f.first:Int),.int .i64 (f.blocks:Int),.int .i64 (f.width:Int),.int .i64 (f.count:Int)]:=rfl
     rw[hflv]
     repeat(first|(refine st ?_;intros)|refine G.draw [] (h:= ?_)|refine G.draw (id:=15) [(10,.eff [0])] (h:= ?_)|(refine cq hN ?_))
     refine Go.SL.Lv.call (hc:=(Dropped_uB bx cx5 hx5).2) (h:= ?_)
     rintro _ _ ⟨rfl,rfl⟩
     try dsimp only[List.cons_append,List.nil_append]
     have hC7:=hCl W5 cd5 ca5 cs5 hW5 _ _ cap1 _ hV4 (by omega) rds4 W.α.gs hg5 (hM4.cst.move hE5.size)
     refine Go.SL.Lv.call (hc:=hC7.2) (h:= ?_)
     rintro _ _ ⟨ca8,α8,rs8,rfl,rfl,hW8,hE8,hg8⟩
     try dsimp only[List.cons_append,List.nil_append]
     (refine Go.SL.Lv.nil (Hr:=[[(bz,row [pv bw,.int .i64 o.c0,.int .i64 o.c1,.int .i64 o.c2,.int .i64 o.c3,.int .i64 o.c4,.bool once,.slice p n cap,.int .i64 last4.c0,.int .i64 last4.c1,.int .i64 last4.c2,.int .i64 last4.c3,.int .i64 last4.c4,.bool sm4] 186)],wrow bw bd ba bs,cd5,ca8,cs5,[(vb,row cells 27)]]) Tryz.results164 (hR:= ?_);refine⟨cd5,ca8,cs5,_,last4,sm4,rfl,hW8,?_,?_,hg8,.inl ⟨f,ps4,rfl,?_,e9,?_,by omega,e11,?_,?_⟩⟩)
     ·rw[←hct]
      exact((hE4.trans hE5).trans hE8).weak (by omega) (Nat.le_refl _)
     ·exact hK4.trans hK5
     ·show W5.live.Perm _
      rw[e8];exact .refl _
     ·rw[e10]
      cases hps:ps4 with
      |cons a b=>simp
      |nil=>
       exfalso
       have h1:=sp_nil hm4.fin.2 hps
       have h0:rs[0]∈rs:=List.getElem_mem (by omega)
       obtain⟨_,hf2,_,hf4⟩:=hin.ok _ h0
       have:=hf2.len
       rw[List.flatMap_eq_nil_iff] at h1
       have h3:=h1 _ h0
       rw[h3] at this
       simp at this;omega
     ·exact hm4.fin.1
     ·exact hm4.fin.2
    ·repeat(first|(refine st ?_;intros)|refine G.draw [] (h:= ?_)|refine G.draw (id:=15) [(10,.eff [0])] (h:= ?_)|(refine cq hN ?_))
     refine Go.SL.Lv.call (hc:=(Dropped_uB bx cx5 hx5).2) (h:= ?_)
     rintro _ _ ⟨rfl,rfl⟩
     try dsimp only[List.cons_append,List.nil_append]
     have hC7:=hCl W5 cd5 ca5 cs5 hW5 _ _ cap1 _ hV4 (by omega) rds4 W.α.gs hg5 (hM4.cst.move hE5.size)
     refine Go.SL.Lv.call (hc:=hC7.2) (h:= ?_)
     rintro _ _ ⟨ca8,α8,rs8,rfl,rfl,hW8,hE8,hg8⟩
     try dsimp only[List.cons_append,List.nil_append]
     (refine Go.SL.Lv.nil (Hr:=[[(bz,row [pv bw,.int .i64 o.c0,.int .i64 o.c1,.int .i64 o.c2,.int .i64 o.c3,.int .i64 o.c4,.bool once,.slice p n cap,.int .i64 last4.c0,.int .i64 last4.c1,.int .i64 last4.c2,.int .i64 last4.c3,.int .i64 last4.c4,.bool sm4] 186)],wrow bw bd ba bs,cd5,ca8,cs5,[(vb,row cells 27)]]) Tryz.results164 (hR:= ?_);refine⟨cd5,ca8,cs5,_,last4,sm4,rfl,hW8,?_,?_,hg8,.inr (.inr ⟨rfl,?_,e10⟩)⟩)
     ·rw[←hct]
      exact((hE4.trans hE5).trans hE8).weak (by omega) (Nat.le_refl _)
     ·exact hK4.trans hK5
     ·intro e
      have:=hE4.fault e
      omega
  ·dsimp only[List.cons_append,List.nil_append]
   repeat(first|(refine st ?_;intros)|refine G.draw [] (h:= ?_)|refine G.draw (id:=15) [(10,.eff [0])] (h:= ?_)|(refine cq hN ?_))
   have hV2:Vec 237 7 (some ⟨hb,0,none⟩) hlB.length cap1 (hcells hlB) [(hb,row (hcells hlB++rest) 237)]:=⟨by rw[hcells_length],.inr ⟨hb,rest,rfl,rfl,by rw[hcells_length,hlB2,←hle,←hcells_length];exact hvl,by omega,hcm⟩⟩
   have hC3:=hCl W3 cd3 ca3 cs3 hW3 hlB _ cap1 _ hV2 (by omega) rds W.α.gs (e5.trans hg1) (hM2.cst.move hE3.size)
   refine Go.SL.Lv.call (hc:=hC3.2) (h:= ?_)
   rintro _ _ ⟨ca4,α4,rs4,rfl,rfl,hW4,hE5,hg4⟩
   try dsimp only[List.cons_append,List.nil_append]
   (refine Go.SL.Lv.nil (Hr:=[[(bz,row [pv bw,.int .i64 o.c0,.int .i64 o.c1,.int .i64 o.c2,.int .i64 o.c3,.int .i64 o.c4,.bool once,.slice p n cap,.int .i64 last.c0,.int .i64 last.c1,.int .i64 last.c2,.int .i64 last.c3,.int .i64 last.c4,.bool sm] 186)],wrow bw bd ba bs,cd3,ca4,cs3,[(vb,row cells 27)]]) Tryz.results164 (hR:= ?_);refine⟨cd3,ca4,cs3,_,last,sm,rfl,hW4,?_,?_,hg4,.inr (.inl ⟨rfl,?_,?_⟩)⟩)
   ·exact((hE1.trans hE3).trans hE5).weak (by omega) (Nat.zero_le _)
   ·exact fun x _=>by show W3.δ.disk x=_;rw[e3,hd1]
   ·rw[←hct,←hσ1];exact hfull
   ·show W3.live.Perm W.live
    rw[e4,hl1]
end Go.Proofs.YtammjnjpheobaaaGreat
