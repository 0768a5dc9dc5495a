/-
  Parts of the proof, put together: Sorter, Emit, Fill, LayRun. No condition.
-/
import Derived.Test.YtjoicjgfgkpdjaaGreatI13
set_option linter.unusedVariables false
set_option linter.unusedSimpArgs false
set_option linter.unnecessarySimpa false
set_option maxHeartbeats 4000000
namespace Go.Proofs.YtjoicjgfgkpdjaaGreat
open Go.SL Go.Spc Go.Tup Go.Srt
def emit (o:T5) (once:Bool) (ps:List T5) (t:T5):List T5:=
 match once,ps.getLast? with
 |true,some x=>if cmpT o x t=0 then ps else ps++[t]
 |_,_=>ps++[t]
def Last (ps:List T5) (last:T5) (some:Bool):Prop:=match ps.getLast? with
 |none=>some=false
 | .some x=>some=true∧last=x
theorem Last.put (ps:List T5) (t:T5):Last (ps++[t]) t true:=by simp[Last]
theorem emit_len (o:T5) (once:Bool) (ps:List T5) (t:T5):ps.length≤(emit o once ps t).length∧(emit o once ps t).length≤ps.length+1:=by
 unfold emit
 split
 ·split<;>simp
 ·simp
def sCells (bw:Nat) (o:T5) (once:Bool) (p:Option Addr) (n cap:Nat) (last:T5) (some:Bool):List Value:=
 [pv bw,.int .i64 o.c0,.int .i64 o.c1,.int .i64 o.c2,.int .i64 o.c3,.int .i64 o.c4,.bool once,.slice p n cap,
  .int .i64 last.c0,.int .i64 last.c1,.int .i64 last.c2,.int .i64 last.c3,.int .i64 last.c4,.bool some]
def sRow (bz bw:Nat) (o:T5) (once:Bool) (p:Option Addr) (n cap:Nat) (last:T5) (some:Bool):Chunk:=[(bz,row (sCells bw o once p n cap last some) 164)]
theorem put_ct (bz bw bd ba bs:Nat) (W:Wk) (cd ca cs:Chunk) (h:Wc bd ba bs W cd ca cs) (bx first nb k bound:Nat) (g:Gr) (ps:List T5) (cx cb:Chunk) (hw:IsWr bw bx W first nb k bound g ps cx cb) (Gs:List Gr) (hg:W.α.gs.Perm (g::Gs))
  (Lv:List Ext) (hl:LvOf first nb Lv W.live) (hlt:ps.length<bound) (t:T5) (ht:okT k t) (hac:W.δ.acts≤1000000000000)
  (o:T5) (once:Bool) (p:Option Addr) (n cap:Nat) (last:T5) (some:Bool) (hls:Last ps last some):
  Ct Tryz.prog 142 [pv bz,pv bx,tv t] [sRow bz bw o once p n cap last some,wrow bw bd ba bs,cd,ca,cs,cx,cb] fun v H'=>
   ∃cd' ca' cs' W' cx' cb' last' some',H'=[sRow bz bw o once p n cap last' some',wrow bw bd ba bs,cd',ca',cs',cx',cb']∧Wc bd ba bs W' cd' ca' cs'∧
    Ev W W' ((emit o once ps t).length/holds W.δ.size k-ps.length/holds W.δ.size k) 0∧Keep Lv W W'∧
    ((v= .int .i64 0∧W'.α=W.α∧W'.σ=W.σ∧W'.live=W.live∧IsWr bw bx W' first nb k bound g (emit o once ps t) cx' cb'∧Last (emit o once ps t) last' some')∨
     (v= .int .i64 6∧W.δ.fault=0∧W'.δ=W.δ.failed∧W'.α.gs.Perm Gs∧W'.live.Perm Lv∧ClosedWr bx cx')):=by
 have hP:=Put_u bw bd ba bs W cd ca cs h bx first nb k bound g ps cx cb hw Gs hg Lv hl hlt t ht hac
 have hC:=Compare_ct last.c0 last.c1 last.c2 last.c3 last.c4 t.c0 t.c1 t.c2 t.c3 t.c4 o.c0 o.c1 o.c2 o.c3 o.c4
 have hCc:cmpT ⟨o.c0,o.c1,o.c2,o.c3,o.c4⟩ ⟨last.c0,last.c1,last.c2,last.c3,last.c4⟩ ⟨t.c0,t.c1,t.c2,t.c3,t.c4⟩=cmpT o last t:=rfl
 rw[hCc] at hC
 generalize hcm:cmpT o last t=cm at hC
 unfold sRow sCells
 by_cases hsk:once=true∧some=true∧cm=0
 ·obtain⟨rfl,rfl,rfl⟩:=hsk
  have hem:emit o true ps t=ps:=by
   unfold emit;unfold Last at hls
   cases hgl:ps.getLast? with
   |none=>rw[hgl] at hls;simp at hls
   |some x=>
    rw[hgl] at hls
    obtain⟨_,rfl⟩:=hls
    simp[hcm]
  rw[hem]
  refine Ct.intro Tryz.func142 rfl Tryz.ntmps142 (nle rfl) fun w0=> ?_;dsimp only[argSlots,Nat.reduceAdd]
  repeat(first|(refine st ?_;intros)|refine G.draw (id:=1) [(20,.quiet)] (h:= ?_)|(refine cq hC ?_))
  (refine Dn.post (Hr:=[[(bz,row [pv bw,.int .i64 o.c0,.int .i64 o.c1,.int .i64 o.c2,.int .i64 o.c3,.int .i64 o.c4,.bool true,.slice p n cap,.int .i64 last.c0,.int .i64 last.c1,.int .i64 last.c2,.int .i64 last.c3,.int .i64 last.c4,.bool true] 164)],wrow bw bd ba bs,cd,ca,cs,cx,cb]) Tryz.results142 (hR:= ?_);exact⟨cd,ca,cs,W,cx,cb,last,true,rfl,h,(Ev.refl W).weak (Nat.zero_le _) (Nat.le_refl _),Keep.refl _ _,.inl ⟨rfl,rfl,rfl,rfl,hw,hls⟩⟩)
 have hem:emit o once ps t=ps++[t]:=by
  unfold emit;unfold Last at hls
  cases once with
  |false=>rfl
  |true=>
   cases hgl:ps.getLast? with
   |none=>rfl
   |some x=>
    rw[hgl] at hls
    obtain⟨rfl,rfl⟩:=hls
    have:¬cm=0:=fun e=>hsk ⟨rfl,rfl,e⟩
    simp[hcm,this]
 rw[hem]
 have hPl:=Last.put ps t
 rw[List.length_append,List.length_singleton]
 have htv:tv t= .agg #[.int .i64 t.c0,.int .i64 t.c1,.int .i64 t.c2,.int .i64 t.c3,.int .i64 t.c4]:=rfl
 rw[htv] at hP⊢
 cases ho:once with
 |false=>
  refine Ct.intro Tryz.func142 rfl Tryz.ntmps142 (nle rfl) fun w0=> ?_;dsimp only[argSlots,Nat.reduceAdd]
  repeat(first|(refine st ?_;intros)|refine G.draw (id:=1) [(20,.quiet)] (h:= ?_)|(refine cq hC ?_))
  refine R.call (hct:=hP) (h:= ?_)
  rintro _ _ ⟨cd',ca',cs',W',cx',cb',rfl,hW,hE,hK,hor⟩
  try dsimp only[List.cons_append,List.nil_append]
  repeat(first|(refine st ?_;intros)|refine G.draw (id:=1) [(20,.quiet)] (h:= ?_)|(refine cq hC ?_))
  (refine Dn.post (Hr:=[[(bz,row [pv bw,.int .i64 o.c0,.int .i64 o.c1,.int .i64 o.c2,.int .i64 o.c3,.int .i64 o.c4,.bool false,.slice p n cap,.int .i64 t.c0,.int .i64 t.c1,.int .i64 t.c2,.int .i64 t.c3,.int .i64 t.c4,.bool true] 164)],wrow bw bd ba bs,cd',ca',cs',cx',cb']) Tryz.results142 (hR:= ?_);exact⟨cd',ca',cs',W',cx',cb',t,true,rfl,hW,hE,hK,hor.imp (fun ⟨a1,a2,a3,a4,a5⟩=>⟨a1,a2,a3,a4,a5,hPl⟩) id⟩)
 |true=>
  cases hs:some with
  |false=>
   refine Ct.intro Tryz.func142 rfl Tryz.ntmps142 (nle rfl) fun w0=> ?_;dsimp only[argSlots,Nat.reduceAdd]
   repeat(first|(refine st ?_;intros)|refine G.draw (id:=1) [(20,.quiet)] (h:= ?_)|(refine cq hC ?_))
   refine R.call (hct:=hP) (h:= ?_)
   rintro _ _ ⟨cd',ca',cs',W',cx',cb',rfl,hW,hE,hK,hor⟩
   try dsimp only[List.cons_append,List.nil_append]
   repeat(first|(refine st ?_;intros)|refine G.draw (id:=1) [(20,.quiet)] (h:= ?_)|(refine cq hC ?_))
   (refine Dn.post (Hr:=[[(bz,row [pv bw,.int .i64 o.c0,.int .i64 o.c1,.int .i64 o.c2,.int .i64 o.c3,.int .i64 o.c4,.bool true,.slice p n cap,.int .i64 t.c0,.int .i64 t.c1,.int .i64 t.c2,.int .i64 t.c3,.int .i64 t.c4,.bool true] 164)],wrow bw bd ba bs,cd',ca',cs',cx',cb']) Tryz.results142 (hR:= ?_);exact⟨cd',ca',cs',W',cx',cb',t,true,rfl,hW,hE,hK,hor.imp (fun ⟨a1,a2,a3,a4,a5⟩=>⟨a1,a2,a3,a4,a5,hPl⟩) id⟩)
  |true=>
   have hne:¬cm=0:=fun e=>hsk ⟨ho,hs,e⟩
   refine Ct.intro Tryz.func142 rfl Tryz.ntmps142 (nle rfl) fun w0=> ?_;dsimp only[argSlots,Nat.reduceAdd]
   repeat(first|(refine st ?_;intros)|refine G.draw (id:=1) [(20,.quiet)] (h:= ?_)|(refine cq hC ?_))
   refine R.call (hct:=hP) (h:= ?_)
   rintro _ _ ⟨cd',ca',cs',W',cx',cb',rfl,hW,hE,hK,hor⟩
   try dsimp only[List.cons_append,List.nil_append]
   repeat(first|(refine st ?_;intros)|refine G.draw (id:=1) [(20,.quiet)] (h:= ?_)|(refine cq hC ?_))
   (refine Dn.post (Hr:=[[(bz,row [pv bw,.int .i64 o.c0,.int .i64 o.c1,.int .i64 o.c2,.int .i64 o.c3,.int .i64 o.c4,.bool true,.slice p n cap,.int .i64 t.c0,.int .i64 t.c1,.int .i64 t.c2,.int .i64 t.c3,.int .i64 t.c4,.bool true] 164)],wrow bw bd ba bs,cd',ca',cs',cx',cb']) Tryz.results142 (hR:= ?_);exact⟨cd',ca',cs',W',cx',cb',t,true,rfl,hW,hE,hK,hor.imp (fun ⟨a1,a2,a3,a4,a5⟩=>⟨a1,a2,a3,a4,a5,hPl⟩) id⟩)
theorem eqv_cmp (o x t:T5):eqv (ltO o) x t=true↔cmpT o x t=0:=by
 rw[eqv_iff]
 have:=cmpT_swap o x t
 simp only[ltO,decide_eq_false_iff_not]
 omega
structure Em (o:T5) (once:Bool) (l ps rest:List T5):Prop where
 sd:Sd (ltO o) once ps
 sp:Go.Srt.Sp (ltO o) once l (ps++rest)
 le:∀x∈ps,∀y∈rest,ltO o y x=false
theorem Em.start {o:T5} {once:Bool} {l rest:List T5} (h:Go.Srt.Sp (ltO o) once l rest):Em o once l [] rest:=⟨List.Pairwise.nil,h,fun x hx=>by simp at hx⟩
theorem Em.turn {o:T5} {once:Bool} {l ps rest rest':List T5} (h:Em o once l ps rest) (hs:Go.Srt.Sp (ltO o) once rest rest') (hm:∀y∈rest',y∈rest):Em o once l ps rest':=
 ⟨h.sd,h.sp.trans (Go.Srt.Sp.app (Go.Srt.Sp.refl _ _) hs),fun x hx y hy=>h.le x hx y (hm y hy)⟩
theorem Em.fin {o:T5} {once:Bool} {l ps:List T5} (h:Em o once l ps []):Sd (ltO o) once ps∧Go.Srt.Sp (ltO o) once l ps:=⟨h.sd,by have:=h.sp;rwa[List.append_nil] at this⟩
theorem sp_skip {o:T5} {ps rest:List T5} {z t:T5} (hz:z∈ps) (he:eqv (ltO o) z t=true):Go.Srt.Sp (ltO o) true (ps++t::rest) (ps++rest):=fun c=>by
 rw[List.filter_append,List.filter_append,List.filter_cons]
 cases hct:eqv (ltO o) c t with
 |false=>simp
 |true=>
  have h1:eqv (ltO o) c z=true:=eqv_trans (ltO_swo o) hct (eqv_symm he)
  have h2:z∈ps.filter (eqv (ltO o) c):=List.mem_filter.2 ⟨hz,h1⟩
  simp only[keepC,if_true]
  cases hf:ps.filter (eqv (ltO o) c) with
  |nil=>rw[hf] at h2;simp at h2
  |cons a b=>simp
theorem Em.step {o:T5} {once:Bool} {l ps rest:List T5} {t:T5} (h:Em o once l ps (t::rest)) (hmin:∀y∈rest,ltO o y t=false):Em o once l (emit o once ps t) rest:=by
 have hsw:=ltO_swo o
 have hput:(once=true→∀z,ps.getLast? =some z→cmpT o z t≠0)→Em o once l (ps++[t]) rest:=by
  intro hz
  refine⟨?_,by have:=h.sp;simpa using this,?_⟩
  ·unfold Sd
   rw[List.pairwise_append]
   refine⟨h.sd,List.pairwise_singleton _ _,?_⟩
   intro x hx y hy
   simp only[List.mem_singleton] at hy
   subst hy
   have hyx:=h.le x hx y List.mem_cons_self
   cases once with
   |false=>simpa using hyx
   |true=>
    rw[if_pos rfl]
    obtain⟨qs,z,rfl⟩:∃qs z,ps=qs++[z]:=by
     rcases List.eq_nil_or_concat ps with rfl|⟨qs,z,rfl⟩
     ·simp at hx
     ·exact⟨qs,z,by simp⟩
    have hne:=hz rfl z (by simp)
    have hyz:=h.le z (by simp) y List.mem_cons_self
    have hzy:ltO o z y=true:=by
     cases hc:ltO o z y with
     |true=>rfl
     |false=>exact absurd ((eqv_cmp o z y).1 (eqv_iff.2 ⟨hc,hyz⟩)) hne
    rcases List.mem_append.1 hx with hx|hx
    ·have hsd:=h.sd
     unfold Sd at hsd
     rw[List.pairwise_append] at hsd
     have hxz:=hsd.2.2 x hx z (by simp)
     rw[if_pos rfl] at hxz
     cases hc:ltO o x y with
     |true=>rfl
     |false=>
      have:=hsw.ntrans _ _ _ hc hyz
      rw[hxz] at this;cases this
    ·simp only[List.mem_singleton] at hx
     subst hx;exact hzy
  ·intro x hx y hy
   rcases List.mem_append.1 hx with hx|hx
   ·exact h.le x hx y (List.mem_cons_of_mem _ hy)
   ·simp only[List.mem_singleton] at hx
    subst hx;exact hmin y hy
 unfold emit
 cases once with
 |false=>exact hput (fun e=>by cases e)
 |true=>
  cases hgl:ps.getLast? with
  |none=>exact hput (fun _ z hz=>by rw[hgl] at hz;cases hz)
  |some z=>
   dsimp only
   split
   ·rename_i hc
    exact⟨h.sd,h.sp.trans (sp_skip (List.mem_of_getLast? hgl) ((eqv_cmp o z t).2 hc)),fun x hx y hy=>h.le x hx y (List.mem_cons_of_mem _ hy)⟩
   ·rename_i hc
    exact hput (fun _ z' hz'=>by rw[hgl] at hz';cases hz';exact hc)
def emits (o:T5) (once:Bool) (l:List T5):List T5:=l.foldl (emit o once) []
theorem emits_succ {o:T5} {once:Bool} {l:List T5} {i:Nat} (h:i<l.length):emits o once (l.take (i+1))=emit o once (emits o once (l.take i)) l[i]:=by
 unfold emits
 rw[List.take_add_one,List.foldl_append];simp[h]
theorem emits_len (o:T5) (once:Bool):∀(l:List T5),(emits o once l).length≤l.length:=by
 intro l
 have:∀(l ps:List T5),(l.foldl (emit o once) ps).length≤ps.length+l.length:=by
  intro l
  induction l with
  |nil=>intro ps;simp
  |cons t l ih=>
   intro ps
   have h1:=ih (emit o once ps t)
   have h2:=(emit_len o once ps t).2
   simp only[List.foldl_cons,List.length_cons];omega
 have h:=this l []
 simpa[emits] using h
theorem Em.all {o:T5} {once:Bool} {l:List T5}:∀{m ps:List T5},Em o once l ps m→Sd (ltO o) false m→Em o once l (m.foldl (emit o once) ps) []
 |[],_,h,_=>h
 |t::m,ps,h,hs=>by
  unfold Sd at hs
  rw[List.foldl_cons]
  refine Em.all (ps:=emit o once ps t) (m:=m) (h.step fun y hy=> ?_) (List.Pairwise.of_cons hs)
  have:=List.rel_of_pairwise_cons hs hy
  simpa using this
theorem emits_law {o:T5} {once:Bool} {l m:List T5} (h:Go.Srt.Sp (ltO o) false l m) (hs:Sd (ltO o) false m):Sd (ltO o) once (emits o once m)∧Go.Srt.Sp (ltO o) once l (emits o once m):=
 (Em.all (Em.start h.once_of) hs).fin
structure FillX where
 i:Nat
 cd:Chunk
 c1:Chunk
 cx:Chunk
 cb:Chunk
 W:Wk
 ws:List Int
theorem fits_iff {i c k n:Nat} (hk:1≤k) (hc:c=n/k):(i+1)*k≤n↔i<c:=by
 subst hc
 rw[←Nat.le_div_iff_mul_le (by omega)]
 exact⟨fun h=>h,fun h=>h⟩
theorem fill_ct (bw bd ba bs:Nat) (W:Wk) (cd ca cs:Chunk) (h:Wc bd ba bs W cd ca cs) (bx:Nat) (f:Fl) (fts:List T5) (Lv:List Ext) (hfo:FileOk W.δ.disk W.δ.size Lv f fts) (hsub:∀e∈Lv,e∈W.live) (g g2:Gr) (Gs:List Gr) (hg:W.α.gs.Perm (g::Gs))
  (hg2:g2∈Gs) (pos:Nat) (hpos:pos≤f.count) (cx cb:Chunk) (hr:IsRd bw bx W f fts g pos cx cb) (hac:W.δ.acts≤100000000000) (by_ n0:Nat) (o:T5) (ws:List Int) (hws:ws.length=g2.n) (hgn:g2.n≤1000000000):
  Ct Tryz.prog 124 [pv bx,pv by_] [wrow bw bd ba bs,cd,ca,cs,cx,cb,[(by_,row (runCells g2.bb f.width n0 o) 187)],[(g2.br,row (wcells ws) 125)]] fun v H'=>
   ∃cd' ca' W' cx' cb' ts' ws' m,H'=[wrow bw bd ba bs,cd',ca',cs,cx',cb',[(by_,row (runCells g2.bb f.width m o) 187)],[(g2.br,row (wcells ws') 125)]]∧Wc bd ba bs W' cd' ca' cs∧
    Ev W W' (nblocks W.δ.size f.width (pos+m)-nblocks W.δ.size f.width pos) 0∧W'.δ.disk=W.δ.disk∧W'.σ=W.σ∧W'.live=W.live∧ws'.length=g2.n∧
    ts'=(fts.drop pos).take m∧ws'.take (m*f.width)=words f.width ts'∧
    ((v= .tuple #[.int .i64 (m:Int),.int .i64 0]∧m=min (g2.n/f.width) (f.count-pos)∧W'.α=W.α∧IsRd bw bx W' f fts g (pos+m) cx' cb')∨
     (v= .tuple #[.int .i64 (m:Int),.int .i64 6]∧W.δ.fault≠-1∧W'.α.gs.Perm Gs∧ClosedRd bx cx'∧pos+m≤f.count)):=by
 obtain⟨⟨hs1,hs2⟩,hbk,hfr⟩:=h.dev.num
 have hk1:=hfo.w1
 have hk5:=hfo.w2
 have hcnt:=hfo.cnt
 have htl:=hfo.len
 have hp:=holds_pos hs1 hk1 hk5
 have hgm:g2∈W.α.gs:=hg.mem_iff.2 (List.mem_cons_of_mem _ hg2)
 obtain⟨c1,hc1⟩:=h.ar.open_ hgm
 have h':Wc bd ba bs W cd (c1++[g2.obj]) cs:=⟨h.dev,h.ar.perm hc1.symm,h.sp,h.nn,h.live⟩
 obtain⟨c,hc⟩:∃c,c=g2.n/f.width:=⟨_,rfl⟩
 have hcn:c*f.width≤g2.n:=by rw[hc];exact Nat.div_mul_le_self _ _
 have hcc:c≤g2.n:=by rw[hc];exact Nat.div_le_self _ _
 rw[←hc]
 have hfit:=fun i=>fits_iff (i:=i) hk1 hc
 refine Ct.permH (H2:=[wrow bw bd ba bs,cd,c1,[g2.obj],cs,cx,cb,[(by_,row (runCells g2.bb f.width n0 o) 187)],[(g2.br,row (wcells ws) 125)]]) ?_ ?_
 ·unfold runCells Gr.obj
  refine Ct.intro Tryz.func124 rfl Tryz.ntmps124 (nle rfl) fun w0=> ?_;dsimp only[argSlots,Nat.reduceAdd]
  repeat(first|(refine st ?_;intros)|refine G.draw [] (h:= ?_))
  refine G.loop (X:=FillX) (fun x=>x.i≤c∧pos+x.i≤f.count∧Wc bd ba bs x.W x.cd (x.c1++[g2.obj]) cs∧Ev W x.W (nblocks W.δ.size f.width (pos+x.i)-nblocks W.δ.size f.width pos) 0∧x.W.δ.disk=W.δ.disk∧x.W.σ=W.σ∧x.W.live=W.live∧x.W.α=W.α∧
    IsRd bw bx x.W f fts g (pos+x.i) x.cx x.cb∧x.ws.length=g2.n∧x.ws.take (x.i*f.width)=words f.width ((fts.drop pos).take x.i))
   (fun _=>[(0,pv bx),(1,pv by_)])
   (fun x=>[wrow bw bd ba bs,x.cd,x.c1,[(g2.bb,row [.slice (some ⟨g2.br,0,none⟩) g2.n g2.n] 150)],cs,x.cx,x.cb,[(by_,row [pv g2.bb,.int .i64 (f.width:Int),.int .i64 (x.i:Int),.int .i64 o.c0,.int .i64 o.c1,.int .i64 o.c2,.int .i64 o.c3,.int .i64 o.c4] 187)],[(g2.br,row (wcells x.ws) 125)]])
   (fun x=>c-x.i) ⟨0,cd,c1,cx,cb,W,ws⟩ ⟨Nat.zero_le _,hpos,h',by simpa using Ev.refl W,rfl,rfl,rfl,rfl,hr,hws,by simp⟩ (body:= ?_)
  rintro⟨i,cd1,c2,cx1,cb1,W2,ws2⟩ ⟨hic,hpi,hW2,hE2,hd2,hσ2,hl2,hα2,hr2,hw2,htk⟩
  dsimp only at hic hpi hW2 hE2 hd2 hσ2 hl2 hα2 hr2 hw2 htk⊢
  have hacts:=hE2.acts
  have hsz:=hE2.size
  have hnof:W2.δ.fault=0→W.δ.fault≠-1:=fun e0 e1=>by have:=hE2.fault e1;omega
  have hdl:nblocks W.δ.size f.width (pos+i)≤pos+i:=by
   unfold nblocks
   rw[Nat.div_le_iff_le_mul_add_pred (by omega)]
   have:=Nat.le_mul_of_pos_left (pos+i) (show 0<holds W.δ.size f.width by omega)
   omega
  have hkc:(i+1)*f.width≤1000000005:=by
   have h1:(i+1)*f.width=i*f.width+f.width:=Nat.succ_mul _ _
   have h2:i*f.width≤c*f.width:=Nat.mul_le_mul_right _ hic
   omega
  have e1:IntKind.wrap .i64 ((i:Int)+1)=((i+1:Nat):Int):=by rw[wrap_i64 (by omega)];rfl
  have e2:IntKind.wrap .i64 (((i+1:Nat):Int)*(f.width:Int))=(((i+1)*f.width:Nat):Int):=by rw[←Int.natCast_mul];exact wrap_i64 (by omega)
  have hfi:=hfit i
  generalize hm1:(i+1)*f.width=m1 at*
  by_cases hin:i<c
  ·have hmn:=hfi.2 hin
   repeat(first|(refine st ?_;intros)|refine G.draw [] (h:= ?_))
   apply R1.join (c1:=c2) (c2:=[(g2.bb,row [.slice (some ⟨g2.br,0,none⟩) g2.n g2.n] 150)])
   ·(repeat(first|exact Take.here|apply Take.there))
   ·(repeat(first|exact Take.here|apply Take.there))
   by_cases hpc:pos+i<f.count
   ·have hlt:pos+i<fts.length:=by omega
    have hNx:=Next_u bw bd ba bs W2 cd1 _ cs hW2 bx f fts Lv (by rw[hd2,hsz];exact hfo) (by rw[hl2];exact hsub) g Gs (by rw[hα2];exact hg) (pos+i) cx1 cb1 hr2 fts[pos+i] (List.getElem?_eq_getElem hlt) (by omega)
    have htv:tv fts[pos+i]= .agg (tcells fts[pos+i]).toArray:=rfl
    rw[htv] at hNx
    have hgt:fts[pos+i]∈fts:=List.getElem_mem hlt
    have hokt:=hfo.fit _ hgt
    have htcl:(tcells fts[pos+i]).length=5:=rfl
    have hall:(tcells fts[pos+i]).all Value.oneCell'=true:=rfl
    have hset5:setL [.int .i64 0,.int .i64 0,.int .i64 0,.int .i64 0,.int .i64 0] 0 (tcells fts[pos+i])=tcells fts[pos+i]:=rfl
    have htake:(fts.drop pos).take (i+1)=(fts.drop pos).take i++[fts[pos+i]]:=by
     rw[List.take_add_one];simp[hlt]
    have hget:=tcells_get fts[pos+i]
    have htw:=tw_get fts[pos+i] f.width
    have htwl:=tw_length fts[pos+i] hk5
    generalize hcl:tcells fts[pos+i]=tc at*
    generalize fts[pos+i]=t at*
    refine R.call (hct:=hNx) (h:= ?_)
    rintro _ _ ⟨cd3,ca3,W3,cx3,cb3,rfl,hW3,hE3,hd3,hs3,hl3,⟨rfl,e6,e9⟩|⟨rfl,e6,e7,e8,e9⟩⟩
    try dsimp only[List.cons_append,List.nil_append]
    ·obtain⟨c3,hc3⟩:=hW3.ar.open_ (g:=g2) (by rw[e6,hα2];exact hgm)
     unfold Gr.obj at hc3
     apply R.open hc3
     ·(repeat(first|exact Take.here|apply Take.there))
     obtain⟨B,hB⟩:∃B:Nat→List Int,∀j,B j=bput ws2 (i*f.width) ((tw f.width t).take j):=⟨_,fun _=>rfl⟩
     have hiw:i*f.width+f.width=m1:=by rw[←hm1,Nat.succ_mul]
     have e3:IntKind.wrap .i64 ((i:Int)*(f.width:Int))=((i*f.width:Nat):Int):=by rw[←Int.natCast_mul];exact wrap_i64 (by omega)
     generalize hiwg:i*f.width=iw at*
     have hB0:B 0=ws2:=by rw[hB,List.take_zero,bput_nil]
     have hBk:B f.width=bput ws2 iw (tw f.width t):=by rw[hB,List.take_of_length_le (by omega)]
     have hBl:∀j,(B j).length=g2.n:=fun j=>by rw[hB,bput_length (by rw[List.length_take,htwl,hw2];omega),hw2]
     repeat(first|(refine st ?_;intros)|refine G.draw [] (h:= ?_))
     rename_i b6
     refine G.loop (X:=Nat) (fun j=>j≤f.width) (fun j=>[(56,.int .i64 (j:Int)),(55,.int .i64 (f.width:Int)),(54,.slice (some ⟨b6,0,none⟩) f.width 5),(0,pv bx),(1,pv by_)])
      (fun j=>[[(b6,row tc 38)],c3,[(g2.bb,row [.slice (some ⟨g2.br,0,none⟩) g2.n g2.n] 150)],wrow bw bd ba bs,cd3,cs,cx3,cb3,[(by_,row [pv g2.bb,.int .i64 (f.width:Int),.int .i64 (i:Int),.int .i64 o.c0,.int .i64 o.c1,.int .i64 o.c2,.int .i64 o.c3,.int .i64 o.c4] 187)],[(g2.br,row (wcells (B j)) 125)]])
      (fun j=>f.width-j) 0 (Nat.zero_le _) (by repeat(first|exact trivial|refine⟨rfl,?_⟩)) (by rw[hB0];exact(by repeat(first|exact Split.nil|(apply Split.cons;·(repeat(first|exact Take.here|apply Take.there|exact Take.nil)))))) ?_
     intro j hj
     by_cases hjk:j<f.width
     ·have hgi:=hget j (by omega)
      have hset:(wcells (B j)).set (iw+j) (.int .u64 (wd (t.col j)))=wcells (B (j+1)):=by
       rw[wcells_set,hB,hB,bput_step (htw j hjk hk5) (by rw[htwl,hw2];omega)]
      have hlen:(wcells (B j)).length=g2.n:=by rw[wcells_length,hBl]
      have e4:IntKind.wrap .i64 ((iw:Int)+(j:Int))=((iw+j:Nat):Int):=by rw[←Int.natCast_add];exact wrap_i64 (by omega)
      repeat(first|(refine st ?_;intros)|refine G.draw [] (h:= ?_))
      exact Dn.round (j+1) (by omega) (by omega)
     ·obtain rfl:j=f.width:=by omega
      repeat(first|(refine st ?_;intros)|refine G.draw [] (h:= ?_))
      refine Dn.round ⟨i+1,cd3,c3,cx3,cb3,W3,B f.width⟩ ⟨hin,by dsimp only;omega,⟨hW3.dev,hW3.ar.perm hc3.symm,hW3.sp,hW3.nn,hW3.live⟩,?_,hd3.trans hd2,hs3.trans hσ2,hl3.trans hl2,by rw[e6];exact hα2,by rw[←Nat.add_assoc];exact e9,hBl _,?_⟩ (by dsimp only;omega)
      ·have:=hE2.trans hE3
       rw[hsz] at this
       refine this.weak ?_ (Nat.le_refl _)
       have m1:nblocks W.δ.size f.width pos≤nblocks W.δ.size f.width (pos+i):=nblocks_mono (by omega)
       have m2:nblocks W.δ.size f.width (pos+i)≤nblocks W.δ.size f.width (pos+i+1):=nblocks_mono (by omega)
       dsimp only
       rw[←Nat.add_assoc]
       omega
      ·have:=bput_take (buf:=ws2) (ws:=tw f.width t) (n:=iw) (by rw[htwl,hw2];omega)
       dsimp only
       rw[hm1,show m1=iw+(tw f.width t).length by omega,hBk,this,htake,words_app,htk]
       simp[words]
    ·repeat(first|(refine st ?_;intros)|refine G.draw [] (h:= ?_))
     (refine Dn.post (Hr:=[wrow bw bd ba bs,cd3,ca3,cs,cx3,cb3,[(by_,row (runCells g2.bb f.width i o) 187)],[(g2.br,row (wcells ws2) 125)]]) Tryz.results124 (hR:= ?_);refine⟨cd3,ca3,W3,cx3,cb3,_,ws2,i,rfl,hW3,?_,hd3.trans hd2,hs3.trans hσ2,hl3.trans hl2,hw2,rfl,htk,.inr ⟨rfl,hnof e6,e8,e9,hpi⟩⟩)
     have:=hE2.trans hE3
     exact{this with acts:=⟨this.acts.1,by rw[e7];exact hE2.acts.2⟩}
   ·have hNe:=NextEnd_u bw bx W2 f fts g cx1 cb1 (by rw[show f.count=pos+i by omega];exact hr2)
    have hz:tv T5.zero= .agg (tcells T5.zero).toArray:=rfl
    rw[hz] at hNe
    refine R.call (hct:=hNe) (h:= ?_)
    rintro _ _ ⟨rfl,rfl⟩
    try dsimp only[List.cons_append,List.nil_append]
    repeat(first|(refine st ?_;intros)|refine G.draw [] (h:= ?_))
    (refine Dn.post (Hr:=[wrow bw bd ba bs,cd1,c2++[(g2.bb,row [.slice (some ⟨g2.br,0,none⟩) g2.n g2.n] 150)],cs,cx1,cb1,[(by_,row (runCells g2.bb f.width i o) 187)],[(g2.br,row (wcells ws2) 125)]]) Tryz.results124 (hR:= ?_);refine⟨cd1,_,W2,cx1,cb1,_,ws2,i,rfl,hW2,hE2,hd2,hσ2,hl2,hw2,rfl,htk,.inl ⟨rfl,by omega,hα2,hr2⟩⟩)
  ·have hmn:¬m1≤g2.n:=fun e=>hin (hfi.1 e)
   obtain rfl:i=c:=by omega
   repeat(first|(refine st ?_;intros)|refine G.draw [] (h:= ?_))
   apply Dn.join (c1:=c2) (c2:=[(g2.bb,row [.slice (some ⟨g2.br,0,none⟩) g2.n g2.n] 150)])
   ·(repeat(first|exact Take.here|apply Take.there))
   ·(repeat(first|exact Take.here|apply Take.there))
   (refine Dn.post (Hr:=[wrow bw bd ba bs,cd1,c2++[(g2.bb,row [.slice (some ⟨g2.br,0,none⟩) g2.n g2.n] 150)],cs,cx1,cb1,[(by_,row (runCells g2.bb f.width i o) 187)],[(g2.br,row (wcells ws2) 125)]]) Tryz.results124 (hR:= ?_);refine⟨cd1,_,W2,cx1,cb1,_,ws2,i,rfl,hW2,hE2,hd2,hσ2,hl2,hw2,rfl,htk,.inl ⟨rfl,by omega,hα2,hr2⟩⟩)
 ·simp only[List.flatten_cons,List.flatten_nil,List.append_nil,List.append_assoc]
  refine List.Perm.append_left _ (List.Perm.append_left _ ?_)
  rw[←List.append_assoc c1]
  exact List.Perm.append_right _ hc1
def fcells (fs:List Fl):List Value:=fs.flatMap fun f=>[.int .i64 (f.first:Int),.int .i64 (f.blocks:Int),.int .i64 (f.width:Int),.int .i64 (f.count:Int)]
theorem fcells_app (a b:List Fl):fcells (a++b)=fcells a++fcells b:=by simp[fcells]
def addF (f:Fl) (live:List Ext):List Ext:=if f.blocks=0 then live else f.ext::live
theorem perm_move {α:Type} {ca c1 g A B X Y:List α} (h:ca.Perm (c1++g)):(ca++(A++(B++(X++Y)))).Perm (c1++(A++(B++(X++(g++Y))))):=by
 refine(h.append_right _).trans ?_
 rw[List.append_assoc]
 refine List.Perm.append_left _ ?_
 refine(List.perm_append_comm_assoc _ _ _).trans (List.Perm.append_left _ ?_)
 refine(List.perm_append_comm_assoc _ _ _).trans (List.Perm.append_left _ ?_)
 exact List.perm_append_comm_assoc _ _ _
structure LayRX where
 i:Nat
 cd:Chunk
 c1:Chunk
 cs:Chunk
 cx:Chunk
 cb:Chunk
 W:Wk
 last:T5
 some:Bool
theorem lay_ct (bz bw bd ba bs:Nat) (W:Wk) (cd ca cs:Chunk) (h:Wc bd ba bs W cd ca cs) (g:Gr) (hg:g∈W.α.gs) (by_ k:Nat) (o:T5) (once:Bool) (ts:List T5) (ws:List Int) (hws:ws.length=g.n) (hT:TsOk g k ts.length ts) (hw:ws.take (ts.length*k)=words k ts)
  (p:Option Addr) (cap:Nat) (last:T5) (some:Bool) (fs:List Fl) (vc:Chunk) (hV:Vec 27 4 p fs.length cap (fcells fs) vc) (hr:W.δ.size≤W.α.room-W.α.used) (hac:W.δ.acts≤100000000000) (hn:ts.length≤100000000) (hfs:fs.length≤100000000):
  Ct Tryz.prog 125 [pv bz,pv by_] [sRow bz bw o once p fs.length cap last some,wrow bw bd ba bs,cd,ca,cs,vc,[(by_,row (runCells g.bb k ts.length o) 187)],[(g.br,row (wcells ws) 125)]] fun v H'=>
   ∃cd' ca' cs' W' vc' ws' p' cap' last' some' fs',H'=[sRow bz bw o once p' fs'.length cap' last' some',wrow bw bd ba bs,cd',ca',cs',vc',[(by_,row (runCells g.bb k ts.length o) 187)],[(g.br,row (wcells ws') 125)]]∧Wc bd ba bs W' cd' ca' cs'∧
    Ev W W' (nblocks W.δ.size k ts.length) (nblocks W.δ.size k ts.length)∧Keep W.live W W'∧W'.α.gs.Perm W.α.gs∧ws'.length=g.n∧Vec 27 4 p' fs'.length cap' (fcells fs') vc'∧
    ((v= .int .i64 0∧∃f out,fs'=fs++[f]∧W'.live=addF f W.live∧f.width=k∧f.count≤ts.length∧FileOk W'.δ.disk W.δ.size [f.ext] f out∧Sd (ltO o) once out∧Go.Srt.Sp (ltO o) once ts out)∨
     (v= .int .i64 5∧fs'=fs∧big W.σ.free<nblocks W.δ.size k ts.length∧W'.live.Perm W.live)∨
     (v= .int .i64 6∧fs'=fs∧W.δ.fault≠-1∧W'.live.Perm W.live)):=by
 obtain⟨⟨hs1,hs2⟩,hbk,hfr⟩:=h.dev.num
 have hk1:=hT.k1
 have hk5:=hT.k5
 have hp:=holds_pos hs1 hk1 hk5
 obtain⟨c1,hc1⟩:=h.ar.open_ hg
 have h':Wc bd ba bs W cd (c1++[g.obj]) cs:=⟨h.dev,h.ar.perm hc1.symm,h.sp,h.nn,h.live⟩
 have hwsd:ws=words k ts++ws.drop (ts.length*k):=by rw[←hw,List.take_append_drop]
 obtain⟨rest,hrest⟩:∃rest,rest=ws.drop (ts.length*k):=⟨_,rfl⟩
 rw[←hrest] at hwsd
 have hrl:rest.length+ts.length*k=g.n:=by
  have:=congrArg List.length hwsd
  rw[List.length_append,words_length hk5,hws] at this
  omega
 subst hwsd
 clear hrest hw
 have hS:=Stable_ct by_ g k ts.length o rest ts hT
 refine Ct.permH (H2:=[sRow bz bw o once p fs.length cap last some,wrow bw bd ba bs,cd,c1,cs,vc,[(by_,row (runCells g.bb k ts.length o) 187)],[g.obj],[(g.br,row (wcells (words k ts++rest)) 125)]]) ?_ ?_
 ·unfold RunH at hS
  unfold sRow sCells
  generalize hob:[g.obj]=gobj at*
  refine Ct.intro Tryz.func125 rfl Tryz.ntmps125 (nle rfl) fun w0=> ?_;dsimp only[argSlots,Nat.reduceAdd]
  repeat(first|(refine st ?_;intros)|refine G.draw [] (h:= ?_)|(refine cq hA ?_))
  refine R.call (hct:=hS) (h:= ?_)
  rintro _ _ ⟨rfl,ts',rfl,hT',hsp,hsd⟩
  try dsimp only[List.cons_append,List.nil_append]
  clear hS
  have hlen:=hT'.len
  obtain⟨e1,e2⟩:=emits_law (once:=once) hsp hsd
  have hel:=emits_len o once ts'
  unfold runCells at*
  have hWr:=Write_u bw bd ba bs W cd _ cs h' k ts.length hk1 hk5 hn hr
  have hAt:=fun i hi=>At_ct by_ g k o ts' rest hk1 hk5 hT.gn (by rw[hlen];exact hT.fit) hT'.ok i hi
  unfold RunH runCells at hAt
  rw[hob,hlen] at hAt
  rw[hlen]
  repeat(first|(refine st ?_;intros)|refine G.draw [] (h:= ?_)|(refine cq hA ?_))
  apply R1.join (c1:=c1) (c2:=gobj)
  ·(repeat(first|exact Take.here|apply Take.there))
  ·(repeat(first|exact Take.here|apply Take.there))
  apply R.call
  ·exact rfl
  ·exact hWr
  ·exact(by repeat(first|exact Split.nil|(apply Split.cons;·(repeat(first|exact Take.here|apply Take.there|exact Take.nil)))))
  ·exact rfl
  ·exact nle rfl
  rintro _ _ (⟨hfit,bx,first,g1,cd',ca',cs',W1,cx,cb,rfl,rfl,hW1,hE1,e3,e4,e5,e6,e7⟩|⟨hfull,rfl,cd',ca',cs',W1,rfl,hW1,hE1,e3,e4,e5⟩)
  ·obtain⟨c2,hc2⟩:=hW1.ar.open_ (g:=g) (e4.mem_iff.2 (List.mem_cons_of_mem _ hg))
   rw[hob] at hc2
   apply R.open hc2
   ·(repeat(first|exact Take.here|apply Take.there))
   repeat(first|(refine st ?_;intros)|refine G.draw [] (h:= ?_)|(refine cq hA ?_))
   refine G.loop (X:=LayRX) (fun x=>x.i≤ts.length∧Wc bd ba bs x.W x.cd (x.c1++gobj) x.cs∧Ev W x.W ((emits o once (ts'.take x.i)).length/holds W.δ.size k) (nblocks W.δ.size k ts.length)∧Keep W.live W x.W∧x.W.α.gs.Perm (g1::W.α.gs)∧LvOf first (nblocks W.δ.size k ts.length) W.live x.W.live∧
     IsWr bw bx x.W first (nblocks W.δ.size k ts.length) k ts.length g1 (emits o once (ts'.take x.i)) x.cx x.cb∧Last (emits o once (ts'.take x.i)) x.last x.some)
    (fun x=>[(39,.int .i64 (x.i:Int)),(38,.int .i64 (ts.length:Int)),(5,pv bx),(0,pv bz),(1,pv by_)])
    (fun x=>[[(bz,row [pv bw,.int .i64 o.c0,.int .i64 o.c1,.int .i64 o.c2,.int .i64 o.c3,.int .i64 o.c4,.bool once,.slice p fs.length cap,.int .i64 x.last.c0,.int .i64 x.last.c1,.int .i64 x.last.c2,.int .i64 x.last.c3,.int .i64 x.last.c4,.bool x.some] 164)],wrow bw bd ba bs,x.cd,x.c1,x.cs,x.cx,x.cb,vc,[(by_,row [pv g.bb,.int .i64 (k:Int),.int .i64 (ts.length:Int),.int .i64 o.c0,.int .i64 o.c1,.int .i64 o.c2,.int .i64 o.c3,.int .i64 o.c4] 187)],gobj,[(g.br,row (wcells (words k ts'++rest)) 125)]])
    (fun x=>ts.length-x.i) ⟨0,cd',c2,cs',cx,cb,W1,last,false⟩
    ⟨Nat.zero_le _,⟨hW1.dev,hW1.ar.perm hc2.symm,hW1.sp,hW1.nn,hW1.live⟩,by simpa[emits] using hE1,fun x _=>by rw[e3],e4,e6,by simpa[emits] using e7,by simp[emits,Last]⟩ (body:= ?_)
   rintro⟨i,cd1,c3,cs1,cx1,cb1,W2,last1,some1⟩ ⟨hi,hW2,hE2,hK2,hg2,hl2,hw2,hL2⟩
   dsimp only at hi hW2 hE2 hK2 hg2 hl2 hw2 hL2⊢
   have hacts:=hE2.acts
   have hsz:=hE2.size
   have hel2:=emits_len o once (ts'.take i)
   rw[List.length_take] at hel2
   have hdl:(emits o once (ts'.take i)).length/holds W.δ.size k≤ts.length:=Nat.le_trans (Nat.div_le_self _ _) (by omega)
   have hnof:W2.δ.fault=0→W.δ.fault≠-1:=fun e0 e1=>by have:=hE2.fault e1;omega
   by_cases hin:i<ts.length
   ·have hlt:i<ts'.length:=by omega
    have hPt:=put_ct bz bw bd ba bs W2 cd1 _ cs1 hW2 bx first _ k ts.length g1 _ cx1 cb1 hw2 W.α.gs hg2 W.live hl2 (by omega) (at_ ts' i) (hT'.ok _ (by unfold at_;rw[List.getD_eq_getElem?_getD,List.getElem?_eq_getElem hlt];exact List.getElem_mem hlt)) (by omega) o once p fs.length cap last1 some1 hL2
    have hat:emit o once (emits o once (ts'.take i)) (at_ ts' i)=emits o once (ts'.take (i+1)):=by
     rw[emits_succ hlt];unfold at_;rw[List.getD_eq_getElem?_getD,List.getElem?_eq_getElem hlt];rfl
    rw[hat] at hPt
    have hA:=hAt i hin
    unfold sRow sCells at hPt
    repeat(first|(refine st ?_;intros)|refine G.draw [] (h:= ?_)|(refine cq hA ?_))
    apply R1.join (c1:=c3) (c2:=gobj)
    ·(repeat(first|exact Take.here|apply Take.there))
    ·(repeat(first|exact Take.here|apply Take.there))
    refine R.call (hct:=hPt) (h:= ?_)
    rintro _ _ ⟨cd3,ca3,cs3,W3,cx3,cb3,last3,some3,rfl,hW3,hE3,hK3,⟨rfl,e8,e9,e10,e11,e12⟩|⟨rfl,e8,e9,e10,e11,e12⟩⟩
    try dsimp only[List.cons_append,List.nil_append]
    ·obtain⟨c4,hc4⟩:=hW3.ar.open_ (g:=g) (by rw[e8];exact hg2.mem_iff.2 (List.mem_cons_of_mem _ hg))
     rw[hob] at hc4
     apply R.open hc4
     ·(repeat(first|exact Take.here|apply Take.there))
     repeat(first|(refine st ?_;intros)|refine G.draw [] (h:= ?_)|(refine cq hA ?_))
     refine Dn.round ⟨i+1,cd3,c4,cs3,cx3,cb3,W3,last3,some3⟩ ⟨hin,⟨hW3.dev,hW3.ar.perm hc4.symm,hW3.sp,hW3.nn,hW3.live⟩,?_,hK2.trans hK3,by rw[e8];exact hg2,by rw[e10];exact hl2,e11,e12⟩ (by dsimp only;omega)
     have:=hE2.trans hE3
     rw[hsz] at this
     refine this.weak ?_ (Nat.le_refl _)
     have hm:(emits o once (ts'.take i)).length/holds W.δ.size k≤(emits o once (ts'.take (i+1))).length/holds W.δ.size k:=Nat.div_le_div_right (by rw[←hat];exact(emit_len _ _ _ _).1)
     dsimp only
     omega
    ·have hDr:=Dropped_u bx cx3 e12
     repeat(first|(refine st ?_;intros)|refine G.draw [] (h:= ?_)|(refine cq hA ?_))
     refine R.call (hct:=hDr) (h:= ?_)
     rintro _ _ ⟨rfl,rfl⟩
     try dsimp only[List.cons_append,List.nil_append]
     repeat(first|(refine st ?_;intros)|refine G.draw [] (h:= ?_)|(refine cq hA ?_))
     (refine Dn.post (Hr:=[[(bz,row [pv bw,.int .i64 o.c0,.int .i64 o.c1,.int .i64 o.c2,.int .i64 o.c3,.int .i64 o.c4,.bool once,.slice p fs.length cap,.int .i64 last3.c0,.int .i64 last3.c1,.int .i64 last3.c2,.int .i64 last3.c3,.int .i64 last3.c4,.bool some3] 164)],wrow bw bd ba bs,cd3,ca3,cs3,vc,[(by_,row [pv g.bb,.int .i64 (k:Int),.int .i64 (ts.length:Int),.int .i64 o.c0,.int .i64 o.c1,.int .i64 o.c2,.int .i64 o.c3,.int .i64 o.c4] 187)],[(g.br,row (wcells (words k ts'++rest)) 125)]]) Tryz.results125 (hR:= ?_);refine⟨cd3,ca3,cs3,W3,vc,words k ts'++rest,p,cap,last3,some3,fs,rfl,hW3,?_,hK2.trans hK3,e10,by rw[List.length_append,words_length hk5,hlen];omega,hV,.inr (.inr ⟨rfl,rfl,hnof e8,e11⟩)⟩)
     have:=hE2.trans hE3
     refine{this with acts:=⟨this.acts.1,?_⟩}
     rw[e9]
     refine Nat.le_trans hE2.acts.2 (Nat.add_le_add_left ?_ _)
     refine Nat.le_trans (Nat.div_le_div_right (c:=holds W.δ.size k) (show _≤ts.length by omega)) ?_
     unfold nblocks;exact Nat.div_le_div_right (by omega)
   ·obtain rfl:i=ts.length:=by omega
    have htk:ts'.take ts.length=ts':=by rw[←hlen];exact List.take_length
    rw[htk] at hw2 hE2
    have hCl:=Close_u bw bd ba bs W2 cd1 _ cs1 hW2 bx first _ k ts.length g1 _ cx1 cb1 hw2 W.α.gs hg2 W.live hl2 (by omega)
    rw[hsz] at hCl
    have hem:nblocks W.δ.size k (emits o once ts').length≤nblocks W.δ.size k ts.length:=nblocks_mono (by omega)
    have hed:(emits o once ts').length/holds W.δ.size k≤nblocks W.δ.size k (emits o once ts').length:=by unfold nblocks;exact Nat.div_le_div_right (by omega)
    repeat(first|(refine st ?_;intros)|refine G.draw [] (h:= ?_)|(refine cq hA ?_))
    apply R1.join (c1:=c3) (c2:=gobj)
    ·(repeat(first|exact Take.here|apply Take.there))
    ·(repeat(first|exact Take.here|apply Take.there))
    refine R.call (hct:=hCl) (h:= ?_)
    rintro _ _ ⟨cd3,ca3,cs3,W3,cx3,cb3,rfl,hW3,hE3,hK3,hg3,hx3,⟨f,rfl,e8,e9,e10,e11⟩|⟨rfl,e8,e9,e10⟩⟩
    try dsimp only[List.cons_append,List.nil_append]
    ·have hfl:flv f= .agg #[.int .i64 (f.first:Int),.int .i64 (f.blocks:Int),.int .i64 (f.width:Int),.int .i64 (f.count:Int)]:=rfl
     rw[hfl]
     repeat(first|(refine st ?_;intros)|refine G.draw [] (h:= ?_)|(refine cq hA ?_))
     rename_i p' cap' c' hV'
     have hV3:Vec 27 4 p' (fs.length+1) cap' (fcells (fs++[f])) c':=by rw[fcells_app];exact hV'
     have hfl1:(fs++[f]).length=fs.length+1:=by simp
     rw[←hfl1] at hV3
     (refine Dn.post (Hr:=[[(bz,row [pv bw,.int .i64 o.c0,.int .i64 o.c1,.int .i64 o.c2,.int .i64 o.c3,.int .i64 o.c4,.bool once,.slice p' (fs.length+1) cap',.int .i64 last1.c0,.int .i64 last1.c1,.int .i64 last1.c2,.int .i64 last1.c3,.int .i64 last1.c4,.bool some1] 164)],wrow bw bd ba bs,cd3,ca3,cs3,c',[(by_,row [pv g.bb,.int .i64 (k:Int),.int .i64 (ts.length:Int),.int .i64 o.c0,.int .i64 o.c1,.int .i64 o.c2,.int .i64 o.c3,.int .i64 o.c4] 187)],[(g.br,row (wcells (words k ts'++rest)) 125)]]) Tryz.results125 (hR:= ?_);refine⟨cd3,ca3,cs3,W3,c',words k ts'++rest,p',cap',last1,some1,fs++[f],by rw[hfl1],hW3,?_,hK2.trans hK3,hg3,by rw[List.length_append,words_length hk5,hlen];omega,hV3,.inl ⟨rfl,f,_,rfl,e8,e9,by omega,e11,e1,e2⟩⟩)
     exact(hE2.trans hE3).weak (by omega) (Nat.le_refl _)
    ·repeat(first|(refine st ?_;intros)|refine G.draw [] (h:= ?_)|(refine cq hA ?_))
     (refine Dn.post (Hr:=[[(bz,row [pv bw,.int .i64 o.c0,.int .i64 o.c1,.int .i64 o.c2,.int .i64 o.c3,.int .i64 o.c4,.bool once,.slice p fs.length cap,.int .i64 last1.c0,.int .i64 last1.c1,.int .i64 last1.c2,.int .i64 last1.c3,.int .i64 last1.c4,.bool some1] 164)],wrow bw bd ba bs,cd3,ca3,cs3,vc,[(by_,row [pv g.bb,.int .i64 (k:Int),.int .i64 (ts.length:Int),.int .i64 o.c0,.int .i64 o.c1,.int .i64 o.c2,.int .i64 o.c3,.int .i64 o.c4] 187)],[(g.br,row (wcells (words k ts'++rest)) 125)]]) Tryz.results125 (hR:= ?_);refine⟨cd3,ca3,cs3,W3,vc,words k ts'++rest,p,cap,last1,some1,fs,rfl,hW3,?_,hK2.trans hK3,hg3,by rw[List.length_append,words_length hk5,hlen];omega,hV,.inr (.inr ⟨rfl,rfl,hnof e8,e10⟩)⟩)
     exact(hE2.trans hE3).weak (by omega) (Nat.le_refl _)
  ·rw[←hob] at*
   repeat(first|(refine st ?_;intros)|refine G.draw [] (h:= ?_)|(refine cq hA ?_))
   (refine Dn.post (Hr:=[[(bz,row [pv bw,.int .i64 o.c0,.int .i64 o.c1,.int .i64 o.c2,.int .i64 o.c3,.int .i64 o.c4,.bool once,.slice p fs.length cap,.int .i64 last.c0,.int .i64 last.c1,.int .i64 last.c2,.int .i64 last.c3,.int .i64 last.c4,.bool false] 164)],wrow bw bd ba bs,cd',ca',cs',vc,[(by_,row [pv g.bb,.int .i64 (k:Int),.int .i64 (ts.length:Int),.int .i64 o.c0,.int .i64 o.c1,.int .i64 o.c2,.int .i64 o.c3,.int .i64 o.c4] 187)],[(g.br,row (wcells (words k ts'++rest)) 125)]]) Tryz.results125 (hR:= ?_);refine⟨cd',ca',cs',W1,vc,words k ts'++rest,p,cap,last,false,fs,rfl,hW1,hE1.weak (Nat.zero_le _) (Nat.zero_le _),fun x _=>by rw[e3],e5,by rw[List.length_append,words_length hk5,hlen];omega,hV,.inr (.inl ⟨rfl,rfl,hfull,by rw[e4]⟩)⟩)
 ·simp only[List.flatten_cons,List.flatten_nil,List.append_nil,List.append_assoc]
  exact List.Perm.append_left _ (List.Perm.append_left _ (List.Perm.append_left _ (perm_move hc1)))
end Go.Proofs.YtjoicjgfgkpdjaaGreat
