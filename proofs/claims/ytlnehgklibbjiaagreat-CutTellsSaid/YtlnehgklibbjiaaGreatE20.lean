/-
  Parts of the proof, put together: Job, JobC, JobSort, JobS, JobF, JobR. No condition.
-/
import Derived.Test.YtlnehgklibbjiaaGreatE19
set_option linter.unusedVariables false
set_option linter.unusedSimpArgs false
set_option linter.unnecessarySimpa false
set_option maxHeartbeats 4000000
namespace Go.Proofs.YtlnehgklibbjiaaGreat
open Go.SL Go.Spc Go.Tup Go.Srt
def jrow (bj bw:Nat) (e:Int) (p:Option Addr) (n cap:Nat):Chunk:=[(bj,row [pv bw,.int .i64 e,.slice p n cap] 108)]
theorem keep_ct (bj bw:Nat) (e0 e:Int) (p:Option Addr) (n cap:Nat) (fs:List Fl) (ch:Chunk) (hV:Vec 27 4 p n cap (fcells fs) ch) (hn:n≤1000000) (f:Fl):
  Ct Tryz.prog 77 [pv bj,flv f,.int .i64 e] [jrow bj bw e0 p n cap,ch] fun v H'=>v=flv f∧
   ((e=0∧∃p' cap' ch',H'=[jrow bj bw 0 p' (n+1) cap',ch']∧Vec 27 4 p' (n+1) cap' (fcells (fs++[f])) ch')∨(e≠0∧H'=[jrow bj bw e p n cap,ch])):=by
 have hflv:flv f= .agg #[.int .i64 (f.first:Int),.int .i64 (f.blocks:Int),.int .i64 (f.width:Int),.int .i64 (f.count:Int)]:=rfl
 rw[hflv]
 unfold jrow
 by_cases he:e=0
 ·subst he
  refine Ct.intro Tryz.func77 rfl Tryz.ntmps77 (nle rfl) fun w0=> ?_;dsimp only[argSlots,Nat.reduceAdd]
  repeat(first|(refine st ?_;intros)|refine G.draw [] (h:= ?_))
  rename_i p' cap' ch' hV'
  (refine Dn.post (Hr:=[[(bj,row [pv bw,.int .i64 0,.slice p' (n+1) cap'] 108)],ch']) Tryz.results77 (hR:= ?_);exact⟨rfl,.inl ⟨rfl,p',cap',ch',rfl,by rw[fcells_app];exact hV'⟩⟩)
 ·refine Ct.intro Tryz.func77 rfl Tryz.ntmps77 (nle rfl) fun w0=> ?_;dsimp only[argSlots,Nat.reduceAdd]
  repeat(first|(refine st ?_;intros)|refine G.draw [] (h:= ?_))
  (refine Dn.post (Hr:=[[(bj,row [pv bw,.int .i64 e,.slice p n cap] 108)],ch]) Tryz.results77 (hR:= ?_);exact⟨rfl,.inr ⟨he,rfl⟩⟩)
theorem Make_no (bj bw:Nat) (e:Int) (he:e≠0) (p:Option Addr) (n cap:Nat) (x1 x2 x3 x4:Value):
  CtQ Tryz.prog 45 [pv bj,x1,x2,x3,x4] [jrow bj bw e p n cap] (flv ⟨0,0,0,0⟩):=by
 have hflv:flv ⟨0,0,0,0⟩= .agg #[.int .i64 0,.int .i64 0,.int .i64 0,.int .i64 0]:=rfl
 rw[hflv]
 unfold jrow
 refine Ct.intro Tryz.func45 rfl Tryz.ntmps45 (nle rfl) fun w0=> ?_;dsimp only[argSlots,Nat.reduceAdd]
 repeat(refine st ?_;intros)
 (refine Dn.post (Hr:=[[(bj,row [pv bw,.int .i64 e,.slice p n cap] 108)]]) Tryz.results45 (hR:= ?_);exact⟨rfl,rfl⟩)
def StepR (J:Chunk) (Q:Fl→Int→Chunk→Prop) (v:Value) (H':Hp):Prop:=∃f e Hc',v= .tuple #[flv f,.int .i64 e]∧H'=[J,Hc']∧Q f e Hc'
def KeptR (bj bw:Nat) (p:Option Addr) (n cap:Nat) (fs:List Fl) (ch:Chunk) (Q:Fl→Int→Chunk→Prop) (v:Value) (H':Hp):Prop:=∃f e Hc',v=flv f∧Q f e Hc'∧
 ((e=0∧∃p' cap' ch',H'=[jrow bj bw 0 p' (n+1) cap',ch',Hc']∧Vec 27 4 p' (n+1) cap' (fcells (fs++[f])) ch')∨(e≠0∧H'=[jrow bj bw e p n cap,ch,Hc']))
theorem Make_yes (bj bw:Nat) (p:Option Addr) (n cap:Nat) (fs:List Fl) (ch:Chunk) (hV:Vec 27 4 p n cap (fcells fs) ch) (hn:n≤1000000) (x1 x2 x3 x4:Value) (Hc:Chunk) (Q:Fl→Int→Chunk→Prop)
  (hE:Ct Tryz.prog 78 [pv bw,x1,x2,x3,x4] [Hc] fun v H'=>∃f e Hc',v= .tuple #[flv f,.int .i64 e]∧H'=[Hc']∧Q f e Hc'):
  Ct Tryz.prog 45 [pv bj,x1,x2,x3,x4] [jrow bj bw 0 p n cap,ch,Hc] (KeptR bj bw p n cap fs ch Q):=by
 have hK:=fun f e=>keep_ct bj bw 0 e p n cap fs ch hV hn f
 unfold jrow at hK⊢
 refine Ct.intro Tryz.func45 rfl Tryz.ntmps45 (nle rfl) fun w0=> ?_;dsimp only[argSlots,Nat.reduceAdd]
 repeat(refine st ?_;intros)
 refine R.call (hct:=hE) (h:= ?_)
 rintro _ _ ⟨f,e,Hc',rfl,rfl,hQ⟩
 try dsimp only[List.cons_append,List.nil_append]
 have hflv:flv f= .agg #[.int .i64 (f.first:Int),.int .i64 (f.blocks:Int),.int .i64 (f.width:Int),.int .i64 (f.count:Int)]:=rfl
 have hK1:=hK f e
 rw[hflv] at hK1⊢
 repeat(refine st ?_;intros)
 refine R.call (hct:=hK1) (h:= ?_)
 rintro _ _ ⟨rfl,⟨rfl,p',cap',ch',rfl,hV'⟩|⟨he,rfl⟩⟩
 try dsimp only[List.cons_append,List.nil_append]
 ·repeat(refine st ?_;intros)
  (refine Dn.post (Hr:=[[(bj,row [pv bw,.int .i64 0,.slice p' (n+1) cap'] 108)],ch',Hc']) Tryz.results45 (hR:= ?_);exact⟨f,0,Hc',rfl,hQ,.inl ⟨rfl,p',cap',ch',rfl,hV'⟩⟩)
 ·repeat(refine st ?_;intros)
  (refine Dn.post (Hr:=[[(bj,row [pv bw,.int .i64 e,.slice p n cap] 108)],ch,Hc']) Tryz.results45 (hR:= ?_);exact⟨f,e,Hc',rfl,hQ,.inr ⟨he,rfl⟩⟩)
theorem Run_no (bj bw:Nat) (e:Int) (he:e≠0) (p:Option Addr) (n cap:Nat) (x1:Value):
  CtQ Tryz.prog 57 [pv bj,x1] [jrow bj bw e p n cap] (flv ⟨0,0,0,0⟩):=by
 have hflv:flv ⟨0,0,0,0⟩= .agg #[.int .i64 0,.int .i64 0,.int .i64 0,.int .i64 0]:=rfl
 rw[hflv]
 unfold jrow
 refine Ct.intro Tryz.func57 rfl Tryz.ntmps57 (nle rfl) fun w0=> ?_;dsimp only[argSlots,Nat.reduceAdd]
 repeat(refine st ?_;intros)
 (refine Dn.post (Hr:=[[(bj,row [pv bw,.int .i64 e,.slice p n cap] 108)]]) Tryz.results57 (hR:= ?_);exact⟨rfl,rfl⟩)
theorem Run_yes (bj bw:Nat) (p:Option Addr) (n cap:Nat) (fs:List Fl) (ch:Chunk) (hV:Vec 27 4 p n cap (fcells fs) ch) (hn:n≤1000000) (mk:Nat) (hcal:Callable Tryz.prog mk) (us:List Value) (Hc:Chunk) (Q:Fl→Int→Chunk→Prop)
  (hE:Ct Tryz.prog mk us [jrow bj bw 0 p n cap,Hc] (StepR (jrow bj bw 0 p n cap) Q)):
  Ct Tryz.prog 57 [pv bj,.func (.func mk) #[] us.toArray] [jrow bj bw 0 p n cap,ch,Hc] (KeptR bj bw p n cap fs ch Q):=by
 have hK:=fun f e=>keep_ct bj bw 0 e p n cap fs ch hV hn f
 unfold jrow at hK hE⊢
 refine Ct.intro Tryz.func57 rfl Tryz.ntmps57 (nle rfl) fun w0=> ?_;dsimp only[argSlots,Nat.reduceAdd]
 repeat(refine st ?_;intros)
 refine R.callV (fs:=[]) (vs:=[]) (hf:=hcal) (hct:=hE) (h:= ?_)
 rintro _ _ ⟨f,e,Hc',rfl,rfl,hQ⟩
 dsimp only[List.cons_append,List.nil_append]
 have hflv:flv f= .agg #[.int .i64 (f.first:Int),.int .i64 (f.blocks:Int),.int .i64 (f.width:Int),.int .i64 (f.count:Int)]:=rfl
 have hK1:=hK f e
 rw[hflv] at hK1⊢
 repeat(refine st ?_;intros)
 refine R.call (hct:=hK1) (h:= ?_)
 rintro _ _ ⟨rfl,⟨rfl,p',cap',ch',rfl,hV'⟩|⟨he,rfl⟩⟩
 try dsimp only[List.cons_append,List.nil_append]
 ·repeat(refine st ?_;intros)
  (refine Dn.post (Hr:=[[(bj,row [pv bw,.int .i64 0,.slice p' (n+1) cap'] 108)],ch',Hc']) Tryz.results57 (hR:= ?_);exact⟨f,0,Hc',rfl,hQ,.inl ⟨rfl,p',cap',ch',rfl,hV'⟩⟩)
 ·repeat(refine st ?_;intros)
  (refine Dn.post (Hr:=[[(bj,row [pv bw,.int .i64 e,.slice p n cap] 108)],ch,Hc']) Tryz.results57 (hR:= ?_);exact⟨f,e,Hc',rfl,hQ,.inr ⟨he,rfl⟩⟩)
end Go.Proofs.YtlnehgklibbjiaaGreat
namespace Go.Proofs.YtlnehgklibbjiaaGreat
open Go.SL Go.Spc Go.Tup Go.Srt
theorem Ct.wide {P:Program} {f:FuncId} {args:List Value} {Hf:Hp} {R:Value→Hp→Prop} (h:Ct P f args Hf R) (F:Hp):Ct P f args (Hf++F) fun v H'=>∃H1,R v H1∧H'=H1++F:=by
 have h2:= @Ct.frame P f args Hf F R h
 unfold Ct
 exact fun w hw=>(h2 hw).mono fun e w' ⟨v,H',h3,h4,h5⟩=>⟨v,H'++F,h3,⟨H',h4,rfl⟩,h5⟩
open Classical in
theorem permC {a b:Chunk} (h:∀z,List.count z a=List.count z b):a.Perm b:=List.perm_iff_count.2 h
structure Jp where
 bw:Nat
 bd:Nat
 ba:Nat
 bs:Nat
 bj:Nat
 size:Nat
 room:Nat
 n:Nat
 gs:List Gr
 L0:List Ext
 D0:Nat→Option (List Int)
 fl:Prop
 b0:Nat
structure Jp.Ok (p:Jp):Prop where
 size:8≤p.size∧p.size≤256
 left:(p.gs.map (·.n)).sum+8*p.size≤p.room
structure Jb where
 e:Int
 er:Option Nat
 G:List (Fl×List T5)
 acts:Nat
 took:Nat
structure JobW (p:Jp) (J:Jb) (held:List (Fl×List T5)) (W:Wk):Prop where
 gs:W.α.gs.Perm p.gs
 room:W.α.room=p.room
 size:W.δ.size=p.size
 n:W.σ.n=p.n
 live:W.live.Perm (addFs (held.map (·.1)) p.L0)
 files:∀x∈held,FileOk W.δ.disk p.size [x.1.ext] x.1 x.2
 len:held.length≤100000
 keep:∀x,inF p.L0 x→W.δ.disk x=p.D0 x
 flt:¬p.fl→W.δ.fault= -1
 acts:W.δ.acts≤J.acts
 tk:p.b0≤big W.σ.free+J.took
 ok:J.e=0→held.Perm J.G∧J.er=none
 why:J.e≠0→(J.e=6∧p.fl)∨∃m:Nat,J.er=some m∧J.e=(m:Int)
def jobC (p:Jp) (e:Int) (cd ca cs:Chunk) (ph:Option Addr) (n cap:Nat) (ch:Chunk):Chunk:=[wrow p.bw p.bd p.ba p.bs,cd,ca,cs,jrow p.bj p.bw e ph n cap,ch].flatten
def JobC (p:Jp) (J:Jb) (C:Chunk):Prop:=∃W cd ca cs held ph cap ch,C=jobC p J.e cd ca cs ph held.length cap ch∧
 Wc p.bd p.ba p.bs W cd ca cs∧Vec 27 4 ph held.length cap (fcells (held.map (·.1))) ch∧JobW p J held W
def In0 (p:Jp) (x:Fl×List T5):Prop:=∃Lv,FileOk p.D0 p.size Lv x.1 x.2∧∀e∈Lv,e∈p.L0
def roomy (p:Jp) (G:List (Fl×List T5)) (m:Nat):Prop:=m*(G.length+p.L0.length+1)+((G.map (·.1.blocks)).sum+total p.L0)≤p.n
def Fits (p:Jp) (J:Jb) (m:Nat):Prop:=roomy p J.G m∨J.took+m≤p.b0
theorem mem_addFs {f:Fl} (hb:f.blocks≠0):∀{fs:List Fl} {L:List Ext},(f∈fs∨f.ext∈L)→f.ext∈addFs fs L
 |[],L,h=>by simpa[addFs] using h
 |g::fs,L,h=>by
  simp only[addFs,List.foldl_cons]
  refine mem_addFs hb (fs:=fs) (L:=addF g L) ?_
  rcases h with h|h
  ·rcases List.mem_cons.1 h with rfl|h
   ·right;unfold addF;rw[if_neg hb];exact List.mem_cons_self
   ·exact .inl h
  ·right;unfold addF;split
   ·exact h
   ·exact List.mem_cons_of_mem _ h
theorem sub_addFs {e:Ext}:∀{fs:List Fl} {L:List Ext},e∈L→e∈addFs fs L
 |[],_,h=>h
 |g::fs,L,h=>by
  simp only[addFs,List.foldl_cons]
  refine sub_addFs (fs:=fs) (L:=addF g L) ?_
  unfold addF;split
  ·exact h
  ·exact List.mem_cons_of_mem _ h
theorem total_addFs:∀(fs:List Fl) (L:List Ext),total (addFs fs L)=(fs.map (·.blocks)).sum+total L
 |[],L=>by simp[addFs]
 |f::fs,L=>by
  have h1:addFs (f::fs) L=addFs fs (addF f L):=rfl
  rw[h1,total_addFs fs,total_addF];simp;omega
theorem length_addFs:∀(fs:List Fl) (L:List Ext),(addFs fs L).length≤fs.length+L.length
 |[],L=>by simp[addFs]
 |f::fs,L=>by
  have h1:addFs (f::fs) L=addFs fs (addF f L):=rfl
  have h2:=length_addFs fs (addF f L)
  have h3:(addF f L).length≤L.length+1:=by unfold addF;split<;>simp
  rw[h1,List.length_cons];omega
theorem JobW.file {p:Jp} {J:Jb} {held:List (Fl×List T5)} {W:Wk} (h:JobW p J held W) {x:Fl×List T5} (hx:x∈held∨In0 p x):FileIn W x:=by
 rcases hx with hx|⟨Lv,hf,hs⟩
 ·have hf:=h.files x hx
  rw[←h.size] at hf
  by_cases hb:x.1.blocks=0
  ·exact⟨[],{hf with live:=fun e=>absurd hb e},by simp⟩
  ·refine⟨[x.1.ext],hf,fun e he=> ?_⟩
   simp only[List.mem_singleton] at he;subst he
   exact h.live.mem_iff.2 (mem_addFs hb (.inl (List.mem_map.2 ⟨x,hx,rfl⟩)))
 ·refine⟨Lv,?_,fun e he=>h.live.mem_iff.2 (sub_addFs (hs e he))⟩
  rw[h.size]
  exact hf.keep fun y ⟨e,he,h2⟩=>h.keep y ⟨e,hs e he,h2⟩
theorem JobW.big {p:Jp} {J:Jb} {held:List (Fl×List T5)} {W:Wk} {cd ca cs:Chunk} (h:JobW p J held W) (hW:Wc p.bd p.ba p.bs W cd ca cs) (he:J.e=0) {m:Nat} (hr:Fits p J m):m≤big W.σ.free:=by
 have htk:=h.tk
 rcases hr with hr|hr
 rotate_left
 ·omega
 obtain⟨hp,_⟩:=h.ok he
 obtain⟨_,_,_,_,_,hfk,_⟩:=hW.sp
 refine big_room hW.live hfk ?_
 have h1:=h.live.length_eq
 have h2:=length_addFs (held.map (·.1)) p.L0
 have h3:total W.live=_:=(total_perm h.live).trans (total_addFs _ _)
 have h4:=hp.length_eq
 have h5:(held.map (·.1)).map (·.blocks)=held.map (·.1.blocks):=by simp
 have h6:=(hp.map (·.1.blocks)).sum_nat
 rw[List.length_map] at h2
 rw[h3,h5,h6,h.n]
 unfold roomy at hr
 have h7:m*(W.live.length+1)≤m*(J.G.length+p.L0.length+1):=Nat.mul_le_mul_left _ (by omega)
 omega
theorem JobW.used {p:Jp} {J:Jb} {held:List (Fl×List T5)} {W:Wk} {cd ca cs:Chunk} (hp:p.Ok) (h:JobW p J held W) (hW:Wc p.bd p.ba p.bs W cd ca cs):8*W.δ.size≤W.α.room-W.α.used:=by
 have h1:=hW.ar.num.2.2.2
 rw[(h.gs.map (·.n)).sum_nat] at h1
 have:=hp.left
 rw[h.size,h.room];omega
structure Stepped (p:Jp) (W W':Wk) (A T:Nat) (er:Option Nat) (ts:List T5) (f:Fl) (e:Int):Prop where
 gs:W'.α.gs.Perm W.α.gs
 room:W'.α.room=W.α.room
 size:W'.δ.size=W.δ.size
 n:W'.σ.n=W.σ.n
 acts:W'.δ.acts≤W.δ.acts+A
 big:big W.σ.free≤big W'.σ.free+T
 fault:W.δ.fault= -1→W'.δ.fault= -1
 keep:Keep W.live W W'
 res:(e=0∧er=none∧W'.live.Perm (addF f W.live)∧FileOk W'.δ.disk W.δ.size [f.ext] f ts)∨(e≠0∧f=⟨0,0,0,0⟩∧W'.live.Perm W.live∧((e=6∧W.δ.fault≠-1)∨∃m:Nat,er=some m∧e=(m:Int)))
theorem JobW.step {p:Jp} {J:Jb} {held:List (Fl×List T5)} {W W':Wk} (h:JobW p J held W) (he:J.e=0) {A T:Nat} {er:Option Nat} {ts:List T5} {f:Fl} {e:Int} (hs:Stepped p W W' A T er ts f e) (hl:held.length<100000):
  JobW p ⟨e,J.er.or er,(f,ts)::J.G,J.acts+A,J.took+T⟩ (if e=0 then held++[(f,ts)] else held) W':=by
 have hG:=h.ok he
 have htk:p.b0≤Go.Spc.big W'.σ.free+(J.took+T):=by have:=h.tk;have:=hs.big;omega
 have hkeep:∀x∈held,FileOk W'.δ.disk p.size [x.1.ext] x.1 x.2:=by
  intro x hx
  obtain⟨Lv,h1,h2⟩:=h.file (.inl hx)
  have h3:=h1.keep (d':=W'.δ.disk) fun y ⟨e,he,h4⟩=>hs.keep y ⟨e,h2 e he,h4⟩
  rw[h.size] at h3
  exact{h3 with live:=fun _=>List.mem_singleton.2 rfl}
 have hk0:∀x,inF p.L0 x→W'.δ.disk x=p.D0 x:=fun x hx=>by
  rw[hs.keep x,h.keep x hx]
  obtain⟨e,he,h2⟩:=hx
  exact⟨e,h.live.mem_iff.2 (sub_addFs he),h2⟩
 rcases hs.res with⟨rfl,r1,r2,r3⟩|⟨r0,rfl,r2,r3⟩
 ·refine⟨hs.gs.trans h.gs,hs.room.trans h.room,hs.size.trans h.size,hs.n.trans h.n,?_,?_,?_,hk0,fun hf=>hs.fault (h.flt hf),Nat.le_trans hs.acts (Nat.add_le_add_right h.acts _),htk,fun _=>⟨?_,?_⟩,fun h0=>absurd rfl h0⟩
  ·simp only[if_true,List.map_append,List.map_cons,List.map_nil]
   rw[addFs_app]
   exact r2.trans (addF_perm h.live)
  ·simp only[if_true,List.mem_append,List.mem_singleton]
   rintro x (hx|rfl)
   ·exact hkeep x hx
   ·rw[←h.size];exact r3
  ·simp only[if_true,List.length_append,List.length_cons,List.length_nil];omega
  ·simp only[if_true]
   exact List.perm_append_comm.trans (hG.1.cons _)
  ·simp only[hG.2,r1];rfl
 ·simp only[if_neg r0]
  refine⟨hs.gs.trans h.gs,hs.room.trans h.room,hs.size.trans h.size,hs.n.trans h.n,r2.trans h.live,hkeep,h.len,hk0,fun hf=>hs.fault (h.flt hf),Nat.le_trans hs.acts (Nat.add_le_add_right h.acts _),htk,fun h0=>absurd h0 r0,fun _=> ?_⟩
  rcases r3 with⟨a,b⟩|⟨m,a,b⟩
  ·refine .inl ⟨a,?_⟩
   by_cases hf:p.fl
   ·exact hf
   ·exact absurd (h.flt hf) b
  ·exact .inr ⟨m,by simp only[hG.2,a];rfl,b⟩
theorem JobW.idle {p:Jp} {J:Jb} {held:List (Fl×List T5)} {W:Wk} (h:JobW p J held W) (he:J.e≠0) (er:Option Nat) (G:List (Fl×List T5)) (A T:Nat):JobW p ⟨J.e,J.er.or er,G,J.acts+A,J.took+T⟩ held W:=
 {h with
  acts:=Nat.le_trans h.acts (Nat.le_add_right _ _)
  tk:=Nat.le_trans h.tk (by dsimp only;omega)
  ok:=fun h0=>absurd h0 he
  why:=fun _=>(h.why he).imp id fun ⟨m,a,b⟩=>⟨m,by simp only[a];rfl,b⟩}
theorem nb_le {s k n:Nat} (hs:8≤s) (h1:1≤k) (h2:k≤5):nblocks s k n≤n:=nblocks_le (holds_pos hs h1 h2)
theorem JMake (p:Jp) (hp:p.Ok) (J:Jb) (C:Chunk) (hJ:JobC p J C) {K:Type} (M:Maker K) (k0:K) (width bound κ A T:Nat) (hwd:1≤width) (hwd2:width≤5) (hbn:bound≤100000000)
  (mk:Nat) (hcal:Callable Tryz.prog mk) (fs us:List Value) (ok:K→T5→Prop) (hM:MakeU M width ok mk fs us) (hκ:∀k t,ok k t→(M.outs k t).length≤κ) (hκb:κ≤10000)
  (l:List (Fl×List T5)) (hl:∀x∈l,(x∈J.G∨In0 p x)) (hcn:∀x∈l,x.1.count≤1000000) (pa:Option Addr) (cap:Nat) (cf:Chunk) (hV:Vec 27 4 pa l.length cap (fcells (l.map (·.1))) cf)
  (hok:M.oks ok k0 (cat l)) (hbd:J.e=0→(M.all k0 (cat l)).length≤bound) (hT:nblocks p.size width bound≤T) (hroom:J.e=0→Fits p J T) (hA:actsOf κ l+1≤A) (hac:J.acts+A≤10000000000) (hGl:J.G.length≤1000):
  Ct Tryz.prog 45 [pv p.bj,.int .i64 (width:Int),.int .i64 (bound:Int),.func (.func mk) fs.toArray us.toArray,.slice pa l.length cap] (C::cf::M.C k0) fun v H'=>
   ∃f C' e' k',v=flv f∧H'=C'::cf::M.C k'∧JobC p ⟨e',J.er.or (M.bad k0 (cat l)),(f,M.all k0 (cat l))::J.G,J.acts+A,J.took+T⟩ C'∧
    (e'=0→J.e=0∧k'=M.st k0 (cat l)∧f.width=width∧f.count=(M.all k0 (cat l)).length∧M.bad k0 (cat l)=none)∧f.count≤bound∧f.blocks≤nblocks p.size width bound:=by
 obtain⟨W,cd,ca,cs,held,ph,capj,ch,rfl,hW,hVj,hJW⟩:=hJ
 by_cases he:J.e=0
 ·have hus:=hJW.used hp hW
  have hT':nblocks W.δ.size width bound≤T:=by rw[hJW.size];exact hT
  have hG:=hJW.ok he
  have hEach:=Each_ct p.bw p.bd p.ba p.bs M k0 W cd ca cs hW width bound κ hwd hwd2 hbn mk hcal fs us ok hM hκ hκb l
   (fun x hx=>⟨hJW.file ((hl x hx).imp (fun h=>hG.1.mem_iff.2 h) id),hcn x hx⟩) pa cap cf hV hok (hbd he) (by omega) (by have:=hJW.acts;omega)
  have hE2:Ct Tryz.prog 78 [pv p.bw,.int .i64 (width:Int),.int .i64 (bound:Int),.func (.func mk) fs.toArray us.toArray,.slice pa l.length cap] [[wrow p.bw p.bd p.ba p.bs,cd,ca,cs,cf,(M.C k0).flatten].flatten]
    fun v H'=>∃f e Hc',v= .tuple #[flv f,.int .i64 e]∧H'=[Hc']∧∃cd' ca' cs' W' k',Hc'=[wrow p.bw p.bd p.ba p.bs,cd',ca',cs',cf,(M.C k').flatten].flatten∧Wc p.bd p.ba p.bs W' cd' ca' cs'∧Stepped p W W' A T (M.bad k0 (cat l)) (M.all k0 (cat l)) f e∧
     (e=0→k'=M.st k0 (cat l)∧f.width=width∧f.count=(M.all k0 (cat l)).length):=by
   refine Ct.convP hEach (by simp) ?_
   rintro v H' ⟨cd',ca',cs',W',k',rfl,hW',hE',hg',hK',hc⟩
   have hStep:∀f e,_→Stepped p W W' A T (M.bad k0 (cat l)) (M.all k0 (cat l)) f e:=fun f e hr=>⟨hg',hE'.room,hE'.size,hE'.n,by have:=hE'.acts.2;omega,by have:=hE'.big;omega,hE'.fault,hK',hr⟩
   rcases hc with⟨f,rfl,h1,h2,h3,h4,h5,h6⟩|⟨e,rfl,h1,h2,h3⟩
   ·exact⟨[[wrow p.bw p.bd p.ba p.bs,cd',ca',cs',cf,(M.C k').flatten].flatten],⟨f,0,_,rfl,rfl,cd',ca',cs',W',k',rfl,hW',hStep f 0 (.inl ⟨rfl,h1,h3,h6⟩),fun _=>⟨h2,h4,h5⟩⟩,by simp⟩
   ·refine⟨[[wrow p.bw p.bd p.ba p.bs,cd',ca',cs',cf,(M.C k').flatten].flatten],⟨⟨0,0,0,0⟩,e,_,rfl,rfl,cd',ca',cs',W',k',rfl,hW',hStep _ e (.inr ⟨h1,rfl,h2,?_⟩),fun h0=>absurd h0 h1⟩,by simp⟩
    rcases h3 with h3|⟨_,h3⟩|⟨m,h3,h4⟩
    ·exact .inl h3
    ·have:=hJW.big hW he (hroom he);omega
    ·exact .inr ⟨m,h3,h4⟩
  have hM2:=Make_yes p.bj p.bw ph held.length capj _ ch hVj (by have:=hJW.len;omega) _ _ _ _ _ _ hE2
  refine Ct.convP hM2 (by rw[he];unfold jobC;refine permC fun z=> ?_;simp only[List.flatten_cons,List.flatten_nil,List.append_nil,List.count_append];omega) ?_
  rintro v H' ⟨f,e,Hc',rfl,⟨cd',ca',cs',W',k',rfl,hW',hS,hz⟩,hc⟩
  have hbl:f.count≤bound∧f.blocks≤nblocks p.size width bound:=by
   rcases hS.res with⟨r0,r1,r2,r3⟩|⟨r0,rfl,r2,r3⟩
   ·obtain⟨_,h2,h3⟩:=hz r0
    have hb:=hbd he
    refine⟨by omega,?_⟩
    rw[r3.blk,h2,hJW.size]
    exact nblocks_mono (by omega)
   ·exact⟨Nat.zero_le _,Nat.zero_le _⟩
  have hlh:held.length<100000:=by
   have h2:=hG.1.length_eq
   omega
  have hJ':=hJW.step he hS hlh
  rcases hc with⟨rfl,p',cap',ch',rfl,hV'⟩|⟨hne,rfl⟩
  ·have hr:Stepped p W W' A T (M.bad k0 (cat l)) (M.all k0 (cat l)) f 0:=hS
   have hnone:M.bad k0 (cat l)=none:=by
    rcases hS.res with⟨_,r1,_⟩|⟨r0,_⟩
    ·exact r1
    ·exact absurd rfl r0
   refine⟨jobC p 0 cd' ca' cs' p' (held.length+1) cap' ch'::cf::M.C k',⟨f,_,0,k',rfl,rfl,⟨W',cd',ca',cs',held++[(f,M.all k0 (cat l))],p',cap',ch',by simp,hW',?_,by simpa using hJ'⟩,fun _=>⟨he,(hz rfl).1,(hz rfl).2.1,(hz rfl).2.2,hnone⟩,hbl⟩,?_⟩
   ·simpa using hV'
   ·unfold jobC;refine permC fun z=> ?_;simp only[List.flatten_cons,List.flatten_nil,List.append_nil,List.count_append];omega
  ·refine⟨jobC p e cd' ca' cs' ph held.length capj ch::cf::M.C k',⟨f,_,e,k',rfl,rfl,⟨W',cd',ca',cs',held,ph,capj,ch,rfl,hW',hVj,by simpa[hne] using hJ'⟩,fun h0=>absurd h0 hne,hbl⟩,?_⟩
   unfold jobC;refine permC fun z=> ?_;simp only[List.flatten_cons,List.flatten_nil,List.append_nil,List.count_append];omega
 ·have hM2:=Ct.wide (Make_no p.bj p.bw J.e he ph held.length capj (.int .i64 (width:Int)) (.int .i64 (bound:Int)) (.func (.func mk) fs.toArray us.toArray) (.slice pa l.length cap)) ([wrow p.bw p.bd p.ba p.bs,cd,ca,cs,ch]++(cf::M.C k0))
  refine Ct.convP hM2 (by unfold jobC;refine permC fun z=> ?_;simp only[List.flatten_cons,List.flatten_nil,List.append_nil,List.flatten_append,List.count_append];omega) ?_
  rintro v H' ⟨H1,⟨rfl,rfl⟩,rfl⟩
  refine⟨jobC p J.e cd ca cs ph held.length capj ch::cf::M.C k0,⟨⟨0,0,0,0⟩,_,J.e,k0,rfl,rfl,⟨W,cd,ca,cs,held,ph,capj,ch,rfl,hW,hVj,hJW.idle he _ _ _ _⟩,fun h0=>absurd h0 he,Nat.zero_le _,Nat.zero_le _⟩,?_⟩
  unfold jobC;refine permC fun z=> ?_;simp only[List.flatten_cons,List.flatten_nil,List.append_nil,List.flatten_append,List.count_append];omega
end Go.Proofs.YtlnehgklibbjiaaGreat
namespace Go.Proofs.YtlnehgklibbjiaaGreat
open Go.SL Go.Spc Go.Tup Go.Srt
def fl4 (f:Fl):List Value:=[.int .i64 (f.first:Int),.int .i64 (f.blocks:Int),.int .i64 (f.width:Int),.int .i64 (f.count:Int)]
theorem fcells_cons (f:Fl) (fs:List Fl):fcells (f::fs)=fl4 f++fcells fs:=by simp[fcells,fl4]
theorem setL_f:∀(fs:List Fl) (i:Nat) (g:Fl) (rest:List Value),i<fs.length→setL (fcells fs++rest) (i*4) (fl4 g)=fcells (fs.set i g)++rest
 |[],_,_,_,h=>by simp at h
 |f::fs,0,g,rest,_=>by simp[fcells,setL,fl4]
 |f::fs,i+1,g,rest,h=>by
  have ih:=setL_f fs i g rest (by simpa using h)
  rw[List.set_cons_succ,fcells_cons,fcells_cons,List.append_assoc,List.append_assoc,←ih,←setL_skip]
  congr 1
  simp[fl4];omega
theorem JSort_no (bj bw:Nat) (e:Int) (he:e≠0) (p:Option Addr) (n cap:Nat) (f:Fl) (o:T5) (once:Bool):
  CtQ Tryz.prog 48 [pv bj,flv f,tv o,.bool once] [jrow bj bw e p n cap] (flv ⟨0,0,0,0⟩):=by
 have hflv:flv f= .agg #[.int .i64 (f.first:Int),.int .i64 (f.blocks:Int),.int .i64 (f.width:Int),.int .i64 (f.count:Int)]:=rfl
 have hz:flv ⟨0,0,0,0⟩= .agg #[.int .i64 0,.int .i64 0,.int .i64 0,.int .i64 0]:=rfl
 have hov:tv o= .agg #[.int .i64 o.c0,.int .i64 o.c1,.int .i64 o.c2,.int .i64 o.c3,.int .i64 o.c4]:=rfl
 rw[hflv,hz,hov]
 unfold jrow
 refine Ct.intro Tryz.func48 rfl Tryz.ntmps48 (nle rfl) fun w0=> ?_;dsimp only[argSlots,Nat.reduceAdd]
 repeat(first|(refine st ?_;intros)|refine G.draw [] (h:= ?_))
 (refine Dn.post (Hr:=[[(bj,row [pv bw,.int .i64 e,.slice p n cap] 108)]]) Tryz.results48 (hR:= ?_);exact⟨rfl,rfl⟩)
theorem JSort_yes (bj bw:Nat) (p:Option Addr) (cap:Nat) (held:List (Fl×List T5)) (ch:Chunk) (hV:Vec 27 4 p held.length cap (fcells (held.map (·.1))) ch) (hn:held.length≤1000000) (f:Fl) (ts:List T5) (hf:(f,ts)∈held) (o:T5) (once:Bool) (Hc:Chunk) (Q:Fl→Int→Chunk→Prop)
  (hS:Ct Tryz.prog 84 [pv bw,flv f,tv o,.bool once] [Hc] fun v H'=>∃g e Hc',v= .tuple #[flv g,.int .i64 e]∧H'=[Hc']∧Q g e Hc'):
  Ct Tryz.prog 48 [pv bj,flv f,tv o,.bool once] [jrow bj bw 0 p held.length cap,ch,Hc] fun v H'=>∃g e Hc',Q g e Hc'∧
   ((e=0∧v=flv g∧∃i ch' us,held[i]? =some (f,us)∧H'=[jrow bj bw 0 p held.length cap,ch',Hc']∧∀ts',Vec 27 4 p held.length cap (fcells ((held.set i (g,ts')).map (·.1))) ch')∨
    (e≠0∧v=flv ⟨0,0,0,0⟩∧H'=[jrow bj bw e p held.length cap,ch,Hc'])):=by
 have hflv:flv f= .agg #[.int .i64 (f.first:Int),.int .i64 (f.blocks:Int),.int .i64 (f.width:Int),.int .i64 (f.count:Int)]:=rfl
 have hz:flv ⟨0,0,0,0⟩= .agg #[.int .i64 0,.int .i64 0,.int .i64 0,.int .i64 0]:=rfl
 have hov:tv o= .agg #[.int .i64 o.c0,.int .i64 o.c1,.int .i64 o.c2,.int .i64 o.c3,.int .i64 o.c4]:=rfl
 rw[hflv,hov] at hS⊢
 rw[hz]
 unfold jrow
 have hpos:0<held.length:=List.length_pos_of_mem hf
 obtain⟨vb,rest,rfl,rfl,hvl,hmc,hcm⟩:∃b rest,p=some ⟨b,0,none⟩∧ch=[(b,row (fcells (held.map (·.1))++rest) 27)]∧cap*4≤(fcells (held.map (·.1))).length+rest.length∧held.length≤cap∧cap≤maxLen:=by
  rcases hV.2 with⟨_,e,_⟩|hh
  ·omega
  ·exact hh
 have hVl:=hV.1
 refine Ct.intro Tryz.func48 rfl Tryz.ntmps48 (nle rfl) fun w0=> ?_;dsimp only[argSlots,Nat.reduceAdd]
 repeat(first|(refine st ?_;intros)|refine G.draw [] (h:= ?_))
 refine R.call (hct:=hS) (h:= ?_)
 rintro _ _ ⟨g,e,Hc',rfl,rfl,hQ⟩
 try dsimp only[List.cons_append,List.nil_append]
 have hgv:flv g= .agg #[.int .i64 (g.first:Int),.int .i64 (g.blocks:Int),.int .i64 (g.width:Int),.int .i64 (g.count:Int)]:=rfl
 rw[hgv]
 by_cases he:e=0
 ·subst he
  generalize hcells:fcells (held.map (·.1))++rest=cells at*
  have hclen:cap*4≤cells.length:=by rw[←hcells,List.length_append];exact hvl
  repeat(first|(refine st ?_;intros)|refine G.draw [] (h:= ?_))
  rename_i b5 b6 b8 b9
  refine G.loop (X:=Nat) (fun i=>i≤held.length∧∀j x,j<i→held[j]? =some x→x.1≠f)
   (fun i=>[(42,.int .i64 (i:Int)),(41,.int .i64 (held.length:Int)),(40,.slice (some ⟨vb,0,none⟩) held.length cap),(9,pv b9),(8,pv b8),(5,pv b5),(0,pv bj)])
   (fun _=>[[(b9,row [.int .i64 (g.first:Int),.int .i64 (g.blocks:Int),.int .i64 (g.width:Int),.int .i64 (g.count:Int)] 27)],[(b8,row [.int .i64 0,.int .i64 0,.int .i64 0,.int .i64 0] 27)],[(b5,row [.int .i64 (f.first:Int),.int .i64 (f.blocks:Int),.int .i64 (f.width:Int),.int .i64 (f.count:Int)] 27)],
    [(bj,row [pv bw,.int .i64 0,.slice (some ⟨vb,0,none⟩) held.length cap] 108)],[(vb,row cells 27)],Hc']) (fun i=>held.length-i) 0 ⟨Nat.zero_le _,fun j x h=>by omega⟩ (body:= ?_)
  rintro i ⟨hi,hno⟩
  by_cases hlt:i<held.length
  ·have hli:held[i]? =some held[i]:=List.getElem?_eq_getElem hlt
   have hget:=fc_get (rest:=rest) hli
   rw[hcells] at hget
   generalize hx:held[i]=x at*
   obtain⟨⟨x1,x2,x3,x4⟩,us⟩:=x
   obtain⟨f1,f2,f3,f4⟩:=f
   dsimp only at*
   by_cases hxf:x1=f1∧x2=f2∧x3=f3∧x4=f4
   ·obtain⟨rfl,rfl,rfl,rfl⟩:=hxf
    have hset:setL cells (i*4) [.int .i64 (g.first:Int),.int .i64 (g.blocks:Int),.int .i64 (g.width:Int),.int .i64 (g.count:Int)]=fcells ((held.map (·.1)).set i g)++rest:=by
     rw[←hcells];exact setL_f _ i g rest (by simpa using hlt)
    generalize hc2:fcells ((held.map (·.1)).set i g)++rest=cells2 at*
    repeat(first|(refine st ?_;intros)|refine G.draw [] (h:= ?_))
    (refine Dn.post (Hr:=[[(bj,row [pv bw,.int .i64 0,.slice (some ⟨vb,0,none⟩) held.length cap] 108)],[(vb,row cells2 27)],Hc']) Tryz.results48 (hR:= ?_);refine⟨g,0,Hc',hQ,.inl ⟨rfl,rfl,i,_,us,hli,rfl,fun ts'=> ?_⟩⟩)
    rw[List.map_set]
    refine Vec.mk' hc2.symm (by rw[fcells_length];simp) ?_ hmc hcm
    rw[←hset,length_setL];exact hclen
   ·repeat(first|(refine st ?_;intros)|refine G.draw [] (h:= ?_))
    refine Dn.round (i+1) ⟨by omega,fun j y hj hy=> ?_⟩ (by omega)
    by_cases hji:j=i
    ·subst hji
     rw[hli] at hy
     simp only[Option.some.injEq] at hy
     subst hy
     intro h0
     simp only[Fl.mk.injEq] at h0
     exact hxf h0
    ·exact hno j y (by omega) hy
  ·exfalso
   obtain⟨j,hj,he⟩:=List.getElem_of_mem hf
   exact hno j _ (by omega) (List.getElem?_eq_getElem hj) (by rw[he])
 ·repeat(first|(refine st ?_;intros)|refine G.draw [] (h:= ?_))
  (refine Dn.post (Hr:=[[(bj,row [pv bw,.int .i64 e,.slice (some ⟨vb,0,none⟩) held.length cap] 108)],[(vb,row (fcells (held.map (·.1))++rest) 27)],Hc']) Tryz.results48 (hR:= ?_);exact⟨g,e,Hc',hQ,.inr ⟨he,rfl,rfl⟩⟩)
theorem FileOk.in_ {d d':Nat→Option (List Int)} {s:Nat} {f:Fl} {ts:List T5} {live:List Ext} (h:FileOk d s [f.ext] f ts) (hm:f.blocks≠0→f.ext∈live) (hk:∀x,inF live x→d' x=d x):FileOk d' s [f.ext] f ts:=by
 by_cases hb:f.blocks=0
 ·exact{h with onto:=fun j hj=>by omega}
 ·refine h.keep fun x ⟨e,he,h2⟩=>hk x ⟨e,?_,h2⟩
  simp only[List.mem_singleton] at he;subst he
  exact hm hb
theorem set_split {α:Type} {l:List α} {i:Nat} {x:α} (h:l[i]? =some x):∃l1 l2,l=l1++x::l2∧∀y,l.set i y=l1++y::l2:=by
 induction l generalizing i with
 |nil=>simp at h
 |cons a l ih=>
  cases i with
  |zero=>simp only[List.getElem?_cons_zero,Option.some.injEq] at h;subst h;exact⟨[],l,rfl,fun y=>rfl⟩
  |succ i=>
   obtain⟨l1,l2,h1,h2⟩:=ih (i:=i) (by simpa using h)
   exact⟨a::l1,l2,by rw[h1];rfl,fun y=>by rw[List.set_cons_succ,h2];rfl⟩
theorem JobW.uniq {p:Jp} {J:Jb} {held:List (Fl×List T5)} {W:Wk} {cd ca cs:Chunk} (h:JobW p J held W) (hW:Wc p.bd p.ba p.bs W cd ca cs) {f:Fl} {ts us:List T5} {l1 l2:List (Fl×List T5)} (he:held=l1++(f,us)::l2) (hm:(f,ts)∈held):us=ts:=by
 obtain⟨⟨hs1,_⟩,_⟩:=hW.dev.num
 have h1:=h.files _ hm
 have h2:=h.files (f,us) (by rw[he];simp)
 by_cases hb:f.blocks=0
 ·have h3:=h1.blk
  have hh:1≤holds p.size f.width:=by rw[←h.size];exact holds_pos hs1 h1.w1 h1.w2
  dsimp only at h3
  unfold nblocks at h3
  rw[hb] at h3
  have h4:f.count+holds p.size f.width-1<holds p.size f.width:=by
   rcases Nat.div_eq_zero_iff.1 h3.symm with h|h<;>omega
  have h5:f.count=0:=by omega
  have h6:=h1.len;have h7:=h2.len
  dsimp only at h6 h7
  rw[List.length_eq_zero_iff.1 (by omega:ts.length=0),List.length_eq_zero_iff.1 (by omega:us.length=0)]
 ·by_cases hu:us=ts
  ·exact hu
  ·exfalso
   have hm2:(f,ts)∈l1++l2:=by
    rw[he] at hm
    simp only[List.mem_append,List.mem_cons,Prod.mk.injEq] at hm⊢
    rcases hm with hm|⟨_,hm⟩|hm
    ·exact .inl hm
    ·exact absurd hm.symm hu
    ·exact .inr hm
   have h3:W.live.Perm (f.ext::addFs ((l1++l2).map (·.1)) p.L0):=by
    refine h.live.trans ?_
    have h4:(held.map (·.1)).Perm (f::(l1++l2).map (·.1)):=by rw[he];simp
    refine(addFs_perm h4 _).trans ((addFs_cons _ _ _).trans ?_)
    unfold addF;rw[if_neg hb]
   have h5:=hW.live.perm h3
   have h6:f.ext∈addFs ((l1++l2).map (·.1)) p.L0:=addFs_ext (List.mem_map.2 ⟨_,hm2,rfl⟩) hb
   have h7:=List.rel_of_pairwise_cons h5.apart h6
   have h8:f.ext.2=f.blocks:=rfl
   omega
theorem jobC_perm {p:Jp} {e:Int} {cd ca cs:Chunk} {ph:Option Addr} {n cap:Nat} {ch:Chunk}:([jobC p e cd ca cs ph n cap ch]:Hp).flatten.Perm ([jrow p.bj p.bw e ph n cap,ch,[wrow p.bw p.bd p.ba p.bs,cd,ca,cs].flatten]:Hp).flatten:=by
 unfold jobC;refine permC fun z=> ?_;simp only[List.flatten_cons,List.flatten_nil,List.append_nil,List.count_append];omega
theorem JSort (p:Jp) (hp:p.Ok) (J:Jb) (C:Chunk) (hJ:JobC p J C) (f:Fl) (ts:List T5) (G':List (Fl×List T5)) (o:T5) (ho:formed o=true) (once:Bool) (A T:Nat)
  (hG:J.e=0→J.G.Perm ((f,ts)::G')) (hT:J.e=0→sortT f.blocks≤T) (hroom:J.e=0→Fits p J T) (hA:J.e=0→sortA f.blocks≤A) (hac:J.acts+A≤1000000000) (hcn:f.count≤100000):
  Ct Tryz.prog 48 [pv p.bj,flv f,tv o,.bool once] [C] fun v H'=>
   ∃g C' e',v=flv g∧H'=[C']∧JobC p ⟨e',J.er,(g,srt (ltO o) once ts)::G',J.acts+A,J.took+T⟩ C'∧
    (e'=0→J.e=0∧g.width=f.width∧g.count=(srt (ltO o) once ts).length)∧g.count≤f.count∧g.blocks≤f.blocks:=by
 obtain⟨W,cd,ca,cs,held,ph,cap,ch,rfl,hW,hV,hJW⟩:=hJ
 by_cases he:J.e=0
 ·have hus:=hJW.used hp hW
  have hok:=hJW.ok he
  have hmem:(f,ts)∈held:=hok.1.mem_iff.2 ((hG he).mem_iff.2 List.mem_cons_self)
  obtain⟨k1,k2,hk⟩:=List.append_of_mem hmem
  have hlv:W.live.Perm (addF f (addFs ((k1++k2).map (·.1)) p.L0)):=by
   refine hJW.live.trans ((addFs_perm (b:=f::(k1++k2).map (·.1)) ?_ _).trans (addFs_cons _ _ _))
   rw[hk];simp
  have hfo:=hJW.files _ hmem
  rw[←hJW.size] at hfo
  have hS:=Sort_u p.bw p.bd p.ba p.bs W cd ca cs hW f ts _ hfo hlv o ho once (by omega) (by have:=hJW.acts;omega) hcn
  have hS2:Ct Tryz.prog 84 [pv p.bw,flv f,tv o,.bool once] [[wrow p.bw p.bd p.ba p.bs,cd,ca,cs].flatten] fun v H'=>∃g e Hc',v= .tuple #[flv g,.int .i64 e]∧H'=[Hc']∧
    ∃cd' ca' cs' W',Hc'=[wrow p.bw p.bd p.ba p.bs,cd',ca',cs'].flatten∧Wc p.bd p.ba p.bs W' cd' ca' cs'∧Ev W W' (sortA f.blocks) (sortT f.blocks)∧W'.α.gs.Perm W.α.gs∧Keep (addFs ((k1++k2).map (·.1)) p.L0) W W'∧
    ((e=0∧W'.live.Perm (addF g (addFs ((k1++k2).map (·.1)) p.L0))∧g.width=f.width∧g.count≤f.count∧FileOk W'.δ.disk W.δ.size [g.ext] g (srt (ltO o) once ts))∨
     (e=6∧g=⟨0,0,0,0⟩∧W.δ.fault≠-1∧W'.live.Perm W.live∧Keep W.live W W')):=by
   refine Ct.convP hS (by simp) ?_
   rintro v H' ⟨cd',ca',cs',W',rfl,hW',hE',hg',hK',hc⟩
   rcases hc with⟨g,out,rfl,h1,h2,h3,h4,h5,h6⟩|⟨rfl,h1,_⟩|⟨rfl,h1,h2,h3⟩
   ·rw[srt_is (ltO_swo o) h5 h6] at h4
    exact⟨[[wrow p.bw p.bd p.ba p.bs,cd',ca',cs'].flatten],⟨g,0,_,rfl,rfl,cd',ca',cs',W',rfl,hW',hE',hg',hK',.inl ⟨rfl,h1,h2,h3,h4⟩⟩,by simp⟩
   ·have:=hJW.big hW he (hroom he);have:=hT he;omega
   ·exact⟨[[wrow p.bw p.bd p.ba p.bs,cd',ca',cs'].flatten],⟨⟨0,0,0,0⟩,6,_,rfl,rfl,cd',ca',cs',W',rfl,hW',hE',hg',hK',.inr ⟨rfl,rfl,h1,h2,h3⟩⟩,by simp⟩
  have hY:=JSort_yes p.bj p.bw ph cap held ch hV (by have:=hJW.len;omega) f ts hmem o once _ _ hS2
  rw[he]
  refine Ct.convP hY jobC_perm ?_
  rintro v H' ⟨g,e,Hc',⟨cd',ca',cs',W',rfl,hW',hE',hg',hK',hc⟩,hv⟩
  have hacts:W'.δ.acts≤J.acts+A:=by have:=hE'.acts.2;have:=hJW.acts;have:=hA he;omega
  have htk:p.b0≤big W'.σ.free+(J.took+T):=by have:=hE'.big;have:=hJW.tk;have:=hT he;omega
  have hk0:Keep p.L0 W W':=hK'.sub fun e he=>addFs_mem he
  have hkeep0:∀x,inF p.L0 x→W'.δ.disk x=p.D0 x:=fun x hx=>(hk0 x hx).trans (hJW.keep x hx)
  rcases hv with⟨rfl,rfl,i,ch',us,hi,rfl,hV'⟩|⟨hne,rfl,rfl⟩
  ·rcases hc with⟨_,c1,c2,c3,c4⟩|⟨h0,_⟩
   ·obtain⟨l1,l2,e1,e2⟩:=set_split hi
    obtain rfl:=hJW.uniq hW e1 hmem
    have hrest:(k1++k2).Perm (l1++l2):=by
     have h1:(k1++(f,us)::k2).Perm (l1++(f,us)::l2):=by rw[←hk,←e1]
     exact((List.perm_middle.symm.trans h1).trans List.perm_middle).cons_inv
    have hbl:g.blocks≤f.blocks:=by rw[c4.blk,hfo.blk,c2];exact nblocks_mono c3
    have hGp:G'.Perm (l1++l2):=by
     have h1:=(hok.1.trans (hG he))
     rw[e1] at h1
     exact(h1.symm.trans List.perm_middle).cons_inv
    refine⟨[jobC p 0 cd' ca' cs' ph held.length cap ch'],⟨g,_,0,rfl,rfl,⟨W',cd',ca',cs',held.set i (g,srt (ltO o) once us),ph,cap,ch',by rw[List.length_set],hW',by rw[List.length_set];exact hV' _,?_⟩,fun _=>⟨rfl,c2,c4.len.symm⟩,c3,hbl⟩,jobC_perm.symm⟩
    rw[e2]
    refine⟨hg'.trans hJW.gs,hE'.room.trans hJW.room,hE'.size.trans hJW.size,hE'.n.trans hJW.n,?_,?_,?_,hkeep0,fun hf=>hE'.fault (hJW.flt hf),hacts,htk,fun _=>⟨?_,hok.2⟩,fun h0=>absurd rfl h0⟩
    ·refine c1.trans ?_
     have h1:((l1++(g,srt (ltO o) once us)::l2).map (·.1)).Perm (g::(k1++k2).map (·.1)):=by
      refine(List.perm_middle.map _).trans ?_
      exact(hrest.symm.map _).cons _
     exact((addFs_perm h1 _).trans (addFs_cons _ _ _)).symm
    ·intro x hx
     have hx2:x=(g,srt (ltO o) once us)∨x∈l1++l2:=by
      simp only[List.mem_append,List.mem_cons] at hx⊢
      rcases hx with h|h|h
      ·exact .inr (.inl h)
      ·exact .inl h
      ·exact .inr (.inr h)
     rcases hx2 with rfl|hx2
     ·rw[←hJW.size];exact c4
     ·have h1:=hJW.files x (by rw[e1];simp only[List.mem_append,List.mem_cons] at hx2⊢;rcases hx2 with h|h;exact .inl h;exact .inr (.inr h))
      exact h1.in_ (fun hb=>addFs_ext (List.mem_map.2 ⟨x,hrest.mem_iff.2 hx2,rfl⟩) hb) hK'
    ·have:=hJW.len;rw[e1] at this;simpa using this
    ·exact List.perm_middle.trans (hGp.symm.cons _)
   ·omega
  ·rcases hc with⟨h0,_⟩|⟨rfl,rfl,c1,c2,c3⟩
   ·exact absurd h0 hne
   ·refine⟨[jobC p 6 cd' ca' cs' ph held.length cap ch],⟨⟨0,0,0,0⟩,_,6,rfl,rfl,⟨W',cd',ca',cs',held,ph,cap,ch,rfl,hW',hV,?_⟩,fun h0=>absurd h0 (by decide),Nat.zero_le _,Nat.zero_le _⟩,jobC_perm.symm⟩
    refine⟨hg'.trans hJW.gs,hE'.room.trans hJW.room,hE'.size.trans hJW.size,hE'.n.trans hJW.n,c2.trans hJW.live,?_,hJW.len,hkeep0,fun hf=>hE'.fault (hJW.flt hf),hacts,htk,fun h0=>absurd (show(6:Int)=0 from h0) (by decide),fun _=> .inl ⟨rfl,?_⟩⟩
    ·intro x hx
     exact(hJW.files x hx).in_ (fun hb=>hJW.live.mem_iff.2 (addFs_ext (List.mem_map.2 ⟨x,hx,rfl⟩) hb)) c3
    ·by_cases hf:p.fl
     ·exact hf
     ·exact absurd (hJW.flt hf) c1
 ·have hM2:=Ct.wide (JSort_no p.bj p.bw J.e he ph held.length cap f o once) [wrow p.bw p.bd p.ba p.bs,cd,ca,cs,ch]
  refine Ct.convP hM2 (by unfold jobC;refine permC fun z=> ?_;simp only[List.flatten_cons,List.flatten_nil,List.append_nil,List.flatten_append,List.count_append];omega) ?_
  rintro v H' ⟨H1,⟨rfl,rfl⟩,rfl⟩
  refine⟨[jobC p J.e cd ca cs ph held.length cap ch],⟨⟨0,0,0,0⟩,_,J.e,rfl,rfl,⟨W,cd,ca,cs,held,ph,cap,ch,rfl,hW,hV,?_⟩,fun h0=>absurd h0 he,Nat.zero_le _,Nat.zero_le _⟩,?_⟩
  ·have:=hJW.idle he none ((⟨0,0,0,0⟩,srt (ltO o) once ts)::G') A T
   have h2:J.er.or none=J.er:=by cases J.er<;>rfl
   rw[h2] at this
   exact this
  ·unfold jobC;refine permC fun z=> ?_;simp only[List.flatten_cons,List.flatten_nil,List.append_nil,List.flatten_append,List.count_append];omega
def StepPost (p:Jp) (W:Wk) (A T:Nat) (er:Option Nat) (ts:List T5) (R:Fl→Int→Hp→Prop) (jr:Chunk) (v:Value) (H':Hp):Prop:=∃f e cd' ca' cs' W' Hx',v= .tuple #[flv f,.int .i64 e]∧
 H'=jr::wrow p.bw p.bd p.ba p.bs::cd'::ca'::cs'::Hx'∧Wc p.bd p.ba p.bs W' cd' ca' cs'∧Stepped p W W' A T er ts f e∧R f e Hx'
def StepCt (p:Jp) (J:Jb) (mk:Nat) (us:List Value) (Hx:Hp) (A T:Nat) (er:Option Nat) (ts:List T5) (R:Fl→Int→Hp→Prop):Prop:=
 ∀W cd ca cs held ph cap,Wc p.bd p.ba p.bs W cd ca cs→JobW p J held W→
  Ct Tryz.prog mk us (jrow p.bj p.bw 0 ph held.length cap::wrow p.bw p.bd p.ba p.bs::cd::ca::cs::Hx) (StepPost p W A T er ts R (jrow p.bj p.bw 0 ph held.length cap))
theorem JRun (p:Jp) (hp:p.Ok) (J:Jb) (C:Chunk) (hJ:JobC p J C) (mk:Nat) (hcal:Callable Tryz.prog mk) (us:List Value) (Hx:Hp) (A T:Nat) (er:Option Nat) (ts:List T5) (R:Fl→Int→Hp→Prop) (hst:J.e=0→StepCt p J mk us Hx A T er ts R) (hGl:J.G.length≤1000):
  Ct Tryz.prog 57 [pv p.bj,.func (.func mk) #[] us.toArray] (C::Hx) fun v H'=>∃f C' e' Hx',v=flv f∧H'=C'::Hx'∧JobC p ⟨e',J.er.or er,(f,ts)::J.G,J.acts+A,J.took+T⟩ C'∧
   ((J.e=0∧R f e' Hx')∨(J.e≠0∧e'=J.e∧f=⟨0,0,0,0⟩∧Hx'=Hx)):=by
 obtain⟨W,cd,ca,cs,held,ph,capj,ch,rfl,hW,hVj,hJW⟩:=hJ
 by_cases he:J.e=0
 ·have hG:=hJW.ok he
  have hS:=hst he W cd ca cs held ph capj hW hJW
  have hS2:Ct Tryz.prog mk us [jrow p.bj p.bw 0 ph held.length capj,([wrow p.bw p.bd p.ba p.bs,cd,ca,cs]++Hx).flatten] (StepR (jrow p.bj p.bw 0 ph held.length capj) fun f e Hc'=>∃cd' ca' cs' W' Hx',Hc'=([wrow p.bw p.bd p.ba p.bs,cd',ca',cs']++Hx').flatten∧
    Wc p.bd p.ba p.bs W' cd' ca' cs'∧Stepped p W W' A T er ts f e∧R f e Hx'):=by
   refine Ct.convP hS (by simp) ?_
   rintro v H' ⟨f,e,cd',ca',cs',W',Hx',rfl,rfl,hW',hSt,hR⟩
   exact⟨[jrow p.bj p.bw 0 ph held.length capj,([wrow p.bw p.bd p.ba p.bs,cd',ca',cs']++Hx').flatten],⟨f,e,_,rfl,rfl,cd',ca',cs',W',Hx',rfl,hW',hSt,hR⟩,by simp⟩
  have hM2:=Run_yes p.bj p.bw ph held.length capj _ ch hVj (by have:=hJW.len;omega) mk hcal us _ _ hS2
  refine Ct.convP hM2 (by rw[he];unfold jobC;refine permC fun z=> ?_;simp only[List.flatten_cons,List.flatten_nil,List.append_nil,List.flatten_append,List.count_append];omega) ?_
  rintro v H' ⟨f,e,Hc',rfl,⟨cd',ca',cs',W',Hx',rfl,hW',hSt,hR⟩,hc⟩
  have hlh:held.length<100000:=by have h2:=hG.1.length_eq;omega
  have hJ':=hJW.step he hSt hlh
  rcases hc with⟨rfl,p',cap',ch',rfl,hV'⟩|⟨hne,rfl⟩
  ·refine⟨jobC p 0 cd' ca' cs' p' (held.length+1) cap' ch'::Hx',⟨f,_,0,Hx',rfl,rfl,⟨W',cd',ca',cs',held++[(f,ts)],p',cap',ch',by simp,hW',?_,by simpa using hJ'⟩,.inl ⟨he,hR⟩⟩,?_⟩
   ·simpa using hV'
   ·unfold jobC;refine permC fun z=> ?_;simp only[List.flatten_cons,List.flatten_nil,List.append_nil,List.flatten_append,List.count_append];omega
  ·refine⟨jobC p e cd' ca' cs' ph held.length capj ch::Hx',⟨f,_,e,Hx',rfl,rfl,⟨W',cd',ca',cs',held,ph,capj,ch,rfl,hW',hVj,by simpa[hne] using hJ'⟩,.inl ⟨he,hR⟩⟩,?_⟩
   unfold jobC;refine permC fun z=> ?_;simp only[List.flatten_cons,List.flatten_nil,List.append_nil,List.flatten_append,List.count_append];omega
 ·have hM2:=Ct.wide (Run_no p.bj p.bw J.e he ph held.length capj (.func (.func mk) #[] us.toArray)) ([wrow p.bw p.bd p.ba p.bs,cd,ca,cs,ch]++Hx)
  refine Ct.convP hM2 (by unfold jobC;refine permC fun z=> ?_;simp only[List.flatten_cons,List.flatten_nil,List.append_nil,List.flatten_append,List.count_append];omega) ?_
  rintro v H' ⟨H1,⟨rfl,rfl⟩,rfl⟩
  refine⟨jobC p J.e cd ca cs ph held.length capj ch::Hx,⟨⟨0,0,0,0⟩,_,J.e,Hx,rfl,rfl,⟨W,cd,ca,cs,held,ph,capj,ch,rfl,hW,hVj,hJW.idle he _ _ _ _⟩,.inr ⟨he,rfl,rfl,rfl⟩⟩,?_⟩
  unfold jobC;refine permC fun z=> ?_;simp only[List.flatten_cons,List.flatten_nil,List.append_nil,List.flatten_append,List.count_append];omega
structure DoneW (p:Jp) (J:Jb) (rs:List Fl) (W:Wk):Prop where
 gs:W.α.gs.Perm p.gs
 room:W.α.room=p.room
 size:W.δ.size=p.size
 n:W.σ.n=p.n
 keep:∀x,inF p.L0 x→W.δ.disk x=p.D0 x
 flt:¬p.fl→W.δ.fault= -1
 acts:W.δ.acts≤J.acts
 tk:p.b0≤big W.σ.free+J.took
 good:J.e=0→∀G1 G2,J.G.Perm (G1++G2)→rs=G1.map (·.1)→W.live.Perm (addFs rs p.L0)∧(∀x∈G1,FileOk W.δ.disk p.size [x.1.ext] x.1 x.2)∧J.er=none
 bad:J.e≠0→W.live.Perm p.L0∧((J.e=6∧p.fl)∨∃m:Nat,J.er=some m∧J.e=(m:Int))
structure ResX where
 k:Nat
 cs:Chunk
 W:Wk
def staysB (e:Int) (rs:List Fl) (x:Fl×List T5):Bool:=decide (e=0)&&rs.contains x.1
theorem addFs_zero:∀(fs:List Fl) (L:List Ext),(∀f∈fs,f.blocks=0)→addFs fs L=L
 |[],_,_=>rfl
 |f::fs,L,h=>by
  have h1:addFs (f::fs) L=addFs fs (addF f L):=rfl
  rw[h1]
  have h2:addF f L=L:=by unfold addF;rw[if_pos (h f List.mem_cons_self)]
  rw[h2]
  exact addFs_zero fs L fun g hg=>h g (List.mem_cons_of_mem _ hg)
theorem addFs_two (a b:List Fl) (L:List Ext):addFs (a++b) L=addFs b (addFs a L):=by simp[addFs]
theorem take_filter {α:Type} {q:α→Bool} {l:List α} {k:Nat} {x:α} (h:l[k]? =some x):(l.take (k+1)).filter q=(l.take k).filter q++(if q x then[x] else[]):=by
 rw[List.take_add_one,h,List.filter_append]
 simp only[Option.toList_some,List.filter_cons,List.filter_nil]
theorem JResult_mem (p:Jp) (hp:p.Ok) (J:Jb) (held:List (Fl×List T5)) (W0:Wk) (cd ca cs0:Chunk) (hW0:Wc p.bd p.ba p.bs W0 cd ca cs0) (hJ0:JobW p J held W0) (ph:Option Addr) (hcap:Nat) (ch:Chunk) (hV:Vec 27 4 ph held.length hcap (fcells (held.map (·.1))) ch)
  (rs:List Fl) (hfl:rs.length≤1000) (pa:Option Addr) (cap:Nat) (cf:Chunk) (hVf:Vec 27 4 pa rs.length cap (fcells rs) cf):
  Ct Tryz.prog 49 [pv p.bj,.slice pa rs.length cap] [jrow p.bj p.bw J.e ph held.length hcap,ch,wrow p.bw p.bd p.ba p.bs,cs0,cf] fun v H'=>
   ∃cs W,v= .int .i64 J.e∧H'=[wrow p.bw p.bd p.ba p.bs,cs,cf]∧Wc p.bd p.ba p.bs W cd ca cs∧DoneW p J rs W:=by
 unfold jrow
 have hlen:=hJ0.len
 refine Ct.intro Tryz.func49 rfl Tryz.ntmps49 (nle rfl) fun w0=> ?_;dsimp only[argSlots,Nat.reduceAdd]
 repeat(first|(refine st ?_;intros)|refine G.draw [] (h:= ?_))
 refine G.loop (X:=ResX) (fun x=>x.k≤held.length∧Wc p.bd p.ba p.bs x.W cd ca x.cs∧x.W.δ=W0.δ∧x.W.α=W0.α∧x.W.σ.n=W0.σ.n∧big W0.σ.free≤big x.W.σ.free∧x.W.live.Perm (addFs (((held.take x.k).filter (staysB J.e rs)++held.drop x.k).map (·.1)) p.L0))
  (fun x=>[(15,.int .i64 (x.k:Int)),(14,.int .i64 (held.length:Int)),(13,.slice ph held.length hcap),(1,.slice pa rs.length cap),(0,pv p.bj)])
  (fun x=>[[(p.bj,row [pv p.bw,.int .i64 J.e,.slice ph held.length hcap] 108)],ch,wrow p.bw p.bd p.ba p.bs,x.cs,cf]) (fun x=>held.length-x.k) ⟨0,cs0,W0⟩
  ⟨Nat.zero_le _,hW0,rfl,rfl,rfl,Nat.le_refl _,by simpa using hJ0.live⟩ (body:= ?_)
 rintro⟨k,cs,W⟩ ⟨hk,hW,hδ,hα,hσ,hbg,hl⟩
 dsimp only at hk hW hδ hα hσ hbg hl⊢
 by_cases hlt:k<held.length
 ·obtain⟨vb,rest,rfl,rfl,hvl,hmc,hcm⟩:∃b rest,ph=some ⟨b,0,none⟩∧ch=[(b,row (fcells (held.map (·.1))++rest) 27)]∧hcap*4≤(fcells (held.map (·.1))).length+rest.length∧held.length≤hcap∧hcap≤maxLen:=by
   rcases hV.2 with⟨_,e,_⟩|hh
   ·omega
   ·exact hh
  have hlk:held[k]? =some held[k]:=List.getElem?_eq_getElem hlt
  have hget:=fc_get (rest:=rest) hlk
  have htf:=take_filter (q:=staysB J.e rs) hlk
  have hdr:=List.drop_eq_getElem_cons hlt
  generalize hc2:fcells (held.map (·.1))++rest=cells at*
  generalize hx:held[k]=x at*
  obtain⟨⟨x1,x2,x3,x4⟩,us⟩:=x
  dsimp only at hget
  have hfree:staysB J.e rs (⟨x1,x2,x3,x4⟩,us)=false→W.live.Perm (addF ⟨x1,x2,x3,x4⟩ (addFs (((held.take (k+1)).filter (staysB J.e rs)++held.drop (k+1)).map (·.1)) p.L0)):=by
   intro hs
   rw[hs] at htf
   simp only[Bool.false_eq_true,if_false,List.append_nil] at htf
   rw[hdr] at hl
   refine hl.trans ((addFs_perm (b:=⟨x1,x2,x3,x4⟩::(((held.take (k+1)).filter (staysB J.e rs)++held.drop (k+1)).map (·.1))) ?_ _).trans (addFs_cons _ _ _))
   rw[htf]
   simp only[List.map_append,List.map_cons]
   exact List.perm_middle
  have hstay:staysB J.e rs (⟨x1,x2,x3,x4⟩,us)=true→W.live.Perm (addFs (((held.take (k+1)).filter (staysB J.e rs)++held.drop (k+1)).map (·.1)) p.L0):=by
   intro hs
   rw[hs] at htf
   simp only[if_true] at htf
   rw[hdr] at hl
   rw[htf,List.append_assoc,List.singleton_append]
   exact hl
  have hF:=fun Lv hl=>Free_u p.bw p.bd p.ba p.bs W cd ca cs hW ⟨x1,x2,x3,x4⟩ Lv hl
  have hflv:flv ⟨x1,x2,x3,x4⟩= .agg #[.int .i64 (x1:Int),.int .i64 (x2:Int),.int .i64 (x3:Int),.int .i64 (x4:Int)]:=rfl
  rw[hflv] at hF
  repeat(first|(refine st ?_;intros)|refine G.draw [] (h:= ?_))
  rename_i b6
  refine G.loop (X:=Nat×Bool) (fun y=>y.1≤rs.length∧y.2=dec ((⟨x1,x2,x3,x4⟩:Fl)∈rs.take y.1))
   (fun y=>[(21,.int .i64 (y.1:Int)),(20,.int .i64 (rs.length:Int)),(19,.slice pa rs.length cap),(7,.bool y.2),(6,pv b6),(15,.int .i64 (k:Int)),(14,.int .i64 (held.length:Int)),(13,.slice (some ⟨vb,0,none⟩) held.length hcap),(1,.slice pa rs.length cap),(0,pv p.bj)])
   (fun _=>[[(b6,row [.int .i64 (x1:Int),.int .i64 (x2:Int),.int .i64 (x3:Int),.int .i64 (x4:Int)] 27)],[(p.bj,row [pv p.bw,.int .i64 J.e,.slice (some ⟨vb,0,none⟩) held.length hcap] 108)],[(vb,row cells 27)],wrow p.bw p.bd p.ba p.bs,cs,cf]) (fun y=>rs.length-y.1) (0,false) ⟨Nat.zero_le _,(dec_false (by simp)).symm⟩ (body:= ?_)
  rintro⟨m,b⟩ ⟨hm,hb⟩
  dsimp only at hm hb⊢
  by_cases hlt2:m<rs.length
  ·obtain⟨fb,frest,rfl,rfl,hfr,hfc,hfm⟩:∃b rest,pa=some ⟨b,0,none⟩∧cf=[(b,row (fcells rs++rest) 27)]∧cap*4≤(fcells rs).length+rest.length∧rs.length≤cap∧cap≤maxLen:=by
    rcases hVf.2 with⟨_,e,_⟩|hh
    ·omega
    ·exact hh
   have hfk:rs[m]? =some rs[m]:=List.getElem?_eq_getElem hlt2
   have hgf:=fc_get (rs:=rs.map fun f=>(f,[])) (rest:=frest) (j:=m) (r:=(rs[m],[])) (by simp[hfk])
   rw[List.map_map] at hgf
   have hid:(rs.map ((fun x:Fl×List T5=>x.1)∘fun f=>(f,[])))=rs:=by simp[Function.comp_def]
   rw[hid] at hgf
   have hb1:(⟨x1,x2,x3,x4⟩:Fl)∈rs.take (m+1)↔(⟨x1,x2,x3,x4⟩:Fl)∈rs.take m∨(⟨x1,x2,x3,x4⟩:Fl)=rs[m]:=by
    rw[List.take_add_one,hfk,List.mem_append];simp
   generalize hf:rs[m]=f at*
   generalize hfcells:fcells rs++frest=fcs at*
   obtain⟨f1,f2,f3,f4⟩:=f
   dsimp only at hgf
   cases b with
   |true=>
    repeat(first|(refine st ?_;intros)|refine G.draw [] (h:= ?_))
    refine Dn.round (m+1,true) ⟨hlt2,(dec_true (hb1.2 (.inl (dec_iff.1 hb.symm)))).symm⟩ (by dsimp only;omega)
   |false=>
    have hnm:¬(⟨x1,x2,x3,x4⟩:Fl)∈rs.take m:=fun h=>by rw[dec_true h] at hb;cases hb
    repeat(first|(refine st ?_;intros)|refine G.draw [] (h:= ?_))
    refine Dn.round (m+1,dec ((f1:Int)=(x1:Int)∧(f2:Int)=(x2:Int)∧(f3:Int)=(x3:Int)∧(f4:Int)=(x4:Int))) ⟨hlt2,dec_congr ?_⟩ (by dsimp only;omega)
    rw[hb1,Fl.mk.injEq]
    constructor
    ·intro h;exact .inr (by omega)
    ·rintro(h|h)
     ·exact absurd h hnm
     ·omega
  ·obtain rfl:m=rs.length:=by omega
   rw[List.take_length] at hb
   have hsb:staysB J.e rs (⟨x1,x2,x3,x4⟩,us)=(decide (J.e=0)&&b):=by
    unfold staysB
    rw[hb,dec_eq]
    congr 1
    rw[Bool.eq_iff_iff];simp
   cases b with
   |true=>
    by_cases he:J.e=0
    ·have hs:=hstay (by rw[hsb,decide_eq_true he];rfl)
     repeat(first|(refine st ?_;intros)|refine G.draw [] (h:= ?_))
     refine Dn.round ⟨k+1,cs,W⟩ ⟨hlt,hW,hδ,hα,hσ,hbg,hs⟩ (by dsimp only;omega)
    ·have hs:=hF _ (LvOf.add (hfree (by rw[hsb,decide_eq_false he];rfl)))
     repeat(first|(refine st ?_;intros)|refine G.draw [] (h:= ?_))
     refine R.call (hct:=hs) (h:= ?_)
     rintro _ _ ⟨cs',W',rfl,rfl,hW',hE',hδ',hα',hl'⟩
     try dsimp only[List.cons_append,List.nil_append]
     repeat(first|(refine st ?_;intros)|refine G.draw [] (h:= ?_))
     refine Dn.round ⟨k+1,cs',W'⟩ ⟨hlt,hW',hδ'.trans hδ,hα'.trans hα,hE'.n.trans hσ,Nat.le_trans hbg hE'.big,by rw[hl']⟩ (by dsimp only;omega)
   |false=>
    have hs:=hF _ (LvOf.add (hfree (by rw[hsb,Bool.and_false])))
    repeat(first|(refine st ?_;intros)|refine G.draw [] (h:= ?_))
    refine R.call (hct:=hs) (h:= ?_)
    rintro _ _ ⟨cs',W',rfl,rfl,hW',hE',hδ',hα',hl'⟩
    try dsimp only[List.cons_append,List.nil_append]
    repeat(first|(refine st ?_;intros)|refine G.draw [] (h:= ?_))
    refine Dn.round ⟨k+1,cs',W'⟩ ⟨hlt,hW',hδ'.trans hδ,hα'.trans hα,hE'.n.trans hσ,Nat.le_trans hbg hE'.big,by rw[hl']⟩ (by dsimp only;omega)
 ·obtain rfl:k=held.length:=by omega
  rw[List.take_length,List.drop_length,List.append_nil] at hl
  repeat(first|(refine st ?_;intros)|refine G.draw [] (h:= ?_))
  (refine Dn.post (Hr:=[wrow p.bw p.bd p.ba p.bs,cs,cf]) Tryz.results49 (hR:= ?_);refine⟨cs,W,rfl,rfl,hW,?_⟩)
  refine⟨by rw[hα];exact hJ0.gs,by rw[hα];exact hJ0.room,by rw[hδ];exact hJ0.size,hσ.trans hJ0.n,by rw[hδ];exact hJ0.keep,by rw[hδ];exact hJ0.flt,by rw[hδ];exact hJ0.acts,Nat.le_trans hJ0.tk (Nat.add_le_add_right hbg _),?_,?_⟩
  ·rintro e0 G1 G2 hG rfl
   obtain⟨g1,g2⟩:=hJ0.ok e0
   have hp2:=g1.trans hG
   refine⟨?_,fun x hx=>by rw[hδ];exact hJ0.files x (hp2.mem_iff.2 (List.mem_append_left _ hx)),g2⟩
   refine hl.trans ((addFs_perm ((hp2.filter _).map _) _).trans ?_)
   have h1:G1.filter (staysB J.e (G1.map (·.1)))=G1:=List.filter_eq_self.2 fun x hx=>by
    unfold staysB
    rw[decide_eq_true e0,Bool.true_and]
    simp only[List.contains_iff_mem]
    exact List.mem_map.2 ⟨x,hx,rfl⟩
   rw[List.filter_append,h1,List.map_append,addFs_two,addFs_zero]
   intro f hf
   obtain⟨y,hy,rfl⟩:=List.mem_map.1 hf
   obtain⟨hy1,hy2⟩:=List.mem_filter.1 hy
   unfold staysB at hy2
   rw[decide_eq_true e0,Bool.true_and,List.contains_iff_mem] at hy2
   obtain⟨x,hx1,hx2⟩:=List.mem_map.1 hy2
   by_cases hb:y.1.blocks=0
   ·exact hb
   ·exfalso
    obtain⟨a,b,rfl⟩:=List.append_of_mem hy1
    have h3:W0.live.Perm (y.1.ext::addFs ((G1++(a++b)).map (·.1)) p.L0):=by
     refine hJ0.live.trans ((addFs_perm (b:=y.1::(G1++(a++b)).map (·.1)) ?_ _).trans ((addFs_cons _ _ _).trans ?_))
     ·refine(hp2.map _).trans ?_
      rw[←List.append_assoc]
      refine(List.perm_middle.map _).trans ?_
      rw[List.append_assoc];exact .refl _
     ·unfold addF;rw[if_neg hb]
    have h5:=hW0.live.perm h3
    have h6:y.1.ext∈addFs ((G1++(a++b)).map (·.1)) p.L0:=addFs_ext (List.mem_map.2 ⟨x,List.mem_append_left _ hx1,hx2⟩) hb
    have h7:=List.rel_of_pairwise_cons h5.apart h6
    have h8:y.1.ext.2=y.1.blocks:=rfl
    omega
  ·intro e0
   refine⟨?_,hJ0.why e0⟩
   have h1:held.filter (staysB J.e rs)=[]:=List.filter_eq_nil_iff.2 fun x _=>by
    unfold staysB;rw[decide_eq_false e0];simp
   rw[h1] at hl
   exact hl
theorem JResult (p:Jp) (hp:p.Ok) (J:Jb) (C:Chunk) (hJ:JobC p J C) (rs:List Fl) (hfl:rs.length≤1000) (pa:Option Addr) (cap:Nat) (cf:Chunk) (hVf:Vec 27 4 pa rs.length cap (fcells rs) cf):
  Ct Tryz.prog 49 [pv p.bj,.slice pa rs.length cap] [C,cf] fun v H'=>∃cd ca cs W,v= .int .i64 J.e∧H'=[wrow p.bw p.bd p.ba p.bs,cd,ca,cs,cf]∧Wc p.bd p.ba p.bs W cd ca cs∧DoneW p J rs W:=by
 obtain⟨W,cd,ca,cs,held,ph,capj,ch,rfl,hW,hV,hJW⟩:=hJ
 refine Ct.convP (Ct.wide (JResult_mem p hp J held W cd ca cs hW hJW ph capj ch hV rs hfl pa cap cf hVf) [cd,ca]) (by unfold jobC;refine permC fun z=> ?_;simp only[List.flatten_cons,List.flatten_nil,List.append_nil,List.flatten_append,List.count_append];omega) ?_
 rintro v H' ⟨H1,⟨cs',W',rfl,rfl,hW',hD⟩,rfl⟩
 refine⟨[wrow p.bw p.bd p.ba p.bs,cd,ca,cs',cf],⟨cd,ca,cs',W',rfl,rfl,hW',hD⟩,?_⟩
 refine permC fun z=> ?_;simp only[List.flatten_cons,List.flatten_nil,List.append_nil,List.flatten_append,List.count_append];omega
end Go.Proofs.YtlnehgklibbjiaaGreat
