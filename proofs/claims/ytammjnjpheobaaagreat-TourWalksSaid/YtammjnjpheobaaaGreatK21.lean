/-
  Parts of the proof, put together: OverPut, Join, Look, Look2. No condition.
-/
import Derived.Test.YtammjnjpheobaaaGreatK20
set_option linter.unusedVariables false
set_option linter.unusedSimpArgs false
set_option linter.unnecessarySimpa false
set_option maxHeartbeats 4000000
namespace Go.Proofs.YtammjnjpheobaaaGreat
open Go.SL Go.Spc Go.Tup Go.Srt
def WSt (bw bx first nb k bound:Nat) (g:Gr) (base:List Gr) (Lv:List Ext) (W:Wk) (cx cb:Chunk):Prop:=
 (W.α.gs.Perm (g::base)∧LvOf first nb Lv W.live∧∃ps,IsWr bw bx W first nb k bound g ps cx cb)∨(W.α.gs.Perm base∧W.live.Perm Lv∧ClosedWr bx cx)
theorem map_id_t (ts:List T5):ts.map (fun t=>t)=ts:=by simp
theorem putZ_see (W0:Wk) (ps0 ts:List T5) (bw bd ba bs bx first width bound size room:Nat) (g:Gr) (Lv:List Ext) (f:Fl) (hfit:∀t∈ts,okT width t) (hbd:ps0.length+ts.length≤bound) (hh:1≤holds size width):
  SeeCt bw bd ba bs (eachZ (mMap fun t=>t) W0 () ps0 ts bw bx first width bound size 1 g Lv []) size room f ts 74 [pv bx] []:=by
 rintro base W cd ca cs ⟨rk,rps,rcx,rcb,rop⟩ i t hW hg hrm hsz ⟨hop,hwr,hl,hK,hflt,hk,hps,hbad⟩ ht hac
 dsimp only at hop hwr hl hK hk hps hbad
 have hlt:i<ts.length:=(List.getElem?_eq_some_iff.1 ht).1
 have hlen:rps.length+1≤bound:=by
  rw[hps,List.length_append,mMap_all,List.length_map,List.length_take];omega
 subst hop
 simp only[eachZ,if_true,List.singleton_append] at hg
 have hP:=putter bw bd ba bs bx first width bound g base Lv W rps.length 1 (by rw[hsz];exact hh) hlen (by omega)
 rw[hsz] at hP
 have hC:=hP rps ([wrow bw bd ba bs,cd,ca,cs,rcx,rcb].flatten) t ⟨cd,ca,cs,rcx,rcb,W,rfl,hW,hg,hwr,hl,Keep.refl _ _,Nat.le_refl _,by omega,by simpa using Ev.refl W⟩ (hfit t (List.mem_of_getElem? ht)) (by omega)
 refine Ct.convP hC (by simp[eachZ,mMap]) ?_
 rintro v H' ⟨X',rfl,hc⟩
 rcases hc with⟨rfl,cd',ca',cs',cx',cb',W',rfl,hW',hg',hw',hl',hK',h1,h2,hE'⟩|⟨rfl,cd',ca',cs',cx',cb',W',rfl,hW',hg',hl',hx',hK',hE',hf'⟩
 ·refine⟨_,⟨cd',ca',cs',W',⟨(),rps++[t],cx',cb',true⟩,0,rfl,rfl,hW',hE'.weak (by simp[eachZ]) (Nat.le_refl _),hg',fun _=>⟨rfl,hw',hl',hK.trans hK',fun e=>hE'.fault (hflt e),rfl,?_,Maker.bad_none (fun _ _=>rfl) _ _⟩,fun h=>absurd rfl h⟩,by simp[eachZ,mMap]⟩
  show rps++[t]=ps0++(mMap fun t=>t).all () (ts.take (i+1))
  rw[hps,Maker.take_succ ht,Maker.all_app,List.append_assoc];rfl
 ·exact⟨_,⟨cd',ca',cs',W',⟨(),[],cx',cb',false⟩,6,rfl,rfl,hW',hE'.weak (Nat.le_refl _) (Nat.le_refl _),hg',fun h=>by omega,fun _=>⟨hK.trans hK',.inr ⟨rfl,hx',hl'⟩,.inl ⟨rfl,fun e=>hf' (hflt e)⟩⟩⟩,by simp[eachZ,mMap]⟩
theorem OverPut_ct (bw bd ba bs:Nat) (ps0:List T5) (W:Wk) (cd ca cs:Chunk) (h:Wc bd ba bs W cd ca cs) (bx first width bound:Nat) (g:Gr) (base:List Gr) (Lv:List Ext) (cx cb:Chunk) (hg:W.α.gs.Perm (g::base))
  (hw:IsWr bw bx W first (nblocks W.δ.size width bound) width bound g ps0 cx cb) (hl:LvOf first (nblocks W.δ.size width bound) Lv W.live) (f:Fl) (ts:List T5) (LvF:List Ext) (hfo:FileOk W.δ.disk W.δ.size LvF f ts) (hsub:∀e∈LvF,e∈Lv)
  (hfit:∀t∈ts,okT width t) (hbd:ps0.length+ts.length≤bound) (hwd:1≤width) (hwd2:width≤5) (hr:W.δ.size≤W.α.room-W.α.used) (hac:W.δ.acts≤10000000000) (hcn:f.count≤1000000):
  Ct Tryz.prog 90 [pv bw,flv f,.func (.func 74) #[pv bx] #[]] [wrow bw bd ba bs,cd,ca,cs,cx,cb] fun v H'=>
   ∃cd' ca' cs' W' cx' cb' e,v= .int .i64 e∧H'=[wrow bw bd ba bs,cd',ca',cs',cx',cb']∧Wc bd ba bs W' cd' ca' cs'∧Ev W W' (f.blocks+f.count) 0∧Keep Lv W W'∧
    ((e=0∧W'.α.gs.Perm (g::base)∧LvOf first (nblocks W.δ.size width bound) Lv W'.live∧IsWr bw bx W' first (nblocks W.δ.size width bound) width bound g (ps0++ts) cx' cb')∨
     (e=6∧W.δ.fault≠-1∧WSt bw bx first (nblocks W.δ.size width bound) width bound g base Lv W' cx' cb')):=by
 obtain⟨⟨hs1,hs2⟩,_⟩:=h.dev.num
 have hh:=holds_pos hs1 hwd hwd2
 have hnb:=nblocks_le (n:=f.count) (holds_pos hs1 hfo.w1 hfo.w2)
 have hO:=Over_ct bw bd ba bs (eachZ (mMap fun t=>t) W () ps0 ts bw bx first width bound W.δ.size 1 g Lv []) (eachZ_ok _ W () ps0 ts bw bx first width bound W.δ.size 1 g Lv _) f ts Lv 74 inferInstance [pv bx] [] W.δ.size W.α.room
  (putZ_see W ps0 ts bw bd ba bs bx first width bound W.δ.size W.α.room g Lv f hfit hbd hh) W cd ca cs h ⟨(),ps0,cx,cb,true⟩ base hg rfl rfl
  ⟨rfl,hw,hl,Keep.refl _ _,id,rfl,by simp[Maker.all],by simp[Maker.bad]⟩ (fun W' r i hJ=>⟨(hfo.sub hsub).keep (fun x hx=>hJ.2.2.2.1 x hx),fun e he=>hJ.2.2.1.mem he⟩) hr (by show _+_+_*1≤_;omega) hcn
 refine Ct.convP hO (by simp[eachZ,mMap]) ?_
 rintro v H' ⟨cd',ca',cs',W',⟨rk,rps,rcx,rcb,rop⟩,e,rfl,rfl,hW',hE',hg',hJ,hB⟩
 refine⟨[wrow bw bd ba bs,cd',ca',cs',rcx,rcb],⟨cd',ca',cs',W',rcx,rcb,e,rfl,rfl,hW',?_,?_⟩,by simp[eachZ,mMap]⟩
 ·rw[hfo.blk];simpa[eachZ] using hE'
 by_cases he:e=0
 ·obtain⟨h0,h1,h2,h3,_,h5,h6,h7⟩:=hJ he
  dsimp only at h0 h1 h2 h3 h6
  subst h0
  have htk:ts.take f.count=ts:=by rw[←hfo.len,List.take_length]
  rw[htk,mMap_all,map_id_t] at h6
  simp only[eachZ,if_true,List.singleton_append] at hg'
  exact⟨h3,.inl ⟨he,hg',h2,by rw[←h6];exact h1⟩⟩
 ·obtain⟨h1,h2,h3⟩:=hB he
  rcases h3 with⟨rfl,hf⟩|⟨n,h3,_⟩
  ·refine⟨h1,.inr ⟨rfl,hf,?_⟩⟩
   rcases h2 with⟨a,b,c⟩|⟨a,b,c⟩
   ·dsimp only at a;subst a
    simp only[eachZ,if_true,List.singleton_append] at hg'
    exact .inl ⟨hg',b,c⟩
   ·dsimp only at a;subst a
    simp only[eachZ,Bool.false_eq_true,if_false,List.nil_append] at hg'
    exact .inr ⟨hg',c,b⟩
  ·rw[Maker.bad_none (fun _ _=>rfl)] at h3;cases h3
theorem Cd.wide {P:Program} {f:FuncId} {args:List Value} {Hf:Hp} {R:Value→Hp→Prop} (h:Cd P f args Hf R) (F:Hp):Cd P f args (Hf++F) fun v H'=>∃H1,R v H1∧H'=H1++F:=by
 unfold Cd at h⊢
 intro u w hw
 refine(h u w hw.self).mono ?_
 rintro e u' w' ⟨hu,v,H',h3,h4,h5⟩
 exact⟨hu,v,H'++F,h3,⟨H',h4,rfl⟩,hw.framed h5⟩
theorem DropAny (bw bd ba bs:Nat) (W:Wk) (cd ca cs:Chunk) (h:Wc bd ba bs W cd ca cs) (bx first nb k bound:Nat) (g:Gr) (base:List Gr) (Lv:List Ext) (cx cb:Chunk) (hw:WSt bw bx first nb k bound g base Lv W cx cb):
  Cd Tryz.prog 75 [pv bx] [wrow bw bd ba bs,cd,ca,cs,cx,cb] fun v H'=>
   ∃cd' ca' cs' W' cx' cb',H'=[wrow bw bd ba bs,cd',ca',cs',cx',cb']∧Wc bd ba bs W' cd' ca' cs'∧Ev W W' 0 0∧W'.δ=W.δ∧W'.α.gs.Perm base∧W'.live.Perm Lv:=by
 rcases hw with⟨h1,h2,ps,h3⟩|⟨h1,h2,h3⟩
 ·refine Cd.conv (Drop_uB bw bd ba bs W cd ca cs h bx first nb k bound g ps cx cb h3 base h1 Lv h2).2 (.refl _) ?_
  rintro v H' ⟨cd',ca',cs',W',cx',cb',_,rfl,a1,a2,a3,a4,a5,_⟩
  exact⟨_,⟨cd',ca',cs',W',cx',cb',rfl,a1,a2,a3,a4,a5⟩,.refl _⟩
 ·refine Cd.conv (Cd.wide (Dropped_uB bx cx h3).2 [wrow bw bd ba bs,cd,ca,cs,cb]) (permC fun z=>by simp only[List.flatten_cons,List.flatten_nil,List.append_nil,List.flatten_append,List.count_append];omega) ?_
  rintro v H' ⟨H1,⟨_,rfl⟩,rfl⟩
  exact⟨_,⟨cd,ca,cs,W,cx,cb,rfl,h,Ev.refl W,rfl,h1,h2⟩,permC fun z=>by simp only[List.flatten_cons,List.flatten_nil,List.append_nil,List.flatten_append,List.count_append];omega⟩
theorem Put_w (bw bd ba bs:Nat) (W:Wk) (cd ca cs:Chunk) (h:Wc bd ba bs W cd ca cs) (bx first nb k bound:Nat) (g:Gr) (ps:List T5) (cx cb:Chunk) (hw:IsWr bw bx W first nb k bound g ps cx cb) (Gs:List Gr) (hg:W.α.gs.Perm (g::Gs))
  (Lv:List Ext) (hl:LvOf first nb Lv W.live) (hlt:ps.length<bound) (t:T5) (ht:okT k t) (hac:W.δ.acts≤1000000000000) (hh:1≤holds W.δ.size k):
  Ct Tryz.prog 74 [pv bx,tv t] [wrow bw bd ba bs,cd,ca,cs,cx,cb] fun v H'=>
   ∃cd' ca' cs' W' cx' cb' e,v= .int .i64 e∧H'=[wrow bw bd ba bs,cd',ca',cs',cx',cb']∧Wc bd ba bs W' cd' ca' cs'∧Ev W W' 1 0∧Keep Lv W W'∧
    ((e=0∧W'.α.gs.Perm (g::Gs)∧LvOf first nb Lv W'.live∧IsWr bw bx W' first nb k bound g (ps++[t]) cx' cb')∨(e=6∧W.δ.fault≠-1∧WSt bw bx first nb k bound g Gs Lv W' cx' cb')):=by
 refine(Put_u bw bd ba bs W cd ca cs h bx first nb k bound g ps cx cb hw Gs hg Lv hl hlt t ht hac).mono ?_
 rintro v H' ⟨cd',ca',cs',W',cx',cb',rfl,hW',hE',hK',hc⟩
 have hE1:Ev W W' 1 0:=hE'.weak (by
  have h2:(ps.length+1)/holds W.δ.size k≤ps.length/holds W.δ.size k+1:=by
   calc (ps.length+1)/holds W.δ.size k≤(ps.length+holds W.δ.size k)/holds W.δ.size k:=Nat.div_le_div_right (by omega)
    _=ps.length/holds W.δ.size k+1:=Nat.add_div_right _ (by omega)
  omega) (Nat.le_refl _)
 rcases hc with⟨rfl,e1,e2,e3,e4⟩|⟨rfl,e1,e2,e3,e4,e5⟩
 ·exact⟨cd',ca',cs',W',cx',cb',0,rfl,rfl,hW',hE1,hK',.inl ⟨rfl,by rw[e1];exact hg,by rw[e3];exact hl,e4⟩⟩
 ·exact⟨cd',ca',cs',W',cx',cb',6,rfl,rfl,hW',hE1,hK',.inr ⟨rfl,by omega,.inr ⟨e3,e4,e5⟩⟩⟩
theorem Close_w (bw bd ba bs:Nat) (W:Wk) (cd ca cs:Chunk) (h:Wc bd ba bs W cd ca cs) (bx first nb k bound:Nat) (g:Gr) (ps:List T5) (cx cb:Chunk) (hw:IsWr bw bx W first nb k bound g ps cx cb) (Gs:List Gr) (hg:W.α.gs.Perm (g::Gs))
  (Lv:List Ext) (hl:LvOf first nb Lv W.live) (hac:W.δ.acts≤1000000000000) (hh:1≤holds W.δ.size k):
  Ct Tryz.prog 76 [pv bx] [wrow bw bd ba bs,cd,ca,cs,cx,cb] fun v H'=>
   ∃cd' ca' cs' W' cx' cb' f e,v= .tuple #[flv f,.int .i64 e]∧H'=[wrow bw bd ba bs,cd',ca',cs',cx',cb']∧Wc bd ba bs W' cd' ca' cs'∧Ev W W' 1 0∧Keep Lv W W'∧W'.α.gs.Perm Gs∧ClosedWr bx cx'∧
    ((e=0∧W'.live.Perm (addF f Lv)∧f.width=k∧f.count=ps.length∧FileOk W'.δ.disk W.δ.size [f.ext] f ps)∨(e=6∧f=⟨0,0,0,0⟩∧W.δ.fault≠-1∧W'.live.Perm Lv)):=by
 refine(Close_u bw bd ba bs W cd ca cs h bx first nb k bound g ps cx cb hw Gs hg Lv hl hac).mono ?_
 rintro v H' ⟨cd',ca',cs',W',cx',cb',rfl,hW',hE',hK',hg',hx',hc⟩
 have hE1:Ev W W' 1 0:=hE'.weak (by
  unfold nblocks
  have h1:(ps.length+holds W.δ.size k-1)/holds W.δ.size k≤(ps.length+holds W.δ.size k)/holds W.δ.size k:=Nat.div_le_div_right (by omega)
  rw[Nat.add_div_right _ (by omega)] at h1
  omega) (Nat.le_refl _)
 rcases hc with⟨f,rfl,e1,e2,e3,e4⟩|⟨rfl,e1,e2,e3⟩
 ·exact⟨cd',ca',cs',W',cx',cb',f,0,rfl,rfl,hW',hE1,hK',hg',hx',.inl ⟨rfl,by rw[e1];exact .refl _,e2,e3,e4⟩⟩
 ·exact⟨cd',ca',cs',W',cx',cb',⟨0,0,0,0⟩,6,rfl,rfl,hW',hE1,hK',hg',hx',.inr ⟨rfl,rfl,by omega,e3⟩⟩
def RSt (bw bx:Nat) (f:Fl) (ts:List T5) (g:Gr) (base:List Gr) (W:Wk) (cx cb:Chunk):Prop:=
 (W.α.gs.Perm (g::base)∧∃pos,IsRd bw bx W f ts g pos cx cb)∨(W.α.gs.Perm base∧ClosedRd bx cx)
theorem RCloseAny (bw bd ba bs:Nat) (W:Wk) (cd ca cs:Chunk) (h:Wc bd ba bs W cd ca cs) (bx:Nat) (f:Fl) (ts:List T5) (g:Gr) (base:List Gr) (cx cb:Chunk) (hr:RSt bw bx f ts g base W cx cb):
  Cd Tryz.prog 54 [pv bx] [wrow bw bd ba bs,ca,cx] fun v H'=>
   ∃ca' α' cx',H'=[wrow bw bd ba bs,ca',cx']∧Wc bd ba bs {W with α:=α'} cd ca' cs∧Ev W {W with α:=α'} 0 0∧α'.gs.Perm base:=by
 rcases hr with⟨h1,pos,h2⟩|⟨h1,h2⟩
 ·refine Cd.conv (RClose_uB bw bd ba bs W cd ca cs h bx f ts g base h1 pos cx cb h2).2 (.refl _) ?_
  rintro v H' ⟨ca',α',cx',_,rfl,a1,a2,a3,_⟩
  exact⟨_,⟨ca',α',cx',rfl,a1,a2,a3⟩,.refl _⟩
 ·refine Cd.conv (Cd.wide (RClosed_uB bx cx h2).2 [wrow bw bd ba bs,ca]) (permC fun z=>by simp only[List.flatten_cons,List.flatten_nil,List.append_nil,List.flatten_append,List.count_append];omega) ?_
  rintro v H' ⟨H1,⟨_,rfl⟩,rfl⟩
  exact⟨_,⟨ca,W.α,cx,rfl,h,Ev.refl W,h1⟩,permC fun z=>by simp only[List.flatten_cons,List.flatten_nil,List.append_nil,List.flatten_append,List.count_append];omega⟩
structure Mkr (K:Type) where
 own:K→List Gr
 C:K→Chunk
 J:Wk→K→Nat→Prop
 E:Wk→K→Prop
 pot:K→Nat
structure Mkr.Ok {K:Type} (Z:Mkr K) (Lv:List Ext):Prop where
 stay:∀W W' r i,Z.J W r i→W'.δ.size=W.δ.size→Keep Lv W W'→(∀e∈Lv,e∈W'.live)→(W.δ.fault= -1→W'.δ.fault= -1)→Z.J W' r i
 fin:∀W r i,Z.J W r i→Z.E W r
 stayE:∀W W' r,Z.E W r→W'.δ.size=W.δ.size→Z.E W' r
def MkrCt (bw bd ba bs:Nat) {K:Type} (Z:Mkr K) (size room:Nat) (ts:List T5) (out:Nat→T5) (fid:Nat) (fs us:List Value):Prop:=
 ∀(base:List Gr) (W:Wk) (cd ca cs:Chunk) (r:K) (i:Nat) (t:T5),Wc bd ba bs W cd ca cs→W.α.gs.Perm (Z.own r++base)→W.α.room=room→W.δ.size=size→Z.J W r i→ts[i]? =some t→W.δ.acts≤100000000000→
  Ct Tryz.prog fid (fs++[tv t]++us) [wrow bw bd ba bs,cd,ca,cs,Z.C r] fun v H'=>
   ∃cd' ca' W' r' u k e,v= .tuple #[tv u,.bool k,.int .i64 e]∧H'=[wrow bw bd ba bs,cd',ca',cs,Z.C r']∧Wc bd ba bs W' cd' ca' cs∧Ev W W' (Z.pot r'-Z.pot r) 0∧W'.δ.disk=W.δ.disk∧W'.σ=W.σ∧W'.live=W.live∧Z.pot r≤Z.pot r'∧W'.α.gs.Perm (Z.own r'++base)∧
    ((e=0∧k=true∧u=out i∧Z.J W' r' (i+1))∨(e=6∧W.δ.fault≠-1∧Z.E W' r'))
def rangeT (out:Nat→T5) (i:Nat):List T5:=(List.range i).map out
theorem rangeT_len (out:Nat→T5) (i:Nat):(rangeT out i).length=i:=by simp[rangeT]
theorem rangeT_succ (out:Nat→T5) (i:Nat):rangeT out (i+1)=rangeT out i++[out i]:=by simp[rangeT,List.range_succ]
structure EachJX (K:Type) where
 i:Nat
 cd:Chunk
 ca:Chunk
 cs:Chunk
 cx:Chunk
 cb:Chunk
 cy:Chunk
 cc:Chunk
 W:Wk
 r:K
theorem perm_two_up {x y:Gr} {a b:List Gr}:(a++(x::y::b)).Perm (x::y::(a++b)):=List.perm_middle.trans (List.perm_middle.cons _)
theorem each_ct (bw bd ba bs:Nat) {K:Type} (Z:Mkr K) (W:Wk) (cd ca cs:Chunk) (h:Wc bd ba bs W cd ca cs) (hZ:Z.Ok W.live) (f:Fl) (ts:List T5) (LvF:List Ext) (hfo:FileOk W.δ.disk W.δ.size LvF f ts) (hsub:∀e∈LvF,e∈W.live)
  (width:Nat) (hw1:1≤width) (hw5:width≤5) (out:Nat→T5) (hout:∀i,i<f.count→okT width (out i)) (fid:Nat) (hcal:Callable Tryz.prog fid) (fs us:List Value) (hmk:MkrCt bw bd ba bs Z W.δ.size W.α.room ts out fid fs us)
  (r:K) (base:List Gr) (hg:W.α.gs.Perm (Z.own r++base)) (hJ:Z.J W r 0) (P:Nat) (hP:∀W r,Z.E W r→Z.pot r≤P) (hPb:P≤1000000)
  (hr:2*W.δ.size≤W.α.room-W.α.used) (hfit:nblocks W.δ.size width f.count≤big W.σ.free) (hac:W.δ.acts≤1000000000) (hcn:f.count≤1000000):
  Ct Tryz.prog 86 [pv bw,flv f,.int .i64 (width:Int),.func (.func fid) fs.toArray us.toArray] [wrow bw bd ba bs,cd,ca,cs,Z.C r] fun v H'=>
   ∃cd' ca' cs' W' r' f' e,v= .tuple #[flv f',.int .i64 e]∧H'=[wrow bw bd ba bs,cd',ca',cs',Z.C r']∧Wc bd ba bs W' cd' ca' cs'∧Ev W W' (f.blocks+f.count+1+P) (nblocks W.δ.size width f.count)∧Keep W.live W W'∧W'.α.gs.Perm (Z.own r'++base)∧Z.E W' r'∧
    ((e=0∧W'.live.Perm (addF f' W.live)∧f'.width=width∧f'.count=f.count∧FileOk W'.δ.disk W.δ.size [f'.ext] f' (rangeT out f.count))∨(e=6∧f'=⟨0,0,0,0⟩∧W.δ.fault≠-1∧W'.live.Perm W.live)):=by
 obtain⟨⟨hs1,hs2⟩,_⟩:=h.dev.num
 have htl:=hfo.len
 have hk1:=hfo.w1
 have hk5:=hfo.w2
 have hfb:=hfo.blk
 have hp:=holds_pos hs1 hk1 hk5
 have hRd:=Read_u bw bd ba bs W cd ca cs h f ts LvF hfo (by omega)
 have hflv:flv f= .agg #[.int .i64 (f.first:Int),.int .i64 (f.blocks:Int),.int .i64 (f.width:Int),.int .i64 (f.count:Int)]:=rfl
 have hz0:flv ⟨0,0,0,0⟩= .agg #[.int .i64 0,.int .i64 0,.int .i64 0,.int .i64 0]:=rfl
 have hz:tv T5.zero= .agg #[.int .i64 T5.zero.c0,.int .i64 T5.zero.c1,.int .i64 T5.zero.c2,.int .i64 T5.zero.c3,.int .i64 T5.zero.c4]:=rfl
 have hbad:∀(W':Wk) (cd' ca' cs':Chunk) (r':K) (kk:Nat),Wc bd ba bs W' cd' ca' cs'→Ev W W' kk (nblocks W.δ.size width f.count)→kk≤f.blocks+f.count+1+P→Keep W.live W W'→W'.α.gs.Perm (Z.own r'++base)→Z.E W' r'→W.δ.fault≠-1→W'.live.Perm W.live→
   ∃cd'' ca'' cs'' W'' r'' f' e,Value.tuple #[.agg #[.int .i64 0,.int .i64 0,.int .i64 0,.int .i64 0],.int .i64 6]= .tuple #[flv f',.int .i64 e]∧[wrow bw bd ba bs,cd',ca',cs',Z.C r']=[wrow bw bd ba bs,cd'',ca'',cs'',Z.C r'']∧Wc bd ba bs W'' cd'' ca'' cs''∧Ev W W'' (f.blocks+f.count+1+P) (nblocks W.δ.size width f.count)∧Keep W.live W W''∧W''.α.gs.Perm (Z.own r''++base)∧Z.E W'' r''∧
    ((e=0∧W''.live.Perm (addF f' W.live)∧f'.width=width∧f'.count=f.count∧FileOk W''.δ.disk W.δ.size [f'.ext] f' (rangeT out f.count))∨(e=6∧f'=⟨0,0,0,0⟩∧W.δ.fault≠-1∧W''.live.Perm W.live)):=
  fun W' cd' ca' cs' r' kk a1 a2 a3 a4 a5 a6 a7 a8=>⟨cd',ca',cs',W',r',⟨0,0,0,0⟩,6,rfl,rfl,a1,a2.weak a3 (Nat.le_refl _),a4,a5,a6,.inr ⟨rfl,rfl,a7,a8⟩⟩
 rw[hflv] at hRd⊢
 refine Ct.introD Tryz.func86 rfl Tryz.ntmps86 (nle rfl) fun w0=> ?_;dsimp only[argSlots,Nat.reduceAdd]
 repeat(refine st ?_;intros)
 rename_i b5 b8
 refine R.call (hct:=hRd) (h:= ?_)
 rintro _ _ ⟨bx,g,ca1,α1,cx,cb,rfl,rfl,hW1,hE1,hg1,hgn,hr1⟩
 try dsimp only[List.cons_append,List.nil_append]
 have hu1:α1.used=W.α.used+W.δ.size:=by
  have:=hW1.ar.num.2.2.2
  dsimp only at this
  rw[this,(hg1.map (·.n)).sum_nat,h.ar.num.2.2.2];simp[hgn];omega
 have hrm1:α1.room=W.α.room:=hE1.room
 have hWr:=Write_u bw bd ba bs {W with α:=α1} cd ca1 cs hW1 width f.count hw1 hw5 (by omega) (by dsimp only;omega)
 dsimp only at hWr
 repeat(refine st ?_;intros)
 refine R.call (hct:=hWr) (h:= ?_)
 rintro _ _ (⟨_,bx2,first,g2,cd2,ca2,cs2,W2,cy,cc,rfl,rfl,hW2,hE2,e1,e2,e3,e4,e5⟩|⟨hfull,_⟩)
 rotate_left
 ·exact absurd hfit (by omega)
 dsimp only[List.cons_append,List.nil_append]
 have hE12:=hE1.trans hE2
 have hK2:Keep W.live W W2:=fun x _=>by rw[e1]
 have hs2z:W2.δ.size=W.δ.size:=hE12.size
 have hJ2:Z.J W2 r 0:=hZ.stay _ _ _ _ hJ hs2z hK2 (fun e he=>e4.mem he) hE12.fault
 have hg2':W2.α.gs.Perm (g2::g::(Z.own r++base)):=e2.trans ((hg1.trans (hg.cons _)).cons _)
 repeat(refine st ?_;intros)
 refine G.loop (X:=EachJX K) (fun x=>x.i≤f.count∧Wc bd ba bs x.W x.cd x.ca x.cs∧Ev W x.W (nblocks W.δ.size f.width x.i+x.i+(Z.pot x.r-Z.pot r)) (nblocks W.δ.size width f.count)∧Z.pot r≤Z.pot x.r∧x.W.α.gs.Perm (g2::g::(Z.own x.r++base))∧Z.J x.W x.r x.i∧
   IsRd bw bx x.W f ts g x.i x.cx x.cb∧IsWr bw bx2 x.W first (nblocks W.δ.size width f.count) width f.count g2 (rangeT out x.i) x.cy x.cc∧LvOf first (nblocks W.δ.size width f.count) W.live x.W.live∧Keep W.live W x.W)
  (fun _=>[(12,pv bx2),(13,.func (.func 55) #[pv bx] #[]),(3,.func (.func fid) fs.toArray us.toArray),(8,pv b8)])
  (fun x=>[[(b8,row [.int .i64 0,.int .i64 0,.int .i64 0,.int .i64 0] 27)],wrow bw bd ba bs,x.cd,x.ca,x.cs,Z.C x.r,x.cx,x.cb,x.cy,x.cc]) (fun x=>f.count-x.i) ⟨0,cd2,ca2,cs2,cx,cb,cy,cc,W2,r⟩
  ⟨Nat.zero_le _,hW2,hE12.weak (Nat.zero_le _) (by omega),Nat.le_refl _,hg2',hJ2,hr1.move hE2.size,by rw[←hs2z] at e5⊢;exact e5,e4,hK2⟩ (body:= ?_)
 rintro⟨i,cd3,ca3,cs3,cx3,cb3,cy3,cc3,W3,r3⟩ ⟨hi,hW3,hE3,hpo3,hg3,hJ3,hrd3,hwr3,hl3,hK3⟩
 dsimp only at hi hW3 hE3 hpo3 hg3 hJ3 hrd3 hwr3 hl3 hK3⊢
 have hsz3:W3.δ.size=W.δ.size:=hE3.size
 have hac3:=hE3.acts.2
 have hmi:nblocks W.δ.size f.width i≤f.blocks:=by rw[hfb];exact nblocks_mono hi
 have hbn:=nblocks_le (n:=f.count) hp
 have hpr3:=hP W3 r3 (hZ.fin _ _ _ hJ3)
 have hfo3:FileOk W3.δ.disk W3.δ.size LvF f ts:=by rw[hsz3];exact hfo.keep fun x ⟨e,he,h2⟩=>hK3 x ⟨e,hsub e he,h2⟩
 have hsub3:∀e∈LvF,e∈W3.live:=fun e he=>hl3.mem (hsub e he)
 by_cases hlt:i<f.count
 ·have htg:ts[i]? =some ts[i]:=List.getElem?_eq_getElem (by omega)
  have hgn3:W3.α.gs.Perm (g::(g2::(Z.own r3++base))):=hg3.trans (.swap _ _ _)
  have hNx:=Next_u bw bd ba bs W3 cd3 ca3 cs3 hW3 bx f ts LvF hfo3 hsub3 g _ hgn3 i cx3 cb3 hrd3 _ htg (by omega)
  have htv:tv ts[i]= .agg #[.int .i64 (ts[i]).c0,.int .i64 (ts[i]).c1,.int .i64 (ts[i]).c2,.int .i64 (ts[i]).c3,.int .i64 (ts[i]).c4]:=rfl
  rw[htv,hz,hsz3] at hNx
  have hS0:=fun W cd ca cs=>hmk (g2::g::base) W cd ca cs r3 i ts[i]
  generalize ht:ts[i]=t at*
  have htv2:tv t= .agg #[.int .i64 t.c0,.int .i64 t.c1,.int .i64 t.c2,.int .i64 t.c3,.int .i64 t.c4]:=rfl
  have hm1:nblocks W.δ.size f.width (i+1)≤f.blocks:=by rw[hfb];exact nblocks_mono hlt
  have hm2:nblocks W.δ.size f.width i≤nblocks W.δ.size f.width (i+1):=nblocks_mono (by omega)
  repeat(refine st ?_;intros)
  refine R.callV (fs:=[pv bx]) (vs:=[]) (hf:=inferInstance) (hct:=hNx) (h:= ?_)
  rintro _ _ ⟨cd4,ca4,W4,cx4,cb4,rfl,hW4,hE4,hd4,hσ4,hl4,⟨rfl,hα4,hr4⟩|⟨rfl,hf4,hδ4,hg4,hx4⟩⟩<;>dsimp only[List.cons_append,List.nil_append]
  ·have hE34:=hE3.trans hE4
   have hK4:Keep W.live W3 W4:=fun x _=>by rw[hd4]
   have hJ4:Z.J W4 r3 i:=hZ.stay _ _ _ _ hJ3 hE4.size hK4 (fun e he=>by rw[hl4];exact hl3.mem he) hE4.fault
   have hac4:=hE34.acts.2
   have hgp:W4.α.gs.Perm (Z.own r3++(g2::g::base)):=by rw[hα4];exact hg3.trans perm_two_up.symm
   have hS:=hS0 W4 cd4 ca4 cs3 hW4 hgp hE34.room hE34.size hJ4 htg (by omega)
   rw[htv2] at hS
   repeat(refine st ?_;intros)
   apply R.callV
   ·exact rfl
   ·exact hcal
   ·exact rfl
   ·exact hS
   ·exact(by repeat(first|exact Split.nil|(apply Split.cons;·(repeat(first|exact Take.here|apply Take.there|exact Take.nil)))))
   ·exact rfl
   ·exact nle rfl
   rintro _ _ ⟨cd5,ca5,W5,r5,u,k,e,rfl,rfl,hW5,hE5,hd5,hσ5,hl5,hpo5,hg5,hc⟩
   dsimp only[List.cons_append,List.nil_append]
   have hE35:=hE34.trans hE5
   have hs5:W5.δ.size=W.δ.size:=hE35.size
   have hrd5:IsRd bw bx W5 f ts g (i+1) cx4 cb4:=hr4.move hE5.size
   have hwr5:IsWr bw bx2 W5 first (nblocks W.δ.size width f.count) width f.count g2 (rangeT out i) cy3 cc3:=hwr3.move (hE4.trans hE5).size (fun x _ _=>by rw[hd5,hd4])
   have hl5':LvOf first (nblocks W.δ.size width f.count) W.live W5.live:=by rw[hl5,hl4];exact hl3
   have hK5:Keep W.live W W5:=fun x hx=>by rw[hd5,hd4];exact hK3 x hx
   have hg5':W5.α.gs.Perm (g2::g::(Z.own r5++base)):=hg5.trans perm_two_up
   have htu:tv u= .agg #[.int .i64 u.c0,.int .i64 u.c1,.int .i64 u.c2,.int .i64 u.c3,.int .i64 u.c4]:=rfl
   have hac5:=hE35.acts.2
   rw[htu]
   rcases hc with⟨rfl,rfl,hu,hJ5⟩|⟨rfl,hf5,hE5'⟩
   ·have hpr5:=hP W5 r5 (hZ.fin _ _ _ hJ5)
    have hPt:=Put_w bw bd ba bs W5 cd5 ca5 cs3 hW5 bx2 first (nblocks W.δ.size width f.count) width f.count g2 (rangeT out i) cy3 cc3 hwr5 (g::(Z.own r5++base)) hg5' W.live hl5' (by rw[rangeT_len];exact hlt) u (by rw[hu];exact hout i hlt) (by omega) (by rw[hs5];exact holds_pos hs1 hw1 hw5)
    rw[htu] at hPt
    repeat(refine st ?_;intros)
    refine R.call (hct:=hPt) (h:= ?_)
    rintro _ _ ⟨cd6,ca6,cs6,W6,cy6,cc6,e,rfl,rfl,hW6,hE6,hK6,hc6⟩
    try dsimp only[List.cons_append,List.nil_append]
    have hE36:=hE35.trans hE6
    rcases hc6 with⟨rfl,hg6,hl6,hw6⟩|⟨rfl,hf6,hS6⟩
    ·repeat(refine st ?_;intros)
     refine Dn.round ⟨i+1,cd6,ca6,cs6,cx4,cb4,cy6,cc6,W6,r5⟩ ⟨hlt,hW6,hE36.weak (by dsimp only;omega) (by omega),Nat.le_trans hpo3 hpo5,hg6,hZ.stay _ _ _ _ hJ5 hE6.size hK6 (fun e he=>hl6.mem he) hE6.fault,hrd5.move hE6.size,by rw[rangeT_succ,←hu];exact hw6,hl6,hK5.trans hK6⟩ (by dsimp only;omega)
    ·have hD:=DropAny bw bd ba bs W6 cd6 ca6 cs6 hW6 bx2 first (nblocks W.δ.size width f.count) width f.count g2 (g::(Z.own r5++base)) W.live cy6 cc6 hS6
     repeat(refine st ?_;intros)
     refine Go.SL.Lv.call (hc:=hD) (h:= ?_)
     rintro _ _ ⟨cd7,ca7,cs7,W7,cy7,cc7,rfl,hW7,hE7,hd7,hg7,hl7⟩
     try dsimp only[List.cons_append,List.nil_append]
     have hRc:=RCloseAny bw bd ba bs W7 cd7 ca7 cs7 hW7 bx f ts g (Z.own r5++base) cx4 cb4 (.inl ⟨hg7,i+1,hrd5.move (hE6.trans hE7).size⟩)
     refine Go.SL.Lv.call (hc:=hRc) (h:= ?_)
     rintro _ _ ⟨ca8,α8,cx8,rfl,hW8,hE8,hg8⟩
     try dsimp only[List.cons_append,List.nil_append]
     (refine Go.SL.Lv.nil (Hr:=[wrow bw bd ba bs,cd7,ca8,cs7,Z.C r5]) Tryz.results86 (hR:= ?_);exact hbad {W7 with α:=α8} cd7 ca8 cs7 r5 _ hW8 ((hE36.trans (hE7.trans hE8)).weak (k':=f.blocks+f.count+1+P) (by omega) (by omega)) (Nat.le_refl _) (fun x hx=>by show W7.δ.disk x=_;rw[hd7];exact(hK5.trans hK6) x hx) hg8 (hZ.stayE _ _ _ (hZ.fin _ _ _ hJ5) ((hE6.trans hE7).trans hE8).size) (fault_keep hE35 hf6) hl7)
   ·have hpr5:=hP W5 r5 hE5'
    have hD:=DropAny bw bd ba bs W5 cd5 ca5 cs3 hW5 bx2 first (nblocks W.δ.size width f.count) width f.count g2 (g::(Z.own r5++base)) W.live cy3 cc3 (.inl ⟨hg5',hl5',_,hwr5⟩)
    repeat(refine st ?_;intros)
    refine Go.SL.Lv.call (hc:=hD) (h:= ?_)
    rintro _ _ ⟨cd7,ca7,cs7,W7,cy7,cc7,rfl,hW7,hE7,hd7,hg7,hl7⟩
    try dsimp only[List.cons_append,List.nil_append]
    have hRc:=RCloseAny bw bd ba bs W7 cd7 ca7 cs7 hW7 bx f ts g (Z.own r5++base) cx4 cb4 (.inl ⟨hg7,i+1,hrd5.move hE7.size⟩)
    refine Go.SL.Lv.call (hc:=hRc) (h:= ?_)
    rintro _ _ ⟨ca8,α8,cx8,rfl,hW8,hE8,hg8⟩
    try dsimp only[List.cons_append,List.nil_append]
    (refine Go.SL.Lv.nil (Hr:=[wrow bw bd ba bs,cd7,ca8,cs7,Z.C r5]) Tryz.results86 (hR:= ?_);exact hbad {W7 with α:=α8} cd7 ca8 cs7 r5 _ hW8 ((hE35.trans (hE7.trans hE8)).weak (k':=f.blocks+f.count+1+P) (by omega) (by omega)) (Nat.le_refl _) (fun x hx=>by show W7.δ.disk x=_;rw[hd7];exact hK5 x hx) hg8 (hZ.stayE _ _ _ hE5' (hE7.trans hE8).size) (fault_keep hE34 hf5) hl7)
  ·have hE34:=hE3.trans hE4
   have hf3:W3.δ.fault≠-1:=by omega
   have hD:=DropAny bw bd ba bs W4 cd4 ca4 cs3 hW4 bx2 first (nblocks W.δ.size width f.count) width f.count g2 (Z.own r3++base) W.live cy3 cc3 (.inl ⟨hg4,by rw[hl4];exact hl3,_,hwr3.move hE4.size (fun x _ _=>by rw[hd4])⟩)
   repeat(refine st ?_;intros)
   refine Go.SL.Lv.call (hc:=hD) (h:= ?_)
   rintro _ _ ⟨cd7,ca7,cs7,W7,cy7,cc7,rfl,hW7,hE7,hd7,hg7,hl7⟩
   try dsimp only[List.cons_append,List.nil_append]
   have hRc:=RCloseAny bw bd ba bs W7 cd7 ca7 cs7 hW7 bx f ts g (Z.own r3++base) cx4 cb4 (.inr ⟨hg7,hx4⟩)
   refine Go.SL.Lv.call (hc:=hRc) (h:= ?_)
   rintro _ _ ⟨ca8,α8,cx8,rfl,hW8,hE8,hg8⟩
   try dsimp only[List.cons_append,List.nil_append]
   (refine Go.SL.Lv.nil (Hr:=[wrow bw bd ba bs,cd7,ca8,cs7,Z.C r3]) Tryz.results86 (hR:= ?_);exact hbad {W7 with α:=α8} cd7 ca8 cs7 r3 _ hW8 ((hE34.trans (hE7.trans hE8)).weak (k':=f.blocks+f.count+1+P) (by omega) (by omega)) (Nat.le_refl _) (fun x hx=>by show W7.δ.disk x=_;rw[hd7,hd4];exact hK3 x hx) hg8 (hZ.stayE _ _ _ (hZ.fin _ _ _ hJ3) ((hE4.trans hE7).trans hE8).size) (fault_keep hE3 hf3) hl7)
 ·obtain rfl:i=f.count:=by omega
  have hNe:=NextEnd_u bw bx W3 f ts g cx3 cb3 hrd3
  rw[hz] at hNe
  have hCl:=Close_w bw bd ba bs W3 cd3 ca3 cs3 hW3 bx2 first (nblocks W.δ.size width f.count) width f.count g2 _ cy3 cc3 hwr3 (g::(Z.own r3++base)) hg3 W.live hl3 (by omega) (by rw[hsz3];exact holds_pos hs1 hw1 hw5)
  repeat(refine st ?_;intros)
  refine R.callVP (fs:=[pv bx]) (vs:=[]) (hf:=inferInstance) (hct:=hNe) (h:= ?_)
  repeat(refine st ?_;intros)
  refine R.call (hct:=hCl) (h:= ?_)
  rintro _ _ ⟨cd4,ca4,cs4,W4,cy4,cc4,f',e,rfl,rfl,hW4,hE4,hK4,hg4,hx4,hc4⟩
  try dsimp only[List.cons_append,List.nil_append]
  have hfv:flv f'= .agg #[.int .i64 (f'.first:Int),.int .i64 (f'.blocks:Int),.int .i64 (f'.width:Int),.int .i64 (f'.count:Int)]:=rfl
  rw[hfv]
  have hD:=DropAny bw bd ba bs W4 cd4 ca4 cs4 hW4 bx2 first (nblocks W.δ.size width f.count) width f.count g2 (g::(Z.own r3++base)) W4.live cy4 cc4 (.inr ⟨hg4,.refl _,hx4⟩)
  repeat(refine st ?_;intros)
  refine Go.SL.Lv.call (hc:=hD) (h:= ?_)
  rintro _ _ ⟨cd7,ca7,cs7,W7,cy7,cc7,rfl,hW7,hE7,hd7,hg7,hl7⟩
  try dsimp only[List.cons_append,List.nil_append]
  have hRc:=RCloseAny bw bd ba bs W7 cd7 ca7 cs7 hW7 bx f ts g (Z.own r3++base) cx3 cb3 (.inl ⟨hg7,f.count,hrd3.move (hE4.trans hE7).size⟩)
  refine Go.SL.Lv.call (hc:=hRc) (h:= ?_)
  rintro _ _ ⟨ca8,α8,cx8,rfl,hW8,hE8,hg8⟩
  try dsimp only[List.cons_append,List.nil_append]
  (refine Go.SL.Lv.nil (Hr:=[wrow bw bd ba bs,cd7,ca8,cs7,Z.C r3]) Tryz.results86 (hR:= ?_);refine⟨cd7,ca8,cs7,{W7 with α:=α8},r3,f',e,rfl,rfl,hW8,((hE3.trans hE4).trans (hE7.trans hE8)).weak (by omega) (by omega),fun x hx=>by show W7.δ.disk x=_;rw[hd7];exact(hK3.trans hK4) x hx,hg8,hZ.stayE _ _ _ (hZ.fin _ _ _ hJ3) ((hE4.trans hE7).trans hE8).size,?_⟩)
  rcases hc4 with⟨rfl,hl4,hfw,hfc,hfo4⟩|⟨rfl,rfl,hf4,hl4⟩
  ·rw[rangeT_len] at hfc
   exact .inl ⟨rfl,hl7.trans hl4,hfw,hfc,by show FileOk W7.δ.disk _ _ _ _;rw[hd7,←hsz3];exact hfo4⟩
  ·exact .inr ⟨rfl,rfl,fault_keep hE3 hf4,hl7.trans hl4⟩
def setc (t:T5) (j:Nat) (x:Int):T5:=
 match j with
 |0=>{t with c0:=x}
 |1=>{t with c1:=x}
 |2=>{t with c2:=x}
 |3=>{t with c3:=x}
 |_=>{t with c4:=x}
theorem setc_cells (t:T5) {j:Nat} (hj:j<5) (x:Int):(tcells t).set j (.int .i64 x)=tcells (setc t j x):=by
 match j,hj with
 |0,_=>rfl
 |1,_=>rfl
 |2,_=>rfl
 |3,_=>rfl
 |4,_=>rfl
theorem tcol_cell (t:T5) {i:Nat} (h:i<5):(tcells t)[i]? =some (.int .i64 (t.col i)):=by
 match i,h with
 |0,_=>rfl
 |1,_=>rfl
 |2,_=>rfl
 |3,_=>rfl
 |4,_=>rfl
def lkV (bs:List T5) (k:Int) (v:Nat):Int:=
 match bs.find? fun t=>decide (t.c0=k) with
 |some t=>t.col v
 |none=> -1
def lookF (bs:List T5) (key value to:Nat) (t:T5):T5:=setc t to (lkV bs (t.col key) value)
theorem lkV_none {bs:List T5} {k:Int} {v:Nat} (h:∀u∈bs,u.c0≠k):lkV bs k v= -1:=by
 unfold lkV
 rw[List.find?_eq_none.2 fun u hu=>by simp[h u hu]]
theorem lkV_some {bs:List T5} (hr:bs.Pairwise fun a c=>a.c0<c.c0) {k:Int} {v:Nat} {t:T5} (ht:t∈bs) (hk:t.c0=k):lkV bs k v=t.col v:=by
 unfold lkV
 cases hf:bs.find? fun t=>decide (t.c0=k) with
 |none=>
  rw[List.find?_eq_none] at hf
  exact(hf t ht (by simp[hk])).elim
 |some u=>
  have h1:u.c0=k:=by simpa using List.find?_some hf
  have h2:=List.mem_of_find?_eq_some hf
  obtain⟨i,hi,rfl⟩:=List.mem_iff_getElem.1 ht
  obtain⟨j,hj,rfl⟩:=List.mem_iff_getElem.1 h2
  rcases Nat.lt_trichotomy i j with h3|h3|h3
  ·have:=List.pairwise_iff_getElem.1 hr i j hi hj h3;omega
  ·subst h3;rfl
  ·have:=List.pairwise_iff_getElem.1 hr j i hj hi h3;omega
structure LkS where
 pos:Nat
 ok:Bool
 begun:Bool
 t:T5
 last:Int
 any:Bool
 cx:Chunk
 cb:Chunk
 op:Bool
structure LkOk (bs:List T5) (s:LkS) (k:Int):Prop where
 nb:s.begun=false→s.pos=0
 yes:s.begun=true→s.ok=true→∃p,s.pos=p+1∧bs[p]? =some s.t∧∀j u,j<p→bs[j]? =some u→u.c0<k
 no:s.begun=true→s.ok=false→s.pos=bs.length∧∀u∈bs,u.c0<k
theorem LkOk.up {bs:List T5} {s:LkS} {k k':Int} (h:LkOk bs s k) (hk:k≤k'):LkOk bs s k' where
 nb:=h.nb
 yes a b:=by
  obtain⟨p,h1,h2,h3⟩:=h.yes a b
  exact⟨p,h1,h2,fun j u hj hu=>by have:=h3 j u hj hu;omega⟩
 no a b:=⟨(h.no a b).1,fun u hu=>by have:=(h.no a b).2 u hu;omega⟩
theorem LkOk.all {bs:List T5} {s:LkS} {k:Int} (h:LkOk bs s k) (hc:s.begun=true→s.ok=true∧s.t.c0<k):∀j u,j<s.pos→bs[j]? =some u→u.c0<k:=by
 intro j u hj hu
 cases hb:s.begun with
 |false=>have:=h.nb hb;omega
 |true=>
  obtain⟨h1,h2⟩:=hc hb
  obtain⟨p,h3,h4,h5⟩:=h.yes hb h1
  rcases Nat.lt_or_ge j p with h6|h6
  ·exact h5 j u h6 hu
  ·obtain rfl:j=p:=by omega
   rw[h4] at hu
   rw[←Option.some.inj hu];exact h2
def lkRow (bl bx key value to:Nat) (s:LkS):Chunk:=[(bl,row [.func (.func 55) #[pv bx] #[],.int .i64 s.t.c0,.int .i64 s.t.c1,.int .i64 s.t.c2,.int .i64 s.t.c3,.int .i64 s.t.c4,.bool s.ok,.bool s.begun,.int .i64 (key:Int),.int .i64 (value:Int),.int .i64 (to:Int),.int .i64 s.last,.bool s.any] 138)]
theorem more_ct (bw bd ba bs bl bx key value to:Nat) (W:Wk) (cd ca cs:Chunk) (h:Wc bd ba bs W cd ca cs) (fb:Fl) (bts:List T5) (LvB:List Ext) (hfo:FileOk W.δ.disk W.δ.size LvB fb bts) (hsub:∀e∈LvB,e∈W.live) (hrise:bts.Pairwise fun a c=>a.c0<c.c0)
  (g:Gr) (Gs:List Gr) (hg:W.α.gs.Perm (g::Gs)) (s:LkS) (hrd:IsRd bw bx W fb bts g s.pos s.cx s.cb) (hpos:s.pos≤fb.count) (hs:s.begun=true→s.ok=true∧∃p,s.pos=p+1∧bts[p]? =some s.t) (hac:W.δ.acts≤1000000000000):
  Ct Tryz.prog 130 [pv bl] [lkRow bl bx key value to s,wrow bw bd ba bs,cd,ca,cs,s.cx,s.cb] fun v H'=>
   ∃cd' ca' W' s' e,v= .int .i64 e∧H'=[lkRow bl bx key value to s',wrow bw bd ba bs,cd',ca',cs,s'.cx,s'.cb]∧Wc bd ba bs W' cd' ca' cs∧Ev W W' (nblocks W.δ.size fb.width s'.pos-nblocks W.δ.size fb.width s.pos) 0∧W'.δ.disk=W.δ.disk∧W'.σ=W.σ∧W'.live=W.live∧
    s'.last=s.last∧s'.any=s.any∧s'.begun=true∧
    ((e=0∧W'.α.gs.Perm (g::Gs)∧IsRd bw bx W' fb bts g s'.pos s'.cx s'.cb∧((s.pos<fb.count∧s'.pos=s.pos+1∧s'.ok=true∧bts[s.pos]? =some s'.t)∨(s.pos=fb.count∧s'.pos=s.pos∧s'.ok=false)))∨
     (e=6∧W.δ.fault≠-1∧W'.α.gs.Perm Gs∧ClosedRd bx s'.cx∧s'.pos≤fb.count∧s.pos≤s'.pos)):=by
 have hz:tv T5.zero= .agg #[.int .i64 T5.zero.c0,.int .i64 T5.zero.c1,.int .i64 T5.zero.c2,.int .i64 T5.zero.c3,.int .i64 T5.zero.c4]:=rfl
 have hlen:=hfo.len
 obtain⟨pos,ok,begun,t,last,any,cx,cb,op⟩:=s
 unfold lkRow
 dsimp only at hrd hpos hs⊢
 by_cases hlt:pos<fb.count
 ·have htg:bts[pos]? =some bts[pos]:=List.getElem?_eq_getElem (by omega)
  have hNx:=Next_u bw bd ba bs W cd ca cs h bx fb bts LvB hfo hsub g Gs hg pos cx cb hrd _ htg hac
  have htv:tv bts[pos]= .agg #[.int .i64 (bts[pos]).c0,.int .i64 (bts[pos]).c1,.int .i64 (bts[pos]).c2,.int .i64 (bts[pos]).c3,.int .i64 (bts[pos]).c4]:=rfl
  rw[htv,hz] at hNx
  have hup:begun=true→¬(bts[pos]).c0≤t.c0:=fun hb=>by
   obtain⟨_,p,h1,h2⟩:=hs hb
   obtain⟨hp,h3⟩:=List.getElem?_eq_some_iff.1 h2
   have:=List.pairwise_iff_getElem.1 hrise p pos hp (by omega) (by omega)
   rw[h3] at this;omega
  generalize hu:bts[pos]=u at*
  cases begun with
  |false=>
   refine Ct.intro Tryz.func130 rfl Tryz.ntmps130 (nle rfl) fun w0=> ?_;dsimp only[argSlots,Nat.reduceAdd]
   repeat(first|(refine st ?_;intros)|refine G.draw [] (h:= ?_))
   refine R.callV (fs:=[pv bx]) (vs:=[]) (hf:=inferInstance) (hct:=hNx) (h:= ?_)
   rintro _ _ ⟨cd4,ca4,W4,cx4,cb4,rfl,hW4,hE4,hd4,hσ4,hl4,⟨rfl,hα4,hr4⟩|⟨rfl,hf4,hδ4,hg4,hx4⟩⟩<;>dsimp only[List.cons_append,List.nil_append]
   ·repeat(first|(refine st ?_;intros)|refine G.draw [] (h:= ?_))
    (refine Dn.post (Hr:=[[(bl,row [.func (.func 55) #[pv bx] #[],.int .i64 u.c0,.int .i64 u.c1,.int .i64 u.c2,.int .i64 u.c3,.int .i64 u.c4,.bool true,.bool true,.int .i64 (key:Int),.int .i64 (value:Int),.int .i64 (to:Int),.int .i64 last,.bool any] 138)],wrow bw bd ba bs,cd4,ca4,cs,cx4,cb4]) Tryz.results130 (hR:= ?_);exact⟨cd4,ca4,W4,⟨pos+1,true,true,u,last,any,cx4,cb4,op⟩,0,rfl,rfl,hW4,hE4,hd4,hσ4,hl4,rfl,rfl,rfl,.inl ⟨rfl,by rw[hα4];exact hg,hr4,.inl ⟨hlt,rfl,rfl,htg⟩⟩⟩)
   ·repeat(first|(refine st ?_;intros)|refine G.draw [] (h:= ?_))
    (refine Dn.post (Hr:=[[(bl,row [.func (.func 55) #[pv bx] #[],.int .i64 T5.zero.c0,.int .i64 T5.zero.c1,.int .i64 T5.zero.c2,.int .i64 T5.zero.c3,.int .i64 T5.zero.c4,.bool false,.bool true,.int .i64 (key:Int),.int .i64 (value:Int),.int .i64 (to:Int),.int .i64 last,.bool any] 138)],wrow bw bd ba bs,cd4,ca4,cs,cx4,cb4]) Tryz.results130 (hR:= ?_);exact⟨cd4,ca4,W4,⟨pos+1,false,true,T5.zero,last,any,cx4,cb4,op⟩,6,rfl,rfl,hW4,hE4,hd4,hσ4,hl4,rfl,rfl,rfl,.inr ⟨rfl,by omega,hg4,hx4,hlt,Nat.le_succ _⟩⟩)
  |true=>
   obtain⟨rfl,_⟩:=hs rfl
   have hup1:=hup rfl
   refine Ct.intro Tryz.func130 rfl Tryz.ntmps130 (nle rfl) fun w0=> ?_;dsimp only[argSlots,Nat.reduceAdd]
   repeat(first|(refine st ?_;intros)|refine G.draw [] (h:= ?_))
   refine R.callV (fs:=[pv bx]) (vs:=[]) (hf:=inferInstance) (hct:=hNx) (h:= ?_)
   rintro _ _ ⟨cd4,ca4,W4,cx4,cb4,rfl,hW4,hE4,hd4,hσ4,hl4,⟨rfl,hα4,hr4⟩|⟨rfl,hf4,hδ4,hg4,hx4⟩⟩<;>dsimp only[List.cons_append,List.nil_append]
   ·repeat(first|(refine st ?_;intros)|refine G.draw [] (h:= ?_))
    (refine Dn.post (Hr:=[[(bl,row [.func (.func 55) #[pv bx] #[],.int .i64 u.c0,.int .i64 u.c1,.int .i64 u.c2,.int .i64 u.c3,.int .i64 u.c4,.bool true,.bool true,.int .i64 (key:Int),.int .i64 (value:Int),.int .i64 (to:Int),.int .i64 last,.bool any] 138)],wrow bw bd ba bs,cd4,ca4,cs,cx4,cb4]) Tryz.results130 (hR:= ?_);exact⟨cd4,ca4,W4,⟨pos+1,true,true,u,last,any,cx4,cb4,op⟩,0,rfl,rfl,hW4,hE4,hd4,hσ4,hl4,rfl,rfl,rfl,.inl ⟨rfl,by rw[hα4];exact hg,hr4,.inl ⟨hlt,rfl,rfl,htg⟩⟩⟩)
   ·repeat(first|(refine st ?_;intros)|refine G.draw [] (h:= ?_))
    (refine Dn.post (Hr:=[[(bl,row [.func (.func 55) #[pv bx] #[],.int .i64 T5.zero.c0,.int .i64 T5.zero.c1,.int .i64 T5.zero.c2,.int .i64 T5.zero.c3,.int .i64 T5.zero.c4,.bool false,.bool true,.int .i64 (key:Int),.int .i64 (value:Int),.int .i64 (to:Int),.int .i64 last,.bool any] 138)],wrow bw bd ba bs,cd4,ca4,cs,cx4,cb4]) Tryz.results130 (hR:= ?_);exact⟨cd4,ca4,W4,⟨pos+1,false,true,T5.zero,last,any,cx4,cb4,op⟩,6,rfl,rfl,hW4,hE4,hd4,hσ4,hl4,rfl,rfl,rfl,.inr ⟨rfl,by omega,hg4,hx4,hlt,Nat.le_succ _⟩⟩)
 ·obtain rfl:pos=fb.count:=by omega
  have hNe:=NextEnd_u bw bx W fb bts g cx cb hrd
  rw[hz] at hNe
  cases begun with
  |false=>
   refine Ct.intro Tryz.func130 rfl Tryz.ntmps130 (nle rfl) fun w0=> ?_;dsimp only[argSlots,Nat.reduceAdd]
   repeat(first|(refine st ?_;intros)|refine G.draw [] (h:= ?_))
   refine R.callVP (fs:=[pv bx]) (vs:=[]) (hf:=inferInstance) (hct:=hNe) (h:= ?_)
   repeat(first|(refine st ?_;intros)|refine G.draw [] (h:= ?_))
   (refine Dn.post (Hr:=[[(bl,row [.func (.func 55) #[pv bx] #[],.int .i64 T5.zero.c0,.int .i64 T5.zero.c1,.int .i64 T5.zero.c2,.int .i64 T5.zero.c3,.int .i64 T5.zero.c4,.bool false,.bool true,.int .i64 (key:Int),.int .i64 (value:Int),.int .i64 (to:Int),.int .i64 last,.bool any] 138)],wrow bw bd ba bs,cd,ca,cs,cx,cb]) Tryz.results130 (hR:= ?_);exact⟨cd,ca,W,⟨fb.count,false,true,T5.zero,last,any,cx,cb,op⟩,0,rfl,rfl,h,(Ev.refl W).weak (Nat.zero_le _) (Nat.le_refl _),rfl,rfl,rfl,rfl,rfl,rfl,.inl ⟨rfl,hg,hrd,.inr ⟨rfl,rfl,rfl⟩⟩⟩)
  |true=>
   obtain⟨rfl,_⟩:=hs rfl
   refine Ct.intro Tryz.func130 rfl Tryz.ntmps130 (nle rfl) fun w0=> ?_;dsimp only[argSlots,Nat.reduceAdd]
   repeat(first|(refine st ?_;intros)|refine G.draw [] (h:= ?_))
   refine R.callVP (fs:=[pv bx]) (vs:=[]) (hf:=inferInstance) (hct:=hNe) (h:= ?_)
   repeat(first|(refine st ?_;intros)|refine G.draw [] (h:= ?_))
   (refine Dn.post (Hr:=[[(bl,row [.func (.func 55) #[pv bx] #[],.int .i64 T5.zero.c0,.int .i64 T5.zero.c1,.int .i64 T5.zero.c2,.int .i64 T5.zero.c3,.int .i64 T5.zero.c4,.bool false,.bool true,.int .i64 (key:Int),.int .i64 (value:Int),.int .i64 (to:Int),.int .i64 last,.bool any] 138)],wrow bw bd ba bs,cd,ca,cs,cx,cb]) Tryz.results130 (hR:= ?_);exact⟨cd,ca,W,⟨fb.count,false,true,T5.zero,last,any,cx,cb,op⟩,0,rfl,rfl,h,(Ev.refl W).weak (Nat.zero_le _) (Nat.le_refl _),rfl,rfl,rfl,rfl,rfl,rfl,.inl ⟨rfl,hg,hrd,.inr ⟨rfl,rfl,rfl⟩⟩⟩)
theorem setL5 {c:List Value} (h:c.length=5):setL [.int .i64 0,.int .i64 0,.int .i64 0,.int .i64 0,.int .i64 0] 0 c=c:=by
 rw[setL_eq _ _ _ (by simp[h]),h];simp
structure LkLX where
 cd:Chunk
 ca:Chunk
 W:Wk
 s:LkS
theorem LkOk.more {bs:List T5} {s s':LkS} {k:Int} (h:LkOk bs s k) (hc:s.begun=true→s.ok=true∧s.t.c0<k) (hb:s'.begun=true)
  (hm:(s'.pos=s.pos+1∧s'.ok=true∧bs[s.pos]? =some s'.t)∨(s.pos=bs.length∧s'.pos=s.pos∧s'.ok=false)):LkOk bs s' k:=by
 have ha:=h.all hc
 refine⟨fun h1=>(by rw[hb] at h1;cases h1),fun _ ho=> ?_,fun _ ho=> ?_⟩
 ·rcases hm with⟨h1,_,h3⟩|⟨_,_,h3⟩
  ·exact⟨s.pos,h1,h3,ha⟩
  ·rw[h3] at ho;cases ho
 ·rcases hm with⟨_,h2,_⟩|⟨h1,h2,_⟩
  ·rw[h2] at ho;cases ho
  ·refine⟨h2.trans h1,fun u hu=> ?_⟩
   obtain⟨j,hj,rfl⟩:=List.mem_iff_getElem.1 hu
   exact ha j _ (by omega) (List.getElem?_eq_getElem hj)
theorem LkOk.hit {bs:List T5} {s:LkS} {k:Int} (h:LkOk bs s k) (hr:bs.Pairwise fun a c=>a.c0<c.c0) (hb:s.begun=true) (ho:s.ok=true) (hk:s.t.c0=k) (v:Nat):lkV bs k v=s.t.col v:=by
 obtain⟨p,_,h2,_⟩:=h.yes hb ho
 exact lkV_some hr (List.mem_of_getElem? h2) hk
theorem LkOk.over {bs:List T5} {s:LkS} {k:Int} (h:LkOk bs s k) (hr:bs.Pairwise fun a c=>a.c0<c.c0) (hb:s.begun=true) (ho:s.ok=true) (hk:k<s.t.c0) (v:Nat):lkV bs k v= -1:=by
 obtain⟨p,_,h2,h3⟩:=h.yes hb ho
 obtain⟨hp,h4⟩:=List.getElem?_eq_some_iff.1 h2
 refine lkV_none fun u hu=> ?_
 obtain⟨j,hj,rfl⟩:=List.mem_iff_getElem.1 hu
 rcases Nat.lt_trichotomy j p with h5|h5|h5
 ·have:=h3 j _ h5 (List.getElem?_eq_getElem hj);omega
 ·subst h5;rw[h4];omega
 ·have:=List.pairwise_iff_getElem.1 hr p j hp hj h5
  rw[h4] at this;omega
theorem LkOk.out {bs:List T5} {s:LkS} {k:Int} (h:LkOk bs s k) (hb:s.begun=true) (ho:s.ok=false) (v:Nat):lkV bs k v= -1:=
 lkV_none fun u hu=>by have:=(h.no hb ho).2 u hu;omega
theorem look_ct (bw bd ba bs bl bx key value to:Nat) (hkey:key<5) (hval:value<5) (hto:to<5) (W:Wk) (cd ca cs:Chunk) (h:Wc bd ba bs W cd ca cs) (fb:Fl) (bts:List T5) (LvB:List Ext) (hfo:FileOk W.δ.disk W.δ.size LvB fb bts) (hsub:∀e∈LvB,e∈W.live) (hrise:bts.Pairwise fun a c=>a.c0<c.c0)
  (g:Gr) (Gs:List Gr) (hg:W.α.gs.Perm (g::Gs)) (s:LkS) (hrd:IsRd bw bx W fb bts g s.pos s.cx s.cb) (hpos:s.pos≤fb.count) (t:T5) (hs:LkOk bts s (t.col key)) (hany:s.any=true→s.last≤t.col key) (hac:W.δ.acts≤100000000000) (hcn:fb.count≤1000000):
  Ct Tryz.prog 87 [pv bl,tv t] [lkRow bl bx key value to s,wrow bw bd ba bs,cd,ca,cs,s.cx,s.cb] fun v H'=>
   ∃cd' ca' W' s' u k e,v= .tuple #[tv u,.bool k,.int .i64 e]∧H'=[lkRow bl bx key value to s',wrow bw bd ba bs,cd',ca',cs,s'.cx,s'.cb]∧Wc bd ba bs W' cd' ca' cs∧Ev W W' (nblocks W.δ.size fb.width s'.pos-nblocks W.δ.size fb.width s.pos) 0∧W'.δ.disk=W.δ.disk∧W'.σ=W.σ∧W'.live=W.live∧
    s.pos≤s'.pos∧s'.pos≤fb.count∧
    ((e=0∧k=true∧u=lookF bts key value to t∧W'.α.gs.Perm (g::Gs)∧IsRd bw bx W' fb bts g s'.pos s'.cx s'.cb∧LkOk bts s' (t.col key)∧s'.any=true∧s'.last=t.col key)∨
     (e=6∧W.δ.fault≠-1∧W'.α.gs.Perm Gs∧ClosedRd bx s'.cx)):=by
 have hlen:=hfo.len
 have hnb:=nblocks_le (n:=fb.count) (holds_pos h.dev.num.1.1 hfo.w1 hfo.w2)
 have htv:tv t= .agg #[.int .i64 t.c0,.int .i64 t.c1,.int .i64 t.c2,.int .i64 t.c3,.int .i64 t.c4]:=rfl
 have htc:tcells t=[.int .i64 t.c0,.int .i64 t.c1,.int .i64 t.c2,.int .i64 t.c3,.int .i64 t.c4]:=rfl
 have hq:=tcol_cell t hkey
 have hset:∀x,(tcells t).set to (.int .i64 x)=tcells (setc t to x):=fun x=>setc_cells t hto x
 have hlF:∀u:T5,u=setc t to (lkV bts (t.col key) value)→.agg (tcells (setc t to (lkV bts (t.col key) value))).toArray=tv (lookF bts key value to t):=fun _ _=>rfl
 have hlF:=hlF _ rfl
 have hbk: .agg (tcells t).toArray=tv t:=rfl
 generalize hk:t.col key=k at*
 rw[htv]
 rw[htc] at hq hset hbk
 generalize hcc:([.int .i64 t.c0,.int .i64 t.c1,.int .i64 t.c2,.int .i64 t.c3,.int .i64 t.c4]:List Value)=cc at*
 have hcl:cc.length=5:=by rw[←hcc];rfl
 have hbox:(Value.agg cc.toArray).cells=cc.toArray:=rfl
 have hld:(cc.drop 0).take 5=cc:=by rw[List.drop_zero,List.take_of_length_le (by omega)]
 have hca:cc.all Value.oneCell'=true:=by rw[←hcc];rfl
 have hs5:=setL5 hcl
 obtain⟨pos,ok,begun,tb,last,any,cx,cb,op⟩:=s
 unfold lkRow
 dsimp only at hrd hpos hs hany⊢
 have hnl:any=true→¬k<last:=fun h=>by have:=hany h;omega
 have hs1:LkOk bts ⟨pos,ok,begun,tb,k,true,cx,cb,op⟩ k:=⟨hs.nb,hs.yes,hs.no⟩
 cases any
 case' true=>have hnl1:=hnl rfl
 all_goals
  refine Ct.intro Tryz.func87 rfl Tryz.ntmps87 (nle rfl) fun w0=> ?_;dsimp only[argSlots,Nat.reduceAdd]
  repeat(first|(refine st ?_;intros)|refine G.draw [] (h:= ?_))
  rename_i b3 b4
  refine G.loop (X:=LkLX) (fun x=>Wc bd ba bs x.W x.cd x.ca cs∧Ev W x.W (nblocks W.δ.size fb.width x.s.pos-nblocks W.δ.size fb.width pos) 0∧x.W.δ.disk=W.δ.disk∧x.W.σ=W.σ∧x.W.live=W.live∧pos≤x.s.pos∧x.s.pos≤fb.count∧x.W.α.gs.Perm (g::Gs)∧IsRd bw bx x.W fb bts g x.s.pos x.s.cx x.s.cb∧LkOk bts x.s k∧x.s.any=true∧x.s.last=k)
   (fun _=>[(7,.int .i64 k),(4,pv b4),(3,pv b3),(0,pv bl)])
   (fun x=>[[(b4,row [.int .i64 0,.int .i64 0,.int .i64 0,.int .i64 0,.int .i64 0] 49)],[(b3,row cc 49)],[(bl,row [.func (.func 55) #[pv bx] #[],.int .i64 x.s.t.c0,.int .i64 x.s.t.c1,.int .i64 x.s.t.c2,.int .i64 x.s.t.c3,.int .i64 x.s.t.c4,.bool x.s.ok,.bool x.s.begun,.int .i64 (key:Int),.int .i64 (value:Int),.int .i64 (to:Int),.int .i64 x.s.last,.bool x.s.any] 138)],wrow bw bd ba bs,x.cd,x.ca,cs,x.s.cx,x.s.cb])
   (fun x=>(fb.count-x.s.pos)+(if x.s.begun=true∧x.s.ok=false then 0 else 1)) ⟨cd,ca,W,⟨pos,ok,begun,tb,k,true,cx,cb,op⟩⟩
   ⟨h,(Ev.refl W).weak (Nat.zero_le _) (Nat.le_refl _),rfl,rfl,rfl,Nat.le_refl _,hpos,hg,hrd,hs1,rfl,rfl⟩ (body:= ?_)
  rintro⟨cd2,ca2,W2,⟨pos2,ok2,begun2,tb2,last2,any2,cx2,cb2,op2⟩⟩ ⟨hW2,hE2,hd2,hσ2,hl2,hpp2,hpos2,hg2,hrd2,hk2,ha2,hla2⟩
  dsimp only at hW2 hE2 hd2 hσ2 hl2 hpp2 hpos2 hg2 hrd2 hk2 ha2 hla2⊢
  subst ha2 hla2
  have hac2:=hE2.acts.2
  have hm2:nblocks W.δ.size fb.width pos≤nblocks W.δ.size fb.width pos2:=nblocks_mono hpp2
  have hm3:nblocks W.δ.size fb.width pos2≤nblocks W.δ.size fb.width fb.count:=nblocks_mono hpos2
  have hgo:(begun2=true→ok2=true∧tb2.c0<last2)→Ct Tryz.prog 130 [pv bl] [[(bl,row [.func (.func 55) #[pv bx] #[],.int .i64 tb2.c0,.int .i64 tb2.c1,.int .i64 tb2.c2,.int .i64 tb2.c3,.int .i64 tb2.c4,.bool ok2,.bool begun2,.int .i64 (key:Int),.int .i64 (value:Int),.int .i64 (to:Int),.int .i64 last2,.bool true] 138)],wrow bw bd ba bs,cd2,ca2,cs,cx2,cb2] fun v H'=>
    ∃cd' ca' W' s' e,v= .int .i64 e∧H'=[[(bl,row [.func (.func 55) #[pv bx] #[],.int .i64 s'.t.c0,.int .i64 s'.t.c1,.int .i64 s'.t.c2,.int .i64 s'.t.c3,.int .i64 s'.t.c4,.bool s'.ok,.bool s'.begun,.int .i64 (key:Int),.int .i64 (value:Int),.int .i64 (to:Int),.int .i64 s'.last,.bool s'.any] 138)],wrow bw bd ba bs,cd',ca',cs,s'.cx,s'.cb]∧Wc bd ba bs W' cd' ca' cs∧Ev W W' (nblocks W.δ.size fb.width s'.pos-nblocks W.δ.size fb.width pos) 0∧W'.δ.disk=W.δ.disk∧W'.σ=W.σ∧W'.live=W.live∧
     s'.last=last2∧s'.any=true∧s'.begun=true∧pos≤s'.pos∧s'.pos≤fb.count∧
     ((e=0∧W'.α.gs.Perm (g::Gs)∧IsRd bw bx W' fb bts g s'.pos s'.cx s'.cb∧LkOk bts s' last2∧(fb.count-s'.pos)+(if s'.begun=true∧s'.ok=false then 0 else 1)<(fb.count-pos2)+1)∨
      (e=6∧W.δ.fault≠-1∧W'.α.gs.Perm Gs∧ClosedRd bx s'.cx)):=by
   intro hc
   have hM:=more_ct bw bd ba bs bl bx key value to W2 cd2 ca2 cs hW2 fb bts LvB (by rw[hd2,hE2.size];exact hfo) (fun e he=>by rw[hl2];exact hsub e he) hrise g Gs hg2 ⟨pos2,ok2,begun2,tb2,last2,true,cx2,cb2,op2⟩ hrd2 hpos2 (fun hb=>by
    obtain⟨h1,_⟩:=hc hb
    obtain⟨p,h2,h3,_⟩:=hk2.yes hb h1
    exact⟨h1,p,h2,h3⟩) (by omega)
   refine hM.mono ?_
   rintro v H' ⟨cd',ca',W',s',e,rfl,rfl,hW',hE',hd',hσ',hl',e1,e2,e3,hc'⟩
   rw[hE2.size] at hE'
   dsimp only at hE' e1 e2 hc'
   have hpp:pos2≤s'.pos∧s'.pos≤fb.count:=by
    rcases hc' with⟨_,_,_,⟨h1,h2,_⟩|⟨h1,h2,_⟩⟩|⟨_,_,_,_,h5,h6⟩
    ·omega
    ·omega
    ·exact⟨h6,h5⟩
   have hm4:nblocks W.δ.size fb.width pos2≤nblocks W.δ.size fb.width s'.pos:=nblocks_mono hpp.1
   refine⟨cd',ca',W',s',e,rfl,rfl,hW',(hE2.trans hE').weak (by omega) (Nat.le_refl _),hd'.trans hd2,hσ'.trans hσ2,hl'.trans hl2,e1,e2,e3,by omega,hpp.2,?_⟩
   rcases hc' with⟨rfl,g1,g2,g3⟩|⟨rfl,f1,f2,f3,_⟩
   ·refine .inl ⟨rfl,g1,g2,hk2.more hc e3 (by
     rcases g3 with⟨_,q1,q2,q3⟩|⟨q0,q1,q2⟩
     ·exact .inl ⟨q1,q2,q3⟩
     ·exact .inr ⟨by dsimp only;omega,q1,q2⟩),?_⟩
    rcases g3 with⟨q0,q1,q2,q3⟩|⟨q0,q1,q2⟩
    ·split<;>omega
    ·rw[if_pos ⟨e3,q2⟩];omega
   ·exact .inr ⟨rfl,fault_keep hE2 f1,f2,f3⟩
  have hout:∀x:Int,lkV bts last2 value=x→cc.set to (.int .i64 x)=tcells (setc t to (lkV bts last2 value)):=fun x hx=>by rw[hset,hx]
  cases begun2 with
  |false=>
   have hM:=hgo (fun h=>by cases h)
   have hms:(if(false:Bool)=true∧ok2=false then 0 else 1)=1:=if_neg (by simp)
   repeat(first|(refine st ?_;intros)|refine G.draw [] (h:= ?_))
   refine R.call (hct:=hM) (h:= ?_)
   rintro _ _ ⟨cd3,ca3,W3,⟨pos3,ok3,begun3,tb3,last3,any3,cx3,cb3,op3⟩,e,rfl,rfl,hW3,hE3,hd3,hσ3,hl3,hla3,han3,hbg3,hpp3,hpos3,hc3⟩
   try dsimp only[List.cons_append,List.nil_append]
   dsimp only at hW3 hE3 hd3 hσ3 hl3 hla3 han3 hbg3 hpp3 hpos3 hc3⊢
   rcases hc3 with⟨rfl,g1,g2,g3,g4⟩|⟨rfl,f1,f2,f3⟩
   ·repeat(first|(refine st ?_;intros)|refine G.draw [] (h:= ?_))
    refine Dn.round ⟨cd3,ca3,W3,⟨pos3,ok3,begun3,tb3,last3,any3,cx3,cb3,op3⟩⟩ ⟨hW3,hE3,hd3,hσ3,hl3,hpp3,hpos3,g1,g2,g3,han3,hla3⟩ (by dsimp only;rw[hms];exact g4)
   ·repeat(first|(refine st ?_;intros)|refine G.draw [] (h:= ?_))
    (refine Dn.post (Hr:=[[(bl,row [.func (.func 55) #[pv bx] #[],.int .i64 tb3.c0,.int .i64 tb3.c1,.int .i64 tb3.c2,.int .i64 tb3.c3,.int .i64 tb3.c4,.bool ok3,.bool begun3,.int .i64 (key:Int),.int .i64 (value:Int),.int .i64 (to:Int),.int .i64 last3,.bool any3] 138)],wrow bw bd ba bs,cd3,ca3,cs,cx3,cb3]) Tryz.results87 (hR:= ?_);exact⟨cd3,ca3,W3,⟨pos3,ok3,begun3,tb3,last3,any3,cx3,cb3,op3⟩,t,false,6,by rw[←hbk];rfl,rfl,hW3,hE3,hd3,hσ3,hl3,hpp3,hpos3,.inr ⟨rfl,f1,f2,f3⟩⟩)
  |true=>
   cases ok2 with
   |false=>
    have hv:=hk2.out rfl rfl value
    have hset1:=hout _ hv
    have hfin:=hlF
    have h2l:(tcells (setc t to (lkV bts last2 value))).length=5:=rfl
    have h2a:(tcells (setc t to (lkV bts last2 value))).all Value.oneCell'=true:=rfl
    generalize tcells (setc t to (lkV bts last2 value))=c2 at*
    have hld2:(c2.drop 0).take 5=c2:=by rw[List.drop_zero,List.take_of_length_le (by omega)]
    have hs52:=setL5 h2l
    repeat(first|(refine st ?_;intros)|refine G.draw [] (h:= ?_))
    (refine Dn.post (Hr:=[[(bl,row [.func (.func 55) #[pv bx] #[],.int .i64 tb2.c0,.int .i64 tb2.c1,.int .i64 tb2.c2,.int .i64 tb2.c3,.int .i64 tb2.c4,.bool false,.bool true,.int .i64 (key:Int),.int .i64 (value:Int),.int .i64 (to:Int),.int .i64 last2,.bool true] 138)],wrow bw bd ba bs,cd2,ca2,cs,cx2,cb2]) Tryz.results87 (hR:= ?_);exact⟨cd2,ca2,W2,⟨pos2,false,true,tb2,last2,true,cx2,cb2,op2⟩,lookF bts key value to t,true,0,by rw[←hfin];rfl,rfl,hW2,hE2,hd2,hσ2,hl2,hpp2,hpos2,.inl ⟨rfl,rfl,rfl,hg2,hrd2,hk2,rfl,rfl⟩⟩)
   |true=>
    by_cases hlt:tb2.c0<last2
    ·have hM:=hgo (fun _=>⟨rfl,hlt⟩)
     have hms:(if(true:Bool)=true∧(true:Bool)=false then 0 else 1)=1:=if_neg (by simp)
     repeat(first|(refine st ?_;intros)|refine G.draw [] (h:= ?_))
     refine R.call (hct:=hM) (h:= ?_)
     rintro _ _ ⟨cd3,ca3,W3,⟨pos3,ok3,begun3,tb3,last3,any3,cx3,cb3,op3⟩,e,rfl,rfl,hW3,hE3,hd3,hσ3,hl3,hla3,han3,hbg3,hpp3,hpos3,hc3⟩
     try dsimp only[List.cons_append,List.nil_append]
     dsimp only at hW3 hE3 hd3 hσ3 hl3 hla3 han3 hbg3 hpp3 hpos3 hc3⊢
     rcases hc3 with⟨rfl,g1,g2,g3,g4⟩|⟨rfl,f1,f2,f3⟩
     ·repeat(first|(refine st ?_;intros)|refine G.draw [] (h:= ?_))
      refine Dn.round ⟨cd3,ca3,W3,⟨pos3,ok3,begun3,tb3,last3,any3,cx3,cb3,op3⟩⟩ ⟨hW3,hE3,hd3,hσ3,hl3,hpp3,hpos3,g1,g2,g3,han3,hla3⟩ (by dsimp only;rw[hms];exact g4)
     ·repeat(first|(refine st ?_;intros)|refine G.draw [] (h:= ?_))
      (refine Dn.post (Hr:=[[(bl,row [.func (.func 55) #[pv bx] #[],.int .i64 tb3.c0,.int .i64 tb3.c1,.int .i64 tb3.c2,.int .i64 tb3.c3,.int .i64 tb3.c4,.bool ok3,.bool begun3,.int .i64 (key:Int),.int .i64 (value:Int),.int .i64 (to:Int),.int .i64 last3,.bool any3] 138)],wrow bw bd ba bs,cd3,ca3,cs,cx3,cb3]) Tryz.results87 (hR:= ?_);exact⟨cd3,ca3,W3,⟨pos3,ok3,begun3,tb3,last3,any3,cx3,cb3,op3⟩,t,false,6,by rw[←hbk];rfl,rfl,hW3,hE3,hd3,hσ3,hl3,hpp3,hpos3,.inr ⟨rfl,f1,f2,f3⟩⟩)
    ·by_cases heq:tb2.c0=last2
     ·have hv:=hk2.hit hrise rfl rfl heq value
      dsimp only at hv
      have hset1:=hout _ hv
      have hfin:=hlF
      have hrow:([.func (.func 55) #[pv bx] #[],.int .i64 tb2.c0,.int .i64 tb2.c1,.int .i64 tb2.c2,.int .i64 tb2.c3,.int .i64 tb2.c4,.bool true,.bool true,.int .i64 (key:Int),.int .i64 (value:Int),.int .i64 (to:Int),.int .i64 last2,.bool true]:List Value)[1+value]? =some (.int .i64 (tb2.col value)):=by
       match value,hval with
       |0,_=>rfl
       |1,_=>rfl
       |2,_=>rfl
       |3,_=>rfl
       |4,_=>rfl
      have h2l:(tcells (setc t to (lkV bts last2 value))).length=5:=rfl
      have h2a:(tcells (setc t to (lkV bts last2 value))).all Value.oneCell'=true:=rfl
      generalize tcells (setc t to (lkV bts last2 value))=c2 at*
      have hld2:(c2.drop 0).take 5=c2:=by rw[List.drop_zero,List.take_of_length_le (by omega)]
      have hs52:=setL5 h2l
      generalize tb2.col value=y at*
      repeat(first|(refine st ?_;intros)|refine G.draw [] (h:= ?_))
      (refine Dn.post (Hr:=[[(bl,row [.func (.func 55) #[pv bx] #[],.int .i64 tb2.c0,.int .i64 tb2.c1,.int .i64 tb2.c2,.int .i64 tb2.c3,.int .i64 tb2.c4,.bool true,.bool true,.int .i64 (key:Int),.int .i64 (value:Int),.int .i64 (to:Int),.int .i64 last2,.bool true] 138)],wrow bw bd ba bs,cd2,ca2,cs,cx2,cb2]) Tryz.results87 (hR:= ?_);exact⟨cd2,ca2,W2,⟨pos2,true,true,tb2,last2,true,cx2,cb2,op2⟩,lookF bts key value to t,true,0,by rw[←hfin];rfl,rfl,hW2,hE2,hd2,hσ2,hl2,hpp2,hpos2,.inl ⟨rfl,rfl,rfl,hg2,hrd2,hk2,rfl,rfl⟩⟩)
     ·have hv:=hk2.over hrise rfl rfl (by dsimp only;omega) value
      have hset1:=hout _ hv
      have hfin:=hlF
      have h2l:(tcells (setc t to (lkV bts last2 value))).length=5:=rfl
      have h2a:(tcells (setc t to (lkV bts last2 value))).all Value.oneCell'=true:=rfl
      generalize tcells (setc t to (lkV bts last2 value))=c2 at*
      have hld2:(c2.drop 0).take 5=c2:=by rw[List.drop_zero,List.take_of_length_le (by omega)]
      have hs52:=setL5 h2l
      repeat(first|(refine st ?_;intros)|refine G.draw [] (h:= ?_))
      (refine Dn.post (Hr:=[[(bl,row [.func (.func 55) #[pv bx] #[],.int .i64 tb2.c0,.int .i64 tb2.c1,.int .i64 tb2.c2,.int .i64 tb2.c3,.int .i64 tb2.c4,.bool true,.bool true,.int .i64 (key:Int),.int .i64 (value:Int),.int .i64 (to:Int),.int .i64 last2,.bool true] 138)],wrow bw bd ba bs,cd2,ca2,cs,cx2,cb2]) Tryz.results87 (hR:= ?_);exact⟨cd2,ca2,W2,⟨pos2,true,true,tb2,last2,true,cx2,cb2,op2⟩,lookF bts key value to t,true,0,by rw[←hfin];rfl,rfl,hW2,hE2,hd2,hσ2,hl2,hpp2,hpos2,.inl ⟨rfl,rfl,rfl,hg2,hrd2,hk2,rfl,rfl⟩⟩)
end Go.Proofs.YtammjnjpheobaaaGreat
