/-
  Parts of the proof, put together: Repl, Space, Hold, Take. No condition.
-/
import Derived.Test.YtjoicjgfgkpdjaaGreatI7
set_option linter.unusedVariables false
set_option linter.unusedSimpArgs false
set_option linter.unnecessarySimpa false
set_option maxHeartbeats 4000000
namespace Go.Proofs.YtjoicjgfgkpdjaaGreat
open Go.SL Go.Spc
def ecells:List Ext→List Value
 |[]=>[]
 |e::l=> .int .i64 (e.1:Int):: .int .i64 (e.2:Int)::ecells l
@[simp] theorem ecells_length (l:List Ext):(ecells l).length=l.length*2:=by
 induction l with
 |nil=>rfl
 |cons e l ih=>simp only[ecells,List.length_cons,ih];omega
@[simp] theorem ecells_app (a b:List Ext):ecells (a++b)=ecells a++ecells b:=by
 induction a with
 |nil=>rfl
 |cons e a ih=>simp[ecells,ih]
theorem ecells_all (l:List Ext):(ecells l).all Value.oneCell'=true:=by
 induction l with
 |nil=>rfl
 |cons e l ih=>simpa[ecells,Value.oneCell'] using ih
theorem setL_ex {a c vs:List Value} {o:Nat} (ho:a.length=o) (h:vs.length≤c.length):∃y,setL (a++c) o vs=a++(vs++y)∧vs.length+y.length=c.length∧y=c.drop vs.length:=by
 subst ho
 refine⟨c.drop vs.length,?_,by simp;omega,rfl⟩
 rw[setL_eq _ _ _ (by simp;omega)]
 simp
theorem Vec.mk' {E sz b cap m:Nat} {cs xs rest:List Value} (hcs:cs=xs++rest) (h1:xs.length=m*sz) (h2:cap*sz≤cs.length) (h3:m≤cap) (h4:cap≤maxLen):Vec E sz (some ⟨b,0,none⟩) m cap xs [(b,row cs E)]:=by
 subst hcs
 exact⟨h1,.inr ⟨b,rest,rfl,rfl,by simpa using h2,h3,h4⟩⟩
theorem take_at {a c r:List Value} {o m:Nat} (ho:a.length=o) (h:c.length=m):((a++(c++r)).drop o).take m=c:=by
 subst ho h
 simp
theorem take_at0 {a r:List Value} {m:Nat} (h:a.length=m):((a++r).drop 0).take m=a:=by
 subst h
 simp
theorem RepZ_ct (p:Option Addr) (cap:Nat) (A B:List Ext) (x:Ext) (c:Chunk) (i n:Nat) (hi:A.length=i) (hn:n=i+1+B.length) (hm:n≤1000000) (hV:Vec 119 2 p n cap (ecells (A++[x]++B)) c):
  Ct Tryz.prog 114 [.slice p n cap,.int .i64 (i:Int),.int .i64 ((i:Int)+1),.slice none 0 0] [c] fun v H'=>
   ∃p' cap' c',v= .slice p' (i+B.length) cap'∧Vec 119 2 p' (i+B.length) cap' (ecells (A++B)) c'∧H'=[c']:=by
 obtain⟨hxl,hV⟩:=hV
 rcases hV with⟨_,h0,_⟩|⟨b,rest,rfl,rfl,hrl,hmc,hcm⟩
 ·omega
 simp only[ecells_app,List.append_assoc] at hxl hrl⊢
 have hxx:(ecells [x]).length=2:=rfl
 have hA2:(ecells A).length=i*2:=by rw[ecells_length,hi]
 have hB2:(ecells B).length=B.length*2:=ecells_length B
 have hlen:cap*2≤(ecells A++(ecells [x]++(ecells B++rest))).length:=by
  simp only[List.length_append] at hrl⊢;omega
 have e1:((i:Int)+1).toNat=i+1:=by omega
 have hcm':=hcm
 simp only[maxLen] at hcm'
 generalize ecells [x]=X at*
 have hall:=ecells_all B
 by_cases hB:B=[]
 ·subst hB
  simp only[List.length_nil,Nat.add_zero,ecells,List.nil_append] at hn hlen hB2⊢
  subst hn
  obtain⟨y,hs1,hy,_⟩:=setL_ex (vs:=zrep (i+1-i) [.int .i64 0,.int .i64 0]) (c:=X++rest) hA2 (by rw[zrep_length];simp only[List.length_append,List.length_cons,List.length_nil];omega)
  have hl2:i*2+(i+1-i)*2≤(ecells A++(X++rest)).length:=by simp only[List.length_append];omega
  refine Ct.intro Tryz.func114 rfl Tryz.ntmps114 (nle rfl) fun w0=> ?_;dsimp only[argSlots,Nat.reduceAdd]
  repeat(first|(refine st ?_;intros)|refine G.draw [] (h:= ?_))
  (refine Dn.post (Hr:=[[(b,row (ecells A++(zrep (i+1-i) [.int .i64 0,.int .i64 0]++y)) 119)]]) Tryz.results114 (hR:= ?_);refine⟨some ⟨b,0,none⟩,cap,_,rfl,?_,rfl⟩)
  refine Vec.mk' (rest:=zrep (i+1-i) [.int .i64 0,.int .i64 0]++y) (by simp) (by simpa using hA2) ?_ (by omega) hcm
  simp only[List.length_append] at hlen hy⊢
  omega
 ·have hB1:0<B.length:=List.length_pos_iff.2 hB
  have hBn:B.length=n-(i+1):=by omega
  have e2:((i:Int)+((0:Nat):Int)+((n-(i+1):Nat):Int)).toNat=n-1:=by omega
  have e3:((i:Int)+((0:Nat):Int)).toNat=i:=by omega
  have e4:Nat.min (n-(i+1)) (n-1-i)=n-(i+1):=Nat.min_eq_left (by omega)
  have e5:(ecells B).length=(n-(i+1))*2:=by omega
  have hX1:(ecells A++X).length=(i+1)*2:=by simp only[List.length_append];omega
  have hd:((ecells A++(X++(ecells B++rest))).drop ((i+1)*2)).take ((n-(i+1))*2)=ecells B:=by
   have:=take_at (a:=ecells A++X) (c:=ecells B) (r:=rest) hX1 e5
   rwa[List.append_assoc] at this
  obtain⟨y,hs1,hy,_⟩:=setL_ex (vs:=ecells B) (c:=X++(ecells B++rest)) hA2 (by simp only[List.length_append];omega)
  have hAB:(ecells A++ecells B).length=(n-1)*2:=by simp only[List.length_append];omega
  obtain⟨z,hs2,hz,_⟩:=setL_ex (vs:=zrep (n-(n-1)) [.int .i64 0,.int .i64 0]) (c:=y) hAB (by rw[zrep_length];simp only[List.length_append,List.length_cons,List.length_nil] at hy⊢;omega)
  rw[List.append_assoc,List.append_assoc] at hs2
  have hl1:i*2+(n-(i+1))*2≤(ecells A++(X++(ecells B++rest))).length:=by simp only[List.length_append] at hy⊢;omega
  have hl2:(n-1)*2+(n-(n-1))*2≤(ecells A++(ecells B++y)).length:=by simp only[List.length_append] at hy hlen⊢;omega
  have hn1:i+B.length=n-1:=by omega
  rw[hn1]
  refine Ct.intro Tryz.func114 rfl Tryz.ntmps114 (nle rfl) fun w0=> ?_;dsimp only[argSlots,Nat.reduceAdd]
  repeat(first|(refine st ?_;intros)|refine G.draw [] (h:= ?_))
  (refine Dn.post (Hr:=[[(b,row (ecells A++(ecells B++(zrep (n-(n-1)) [.int .i64 0,.int .i64 0]++z))) 119)]]) Tryz.results114 (hR:= ?_);refine⟨some ⟨b,0,none⟩,cap,_,rfl,?_,rfl⟩)
  refine Vec.mk' (rest:=zrep (n-(n-1)) [.int .i64 0,.int .i64 0]++z) (by simp) hAB ?_ (by omega) hcm
  simp only[List.length_append] at hlen hy hz⊢
  omega
theorem RepY_ct (p:Option Addr) (cap:Nat) (A B Xs:List Ext) (e:Ext) (c:Chunk) (i j n:Nat) (hi:A.length=i) (hj:j=i+Xs.length) (hx1:1≤Xs.length) (hx2:Xs.length≤2) (hn:n=j+B.length) (hm:n≤1000000) (bv cv:Nat) (restv:List Value) (jj:Int) (hjj:jj=(j:Int))
  (hV:Vec 119 2 p n cap (ecells (A++Xs++B)) c):
  Ct Tryz.prog 114 [.slice p n cap,.int .i64 (i:Int),.int .i64 jj,.slice (some ⟨bv,0,none⟩) 1 cv] [c,[(bv,row (ecells [e]++restv) 119)]] fun v H'=>
   ∃p' cap' c',v= .slice p' (i+1+B.length) cap'∧Vec 119 2 p' (i+1+B.length) cap' (ecells (A++[e]++B)) c'∧H'=[c']:=by
 subst hjj
 obtain⟨hxl,hV⟩:=hV
 rcases hV with⟨_,h0,_⟩|⟨b,rest,rfl,rfl,hrl,hmc,hcm⟩
 ·omega
 simp only[ecells_app,List.append_assoc] at hxl hrl⊢
 have hxx:(ecells Xs).length=(j-i)*2:=by rw[ecells_length];omega
 have hee:(ecells [e]).length=2:=rfl
 have hA2:(ecells A).length=i*2:=by rw[ecells_length,hi]
 have hB2:(ecells B).length=B.length*2:=ecells_length B
 have hlen:cap*2≤(ecells A++(ecells Xs++(ecells B++rest))).length:=by
  simp only[List.length_append] at hrl⊢;omega
 have hij:i+1≤j∧j≤i+2:=by omega
 clear hx1 hx2 hj hi
 have hcm':=hcm
 simp only[maxLen] at hcm'
 have hae:=ecells_all [e]
 have hall:=ecells_all B
 generalize ecells Xs=X at*
 generalize ecells [e]=V at*
 have hd0:((V++restv).drop 0).take (1*2)=V:=take_at0 (by omega)
 have hv2:V.length=1*2:=by omega
 obtain⟨y,hs1,hy,hyd⟩:=setL_ex (vs:=V) (c:=X++(ecells B++rest)) hA2 (by simp only[List.length_append];omega)
 have hl1:i*2+1*2≤(ecells A++(X++(ecells B++rest))).length:=by simp only[List.length_append] at hy⊢;omega
 by_cases hB:B=[]
 ·subst hB
  simp only[List.length_nil,Nat.add_zero,ecells,List.nil_append] at hn hlen hB2 hs1 hl1 hy⊢
  obtain rfl:=hn.symm
  by_cases hj2:j=i+1
  ·subst hj2
   refine Ct.intro Tryz.func114 rfl Tryz.ntmps114 (nle rfl) fun w0=> ?_;dsimp only[argSlots,Nat.reduceAdd]
   repeat(first|(refine st ?_;intros)|refine G.draw [] (h:= ?_))
   (refine Dn.post (Hr:=[[(b,row (ecells A++(V++y)) 119)]]) Tryz.results114 (hR:= ?_);refine⟨some ⟨b,0,none⟩,cap,_,rfl,?_,rfl⟩)
   refine Vec.mk' (rest:=y) (by simp) (by simp only[List.append_nil,List.length_append];omega) ?_ (by omega) hcm
   simp only[List.length_append] at hlen hy⊢
   omega
  ·have hAV:(ecells A++V).length=(i+1)*2:=by simp only[List.length_append];omega
   obtain⟨z,hs2,hz,_⟩:=setL_ex (vs:=zrep (j-(i+1)) [.int .i64 0,.int .i64 0]) (c:=y) hAV (by rw[zrep_length];simp only[List.length_append,List.length_cons,List.length_nil] at hy⊢;omega)
   rw[List.append_assoc,List.append_assoc] at hs2
   have hl2:(i+1)*2+(j-(i+1))*2≤(ecells A++(V++y)).length:=by simp only[List.length_append] at hy hlen⊢;omega
   refine Ct.intro Tryz.func114 rfl Tryz.ntmps114 (nle rfl) fun w0=> ?_;dsimp only[argSlots,Nat.reduceAdd]
   repeat(first|(refine st ?_;intros)|refine G.draw [] (h:= ?_))
   (refine Dn.post (Hr:=[[(b,row (ecells A++(V++(zrep (j-(i+1)) [.int .i64 0,.int .i64 0]++z))) 119)]]) Tryz.results114 (hR:= ?_);refine⟨some ⟨b,0,none⟩,cap,_,rfl,?_,rfl⟩)
   refine Vec.mk' (rest:=zrep (j-(i+1)) [.int .i64 0,.int .i64 0]++z) (by simp) (by simp only[List.append_nil,List.length_append];omega) ?_ (by omega) hcm
   simp only[List.length_append] at hlen hy hz⊢
   omega
 ·have hB1:0<B.length:=List.length_pos_iff.2 hB
  have hBn:B.length=n-j:=by omega
  have e2:((i:Int)+((1:Nat):Int)+((n-j:Nat):Int)).toNat=i+1+(n-j):=by omega
  have e3:((i:Int)+((1:Nat):Int)).toNat=i+1:=by omega
  have e4:Nat.min 1 (i+1+(n-j)-i)=1:=Nat.min_eq_left (by omega)
  have e5:Nat.min (n-j) (i+1+(n-j)-(i+1))=n-j:=Nat.min_eq_left (by omega)
  have e6:(ecells B).length=(n-j)*2:=by omega
  have hAV:(ecells A++V).length=(i+1)*2:=by simp only[List.length_append];omega
  have hyB:y=X.drop 2++(ecells B++rest):=by
   rw[hyd,hee,List.drop_append_of_le_length (by omega)]
  have hX1:(ecells A++(V++X.drop 2)).length=j*2:=by simp only[List.length_append,List.length_drop];omega
  have hd:((ecells A++(V++y)).drop (j*2)).take ((n-j)*2)=ecells B:=by
   have:=take_at (a:=ecells A++(V++X.drop 2)) (c:=ecells B) (r:=rest) hX1 e6
   rw[hyB]
   simpa only[List.append_assoc] using this
  obtain⟨z,hs2,hz,_⟩:=setL_ex (vs:=ecells B) (c:=y) hAV (by rw[hyB];simp only[List.length_append];omega)
  rw[List.append_assoc,List.append_assoc] at hs2
  have hl2:(i+1)*2+(n-j)*2≤(ecells A++(V++y)).length:=by rw[hyB];simp only[List.length_append,List.length_drop] at hlen⊢;omega
  have hn1:i+1+B.length=i+1+(n-j):=by omega
  have hcl:cap*2≤(ecells A++(V++(ecells B++z))).length:=by
   simp only[List.length_append] at hlen hy hz⊢;omega
  rw[hn1]
  by_cases hj2:j=i+1
  ·refine Ct.intro Tryz.func114 rfl Tryz.ntmps114 (nle rfl) fun w0=> ?_;dsimp only[argSlots,Nat.reduceAdd]
   repeat(first|(refine st ?_;intros)|refine G.draw [] (h:= ?_))
   (refine Dn.post (Hr:=[[(b,row (ecells A++(V++(ecells B++z))) 119)]]) Tryz.results114 (hR:= ?_);refine⟨some ⟨b,0,none⟩,cap,_,rfl,?_,rfl⟩)
   exact Vec.mk' (rest:=z) (by simp) (by simp only[List.length_append];omega) hcl (by omega) hcm
  ·have hABV:(ecells A++(V++ecells B)).length=(i+1+(n-j))*2:=by simp only[List.length_append];omega
   obtain⟨u,hs3,hu,_⟩:=setL_ex (vs:=zrep (n-(i+1+(n-j))) [.int .i64 0,.int .i64 0]) (c:=z) hABV (by rw[zrep_length];simp only[List.length_append,List.length_cons,List.length_nil] at hy hz⊢;omega)
   simp only[List.append_assoc] at hs3
   have hl3:(i+1+(n-j))*2+(n-(i+1+(n-j)))*2≤(ecells A++(V++(ecells B++z))).length:=by omega
   refine Ct.intro Tryz.func114 rfl Tryz.ntmps114 (nle rfl) fun w0=> ?_;dsimp only[argSlots,Nat.reduceAdd]
   repeat(first|(refine st ?_;intros)|refine G.draw [] (h:= ?_))
   (refine Dn.post (Hr:=[[(b,row (ecells A++(V++(ecells B++(zrep (n-(i+1+(n-j))) [.int .i64 0,.int .i64 0]++u)))) 119)]]) Tryz.results114 (hR:= ?_);refine⟨some ⟨b,0,none⟩,cap,_,rfl,?_,rfl⟩)
   refine Vec.mk' (rest:=zrep (n-(i+1+(n-j))) [.int .i64 0,.int .i64 0]++u) (by simp) (by simp only[List.length_append];omega) ?_ (by omega) hcm
   simp only[List.length_append] at hcl hu⊢
   omega
theorem overlaps_no {w:World} {w0:World} {S:List Nat} {H:Hp} (hst:St w0 S w H) {ba oa la ca bb ob lb cb:Nat} {csa csb:List Value} {tA tB:TypeId} (ha:Has ba (row csa tA) H) (hb:Has bb (row csb tB) H) (hne:ba≠bb) (hlen:csb.length≠0):
  (callFunc 135 #[.slice (some ⟨ba,oa,none⟩) la ca,.slice (some ⟨bb,ob,none⟩) lb cb]).run Tryz.prog w= .ok (.value (.bool false)) w:=by
 rw[run_callFunc_extern Tryz.func135 (by kernel_rfl) (by kernel_rfl) (by kernel_rfl) (e:=Extern.SlicesOverlaps.overlaps #[120,120] #[4]) (by kernel_rfl),
  run_overlaps (SliceT.und (P:=Tryz.prog) (T:=120)) (fun w=>SliceT.size (P:=Tryz.prog) (T:=120) w) hne (ha.st hst) (hb.st hst) hlen]
 rfl
theorem Ins_ct (p:Option Addr) (cap:Nat) (A B:List Ext) (e:Ext) (c:Chunk) (i n:Nat) (hi:A.length=i) (hn:n=i+B.length) (hm:n≤1000000) (bv cv:Nat) (restv:List Value) (hV:Vec 119 2 p n cap (ecells (A++B)) c):
  Ct Tryz.prog 134 [.slice p n cap,.int .i64 (i:Int),.slice (some ⟨bv,0,none⟩) 1 cv] [c,[(bv,row (ecells [e]++restv) 119)]] fun v H'=>
   ∃p' cap' c',v= .slice p' (i+1+B.length) cap'∧Vec 119 2 p' (i+1+B.length) cap' (ecells (A++[e]++B)) c'∧H'=[c']:=by
 have hVV:=hV
 have hee:(ecells [e]).length=2:=rfl
 have hA2:(ecells A).length=i*2:=by rw[ecells_length,hi]
 have hB2:(ecells B).length=B.length*2:=ecells_length B
 have hae:=ecells_all [e]
 have hall:=ecells_all B
 have hd0:((ecells [e]++restv).drop 0).take (1*2)=ecells [e]:=take_at0 (by omega)
 have hv2:(ecells [e]).length=1*2:=by omega
 have hb1:n≤cap:=by
  obtain⟨_,h|⟨b,rest,_,_,_,h,_⟩⟩:=hV
  ·omega
  ·exact h
 by_cases hB:B=[]
 ·subst hB
  simp only[List.length_nil,Nat.add_zero,List.append_nil] at hn⊢
  obtain rfl:=hn.symm
  rw[List.append_nil] at hV hVV
  rw[ecells_app]
  have hlc:(i:Int)≤(i:Int):=Int.le_refl _
  refine Ct.intro Tryz.func134 rfl Tryz.ntmps134 (nle rfl) fun w0=> ?_;dsimp only[argSlots,Nat.reduceAdd]
  repeat(first|(refine st ?_;intros)|refine G.draw [] (h:= ?_))
  rename_i p' cap' c' hV'
  (refine Dn.post (Hr:=[c']) Tryz.results134 (hR:= ?_);exact⟨p',cap',c',rfl,hV',rfl⟩)
 ·have hB1:0<B.length:=List.length_pos_iff.2 hB
  obtain⟨hxl,hV⟩:=hV
  rcases hV with⟨_,h0,_⟩|⟨b,rest,rfl,rfl,hrl,hmc,hcm⟩
  ·omega
  clear hVV
  simp only[ecells_app,List.append_assoc] at hxl hrl⊢
  have hlen:cap*2≤(ecells A++(ecells B++rest)).length:=by simp only[List.length_append] at hrl⊢;omega
  have hcm':=hcm
  simp only[maxLen] at hcm'
  generalize hVe:ecells [e]=V at*
  have e5:(ecells B).length=(n-i)*2:=by omega
  have hd:((ecells A++(ecells B++rest)).drop (i*2)).take ((n-i)*2)=ecells B:=take_at hA2 e5
  have hn1:i+1+B.length=n+1:=by omega
  rw[hn1]
  have hAV:(ecells A++V).length=(i+1)*2:=by simp only[List.length_append];omega
  have e6:((i:Int)+((1:Nat):Int)).toNat=i+1:=by omega
  by_cases hroom:n+1≤cap
  ·have e7:((n:Int)+((1:Nat):Int)).toNat=n+1:=by omega
   have e8:Nat.min (n+1-i) (n+1-(i+1))=n-i:=by rw[show n+1-(i+1)=n-i by omega];exact Nat.min_eq_right (by omega)
   have e9:Nat.min 1 (n+1-i)=1:=Nat.min_eq_left (by omega)
   have hc1:((ecells A++(ecells B++rest)).take ((i+1)*2)).length=(i+1)*2:=by rw[List.length_take];omega
   obtain⟨y,hs1,hy,_⟩:=setL_ex (vs:=ecells B) (c:=(ecells A++(ecells B++rest)).drop ((i+1)*2)) hc1 (by rw[List.length_drop];omega)
   rw[List.take_append_drop] at hs1
   have hs1':(ecells A++(ecells B++rest)).take ((i+1)*2)=ecells A++(ecells B++rest).take 2:=by
    rw[List.take_append,hA2,List.take_of_length_le (by omega)]
    congr 2;omega
   rw[hs1',List.append_assoc] at hs1
   have hl1:(i+1)*2+(n-i)*2≤(ecells A++(ecells B++rest)).length:=by omega
   have ht2:((ecells B++rest).take 2).length=2:=by rw[List.length_take,List.length_append];omega
   have hyl:cap*2≤(ecells A++((ecells B++rest).take 2++(ecells B++y))).length:=by
    simp only[List.length_append,List.length_drop] at hy hlen⊢;omega
   obtain⟨z,hs2,hz,hzd⟩:=setL_ex (vs:=V) (c:=(ecells B++rest).take 2++(ecells B++y)) hA2 (by simp only[List.length_append];omega)
   have hzd':z=ecells B++y:=by
    rw[hzd,hee,List.drop_append_of_le_length (by omega),List.drop_of_length_le (by omega),List.nil_append]
   subst hzd'
   have hl2:i*2+1*2≤(ecells A++((ecells B++rest).take 2++(ecells B++y))).length:=by omega
   have hdB:((ecells A++(ecells B++rest)).drop (i*2)).take ((n-i)*2)=ecells B:=hd
   refine Ct.intro Tryz.func134 rfl Tryz.ntmps134 (nle rfl) fun w0=> ?_;dsimp only[argSlots,Nat.reduceAdd]
   repeat(first|(refine st ?_;intros)|refine G.draw [] (h:= ?_))
   apply R1.nodup
   ·exact rfl
   intro hnd
   have hne:bv≠b:=by
    intro h;subst h
    simp[keys] at hnd
   apply R.callE
   ·exact rfl
   ·intro _ _ w hst
    exact overlaps_no (hst) (csa:=V++restv) (csb:=ecells A++(ecells B++rest)) (by repeat(first|exact Has.here|apply Has.there)) (by repeat(first|exact Has.here|apply Has.there)) hne (by omega)
   ·exact rfl
   ·exact nle rfl
   repeat(first|(refine st ?_;intros)|refine G.draw [] (h:= ?_))
   (refine Dn.post (Hr:=[[(b,row (ecells A++(V++(ecells B++y))) 119)]]) Tryz.results134 (hR:= ?_);refine⟨some ⟨b,0,none⟩,cap,_,rfl,?_,rfl⟩)
   refine Vec.mk' (rest:=y) (by simp) (by simp only[List.length_append];omega) ?_ (by omega) hcm
   simp only[List.length_append] at hyl⊢
   omega
  ·have e7:(n:Int)+((1:Nat):Int)-(i:Int)=((n+1-i:Nat):Int):=by omega
   have e8:Nat.min (n-i) (i+(n+1-i)-(i+1))=n-i:=Nat.min_eq_left (by omega)
   have e9:Nat.min 1 (i+(n+1-i)-i)=1:=Nat.min_eq_left (by omega)
   have e10:(ecells A++(ecells B++rest)).take (i*2)=ecells A:=by
    rw[List.take_append_of_le_length (by omega),List.take_of_length_le (by omega)]
   have hzl:(zrep (n+1-i) [Value.int .i64 0,Value.int .i64 0]).length=(n+1-i)*2:=by rw[zrep_length];rfl
   have hl0:i*2≤(ecells A++(ecells B++rest)).length:=by omega
   refine Ct.intro Tryz.func134 rfl Tryz.ntmps134 (nle rfl) fun w0=> ?_;dsimp only[argSlots,Nat.reduceAdd]
   repeat(first|(refine st ?_;intros)|refine G.draw [] (h:= ?_))
   rename_i b' cap' rest' hr1 hr2 hr3
   rw[e10] at hr1⊢
   obtain⟨y,hs1,hy,_⟩:=setL_ex (vs:=V) (c:=zrep (n+1-i) [.int .i64 0,.int .i64 0]++rest') hA2 (by simp only[List.length_append];omega)
   rw[←List.append_assoc] at hs1
   have hl1:i*2+1*2≤(ecells A++zrep (n+1-i) [.int .i64 0,.int .i64 0]++rest').length:=by simp only[List.length_append];omega
   obtain⟨z,hs2,hz,_⟩:=setL_ex (vs:=ecells B) (c:=y) hAV (by simp only[List.length_append] at hy⊢;omega)
   simp only[List.append_assoc] at hs2
   have hl2:(i+1)*2+(n-i)*2≤(ecells A++(V++y)).length:=by simp only[List.length_append] at hy⊢;omega
   repeat(first|(refine st ?_;intros)|refine G.draw [] (h:= ?_))
   (refine Dn.post (Hr:=[[(b',row (ecells A++(V++(ecells B++z))) 119)]]) Tryz.results134 (hR:= ?_);refine⟨some ⟨b',0,none⟩,cap',_,?_,?_,rfl⟩)
   ·show Value.slice (some ⟨b',0,none⟩) (i+(n+1-i)) cap'=_
    rw[show i+(n+1-i)=n+1 by omega]
   refine Vec.mk' (rest:=z) (by simp) (by simp only[List.length_append];omega) ?_ (by omega) hr3
   simp only[List.length_append] at hr1 hy hz⊢
   omega
structure Sp where
 n:Nat
 free:List Ext
def spCells (n:Nat) (p:Option Addr) (m cap:Nat):List Value:=[.int .i64 0,.int .i64 (n:Int),.slice p m cap]
def IsSpace (bs:Nat) (σ:Sp) (c:Chunk):Prop:=
 ∃p cap vc,c=(bs,row (spCells σ.n p σ.free.length cap) 122)::vc∧Vec 119 2 p σ.free.length cap (ecells σ.free) vc∧fok σ.n σ.free∧σ.n≤1000000
theorem fok_len {n:Nat}:∀{l:List Ext} {k:Nat},fok n l→(∀e∈l,k≤e.1)→k≤n→l.length≤n-k
 |[],_,_,_,_=>by simp
 |e::l,k,h,hk,hn=>by
  obtain⟨h1,h2,h3⟩:=fok_cons.1 h
  have:=fok_len (k:=e.1+e.2) h2 (fun y hy=>Nat.le_of_lt (h3 y hy)) h1.2
  have:=hk e List.mem_cons_self
  simp only[List.length_cons]
  omega
theorem end_ct (f b:Nat) (h:f+b≤1000000):CtQ Tryz.prog 113 [.agg #[.int .i64 (f:Int),.int .i64 (b:Int)]] [] (.int .i64 ((f+b:Nat):Int)):=by
 have e:(f:Int)+(b:Int)=((f+b:Nat):Int):=by omega
 have ew:IntKind.wrap .i64 ((f:Int)+(b:Int))=((f+b:Nat):Int):=by rw[e];exact wrap_i64 (by omega)
 refine Ct.intro Tryz.func113 rfl Tryz.ntmps113 (nle rfl) fun w0=> ?_;dsimp only[argSlots,Nat.reduceAdd]
 repeat(refine st ?_;intros)
 (refine Dn.post (Hr:=[]) Tryz.results113 (hR:= ?_);exact⟨rfl,rfl⟩)
theorem inside_ct (bs:Nat) (σ:Sp) (c:Chunk) (h:IsSpace bs σ c) (first n:Nat) (hn:1≤n) (hf:first+n≤σ.n):
  CtQ Tryz.prog 111 [.pointer (some ⟨bs,0,none⟩),.int .i64 (first:Int),.int .i64 (n:Int)] [c] (.bool true):=by
 obtain⟨p,cap,vc,rfl,hV,hfo,hnn⟩:=h
 have hE:=end_ct 0 σ.n (by omega)
 rw[Nat.zero_add] at hE
 refine CtQ.conv (H2:=[[(bs,row (spCells σ.n p σ.free.length cap) 122)],vc]) ?_ (by simp)
 unfold spCells
 refine Ct.intro Tryz.func111 rfl Tryz.ntmps111 (nle rfl) fun w0=> ?_;dsimp only[argSlots,Nat.reduceAdd]
 repeat(first|(refine st ?_;intros)|(refine cq hE ?_))
 (refine Dn.post (Hr:=[[(bs,row [.int .i64 0,.int .i64 (σ.n:Int),.slice p σ.free.length cap] 122)],vc]) Tryz.results111 (hR:= ?_);refine⟨?_,rfl⟩)
 first|rfl|(rw[dec_true (by omega)];rfl)
theorem eget {A B:List Ext} {e:Ext} {rest:List Value} {i:Nat} (hi:A.length=i):(((ecells (A++e::B)++rest).drop (i*2)).take 2=[.int .i64 (e.1:Int),.int .i64 (e.2:Int)])∧
  (ecells (A++e::B)++rest)[i*2]? =some (.int .i64 (e.1:Int))∧(ecells (A++e::B)++rest)[i*2+1]? =some (.int .i64 (e.2:Int)):=by
 have hA:(ecells A).length=i*2:=by rw[ecells_length,hi]
 rw[ecells_app,List.append_assoc]
 refine⟨?_,?_,?_⟩
 ·rw[←hA];simp[ecells]
 ·rw[List.getElem?_append_right (by omega),hA,Nat.sub_self];rfl
 ·rw[List.getElem?_append_right (by omega),hA,show i*2+1-i*2=1 by omega];rfl
theorem split_at {l:List Ext} {i:Nat} (h:i<l.length):∃A e B,l=A++e::B∧A.length=i:=by
 refine⟨l.take i,l[i],l.drop (i+1),?_,by simp;omega⟩
 rw[←List.drop_eq_getElem_cons h,List.take_append_drop]
theorem behindF_ct (bs b1 b2 vb:Nat) (n cap first:Nat) (free:List Ext) (rest:List Value) (hfo:fok n free) (hn:n≤1000000) (k:Nat) (hk:k<free.length) (A B:List Ext) (e:Ext) (hs:free=A++e::B) (hi:A.length=k):
  CtQ Tryz.prog 133 [.int .i64 (k:Int),.pointer (some ⟨b1,0,none⟩),.pointer (some ⟨b2,0,none⟩)]
   [[(bs,row (spCells n (some ⟨vb,0,none⟩) free.length cap) 122)],[(vb,row (ecells free++rest) 119)],[(b1,row [.pointer (some ⟨bs,0,none⟩)] 73)],[(b2,row [.int .i64 (first:Int)] 3)]] (.bool (dec ((first:Int)<((e.1+e.2:Nat):Int)))):=by
 subst hs
 have he:=(fok_app.1 hfo).2.1
 have he2:=(fok_cons.1 he).1
 have hE:=end_ct e.1 e.2 (by omega)
 obtain⟨g1,g2,g3⟩:=eget (rest:=rest) (B:=B) (e:=e) hi
 unfold spCells
 generalize ecells (A++e::B)++rest=cells at*
 refine Ct.intro Tryz.func133 rfl Tryz.ntmps133 (nle rfl) fun w0=> ?_;dsimp only[argSlots,Nat.reduceAdd]
 repeat(first|(refine st ?_;intros)|refine G.draw (id:=1) [(7,.quiet)] (h:= ?_)|(refine cq hE ?_))
 (refine Dn.post (Hr:=[[(bs,row [.int .i64 0,.int .i64 (n:Int),.slice (some ⟨vb,0,none⟩) (A++e::B).length cap] 122)],[(vb,row cells 119)],[(b1,row [.pointer (some ⟨bs,0,none⟩)] 73)],[(b2,row [.int .i64 (first:Int)] 3)]]) Tryz.results133 (hR:= ?_);exact⟨rfl,rfl⟩)
theorem Search_ct (bs b1 b2:Nat) (n cap first:Nat) (p:Option Addr) (vc:Chunk) (A B:List Ext) (hfo:fok n (A++B)) (hn:n≤1000000) (hV:Vec 119 2 p (A++B).length cap (ecells (A++B)) vc) (m:Nat) (hm:m=(A++B).length) (hA:∀e∈A,e.1+e.2≤first) (hB:∀e∈B,first<e.1+e.2):
  CtQ Tryz.prog 132 [.int .i64 (m:Int),.func (.func 133) #[] #[.pointer (some ⟨b1,0,none⟩),.pointer (some ⟨b2,0,none⟩)]]
   [[(bs,row (spCells n p (A++B).length cap) 122)],vc,[(b1,row [.pointer (some ⟨bs,0,none⟩)] 73)],[(b2,row [.int .i64 (first:Int)] 3)]] (.int .i64 (A.length:Int)):=by
 have hlen:=fok_len hfo (k:=0) (by omega) (by omega)
 have hml:m≤1000000:=by omega
 subst hm
 refine Ct.intro Tryz.func132 rfl Tryz.ntmps132 (nle rfl) fun w0=> ?_;dsimp only[argSlots,Nat.reduceAdd]
 repeat(first|(refine st ?_;intros)|(refine cq hF ?_))
 refine G.loop (X:=Nat×Nat) (fun x=>x.1≤A.length∧A.length≤x.2∧x.2≤(A++B).length) (fun x=>[(6,.int .i64 (x.2:Int)),(5,.int .i64 (x.1:Int)),(1,.func (.func 133) #[] #[.pointer (some ⟨b1,0,none⟩),.pointer (some ⟨b2,0,none⟩)])])
  (fun _=>[[(bs,row (spCells n p (A++B).length cap) 122)],vc,[(b1,row [.pointer (some ⟨bs,0,none⟩)] 73)],[(b2,row [.int .i64 (first:Int)] 3)]]) (fun x=>x.2-x.1) (0,(A++B).length) ⟨Nat.zero_le _,by simp,Nat.le_refl _⟩ (body:= ?_)
 rintro⟨i,j⟩ ⟨hi,hj,hjm⟩
 dsimp only at hi hj hjm⊢
 by_cases hij:i<j
 ·have hsh:((i:Int)+(j:Int)).fdiv (2^min (Int.toNat 1) IntKind.u64.bits)=(((i+j)/2:Nat):Int):=by
   have e0:(2:Int)^min (Int.toNat 1) IntKind.u64.bits=2:=by decide
   rw[e0,Int.fdiv_eq_ediv_of_nonneg _ (by decide)]
   omega
  generalize hh:(i+j)/2=h at hsh
  have hh1:i≤h∧h<j:=by omega
  obtain⟨A',e,B',hs,hA'⟩:=split_at (l:=A++B) (i:=h) (by omega)
  obtain⟨_,h0|⟨vb,rest,hp,hvc,_⟩⟩:=hV
  ·omega
  have hF:=behindF_ct bs b1 b2 vb n cap first (A++B) rest hfo hn h (by omega) A' B' e hs hA'
  rw[←hp,←hvc] at hF
  by_cases hlt:h<A.length
  ·have hm:e∈A:=by
    have h1:(A++B)[h]? =some e:=by rw[hs,List.getElem?_append_right (by omega)];simp[hA']
    rw[List.getElem?_append_left hlt] at h1
    exact List.mem_of_getElem? h1
   have hle:=hA e hm
   repeat(first|(refine st ?_;intros)|(refine cq hF ?_))
   exact Dn.round (h+1,j) ⟨by omega,by omega,by omega⟩ (by dsimp only;omega)
  ·have hm:e∈B:=by
    have h1:(A++B)[h]? =some e:=by rw[hs,List.getElem?_append_right (by omega)];simp[hA']
    rw[List.getElem?_append_right (by omega)] at h1
    exact List.mem_of_getElem? h1
   have hle:=hB e hm
   repeat(first|(refine st ?_;intros)|(refine cq hF ?_))
   exact Dn.round (i,h) ⟨by omega,by omega,by omega⟩ (by dsimp only;omega)
 ·obtain rfl:i=A.length:=by omega
  repeat(first|(refine st ?_;intros)|(refine cq hF ?_))
  (refine Dn.post (Hr:=[[(bs,row (spCells n p (A++B).length cap) 122)],vc,[(b1,row [.pointer (some ⟨bs,0,none⟩)] 73)],[(b2,row [.int .i64 (first:Int)] 3)]]) Tryz.results132 (hR:= ?_);exact⟨rfl,rfl⟩)
theorem behind_ct (bs:Nat) (n cap first:Nat) (p:Option Addr) (vc:Chunk) (A B:List Ext) (hfo:fok n (A++B)) (hn:n≤1000000) (hV:Vec 119 2 p (A++B).length cap (ecells (A++B)) vc) (hA:∀e∈A,e.1+e.2≤first) (hB:∀e∈B,first<e.1+e.2):
  CtQ Tryz.prog 112 [.pointer (some ⟨bs,0,none⟩),.int .i64 (first:Int)] [[(bs,row (spCells n p (A++B).length cap) 122)],vc] (.int .i64 (A.length:Int)):=by
 have hS:=fun b1 b2=>Search_ct bs b1 b2 n cap first p vc A B hfo hn hV (A++B).length rfl hA hB
 unfold spCells at hS⊢
 refine Ct.intro Tryz.func112 rfl Tryz.ntmps112 (nle rfl) fun w0=> ?_;dsimp only[argSlots,Nat.reduceAdd]
 repeat(first|(refine st ?_;intros)|(refine cq hS ?_))
 (refine Dn.post (Hr:=[[(bs,row [.int .i64 0,.int .i64 (n:Int),.slice p (A++B).length cap] 122)],vc]) Tryz.results112 (hR:= ?_);exact⟨rfl,rfl⟩)
theorem RepAny_ct (p:Option Addr) (cap:Nat) (A B Xs:List Ext) (e:Ext) (c:Chunk) (i n:Nat) (ii jj x1 x2:Int) (hi:A.length=i) (hii:ii=(i:Int)) (hjj:jj=((i+Xs.length:Nat):Int)) (hx:Xs.length≤2) (hn:n=i+Xs.length+B.length) (hm:n≤1000000) (bv cv:Nat) (restv:List Value)
  (h1:x1=(e.1:Int)) (h2:x2=(e.2:Int)) (hV:Vec 119 2 p n cap (ecells (A++Xs++B)) c):
  Ct Tryz.prog 114 [.slice p n cap,.int .i64 ii,.int .i64 jj,.slice (some ⟨bv,0,none⟩) 1 cv] [c,[(bv,row ([.int .i64 x1,.int .i64 x2]++restv) 119)]] fun v H'=>
   ∃p' cap' c',v= .slice p' (i+1+B.length) cap'∧Vec 119 2 p' (i+1+B.length) cap' (ecells (A++[e]++B)) c'∧H'=[c']:=by
 subst h1 h2
 by_cases hX:Xs=[]
 ·subst hX
  simp only[List.length_nil,Nat.add_zero,List.append_nil] at hjj hn hV
  subst hii hjj
  have hI:=Ins_ct p cap A B e c i n hi hn hm bv cv restv hV
  have hb1:n≤cap:=by
   obtain⟨_,h|⟨b,rest,_,_,_,h,_⟩⟩:=hV
   ·omega
   ·exact h
  refine Ct.intro Tryz.func114 rfl Tryz.ntmps114 (nle rfl) fun w0=> ?_;dsimp only[argSlots,Nat.reduceAdd]
  repeat(first|(refine st ?_;intros)|refine G.draw [] (h:= ?_))
  refine R.call (hct:=hI) (h:= ?_)
  rintro _ _ ⟨p',cap',c',rfl,hV',rfl⟩
  try dsimp only[List.cons_append,List.nil_append]
  repeat(first|(refine st ?_;intros)|refine G.draw [] (h:= ?_))
  (refine Dn.post (Hr:=[c']) Tryz.results114 (hR:= ?_);exact⟨p',cap',c',rfl,hV',rfl⟩)
 ·have hX1:1≤Xs.length:=List.length_pos_iff.2 hX
  subst hii
  exact RepY_ct p cap A B Xs e c i (i+Xs.length) n hi rfl hX1 hx hn hm bv cv restv jj hjj hV
theorem Hold_ct (bs:Nat) (n cap:Nat) (p:Option Addr) (vc:Chunk) (A B:List Ext) (e:Ext) (hfo:fok n (A++e::B)) (hn:n≤1000000) (hV:Vec 119 2 p (A++e::B).length cap (ecells (A++e::B)) vc) (m:Nat) (hm1:1≤m) (hm2:m≤e.2):
  Ct Tryz.prog 107 [.pointer (some ⟨bs,0,none⟩),.int .i64 (e.1:Int),.int .i64 (m:Int)] [[(bs,row (spCells n p (A++e::B).length cap) 122)],vc] fun v H'=>
   v= .int .i64 0∧∃p' cap' vc' free',H'=[[(bs,row (spCells n p' free'.length cap') 122)],vc']∧Vec 119 2 p' free'.length cap' (ecells free') vc'∧free'=A++((if m<e.2 then[(e.1+m,e.2-m)] else[])++B):=by
 have hlen:=fok_len hfo (k:=0) (by omega) (by omega)
 obtain⟨hfA,hfB,hAB⟩:=fok_app.1 hfo
 obtain⟨he1,hfB2,heB⟩:=fok_cons.1 hfB
 have hI:=inside_ct bs ⟨n,A++e::B⟩ _ ⟨p,cap,vc,rfl,hV,hfo,hn⟩ e.1 m hm1 (by dsimp only;omega)
 have hI':CtQ Tryz.prog 111 [.pointer (some ⟨bs,0,none⟩),.int .i64 (e.1:Int),.int .i64 (m:Int)] [[(bs,row (spCells n p (A++e::B).length cap) 122)],vc] (.bool true):=CtQ.conv hI (by simp)
 clear hI
 have hI:=hI'
 have hBe:=behind_ct bs n cap e.1 p vc A (e::B) hfo hn hV (fun a ha=>Nat.le_of_lt (hAB a ha e List.mem_cons_self)) (by
  intro y hy
  rcases List.mem_cons.1 hy with rfl|hy
  ·omega
  ·have:=heB y hy;omega)
 have hE:=end_ct e.1 e.2 (by omega)
 have hl:(A++e::B).length=A.length+1+B.length:=by simp;omega
 have hVV:=hV
 obtain⟨_,h0|⟨vb,rest,rfl,rfl,hrl,hmc,hcm⟩⟩:=hV
 ·omega
 obtain⟨g1,g2,g3⟩:=eget (rest:=rest) (B:=B) (e:=e) (rfl:A.length=A.length)
 unfold spCells at hI hBe⊢
 rw[hl] at hI hBe hVV⊢
 generalize hcell:ecells (A++e::B)++rest=cells at*
 have hV3:Vec 119 2 (some ⟨vb,0,none⟩) (A.length+1+B.length) cap (ecells (A++[e]++B)) [(vb,row cells 119)]:=by
  rw[List.append_assoc];exact hVV
 by_cases hlt:m<e.2
 ·have hR:=fun bv cv restv x1 x2 h1 h2=>RepAny_ct (some ⟨vb,0,none⟩) cap A B [e] (e.1+m,e.2-m) [(vb,row cells 119)] A.length (A.length+1+B.length) (A.length:Int) ((A.length:Int)+1) x1 x2 rfl rfl (by simp) (by simp) (by simp) (by omega) bv cv restv h1 h2 hV3
  have hN:=Vec.nil 119 2
  refine Ct.intro Tryz.func107 rfl Tryz.ntmps107 (nle rfl) fun w0=> ?_;dsimp only[argSlots,Nat.reduceAdd]
  repeat(first|(refine st ?_;intros)|(refine cq hI ?_)|(refine cq hBe ?_)|(refine cq hE ?_))
  rename_i p' cap' c' hV'
  have hV2:Vec 119 2 p' 1 cap' [.int .i64 ((e.1:Int)+(m:Int)),.int .i64 (((e.1+e.2:Nat):Int)-(e.1:Int)-(m:Int))] c':=hV'
  clear hV'
  obtain⟨_,h0|⟨bv,restv,rfl,rfl,hrlv,hmcv,hcmv⟩⟩:=hV2
  ·omega
  repeat(first|(refine st ?_;intros)|(refine cq hI ?_)|(refine cq hBe ?_)|(refine cq hE ?_))
  refine R.call (hct:=hR bv cap' restv ((e.1:Int)+(m:Int)) (((e.1+e.2:Nat):Int)-(e.1:Int)-(m:Int)) (by dsimp only;omega) (by dsimp only;omega)) (h:= ?_)
  rintro _ _ ⟨p2,cap2,c2,rfl,hV2,rfl⟩
  try dsimp only[List.cons_append,List.nil_append]
  repeat(first|(refine st ?_;intros)|(refine cq hI ?_)|(refine cq hBe ?_)|(refine cq hE ?_))
  (refine Dn.post (Hr:=[[(bs,row [.int .i64 0,.int .i64 (n:Int),.slice p2 (A.length+1+B.length) cap2] 122)],c2]) Tryz.results107 (hR:= ?_);refine⟨rfl,p2,cap2,c2,A++[(e.1+m,e.2-m)]++B,?_,?_,?_⟩)
  ·rw[show(A++[(e.1+m,e.2-m)]++B).length=A.length+1+B.length by simp;omega]
  ·rw[show(A++[(e.1+m,e.2-m)]++B).length=A.length+1+B.length by simp;omega];exact hV2
  ·simp[hlt]
 ·have hR:=RepZ_ct (some ⟨vb,0,none⟩) cap A B e [(vb,row cells 119)] A.length (A.length+1+B.length) rfl rfl (by omega) hV3
  refine Ct.intro Tryz.func107 rfl Tryz.ntmps107 (nle rfl) fun w0=> ?_;dsimp only[argSlots,Nat.reduceAdd]
  repeat(first|(refine st ?_;intros)|(refine cq hI ?_)|(refine cq hBe ?_)|(refine cq hE ?_))
  refine R.call (hct:=hR) (h:= ?_)
  rintro _ _ ⟨p2,cap2,c2,rfl,hV2,rfl⟩
  try dsimp only[List.cons_append,List.nil_append]
  repeat(first|(refine st ?_;intros)|(refine cq hI ?_)|(refine cq hBe ?_)|(refine cq hE ?_))
  (refine Dn.post (Hr:=[[(bs,row [.int .i64 0,.int .i64 (n:Int),.slice p2 (A.length+B.length) cap2] 122)],c2]) Tryz.results107 (hR:= ?_);refine⟨rfl,p2,cap2,c2,A++B,?_,?_,?_⟩)
  ·rw[List.length_append]
  ·rw[List.length_append];exact hV2
  ·simp[hlt]
theorem fok_held {n:Nat} {A B:List Ext} {e:Ext} {m:Nat} (h:fok n (A++e::B)) (h1:1≤m) (h2:m≤e.2):fok n (A++((if m<e.2 then[(e.1+m,e.2-m)] else[])++B)):=by
 obtain⟨hA,hB,hAB⟩:=fok_app.1 h
 obtain⟨he,hB2,heB⟩:=fok_cons.1 hB
 split
 ·refine fok_app.2 ⟨hA,fok_cons.2 ⟨⟨by dsimp only;omega,by dsimp only;omega⟩,hB2,fun y hy=> ?_⟩,fun x hx y hy=> ?_⟩
  ·have:=heB y hy;dsimp only;omega
  ·rcases List.mem_cons.1 hy with rfl|hy
   ·have:=hAB x hx e List.mem_cons_self;dsimp only;omega
   ·exact hAB x hx y (List.mem_cons_of_mem _ hy)
 ·rw[List.nil_append]
  exact fok_app.2 ⟨hA,hB2,fun x hx y hy=>hAB x hx y (List.mem_cons_of_mem _ hy)⟩
theorem inF_held {A B:List Ext} {e:Ext} {n m:Nat} (h:fok n (A++e::B)) (h1:1≤m) (h2:m≤e.2) (x:Nat):
  inF (A++((if m<e.2 then[(e.1+m,e.2-m)] else[])++B)) x↔inF (A++e::B) x∧¬(e.1≤x∧x<e.1+m):=by
 obtain⟨hA,hB,hAB⟩:=fok_app.1 h
 obtain⟨he,hB2,heB⟩:=fok_cons.1 hB
 have key1:inF A x→x<e.1:=by
  rintro⟨y,hy,h3,h4⟩
  have:=hAB y hy e List.mem_cons_self
  omega
 have key2:inF B x→e.1+e.2<x:=by
  rintro⟨y,hy,h3,h4⟩
  have:=heB y hy
  omega
 by_cases hlt:m<e.2
 ·simp only[hlt,if_true,inF_app,inF_cons,inF_nil,or_false]
  constructor
  ·rintro(h|h|h)
   ·have:=key1 h;exact⟨.inl h,by omega⟩
   ·exact⟨.inr (.inl (by omega)),by omega⟩
   ·have:=key2 h;exact⟨.inr (.inr h),by omega⟩
  ·rintro⟨h|h|h,h5⟩
   ·exact .inl h
   ·exact .inr (.inl (by omega))
   ·exact .inr (.inr h)
 ·simp only[hlt,if_false,List.nil_append,inF_app,inF_cons]
  constructor
  ·rintro(h|h)
   ·have:=key1 h;exact⟨.inl h,by omega⟩
   ·have:=key2 h;exact⟨.inr (.inr h),by omega⟩
  ·rintro⟨h|h|h,h5⟩
   ·exact .inl h
   ·omega
   ·exact .inr h
theorem total_held {A B:List Ext} {e:Ext} {m:Nat} (h2:m≤e.2):total (A++((if m<e.2 then[(e.1+m,e.2-m)] else[])++B))+m=total (A++e::B):=by
 split<;>simp<;>omega
theorem big_held {A B:List Ext} {e:Ext} {m:Nat}:big (A++e::B)≤big (A++((if m<e.2 then[(e.1+m,e.2-m)] else[])++B))+m:=by
 split<;>simp only[big_app,big,List.nil_append]<;>omega
theorem Take_ok (bs:Nat) (σ:Sp) (c:Chunk) (h:IsSpace bs σ c) (m:Nat) (hm:1≤m) (hb:m≤big σ.free):
  Ct Tryz.prog 80 [.pointer (some ⟨bs,0,none⟩),.int .i64 (m:Int)] [c] fun v H'=>
   ∃(f:Nat) (c':Chunk) (σ':Sp),v= .tuple #[.int .i64 (f:Int),.int .i64 0]∧IsSpace bs σ' c'∧σ'.n=σ.n∧(∀x,f≤x→x<f+m→inF σ.free x)∧f+m≤σ.n∧
    (∀x,inF σ'.free x↔inF σ.free x∧¬(f≤x∧x<f+m))∧total σ'.free+m=total σ.free∧big σ.free≤big σ'.free+m∧H'=[c']:=by
 obtain⟨n,free⟩:=σ
 dsimp only at hb
 rcases first_fit m free with hno|⟨A,e,B,rfl,hme,hA⟩
 ·exfalso
  obtain⟨e,he,h2⟩:=big_mem (l:=free) (by omega)
  have:=hno e he
  omega
 obtain⟨p,cap,vc,rfl,hV,hfo,hn⟩:=h
 dsimp only at hV hfo hn
 have hH:=Hold_ct bs n cap p vc A B e hfo hn hV m hm hme
 refine Ct.conv (H2:=[[(bs,row (spCells n p (A++e::B).length cap) 122)],vc]) (R2:=fun v H'=>v= .tuple #[.int .i64 (e.1:Int),.int .i64 0]∧∃p' cap' vc' free',H'=[[(bs,row (spCells n p' free'.length cap') 122)],vc']∧
  Vec 119 2 p' free'.length cap' (ecells free') vc'∧free'=A++((if m<e.2 then[(e.1+m,e.2-m)] else[])++B)) ?_ (by simp) ?_
 ·have hlen:=fok_len hfo (k:=0) (by omega) (by omega)
  have hl:(A++e::B).length=A.length+1+B.length:=by simp;omega
  have hfb:=hfo.1
  obtain⟨_,h0|⟨vb,rest,rfl,rfl,hrl,hmc,hcm⟩⟩:=hV
  ·omega
  generalize hfr:A++e::B=free at*
  unfold spCells at hH⊢
  generalize hcl:ecells free++rest=cells at*
  refine Ct.intro Tryz.func80 rfl Tryz.ntmps80 (nle rfl) fun w0=> ?_;dsimp only[argSlots,Nat.reduceAdd]
  repeat(first|(refine st ?_;intros)|refine G.draw (id:=9) [(6,.eff [1])] (h:= ?_))
  refine G.loop (X:=Nat) (fun i=>i≤A.length) (fun i=>[(17,.int .i64 (i:Int)),(16,.int .i64 (free.length:Int)),(15,.slice (some ⟨vb,0,none⟩) free.length cap),(0,.pointer (some ⟨bs,0,none⟩)),(1,.int .i64 (m:Int))])
   (fun _=>[[(bs,row [.int .i64 0,.int .i64 (n:Int),.slice (some ⟨vb,0,none⟩) free.length cap] 122)],[(vb,row cells 119)]]) (fun i=>A.length-i) 0 (by omega) (body:= ?_)
  intro i hi
  obtain⟨A',x,B',hs,hA'⟩:=split_at (l:=free) (i:=i) (by omega)
  obtain⟨g1,g2,g3⟩:=eget (rest:=rest) (B:=B') (e:=x) hA'
  rw[←hs,hcl] at g1 g2 g3
  have hx1:free[i]? =some x:=by rw[hs,List.getElem?_append_right (by omega)];simp[hA']
  have hxn:=hfb x (List.mem_of_getElem? hx1)
  by_cases hiA:i<A.length
  ·have hxm:x.2<m:=by
    rw[←hfr,List.getElem?_append_left hiA] at hx1
    exact hA x (List.mem_of_getElem? hx1)
   repeat(first|(refine st ?_;intros)|refine G.draw (id:=9) [(6,.eff [1])] (h:= ?_))
   exact Dn.round (i+1) (by omega) (by omega)
  ·obtain rfl:i=A.length:=by omega
   have hxe:x=e:=by
    rw[←hfr] at hx1
    simpa using hx1.symm
   subst hxe
   repeat(first|(refine st ?_;intros)|refine G.draw (id:=9) [(6,.eff [1])] (h:= ?_))
   refine R.callX (hct:=hH) (h:= ?_)
   rintro _ _ ⟨rfl,p',cap',vc',free',rfl,hV',hf'⟩
   try dsimp only[List.cons_append,List.nil_append]
   constructor
   ·(·(first|(intro _ _ h;cases h;done)|(repeat(first|exact qok_nil|(apply qok_cons;(·first|(intro hc;exact absurd hc (nmem rfl))|(intro _;apply CellPr.mk;(·repeat(first|exact Has.here|apply Has.there));(first|exact rfl|assumption))|(intro _;apply CellsPr.mk;(·repeat(first|exact Has.here|apply Has.there));(first|exact rfl|assumption))))))))
   repeat(first|(refine st ?_;intros)|refine G.draw (id:=9) [(6,.eff [1])] (h:= ?_))
   (refine Dn.post (Hr:=[[(bs,row [.int .i64 0,.int .i64 (n:Int),.slice p' free'.length cap'] 122)],vc']) Tryz.results80 (hR:= ?_);exact⟨rfl,p',cap',vc',free',rfl,hV',hf'⟩)
 ·rintro v H' ⟨rfl,p',cap',vc',free',rfl,hV',hf'⟩
  refine⟨_,⟨e.1,_,⟨n,free'⟩,rfl,⟨p',cap',vc',rfl,hV',?_,hn⟩,rfl,?_,?_,?_,?_,?_,rfl⟩,by simp⟩
  ·rw[hf'];exact fok_held hfo hm hme
  ·intro x h1 h2
   dsimp only
   rw[inF_app,inF_cons]
   exact .inr (.inl (by omega))
  ·have:=hfo.1 e (by simp);dsimp only;omega
  ·intro x;rw[hf'];exact inF_held hfo hm hme x
  ·rw[hf'];exact total_held hme
  ·rw[hf'];exact big_held
theorem Take_full (bs:Nat) (σ:Sp) (c:Chunk) (h:IsSpace bs σ c) (m:Nat) (hm:1≤m) (hb:big σ.free<m) (hmm:m≤1000000000):
  CtQ Tryz.prog 80 [.pointer (some ⟨bs,0,none⟩),.int .i64 (m:Int)] [c] (.tuple #[.int .i64 0,.int .i64 5]):=by
 obtain⟨n,free⟩:=σ
 dsimp only at hb
 obtain⟨p,cap,vc,rfl,hV,hfo,hn⟩:=h
 dsimp only at hV hfo hn
 have hlen:=fok_len hfo (k:=0) (by omega) (by omega)
 refine CtQ.conv (H2:=[[(bs,row (spCells n p free.length cap) 122)],vc]) ?_ (by simp)
 unfold spCells
 refine Ct.intro Tryz.func80 rfl Tryz.ntmps80 (nle rfl) fun w0=> ?_;dsimp only[argSlots,Nat.reduceAdd]
 repeat(first|(refine st ?_;intros)|refine G.draw (id:=9) [(6,.eff [1])] (h:= ?_))
 refine G.loop (X:=Nat) (fun i=>i≤free.length) (fun i=>[(17,.int .i64 (i:Int)),(16,.int .i64 (free.length:Int)),(15,.slice p free.length cap),(0,.pointer (some ⟨bs,0,none⟩)),(1,.int .i64 (m:Int))])
  (fun _=>[[(bs,row [.int .i64 0,.int .i64 (n:Int),.slice p free.length cap] 122)],vc]) (fun i=>free.length-i) 0 (by omega) (body:= ?_)
 intro i hi
 by_cases hif:i<free.length
 ·obtain⟨A',x,B',hs,hA'⟩:=split_at (l:=free) (i:=i) (by omega)
  obtain⟨_,h0|⟨vb,rest,hp,hvc,hrl,hmc,hcm⟩⟩:=hV
  ·omega
  obtain⟨g1,g2,g3⟩:=eget (rest:=rest) (B:=B') (e:=x) hA'
  rw[←hs] at g1 g2 g3
  have hx1:free[i]? =some x:=by rw[hs,List.getElem?_append_right (by omega)];simp[hA']
  have hxn:=hfo.1 x (List.mem_of_getElem? hx1)
  have hxm:x.2<m:=by
   have:=le_big (List.mem_of_getElem? hx1)
   omega
  rw[hp,hvc]
  generalize ecells free++rest=cells at*
  repeat(first|(refine st ?_;intros)|refine G.draw (id:=9) [(6,.eff [1])] (h:= ?_))
  exact Dn.round (i+1) (by omega) (by omega)
 ·obtain rfl:i=free.length:=by omega
  repeat(first|(refine st ?_;intros)|refine G.draw (id:=9) [(6,.eff [1])] (h:= ?_))
  (refine Dn.post (Hr:=[[(bs,row [.int .i64 0,.int .i64 (n:Int),.slice p free.length cap] 122)],vc]) Tryz.results80 (hR:= ?_);exact⟨rfl,rfl⟩)
end Go.Proofs.YtjoicjgfgkpdjaaGreat
