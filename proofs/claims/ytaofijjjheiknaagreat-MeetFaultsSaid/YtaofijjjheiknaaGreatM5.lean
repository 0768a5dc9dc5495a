/-
  Parts of the proof, put together (5). No condition.
-/
import Derived.Test.YtaofijjjheiknaaGreatM4
set_option linter.unusedVariables false
set_option linter.unusedSimpArgs false
set_option linter.unnecessarySimpa false
set_option maxHeartbeats 4000000
open Go.IntKind renaming wrap→AJ
open Go.Proofs.Tryz renaming prog→AC
open Int renaming natCast_add→DA
open List renaming cons_append→AA,nil_append→AB,length_append→AF,mem_cons_self→AH,mem_cons_of_mem→AI,getElem?_eq_some_iff→AK,length_cons→AL,mem_cons→AM,mem_append→AO,append_assoc→AP,append_nil→AQ,mem_singleton→AT,length_nil→AV,flatten_cons→AW,take_of_length_le→A4,flatten_nil→A5,flatMap_cons→A8,pairwise_cons→BF,length_take→BN,drop_eq_getElem_cons→BQ,getElem?_map→BU,getElem?_take→BW,replicate→BY,length_drop→CK,take_append_of_le_length→CR,drop_zero→CT,drop_append_of_le_length→CY,set_append_right→D4,take_zero→EL
open List.Perm renaming append_left→BE,append_right→DB
open Nat renaming reduceAdd→AD,le_refl→AG,zero_le→AS,mul_le_mul_right→A7,le_trans→BB,succ_mul→BG,zero_add→BT,div_le_self→CW,div_mul_le_self→DN,sub_self→DP,le_mul_of_pos_left→DW,mod_lt→EH,mul_comm→EK
namespace Go.Proofs.YtaofijjjheiknaaGreat
open Go.SL Go.Spc Go.Tup
def aAw (bw first blocks k count bound bb n at_:Nat) (closed:Bool):List Value:=
 [pv bw,.int .i64 (first:Int),.int .i64 (blocks:Int),.int .i64 (k:Int),.int .i64 (count:Int),.int .i64 (bound:Int),pv bb,.int .i64 (n:Int),.int .i64 (at_:Int),.bool closed]
def bOi (bw bd ba bs:Nat) (W:Wk) (k bound:Nat) (v:Value) (H':Hp):Prop:=
 (aAb W.δ.size k bound≤big W.σ.free∧∃(bx first:Nat) (g:Gr) (cd ca cs:aAc) (W':Wk),v= .tuple #[pv bx,.int .i64 0]∧
  H'=[aAi bw bd ba bs,cd,ca,cs,[(bx,row (aAw bw first (aAb W.δ.size k bound) k 0 bound g.bb 0 0 false) 168)],[(g.br,row (aAg (BY W.δ.size 0)) 174)]]∧
  Wc bd ba bs W' cd ca cs∧Ev W W' 0 (aAb W.δ.size k bound)∧W'.δ=W.δ∧g.n=W.δ.size∧W'.α.gs.Perm (g::W.α.gs)∧
  (if aAb W.δ.size k bound=0 then W'.live=W.live∧W'.σ=W.σ else W'.live=(first,aAb W.δ.size k bound)::W.live))∨
 (big W.σ.free<aAb W.δ.size k bound∧v= .tuple #[.pointer none,.int .i64 5]∧∃(cd ca cs:aAc) (W':Wk),H'=[aAi bw bd ba bs,cd,ca,cs]∧Wc bd ba bs W' cd ca cs∧Ev W W' 0 0∧W'.δ=W.δ∧W'.σ=W.σ∧W'.live=W.live∧W'.α.gs.Perm W.α.gs)
theorem bGl {σ σ':Sp} {live:List Ext} {f m:Nat} (h:aVo σ live) (hm:1≤m) (hn:σ'.n=σ.n) (h1:∀x,f≤x→x<f+m→inF σ.free x) (h2:f+m≤σ.n)
  (h3:∀x,inF σ'.free x↔inF σ.free x∧¬(f≤x∧x<f+m)) (h4:aBg σ'.free+m=aBg σ.free):aVo σ' ((f,m)::live):=by
 refine⟨?_,?_,?_,?_⟩
 ·intro e he
  rw[hn]
  rcases AM.1 he with rfl|he
  ·exact⟨hm,h2⟩
  ·exact h.fit e he
 ·refine BF.2 ⟨fun e he=> ?_,h.apart⟩
  dsimp only
  by_cases hh:f+m≤e.1∨e.1+e.2≤f
  ·exact hh
  ·exfalso
   have hf:=h.fit e he
   have hx:inF σ.free (max f e.1):=h1 _ oM oM
   exact(h.free _ oM).1 hx ⟨e,he,oM,oM⟩
 ·intro x hx
  rw[hn] at hx
  rw[h3,h.free x hx,aDs]
  dsimp only
  constructor
  ·rintro⟨a,b⟩ (c|c)
   ·exact b c
   ·exact a c
  ·intro a
   exact⟨fun c=>a (.inr c),fun c=>a (.inl c)⟩
 ·rw[hn,aJb]
  have:=h.sum
  dsimp only
  omega
theorem aIi {σ σ':Sp} {live:List Ext} {f m:Nat} (h:aVo σ ((f,m)::live)) (hn:σ'.n=σ.n)
  (h3:∀x,inF σ'.free x↔inF σ.free x∨(f≤x∧x<f+m)) (h4:aBg σ'.free=aBg σ.free+m):aVo σ' live:=by
 refine⟨fun e he=> ?_,(BF.1 h.apart).2,fun x hx=> ?_,?_⟩
 ·rw[hn];exact h.fit e (AI _ he)
 ·rw[hn] at hx
  rw[h3,h.free x hx,aDs]
  dsimp only
  constructor
  ·rintro(a|a) hb
   ·exact a (.inr hb)
   ·exact h.other (e:=(f,m)) a.1 a.2 hb
  ·intro a
   by_cases hf:f≤x∧x<f+m
   ·exact .inr hf
   ·left
    rintro(c|c)
    ·exact hf c
    ·exact a c
 ·have:=h.sum
  rw[aJb] at this
  rw[hn]
  dsimp only at this
  omega
theorem aGd {σ:Sp} {live:List Ext} {f m:Nat} (h:aVo σ ((f,m)::live)):(1≤m∧f+m≤σ.n)∧∀x,f≤x→x<f+m→¬inF σ.free x:=by
 refine⟨h.fit _ AH,fun x h1 h2 h3=> ?_⟩
 have:=h.fit _ AH
 dsimp only at this
 exact(h.free x oM).1 h3 (by rw[aDs];exact .inl ⟨h1,h2⟩)
theorem bLo (bw bd ba bs:Nat) (W:Wk) (cd ca cs:aAc) (h:Wc bd ba bs W cd ca cs) (k bound:Nat) (h1:1≤k) (h2:k≤5) (hb:bound≤100000000) (hr:W.δ.size≤W.α.room-W.α.used):
  Ct AC 89 [pv bw,.int .i64 (k:Int),.int .i64 (bound:Int)] [aAi bw bd ba bs,cd,ca,cs] (bOi bw bd ba bs W k bound):=by
 have hH:=aHp bw bd ba bs W.δ cd h.dev k h1 h2
 have hB:=aOw bw bd ba bs W.δ cd h.dev k bound h1 h2 hb
 obtain⟨hs,_⟩:=h.dev.num
 have hp:=aAl hs.1 h1 h2
 have hS:=aGq bd W.δ cd h.dev
 have hn:=h.ar.num
 have hG:=bGj ba W.α ca h.ar W.δ.size oM
 unfold bOi
 have ap:aAf W.δ.size k≤256:=BB (CW _ _) oM
 have aj:aAb W.δ.size k bound≤1000000000:=BB (CW _ _) oM
 generalize ao:aAb W.δ.size k bound=nb at*
 generalize aAf W.δ.size k=hk at*
 unfold aAi at hH hB⊢
 refine Ct.go Tryz.func89 Tryz.ntmps89 fun w0=> ?_
 repeat(first|(refine st ?_;intros)|refine G.draw (id:=3) [(8,.quiet)] (h:= ?_)|refine G.draw [] (h:= ?_)|refine cq hH ?_|refine cq hS ?_|refine cq hB ?_)
 refine R.call (hct:=hG) (h:= ?_)
 rintro _ _ ⟨g,aa,α',ag,rfl,ac,ad,ae,rfl⟩
 try dsimp only[AA,AB]
 repeat(first|(refine st ?_;intros)|refine G.draw (id:=3) [(8,.quiet)] (h:= ?_)|refine G.draw [] (h:= ?_)|refine cq hH ?_|refine cq hS ?_|refine cq hB ?_)
 by_cases h0:nb=0
 ·subst h0
  repeat(first|(refine st ?_;intros)|refine G.draw (id:=3) [(8,.quiet)] (h:= ?_)|refine G.draw [] (h:= ?_)|refine cq hH ?_|refine cq hS ?_|refine cq hB ?_)
  rename_i bx
  (refine Dn.post (Hr:=[[(bw,row [pv bd,pv ba,pv bs] 105)],cd,aa,cs,[(bx,row (aAw bw 0 0 k 0 bound g.bb 0 0 false) 168)],[(g.br,row (aAg (BY W.δ.size 0)) 174)]]) Tryz.results89 (hR:= ?_);left)
  refine⟨AS _,bx,0,g,cd,aa,cs,{W with α:=α'},rfl,rfl,⟨h.dev,ac,h.sp,h.nn,h.live⟩,⟨rfl,rfl,⟨AG _,AG _⟩,id,ae,AG _⟩,rfl,ag,ad,?_⟩
  simp
 ·by_cases ab:nb≤big W.σ.free
  ·have hT:=bPp bs W.σ cs h.sp nb oM ab
   repeat(first|(refine st ?_;intros)|refine G.draw (id:=3) [(8,.quiet)] (h:= ?_)|refine G.draw [] (h:= ?_)|refine cq hH ?_|refine cq hS ?_|refine cq hB ?_)
   refine R.call (hct:=hT) (h:= ?_)
   rintro _ _ ⟨f,ah,σ',rfl,ak,e1,e2,e3,e4,e5,e6,rfl⟩
   try dsimp only[AA,AB]
   repeat(first|(refine st ?_;intros)|refine G.draw (id:=3) [(8,.quiet)] (h:= ?_)|refine G.draw [] (h:= ?_)|refine cq hH ?_|refine cq hS ?_|refine cq hB ?_)
   rename_i bx
   (refine Dn.post (Hr:=[[(bw,row [pv bd,pv ba,pv bs] 105)],cd,aa,ah,[(bx,row (aAw bw f nb k 0 bound g.bb 0 0 false) 168)],[(g.br,row (aAg (BY W.δ.size 0)) 174)]]) Tryz.results89 (hR:= ?_);left)
   refine⟨ab,bx,f,g,cd,aa,ah,{W with α:=α',σ:=σ',live:=(f,nb)::W.live},rfl,rfl,⟨h.dev,ac,ak,h.nn.trans e1.symm,bGl h.live oM e1 e2 e3 e4 e5⟩,⟨rfl,e1,⟨AG _,AG _⟩,id,ae,e6⟩,rfl,ag,ad,?_⟩
   rw[if_neg h0]
  ·have hT:=bGa bs W.σ cs h.sp nb oM oM aj
   have hR:=aFs ba α' aa ac g W.α.gs ad
   repeat(first|(refine st ?_;intros)|refine G.draw (id:=3) [(8,.quiet)] (h:= ?_)|refine G.draw [] (h:= ?_)|refine cq hH ?_|refine cq hS ?_|refine cq hB ?_)
   refine R.call (hct:=hT) (h:= ?_)
   rintro _ _ ⟨rfl,rfl⟩
   try dsimp only[AA,AB]
   repeat(first|(refine st ?_;intros)|refine G.draw (id:=3) [(8,.quiet)] (h:= ?_)|refine G.draw [] (h:= ?_)|refine cq hH ?_|refine cq hS ?_|refine cq hB ?_)
   refine R.call (hct:=hR) (h:= ?_)
   rintro _ _ ⟨ai,α2,rfl,al,am,an,rfl⟩
   try dsimp only[AA,AB]
   repeat(first|(refine st ?_;intros)|refine G.draw (id:=3) [(8,.quiet)] (h:= ?_)|refine G.draw [] (h:= ?_)|refine cq hH ?_|refine cq hS ?_|refine cq hB ?_)
   (refine Dn.post (Hr:=[[(bw,row [pv bd,pv ba,pv bs] 105)],cd,ai,cs]) Tryz.results89 (hR:= ?_);right)
   exact⟨oM,rfl,cd,ai,cs,{W with α:=α2},rfl,⟨h.dev,al,h.sp,h.nn,h.live⟩,⟨rfl,rfl,⟨AG _,AG _⟩,id,an.trans ae,AG _⟩,rfl,rfl,rfl,am⟩
def aDv (first nb:Nat) (Lv live:List Ext):Prop:=if nb=0 then live.Perm Lv else live.Perm ((first,nb)::Lv)
def aOx (bw bd ba bs bx:Nat) (W:Wk) (Gs:List Gr) (Lv:List Ext) (first nb k bound bb:Nat) (cb:aAc) (kk:Nat) (δ':Dv) (H':Hp):Prop:=
 ∃(cd ca cs:aAc) (W':Wk) (cnt n a:Nat),H'=[aAi bw bd ba bs,cd,ca,cs,[(bx,row (aAw bw first nb k cnt bound bb n a true) 168)],cb]∧
  Wc bd ba bs W' cd ca cs∧Ev W W' kk 0∧W'.δ=δ'∧W'.α.gs.Perm Gs∧W'.live.Perm Lv
theorem aVp (bw first nb k cnt bound bb n a bx:Nat):Cb AC 90 [pv bx] [[(bx,row (aAw bw first nb k cnt bound bb n a true) 168)]] (fun v' H'=>v'= .tuple #[]∧H'=[[(bx,row (aAw bw first nb k cnt bound bb n a true) 168)]]):=by
 unfold aAw
 refine Cb.intro Tryz.func90 rfl Tryz.ntmps90 (nle rfl) fun w0=> ?_;dsimp only[aAa,AD]
 repeat(refine sv ?_;intros)
 (refine Dn.post (Hr:=[[(bx,row [pv bw,.int .i64 (first:Int),.int .i64 (nb:Int),.int .i64 (k:Int),.int .i64 (cnt:Int),.int .i64 (bound:Int),pv bb,.int .i64 (n:Int),.int .i64 (a:Int),.bool true] 168)]]) Tryz.results90 (hR:= ?_);exact⟨rfl,rfl⟩)
theorem bGm (bw bd ba bs:Nat) (W:Wk) (cd ca cs:aAc) (h:Wc bd ba bs W cd ca cs) (bx first nb k cnt bound n a:Nat) (g:Gr) (Gs:List Gr) (hg:W.α.gs.Perm (g::Gs)) (Lv:List Ext) (hl:aDv first nb Lv W.live) (cb:aAc):
  Cb AC 90 [pv bx] [aAi bw bd ba bs,cd,ca,cs,[(bx,row (aAw bw first nb k cnt bound g.bb n a false) 168)],cb] fun v H'=>
   v= .tuple #[]∧aOx bw bd ba bs bx W Gs Lv first nb k bound g.bb cb 0 W.δ H':=by
 have hR:=aFs ba W.α ca h.ar g Gs hg
 unfold aAi aAw
 by_cases h0:nb=0
 ·subst h0
  refine Cb.intro Tryz.func90 rfl Tryz.ntmps90 (nle rfl) fun w0=> ?_;dsimp only[aAa,AD]
  repeat(refine sv ?_;intros)
  refine R.call (hct:=hR) (h:= ?_)
  rintro _ _ ⟨aa,α',rfl,ab,ac,ad,rfl⟩
  try dsimp only[AA,AB]
  repeat(refine sv ?_;intros)
  (refine Dn.postEnd (Hr:=[[(bw,row [pv bd,pv ba,pv bs] 105)],cd,aa,cs,[(bx,row [pv bw,.int .i64 (first:Int),.int .i64 ((0:Nat):Int),.int .i64 (k:Int),.int .i64 (cnt:Int),.int .i64 (bound:Int),pv g.bb,.int .i64 (n:Int),.int .i64 (a:Int),.bool true] 168)],cb]) Tryz.results90 (hR:= ?_);refine⟨rfl,?_⟩)
  refine⟨cd,aa,cs,{W with α:=α'},cnt,n,a,rfl,⟨h.dev,ab,h.sp,h.nn,h.live⟩,⟨rfl,rfl,⟨AG _,AG _⟩,id,ad,AG _⟩,rfl,ac,?_⟩
  simpa[aDv] using hl
 ·unfold aDv at hl
  rw[if_neg h0] at hl
  have ae:=h.live.perm hl
  obtain⟨⟨f1,f2⟩,f3⟩:=aGd ae
  have ah:=aOs bs W.σ cs h.sp first nb f1 f2 f3
  refine Cb.intro Tryz.func90 rfl Tryz.ntmps90 (nle rfl) fun w0=> ?_;dsimp only[aAa,AD]
  repeat(refine sv ?_;intros)
  refine R.call (hct:=hR) (h:= ?_)
  rintro _ _ ⟨aa,α',rfl,ab,ac,ad,rfl⟩
  try dsimp only[AA,AB]
  repeat(refine sv ?_;intros)
  refine R.call (hct:=ah) (h:= ?_)
  rintro _ _ ⟨ag,σ',rfl,ai,e1,e3,e4,e5,rfl⟩
  try dsimp only[AA,AB]
  repeat(refine sv ?_;intros)
  (refine Dn.postEnd (Hr:=[[(bw,row [pv bd,pv ba,pv bs] 105)],cd,aa,ag,[(bx,row [pv bw,.int .i64 (first:Int),.int .i64 (nb:Int),.int .i64 (k:Int),.int .i64 (cnt:Int),.int .i64 (bound:Int),pv g.bb,.int .i64 (n:Int),.int .i64 (a:Int),.bool true] 168)],cb]) Tryz.results90 (hR:= ?_);refine⟨rfl,?_⟩)
  exact⟨cd,aa,ag,{W with α:=α',σ:=σ',live:=Lv},cnt,n,a,rfl,⟨h.dev,ab,ai,h.nn.trans e1.symm,aIi ae e1 e3 e4⟩,⟨rfl,e1,⟨AG _,AG _⟩,id,ad,by show _≤big σ'.free+0;omega⟩,rfl,ac,.refl _⟩
theorem bQd (bw bd ba bs:Nat) (W:Wk) (cd ca cs:aAc) (h:Wc bd ba bs W cd ca cs) (bx first nb k cnt bound n a:Nat) (g:Gr) (Gs:List Gr) (hg:W.α.gs.Perm (g::Gs)) (Lv:List Ext) (hl:aDv first nb Lv W.live) (cb:aAc):
  Ct AC 90 [pv bx] [aAi bw bd ba bs,cd,ca,cs,[(bx,row (aAw bw first nb k cnt bound g.bb n a false) 168)],cb] fun v H'=>
   v= .tuple #[]∧aOx bw bd ba bs bx W Gs Lv first nb k bound g.bb cb 0 W.δ H':=(bGm bw bd ba bs W cd ca cs h bx first nb k cnt bound n a g Gs hg Lv hl cb).1
def aVq (bw bd ba bs bx:Nat) (W:Wk) (ca cs:aAc) (first nb k cnt bound:Nat) (g:Gr) (a:Nat) (pw:List Int) (cb:aAc) (H':Hp):Prop:=
 ∃cd aa,H'=[aAi bw bd ba bs,cd,aa,cs,[(bx,row (aAw bw first nb k cnt bound g.bb 0 (a+1) false) 168)],cb]∧aa.Perm ca∧
  aEc bd (W.δ.wrote (first+a) (aDd W.δ.size ((first+a:Nat):Int) (k:Int) pw)) cd
theorem bBk (bw bd ba bs:Nat) (W:Wk) (cd ca cs:aAc) (h:Wc bd ba bs W cd ca cs) (bx first nb k cnt bound n a:Nat) (g:Gr) (hg:g∈W.α.gs) (ae:g.n=W.δ.size) (buf pw:List Int) (am:buf.length=W.δ.size) (ah:buf.take n=pw) (ag:pw.length=n)
  (hn:n≤W.δ.size-2) (ha:first+a<W.δ.blocks) (hk:k≤5) (hf:W.δ.fault≠0) (ai:W.δ.acts≤1000000000000):
  Ct AC 163 [pv bx] [aAi bw bd ba bs,cd,ca,cs,[(bx,row (aAw bw first nb k cnt bound g.bb n a false) 168)],[(g.br,row (aAg buf) 174)]] fun v H'=>
   v= .int .i64 0∧aVq bw bd ba bs bx W ca cs first nb k cnt bound g a pw [(g.br,row (aAg buf) 174)] H':=by
 obtain⟨⟨aj,ak⟩,an,ao⟩:=h.dev.num
 have hS:=aGq bd W.δ cd h.dev
 obtain⟨c1,ac⟩:=h.ar.open_ hg
 have al:AJ .i64 ((first:Int)+(a:Int))=((first+a:Nat):Int):=by rw[←DA];exact aAd oM
 have hP:=fun cap=>bOf W.δ.size ((first+a:Nat):Int) (k:Int) g.br 0 n cap (aAg buf) 174 (0,0) pw ⟨aj,ak⟩ oM hn (by rw[CT];rw[←ah];simp[aAg]) ag
 have ad:(aDd W.δ.size ((first+a:Nat):Int) (k:Int) pw).length=W.δ.size:=aIh _ _ _ _ oM
 have hW:=fun bl=>bLi bd W.δ cd h.dev (first+a) ha hf ai bl 0 W.δ.size (aAg (aDd W.δ.size ((first+a:Nat):Int) (k:Int) pw)) 174 (0,0) (aDd W.δ.size ((first+a:Nat):Int) (k:Int) pw) (by rw[CT,A4 (by rw[aBz,ad];exact AG _)]) ad
 refine Ct.convP (H2:=[aAi bw bd ba bs,cd,c1,[g.obj],cs,[(bx,row (aAw bw first nb k cnt bound g.bb n a false) 168)],[(g.br,row (aAg buf) 174)]])
  (R2:=fun v H'=>v= .int .i64 0∧∃aa,H'=[aAi bw bd ba bs,aa,c1,[g.obj],cs,[(bx,row (aAw bw first nb k cnt bound g.bb 0 (a+1) false) 168)],[(g.br,row (aAg buf) 174)]]∧aEc bd (W.δ.wrote (first+a) (aDd W.δ.size ((first+a:Nat):Int) (k:Int) pw)) aa) ?_ ?_ ?_
 ·generalize aDd W.δ.size ((first+a:Nat):Int) (k:Int) pw=sw at*
  unfold aAi aAw Gr.obj
  rw[ae]
  refine Ct.go Tryz.func163 Tryz.ntmps163 fun w0=> ?_
  repeat(first|(refine st ?_;intros)|refine G.draw (id:=1) [(7,.quiet)] (h:= ?_)|refine G.draw [] (h:= ?_)|refine cq hS ?_)
  refine R.call (hct:=hP W.δ.size) (h:= ?_)
  rintro _ _ ⟨bl,rfl,rfl⟩
  try dsimp only[AA,AB]
  repeat(first|(refine st ?_;intros)|refine G.draw (id:=1) [(7,.quiet)] (h:= ?_)|refine G.draw [] (h:= ?_)|refine cq hS ?_)
  refine R.call (hct:=hW bl) (h:= ?_)
  rintro _ _ ⟨aa,rfl,ab,rfl⟩
  try dsimp only[AA,AB]
  repeat(first|(refine st ?_;intros)|refine G.draw (id:=1) [(7,.quiet)] (h:= ?_)|refine G.draw [] (h:= ?_)|refine cq hS ?_)
  (refine Dn.post (Hr:=[[(bw,row [pv bd,pv ba,pv bs] 105)],aa,c1,[(g.bb,row [.slice (some ⟨g.br,0,none⟩) W.δ.size W.δ.size] 177)],cs,[(bx,row [pv bw,.int .i64 (first:Int),.int .i64 (nb:Int),.int .i64 (k:Int),.int .i64 (cnt:Int),.int .i64 (bound:Int),pv g.bb,.int .i64 0,.int .i64 ((a:Int)+1),.bool false] 168)],[(g.br,row (aAg buf) 174)]]) Tryz.results163 (hR:= ?_);
   exact⟨rfl,aa,rfl,ab⟩)
 ·simp only[AW,A5,AQ,AP]
  refine BE _ (BE _ ?_)
  rw[←AP c1]
  exact DB _ ac
 ·rintro v H' ⟨rfl,aa,rfl,ab⟩
  refine⟨_,⟨rfl,aa,c1++[g.obj],rfl,ac.symm,ab⟩,?_⟩
  simp
theorem aOy (bw bd ba bs:Nat) (W:Wk) (cd ca cs:aAc) (h:Wc bd ba bs W cd ca cs) (bx first nb k cnt bound n a:Nat) (g:Gr) (Gs:List Gr) (hg:W.α.gs.Perm (g::Gs)) (Lv:List Ext) (hl:aDv first nb Lv W.live) (aj:g.n=W.δ.size) (buf pw:List Int) (aq:buf.length=W.δ.size) (al:buf.take n=pw) (ak:pw.length=n)
  (hn:n≤W.δ.size-2) (ha:first+a<W.δ.blocks) (hk:k≤5) (hf:W.δ.fault=0):
  Ct AC 163 [pv bx] [aAi bw bd ba bs,cd,ca,cs,[(bx,row (aAw bw first nb k cnt bound g.bb n a false) 168)],[(g.br,row (aAg buf) 174)]] fun v H'=>
   v= .int .i64 6∧aOx bw bd ba bs bx W Gs Lv first nb k bound g.bb [(g.br,row (aAg buf) 174)] 0 W.δ.failed H':=by
 obtain⟨⟨am,an⟩,au,av⟩:=h.dev.num
 have hS:=aGq bd W.δ cd h.dev
 obtain⟨c1,ad⟩:=h.ar.open_ (hg.mem_iff.2 AH)
 have ap:AJ .i64 ((first:Int)+(a:Int))=((first+a:Nat):Int):=by rw[←DA];exact aAd oM
 have hP:=fun cap=>bOf W.δ.size ((first+a:Nat):Int) (k:Int) g.br 0 n cap (aAg buf) 174 (0,0) pw ⟨am,an⟩ oM hn (by rw[CT];rw[←al];simp[aAg]) ak
 have hW:=fun bl=>aYp bd W.δ cd h.dev (first+a) ha hf bl 0 W.δ.size (aAg (aDd W.δ.size ((first+a:Nat):Int) (k:Int) pw)) 174 (0,0)
 have hD:=fun ab (hd:aEc bd W.δ.failed ab)=>bQd bw bd ba bs {W with δ:=W.δ.failed} ab (c1++[g.obj]) cs ⟨hd,h.ar.perm ad.symm,h.sp,h.nn,h.live⟩ bx first nb k cnt bound n a g Gs hg Lv hl [(g.br,row (aAg buf) 174)]
 refine Ct.convP (H2:=[aAi bw bd ba bs,cd,c1,[g.obj],cs,[(bx,row (aAw bw first nb k cnt bound g.bb n a false) 168)],[(g.br,row (aAg buf) 174)]])
  (R2:=fun v H'=>v= .int .i64 6∧aOx bw bd ba bs bx W Gs Lv first nb k bound g.bb [(g.br,row (aAg buf) 174)] 0 W.δ.failed H') ?_ ?_ ?_
 ·generalize aDd W.δ.size ((first+a:Nat):Int) (k:Int) pw=sw at*
  have ae:([g.obj]:aAc)=[(g.bb,row [.slice (some ⟨g.br,0,none⟩) W.δ.size W.δ.size] 177)]:=by unfold Gr.obj;rw[aj]
  rw[ae] at hD⊢
  unfold aAi aAw at hD⊢
  refine Ct.go Tryz.func163 Tryz.ntmps163 fun w0=> ?_
  repeat(first|(refine st ?_;intros)|refine G.draw (id:=1) [(7,.quiet)] (h:= ?_)|refine G.draw [] (h:= ?_)|refine cq hS ?_)
  refine R.call (hct:=hP W.δ.size) (h:= ?_)
  rintro _ _ ⟨bl,rfl,rfl⟩
  try dsimp only[AA,AB]
  repeat(first|(refine st ?_;intros)|refine G.draw (id:=1) [(7,.quiet)] (h:= ?_)|refine G.draw [] (h:= ?_)|refine cq hS ?_)
  refine R.call (hct:=hW bl) (h:= ?_)
  rintro _ _ ⟨ab,rfl,ao,rfl⟩
  try dsimp only[AA,AB]
  repeat(first|(refine st ?_;intros)|refine G.draw (id:=1) [(7,.quiet)] (h:= ?_)|refine G.draw [] (h:= ?_)|refine cq hS ?_)
  apply R1.join (c1:=c1) (c2:=[(g.bb,row [.slice (some ⟨g.br,0,none⟩) W.δ.size W.δ.size] 177)])
  ·(repeat(first|exact aAn.here|apply aAn.there))
  ·(repeat(first|exact aAn.here|apply aAn.there))
  refine R.call (hct:=hD ab ao) (h:= ?_)
  rintro _ _ ⟨rfl,ag,ah,ai,W',ac,n',a',rfl,aa⟩
  try dsimp only[AA,AB]
  unfold aAi aAw
  repeat(first|(refine st ?_;intros)|refine G.draw (id:=1) [(7,.quiet)] (h:= ?_)|refine G.draw [] (h:= ?_)|refine cq hS ?_)
  (refine Dn.post (Hr:=[[(bw,row [pv bd,pv ba,pv bs] 105)],ag,ah,ai,[(bx,row [pv bw,.int .i64 (first:Int),.int .i64 (nb:Int),.int .i64 (k:Int),.int .i64 (ac:Int),.int .i64 (bound:Int),pv g.bb,.int .i64 (n':Int),.int .i64 (a':Int),.bool true] 168)],[(g.br,row (aAg buf) 174)]]) Tryz.results163 (hR:= ?_);refine⟨rfl,ag,ah,ai,W',ac,n',a',rfl,aa.1,?_,aa.2.2⟩)
  have he:=aa.2.1
  exact⟨he.size,he.n,he.acts,fun e=>by omega,he.room,he.big⟩
 ·simp only[AW,A5,AQ,AP]
  refine BE _ (BE _ ?_)
  rw[←AP c1]
  exact DB _ ad
 ·rintro v H' ⟨rfl,h2⟩
  exact⟨_,⟨rfl,h2⟩,.refl _⟩
structure aYb (d:Nat→Option (List Int)) (size k nb bound first:Nat) (ps:List T5) (buf:List Int):Prop where
 w1:1≤k
 w2:k≤5
 hb:bound≤100000000
 nbe:nb=aAb size k bound
 cnt:ps.length≤bound
 blen:buf.length=size
 bufw:buf.take ((ps.length%aAf size k)*k)=aBr k (ps.drop ((ps.length/aAf size k)*aAf size k))
 onto:bQc d size k (aAf size k) first ps (ps.length/aAf size k)
 fit:∀t∈ps,okT k t
theorem aSs {h p:Nat} (hh:1≤h):(p%h+1=h→(p+1)/h=p/h+1∧(p+1)%h=0)∧(p%h+1≠h→(p+1)/h=p/h∧(p+1)%h=p%h+1):=by
 have h1:=Nat.div_add_mod p h
 have h2:=EH p (show 0<h by omega)
 constructor
 ·intro e
  have e2:p+1=h*(p/h+1):=by rw[Nat.mul_succ];omega
  constructor
  ·rw[e2,Nat.mul_div_cancel_left _ oM]
  ·rw[e2,Nat.mul_mod_right]
 ·intro e
  have e2:p+1=p%h+1+h*(p/h):=oM
  constructor
  ·rw[e2,Nat.add_mul_div_left _ _ oM,Nat.div_eq_of_lt oM,BT]
  ·rw[e2,Nat.add_mul_mod_self_left,Nat.mod_eq_of_lt oM]
def aOz (buf:List Int) (n:Nat) (ws:List Int):List Int:=buf.take n++(ws++buf.drop (n+ws.length))
theorem aGe {buf ws:List Int} {n:Nat} (h:n+ws.length≤buf.length):(aOz buf n ws).length=buf.length:=by simp[aOz];omega
theorem bBl (buf:List Int) (n:Nat):aOz buf n []=buf:=by simp[aOz]
theorem aVr {buf ws:List Int} {n i:Nat} {w:Int} (hw:ws[i]? =some w) (h:n+ws.length≤buf.length):(aOz buf n (ws.take i)).set (n+i) w=aOz buf n (ws.take (i+1)):=by
 have hi:i<ws.length:=(AK.1 hw).1
 have aa:ws[i]=w:=(AK.1 hw).2
 have e1:(ws.take i).length=i:=by simp;omega
 have e2:(ws.take (i+1)).length=i+1:=by simp;omega
 unfold aOz
 rw[e1,e2]
 have e3:(buf.take n).length=n:=by simp;omega
 rw[D4 _ _ oM,e3,show n+i-n=i by omega,D4 _ _ oM,e1,DP]
 have e4:buf.drop (n+i)=buf[n+i]' oM::buf.drop (n+i+1):=BQ oM
 rw[e4,List.set_cons_zero,List.take_add_one,hw,Nat.add_assoc]
 simp
theorem aPa {buf ws:List Int} {n:Nat} (h:n+ws.length≤buf.length):(aOz buf n ws).take (n+ws.length)=buf.take n++ws:=by
 unfold aOz
 rw[←AP,CR oA12,A4 oA12]
theorem aVs {d:Nat→Option (List Int)} {size k h first:Nat} {ps:List T5} {t:T5} {nb:Nat} (ho:bQc d size k h first ps nb) (hn:nb*h≤ps.length):bQc d size k h first (ps++[t]) nb:=by
 intro j hj
 rw[ho j hj]
 have:(j+1)*h≤nb*h:=A7 _ hj
 rw[BG] at this
 rw[CY oM,CR (by rw[CK];omega)]
theorem aYb.room {d:Nat→Option (List Int)} {size k nb bound first:Nat} {ps:List T5} {buf:List Int} (h:aYb d size k nb bound first ps buf) (hs:8≤size):(ps.length%aAf size k)*k+k≤size-2:=by
 have hp:=aAl hs h.w1 h.w2
 have h1:=EH ps.length (show 0<aAf size k by omega)
 have h2:=aOv (s:=size) (k:=k)
 have h3:(ps.length%aAf size k+1)*k≤aAf size k*k:=A7 _ h1
 rw[BG] at h3
 omega
theorem aYb.at_lt {d:Nat→Option (List Int)} {size k nb bound first:Nat} {ps:List T5} {buf:List Int} (h:aYb d size k nb bound first ps buf) (hs:8≤size) (hl:ps.length<bound):ps.length/aAf size k<nb:=by
 have hp:=aAl hs h.w1 h.w2
 rw[h.nbe]
 have e:=Nat.div_add_mod ps.length (aAf size k)
 have h1:aAf size k*(ps.length/aAf size k)≤bound-1:=oM
 have:ps.length/aAf size k+1≤(bound+aAf size k-1)/aAf size k:=by
  rw[Nat.le_div_iff_mul_le oM,BG,EK]
  omega
 exact this
theorem aYb.put {d:Nat→Option (List Int)} {size k nb bound first:Nat} {ps:List T5} {buf:List Int} (h:aYb d size k nb bound first ps buf) (hs:8≤size) (hl:ps.length<bound) {t:T5} (ht:okT k t) (ac:ps.length%aAf size k+1≠aAf size k):
  aYb d size k nb bound first (ps++[t]) (aOz buf ((ps.length%aAf size k)*k) (tw k t)):=by
 have hp:=aAl hs h.w1 h.w2
 have hr:=h.room hs
 obtain⟨e1,e2⟩:=(aSs (p:=ps.length) hp).2 ac
 have ab:=aCp t h.w2
 have aa:(ps.length%aAf size k)*k+(tw k t).length≤buf.length:=by rw[h.blen,ab];omega
 have em:=DN ps.length (aAf size k)
 refine⟨h.w1,h.w2,h.hb,h.nbe,by simp;omega,by rw[aGe aa,h.blen],?_,?_,?_⟩
 ·simp only[AF,AL,AV,BT,e1,e2]
  have:=aPa aa
  rw[ab,←BG] at this
  rw[this,h.bufw,CY em,aOu]
  simp[aBr]
 ·simp only[AF,AL,AV,BT,e1]
  exact aVs h.onto em
 ·intro x hx
  rcases AO.1 hx with hx|hx
  ·exact h.fit x hx
  ·simp only[AT] at hx;subst hx;exact ht
theorem aYb.flushed {d:Nat→Option (List Int)} {size k nb bound first:Nat} {ps:List T5} {buf:List Int} (h:aYb d size k nb bound first ps buf) (hs:8≤size) (hl:ps.length<bound) {t:T5} (ht:okT k t) (he:ps.length%aAf size k+1=aAf size k):
  aYb (aHx d (first+ps.length/aAf size k) (aDd size ((first+ps.length/aAf size k:Nat):Int) (k:Int) ((aOz buf ((ps.length%aAf size k)*k) (tw k t)).take ((ps.length%aAf size k)*k+k)))) size k nb bound first (ps++[t])
   (aOz buf ((ps.length%aAf size k)*k) (tw k t)):=by
 have hp:=aAl hs h.w1 h.w2
 have hr:=h.room hs
 obtain⟨e1,e2⟩:=(aSs (p:=ps.length) hp).1 he
 have ab:=aCp t h.w2
 have aa:(ps.length%aAf size k)*k+(tw k t).length≤buf.length:=by rw[h.blen,ab];omega
 have em:=DN ps.length (aAf size k)
 have ac:=Nat.div_add_mod ps.length (aAf size k)
 refine⟨h.w1,h.w2,h.hb,h.nbe,by simp;omega,by rw[aGe aa,h.blen],?_,?_,?_⟩
 ·simp only[AF,AL,AV,BT,e1,e2,Nat.zero_mul,EL]
  rw[List.drop_of_length_le]
  ·rfl
  ·simp only[AF,AL,AV,BG]
   rw[EK] at ac
   omega
 ·simp only[AF,AL,AV,BT,e1]
  intro j hj
  by_cases ad:j=ps.length/aAf size k
  ·subst ad
   have:=aPa aa
   rw[ab] at this
   simp only[aHx,if_true]
   rw[this,h.bufw,CY em,A4,aOu]
   ·simp[aBr]
   ·simp only[AF,AL,AV,CK]
    rw[EK] at ac
    omega
  ·have:¬(first+j=first+ps.length/aAf size k):=by omega
   simp only[aHx,this,if_false]
   exact aVs h.onto em j oM
 ·intro x hx
  rcases AO.1 hx with hx|hx
  ·exact h.fit x hx
  ·simp only[AT] at hx;subst hx;exact ht
end Go.Proofs.YtaofijjjheiknaaGreat
namespace Go.Tup
theorem bGn (x y:Int):aMa y x= -aMa x y:=by
 unfold aMa
 by_cases h1:x<y
 ·rw[if_pos h1,if_neg oM,if_pos h1];rfl
 ·by_cases h2:y<x
  ·simp only[if_pos h2,if_neg h1]
  ·simp only[if_neg h2,if_neg h1,Int.neg_zero]
theorem aVt:∀(l:List Int) (a b:T5),bDs l a b= -bDs l b a
 |[],_,_=>rfl
 |k::l,a,b=>by
  have ih:=aVt l a b
  simp only[bDs]
  by_cases h0:k=0
  ·simp[h0]
  ·simp only[h0,if_false]
   by_cases hn:k<0
   ·simp only[hn,if_true]
    rw[bGn (a.col (k.natAbs-1))]
    split<;>split<;>omega
   ·simp only[hn,if_false]
    rw[bGn (b.col (k.natAbs-1))]
    split<;>split<;>omega
theorem aEd (o a b:T5):aJs o a b= -aJs o b a:=by
 unfold aJs
 split
 ·exact aVt _ a b
 ·rfl
theorem aMc {x y:Int}:aMa x y=0↔x=y:=by
 unfold aMa
 split
 ·omega
 ·split<;>omega
theorem aRi {x y:Int}:0<aMa x y↔y<x:=by
 unfold aMa
 split
 ·omega
 ·split<;>omega
theorem aRj:∀(l:List Int) (a b c:T5),bDs l a b≤0→bDs l b c≤0→bDs l a c≤0
 |[],_,_,_,_,_=>by simp[bDs]
 |k::l,a,b,c,h1,h2=>by
  simp only[bDs] at h1 h2⊢
  by_cases h0:k=0
  ·simp[h0]
  ·simp only[h0,if_false] at h1 h2⊢
   have ih:=aRj l a b c
   by_cases hn:k<0
   ·simp only[hn,if_true] at h1 h2⊢
    generalize a.col (k.natAbs-1)=x at*
    generalize b.col (k.natAbs-1)=y at*
    generalize c.col (k.natAbs-1)=z at*
    have e1:= @aMc y x
    have e2:= @aMc z y
    have e3:= @aMc z x
    have p1:= @aRi y x
    have p2:= @aRi z y
    have p3:= @aRi z x
    by_cases q1:aMa y x=0<;>by_cases q2:aMa z y=0<;>by_cases q3:aMa z x=0<;>simp only[q1,q2,q3,ne_eq,not_true_eq_false,not_false_eq_true,if_true,if_false] at h1 h2⊢<;>first|exact ih h1 h2|omega
   ·simp only[hn,if_false] at h1 h2⊢
    generalize a.col (k.natAbs-1)=x at*
    generalize b.col (k.natAbs-1)=y at*
    generalize c.col (k.natAbs-1)=z at*
    have e1:= @aMc x y
    have e2:= @aMc y z
    have e3:= @aMc x z
    have p1:= @aRi x y
    have p2:= @aRi y z
    have p3:= @aRi x z
    by_cases q1:aMa x y=0<;>by_cases q2:aMa y z=0<;>by_cases q3:aMa x z=0<;>simp only[q1,q2,q3,ne_eq,not_true_eq_false,not_false_eq_true,if_true,if_false] at h1 h2⊢<;>first|exact ih h1 h2|omega
theorem aJd (o a b c:T5) (h1:aJs o a b≤0) (h2:aJs o b c≤0):aJs o a c≤0:=by
 unfold aJs at h1 h2⊢
 split
 ·rename_i hf
  rw[if_pos hf] at h1 h2
  exact aRj _ a b c h1 h2
 ·omega
end Go.Tup
namespace Go.Tup
open Go.SL
def aAk (t:T5):List Value:=[.int .i64 t.c0,.int .i64 t.c1,.int .i64 t.c2,.int .i64 t.c3,.int .i64 t.c4]
def flat:List T5→List Value
 |[]=>[]
 |t::ts=>aAk t++flat ts
theorem aPb:∀ts,(flat ts).length=ts.length*5
 |[]=>rfl
 |t::ts=>by simp[flat,aPb ts,aAk];omega
theorem flat_append:∀(ts us:List T5),flat (ts++us)=flat ts++flat us
 |[],us=>rfl
 |t::ts,us=>by simp[flat,flat_append ts us]
theorem aVu:∀(ts:List T5) (i:Nat),(flat ts).drop (i*5)=flat (ts.drop i)
 |ts,0=>by simp
 |[],i+1=>by simp[flat]
 |t::ts,i+1=>by
  have:=aVu ts i
  rw[flat,List.drop_append,List.drop_eq_nil_of_le (by simp[aAk];omega),List.nil_append,List.drop_succ_cons,←this]
  congr 1
  simp[aAk];omega
def RV (p:Option Addr) (n:Nat) (ts:List T5) (c:aAc):Prop:=
 ts.length=n∧((n=0∧c=[])∨∃b off cs T fz,p=some ⟨b,off,none⟩∧c=[(b,aBs cs T fz)]∧(cs.drop off).take (n*5)=flat ts)
theorem RV.pos {p:Option Addr} {n:Nat} {ts:List T5} {c:aAc} (h:RV p n ts c) (hn:0<n):∃b off cs T fz,p=some ⟨b,off,none⟩∧c=[(b,aBs cs T fz)]∧
  ∀i,i<n→(cs.drop (off+i*5)).take 5=aAk (ts.getD i ⟨0,0,0,0,0⟩):=by
 obtain⟨hl,⟨h0,_⟩|⟨b,off,cs,T,fz,rfl,rfl,h⟩⟩:=h
 ·omega
 ·refine⟨b,off,cs,T,fz,rfl,rfl,fun i hi=> ?_⟩
  have h2:=congrArg (fun l=>(l.drop (i*5)).take 5) h
  simp only[aVu] at h2
  rw[List.drop_take,List.drop_drop,List.take_take] at h2
  rw[show min 5 (n*5-i*5)=5 by omega] at h2
  rw[h2]
  have aa:i<ts.length:=oM
  rw[List.drop_eq_getElem_cons aa,flat,List.take_left' (by simp[aAk])]
  congr 1
  simp[List.getD_eq_getElem?_getD,aa]
theorem RV.vec {E:Nat} {p:Option Addr} {n cap:Nat} {ts:List T5} {c:aAc} (h:Vec E 5 p n cap (flat ts) c):RV p n ts c:=by
 have hl:ts.length=n:=by have:=h.1;rw[aPb] at this;omega
 rcases h.2 with⟨_,h0,_,hc⟩|⟨b,rest,hp,hc,_,_,_⟩
 ·exact⟨hl,.inl ⟨h0,hc⟩⟩
 ·refine⟨hl,.inr ⟨b,0,flat ts++rest,E,(0,0),hp,hc,?_⟩⟩
  rw[List.drop_zero,←h.1,List.take_left]
def at5 (ts:List T5) (i:Nat):T5:=ts.getD i ⟨0,0,0,0,0⟩
end Go.Tup
namespace Go.Proofs.YtaofijjjheiknaaGreat
open Go.SL Go.Spc Go.Tup
theorem aYs (x:Int):CtQ AC 162 [.int .i64 x] [] (.bool (dec (x≠0))):=by
 refine Ct.go Tryz.func162 Tryz.ntmps162 fun w0=> ?_
 repeat(refine st ?_;intros)
 (refine Dn.post (Hr:=[]) Tryz.results162 (hR:= ?_);exact⟨rfl,rfl⟩)
theorem bGo (b off n cap:Nat) (cs:List Value) (E:Nat) (fz:Nat×Nat) (hm:n≤1000) (hz:∀i,i<n→cs[off+i]? =some (.int .i64 0)):
  CtQ AC 207 [.slice (some ⟨b,off,none⟩) n cap,.func (.func 162) #[] #[]] [[(b,aBs cs E fz)]] (.int .i64 (-1)):=by
 refine Ct.go Tryz.func207 Tryz.ntmps207 fun w0=> ?_
 repeat(first|(refine st ?_;intros)|refine cq aYs ?_)
 refine G.loop (X:=Nat) (fun i=>i≤n) (fun i=>[(8,.int .i64 (i:Int)),(7,.int .i64 (n:Int)),(0,.slice (some ⟨b,off,none⟩) n cap),(1,.func (.func 162) #[] #[])]) (fun _=>[[(b,aBs cs E fz)]]) (fun i=>n-i) 0 oM (body:= ?_)
 intro i hi
 by_cases h9:i<n
 ·have hg:=hz i h9
  repeat(first|(refine st ?_;intros)|refine cq aYs ?_)
  exact Dn.round (i+1) oM oM
 ·repeat(first|(refine st ?_;intros)|refine cq aYs ?_)
  (refine Dn.post (Hr:=[[(b,aBs cs E fz)]]) Tryz.results207 (hR:= ?_);exact⟨rfl,rfl⟩)
theorem aMz (b off n cap:Nat) (cs:List Value) (E:Nat) (fz:Nat×Nat) (hm:n≤1000) (hz:∀i,i<n→cs[off+i]? =some (.int .i64 0)):
  CtQ AC 161 [.slice (some ⟨b,off,none⟩) n cap,.func (.func 162) #[] #[]] [[(b,aBs cs E fz)]] (.bool false):=by
 have hI:=bGo b off n cap cs E fz hm hz
 refine Ct.go Tryz.func161 Tryz.ntmps161 fun w0=> ?_
 repeat(first|(refine st ?_;intros)|refine cq hI ?_)
 (refine Dn.post (Hr:=[[(b,aBs cs E fz)]]) Tryz.results161 (hR:= ?_);exact⟨by rw[aBu oA14];rfl,rfl⟩)
theorem aMd (t:T5) (i:Nat) (h:i<5):(aAk t)[i]? =some (.int .i64 (t.col i)):=by
 match i,h with
 |0,_=>rfl
 |1,_=>rfl
 |2,_=>rfl
 |3,_=>rfl
 |4,_=>rfl
theorem bBm (t:T5) (k i:Nat) (h:i<k) (hk:k≤5):(tw k t)[i]? =some (wd (t.col i)):=by
 unfold tw
 rw[BU,BW,if_pos h]
 have h5:i<5:=oM
 match i,h5 with
 |0,_=>rfl
 |1,_=>rfl
 |2,_=>rfl
 |3,_=>rfl
 |4,_=>rfl
def PutOk (bw bd ba bs bx:Nat) (W:Wk) (ca cs:aAc) (first nb k bound:Nat) (g:Gr) (ps:List T5) (buf:List Int) (t:T5) (H':Hp):Prop:=
 ∃(cd ab:aAc) (δ':Dv) (aa:List Int),H'=[aAi bw bd ba bs,cd,ab,cs,[(bx,row (aAw bw first nb k (ps.length+1) bound g.bb (((ps.length+1)%aAf W.δ.size k)*k) ((ps.length+1)/aAf W.δ.size k) false) 168)],[(g.br,row (aAg aa) 174)]]∧
  ab.Perm ca∧aEc bd δ' cd∧δ'.size=W.δ.size∧δ'.blocks=W.δ.blocks∧(W.δ.fault= -1→δ'.fault= -1)∧δ'.acts=W.δ.acts+((ps.length+1)/aAf W.δ.size k-ps.length/aAf W.δ.size k)∧
  (∀x,¬(first≤x∧x<first+nb)→δ'.disk x=W.δ.disk x)∧aYb δ'.disk W.δ.size k nb bound first (ps++[t]) aa
theorem bLp (bw bd ba bs:Nat) (W:Wk) (cd ca cs:aAc) (h:Wc bd ba bs W cd ca cs) (bx first nb k bound:Nat) (g:Gr) (Gs:List Gr) (hg:W.α.gs.Perm (g::Gs)) (an:g.n=W.δ.size) (Lv:List Ext) (hl:aDv first nb Lv W.live) (ps:List T5) (buf:List Int)
  (ho:aYb W.δ.disk W.δ.size k nb bound first ps buf) (ao:ps.length<bound) (t:T5) (ht:okT k t) (a4:W.δ.acts≤1000000000000):
  Ct AC 92 [pv bx,tv t] [aAi bw bd ba bs,cd,ca,cs,[(bx,row (aAw bw first nb k ps.length bound g.bb ((ps.length%aAf W.δ.size k)*k) (ps.length/aAf W.δ.size k) false) 168)],[(g.br,row (aAg buf) 174)]] fun v H'=>
   (v= .int .i64 0∧PutOk bw bd ba bs bx W ca cs first nb k bound g ps buf t H')∨
   (v= .int .i64 6∧W.δ.fault=0∧∃cb,aOx bw bd ba bs bx W Gs Lv first nb k bound g.bb cb 0 W.δ.failed H'):=by
 obtain⟨⟨ag,bu⟩,bv,bz⟩:=h.dev.num
 obtain⟨c1,ax⟩:=h.ar.open_ (hg.mem_iff.2 AH)
 have hH:=aHp bw bd ba bs W.δ cd h.dev k ho.w1 ho.w2
 have a5:=ho.room ag
 have a6:=ho.w1
 have ah:=ho.w2
 have hp:=aAl ag a6 ah
 have ap:=ho.blen
 have b1:=ho.hb
 have ai:=ho.at_lt ag ao
 have a7:aAf W.δ.size k≤256:=BB (CW _ _) oM
 generalize ak:(ps.length%aAf W.δ.size k)*k=n0 at*
 have ay:=aCp t ah
 have ae:=fun b3=>aMz b3 k (5-k) (5-k) (aAk t) 33 (0,0) oM (fun i hi=>by rw[aMd t _ oM,ht.2 _ oM])
 have aa:=fun b3=>aMz b3 0 0 0 (aAk t) 33 (0,0) oM (fun i hi=>by omega)
 have bk:AJ .i64 (((n0+k:Nat):Int).tdiv (k:Int))=((ps.length%aAf W.δ.size k+1:Nat):Int):=by
  have e1:((n0+k:Nat):Int).tdiv (k:Int)=(((n0+k)/k:Nat):Int):=by
   rw[Int.tdiv_eq_ediv_of_nonneg oM];simp
  have e2:(n0+k)/k=ps.length%aAf W.δ.size k+1:=by
   rw[←ak,←BG,Nat.mul_div_cancel _ oM]
  rw[e1,e2]
  have b2:=EH ps.length (show 0<aAf W.δ.size k by omega)
  have hw:∀r:Nat,r<1000→AJ .i64 ((r:Nat):Int)=(r:Int):=fun r hr=>aAd oM
  exact hw _ oM
 have al:([g.obj]:aAc)=[(g.bb,row [.slice (some ⟨g.br,0,none⟩) W.δ.size W.δ.size] 177)]:=by unfold Gr.obj;rw[an]
 have aq:(c1++[(g.bb,row [.slice (some ⟨g.br,0,none⟩) W.δ.size W.δ.size] 177)]).Perm ca:=by rw[←al];exact ax.symm
 have h':Wc bd ba bs W cd (c1++[(g.bb,row [.slice (some ⟨g.br,0,none⟩) W.δ.size W.δ.size] 177)]) cs:=⟨h.dev,h.ar.perm aq,h.sp,h.nn,h.live⟩
 have az:nb≠0:=Nat.ne_of_gt (Nat.lt_of_le_of_lt (AS _) ai)
 have b4:first+nb≤W.δ.blocks:=by
  unfold aDv at hl
  rw[if_neg az] at hl
  rw[h.nn]
  exact(aGd (h.live.perm hl)).1.2
 obtain⟨B,hB⟩:∃B:Nat→List Int,∀i,B i=aOz buf n0 ((tw k t).take i):=⟨_,fun _=>rfl⟩
 have a8:B 0=buf:=by rw[hB,EL,bBl]
 have a0:B k=aOz buf n0 (tw k t):=by rw[hB,A4 oM]
 have aj:∀i,(B i).length=W.δ.size:=fun i=>by rw[hB,aGe (by rw[BN,ay,ap];omega),ap]
 have bo:AJ .i64 ((ps.length:Int)+1)=((ps.length+1:Nat):Int):=by rw[aAd oM];rfl
 have au:=fun hf=>bBk bw bd ba bs W cd _ cs h' bx first nb k (ps.length+1) bound (n0+k) (ps.length/aAf W.δ.size k) g (hg.mem_iff.2 AH) an (B k) ((B k).take (n0+k)) (aj k) rfl (by rw[BN,aj];omega) oM oM ah hf a4
 have av:=fun hf=>aOy bw bd ba bs W cd _ cs h' bx first nb k (ps.length+1) bound (n0+k) (ps.length/aAf W.δ.size k) g Gs hg Lv hl an (B k) ((B k).take (n0+k)) (aj k) rfl (by rw[BN,aj];omega) oM oM ah hf
 refine Ct.convP (H2:=[aAi bw bd ba bs,cd,c1,[(g.bb,row [.slice (some ⟨g.br,0,none⟩) W.δ.size W.δ.size] 177)],cs,[(bx,row (aAw bw first nb k ps.length bound g.bb n0 (ps.length/aAf W.δ.size k) false) 168)],[(g.br,row (aAg (B 0)) 174)]])
  (R2:=fun v H'=>(v= .int .i64 0∧ps.length%aAf W.δ.size k+1≠aAf W.δ.size k∧H'=[aAi bw bd ba bs,cd,c1,[(g.bb,row [.slice (some ⟨g.br,0,none⟩) W.δ.size W.δ.size] 177)],cs,[(bx,row (aAw bw first nb k (ps.length+1) bound g.bb (n0+k) (ps.length/aAf W.δ.size k) false) 168)],[(g.br,row (aAg (B k)) 174)]])∨
   (v= .int .i64 0∧ps.length%aAf W.δ.size k+1=aAf W.δ.size k∧W.δ.fault≠0∧aVq bw bd ba bs bx W (c1++[(g.bb,row [.slice (some ⟨g.br,0,none⟩) W.δ.size W.δ.size] 177)]) cs first nb k (ps.length+1) bound g (ps.length/aAf W.δ.size k) ((B k).take (n0+k)) [(g.br,row (aAg (B k)) 174)] H')∨
   (v= .int .i64 6∧W.δ.fault=0∧∃cb,aOx bw bd ba bs bx W Gs Lv first nb k bound g.bb cb 0 W.δ.failed H')) ?_ ?_ ?_
 ·have a9:tv t= .agg (aAk t).toArray:=rfl
  rw[a9]
  have a1:=aMd t
  have h5:k=5∨k<5:=oM
  have bc:=bBm t k
  unfold aAw aAi at*
  generalize b5:aAk t=tc at*
  rcases h5 with h5|h5
  all_goals
   refine Ct.go Tryz.func92 Tryz.ntmps92 fun w0=> ?_
   repeat(first|(refine sv ?_;intros)|refine G.draw (id:=12) [(19,.quiet)] (h:= ?_)|refine cq ae ?_|refine cq aa ?_|refine cq hH ?_)
   rename_i b3
   refine G.loop (X:=Nat) (fun i=>i≤k) (fun i=>[(43,.int .i64 (i:Int)),(42,.int .i64 (k:Int)),(41,.slice (some ⟨b3,0,none⟩) k 5),(0,pv bx)])
    (fun i=>[[(b3,row tc 33)],[(bw,row [pv bd,pv ba,pv bs] 105)],cd,c1,[(g.bb,row [.slice (some ⟨g.br,0,none⟩) W.δ.size W.δ.size] 177)],cs,[(bx,row [pv bw,.int .i64 (first:Int),.int .i64 (nb:Int),.int .i64 (k:Int),.int .i64 (ps.length:Int),.int .i64 (bound:Int),pv g.bb,.int .i64 ((n0+i:Nat):Int),.int .i64 ((ps.length/aAf W.δ.size k:Nat):Int),.bool false] 168)],[(g.br,row (aAg (B i)) 174)]])
    (fun i=>k-i) 0 oM (body:= ?_)
   intro i hi
   by_cases be:i<k
   ·have b6:=a1 i oM
    have bp:(aAg (B i)).set (n0+i) (.int .u64 (wd (t.col i)))=aAg (B (i+1)):=by
     rw[aGw,hB,hB,aVr (bc i be ah) (by rw[ay,ap];omega)]
    have bq:(aAg (B i)).length=W.δ.size:=by rw[aBz,aj]
    have b7:AJ .i64 (((n0+i:Nat):Int)+1)=((n0+(i+1):Nat):Int):=by rw[aAd oM];rfl
    repeat(first|(refine sv ?_;intros)|refine G.draw (id:=12) [(19,.quiet)] (h:= ?_)|refine cq ae ?_|refine cq aa ?_|refine cq hH ?_)
    exact Dn.round (i+1) oM oM
   ·have bf:k=i:=oM
    subst bf
    by_cases he:ps.length%aAf W.δ.size k+1=aAf W.δ.size k
    ·repeat(first|(refine sv ?_;intros)|refine G.draw (id:=12) [(19,.quiet)] (h:= ?_)|refine cq ae ?_|refine cq aa ?_|refine cq hH ?_)
     apply R1.join (c1:=c1) (c2:=[(g.bb,row [.slice (some ⟨g.br,0,none⟩) W.δ.size W.δ.size] 177)])
     ·(repeat(first|exact aAn.here|apply aAn.there))
     ·(repeat(first|exact aAn.here|apply aAn.there))
     by_cases hf:W.δ.fault=0
     ·have av:=av hf
      refine R.call (hct:=av) (h:= ?_)
      rintro _ _ ⟨rfl,ab,ac,a2,W',am,n',a',rfl,ad⟩
      try dsimp only[AA,AB]
      unfold aAi aAw
      repeat(first|(refine sv ?_;intros)|refine G.draw (id:=12) [(19,.quiet)] (h:= ?_)|refine cq ae ?_|refine cq aa ?_|refine cq hH ?_)
      (refine Dn.post (Hr:=[[(bw,row [pv bd,pv ba,pv bs] 105)],ab,ac,a2,[(bx,row [pv bw,.int .i64 (first:Int),.int .i64 (nb:Int),.int .i64 (k:Int),.int .i64 (am:Int),.int .i64 (bound:Int),pv g.bb,.int .i64 (n':Int),.int .i64 (a':Int),.bool true] 168)],[(g.br,row (aAg (B k)) 174)]]) Tryz.results92 (hR:= ?_);
       exact .inr (.inr ⟨rfl,hf,_,ab,ac,a2,W',am,n',a',rfl,ad⟩))
     ·have au:=au hf
      refine R.call (hct:=au) (h:= ?_)
      rintro _ _ ⟨rfl,ab,ac,rfl,ad⟩
      try dsimp only[AA,AB]
      unfold aAi aAw
      repeat(first|(refine sv ?_;intros)|refine G.draw (id:=12) [(19,.quiet)] (h:= ?_)|refine cq ae ?_|refine cq aa ?_|refine cq hH ?_)
      (refine Dn.post (Hr:=[[(bw,row [pv bd,pv ba,pv bs] 105)],ab,ac,cs,[(bx,row [pv bw,.int .i64 (first:Int),.int .i64 (nb:Int),.int .i64 (k:Int),.int .i64 ((ps.length+1:Nat):Int),.int .i64 (bound:Int),pv g.bb,.int .i64 ((0:Nat):Int),.int .i64 ((ps.length/aAf W.δ.size k+1:Nat):Int),.bool false] 168)],[(g.br,row (aAg (B k)) 174)]]) Tryz.results92 (hR:= ?_);
       exact .inr (.inl ⟨rfl,he,hf,ab,ac,rfl,ad⟩))
    ·repeat(first|(refine sv ?_;intros)|refine G.draw (id:=12) [(19,.quiet)] (h:= ?_)|refine cq ae ?_|refine cq aa ?_|refine cq hH ?_)
     (refine Dn.post (Hr:=[[(bw,row [pv bd,pv ba,pv bs] 105)],cd,c1,[(g.bb,row [.slice (some ⟨g.br,0,none⟩) W.δ.size W.δ.size] 177)],cs,[(bx,row [pv bw,.int .i64 (first:Int),.int .i64 (nb:Int),.int .i64 (k:Int),.int .i64 ((ps.length+1:Nat):Int),.int .i64 (bound:Int),pv g.bb,.int .i64 ((n0+k:Nat):Int),.int .i64 ((ps.length/aAf W.δ.size k:Nat):Int),.bool false] 168)],[(g.br,row (aAg (B k)) 174)]]) Tryz.results92 (hR:= ?_);
      exact .inl ⟨rfl,he,rfl⟩)
 ·rw[a8,←al]
  simp only[AW,A5,AQ,AP]
  refine BE _ (BE _ ?_)
  rw[←AP c1]
  exact DB _ ax
 ·have aw:W.δ.fault= -1→aVk W.δ.fault= -1:=fun e=>by unfold aVk;rw[e];rfl
  rintro v H' (⟨rfl,a3,rfl⟩|⟨rfl,he,hf,ab,ac,rfl,bg,bh⟩|⟨rfl,hf,bi⟩)
  ·obtain⟨e1,e2⟩:=(aSs (p:=ps.length) hp).2 a3
   have e3:(ps.length%aAf W.δ.size k+1)*k=n0+k:=by rw[BG,ak]
   refine⟨_,.inl ⟨rfl,cd,c1++[(g.bb,row [.slice (some ⟨g.br,0,none⟩) W.δ.size W.δ.size] 177)],W.δ,B k,rfl,aq,h.dev,rfl,rfl,id,by rw[e1];omega,fun _ _=>rfl,?_⟩,?_⟩
   ·rw[a0,←ak]
    exact ho.put ag ao ht a3
   ·rw[e1,e2,e3];simp
  ·obtain⟨e1,e2⟩:=(aSs (p:=ps.length) hp).1 he
   refine⟨_,.inl ⟨rfl,ab,ac,_,B k,rfl,bg.trans aq,bh,rfl,rfl,aw,by rw[e1,Nat.add_sub_cancel_left];rfl,fun x hx=> ?_,?_⟩,?_⟩
   ·simp only[Dv.wrote,aHx]
    rw[if_neg]
    rintro rfl
    exact hx ⟨Nat.le_add_right _ _,Nat.add_lt_add_left ai _⟩
   ·have:=ho.flushed ag ao ht he
    rw[ak,←a0] at this
    exact this
   ·rw[e1,e2,Nat.zero_mul]
  ·exact⟨_,.inr ⟨rfl,hf,bi⟩,.refl _⟩
theorem aAm {s k a b:Nat} (h:a≤b):aAb s k a≤aAb s k b:=Nat.div_le_div_right oM
theorem bDt {s k p:Nat} (hh:1≤aAf s k):(p%aAf s k=0→aAb s k p=p/aAf s k)∧(p%aAf s k≠0→aAb s k p=p/aAf s k+1):=by
 unfold aAb
 generalize aAf s k=h at*
 have e:=Nat.div_add_mod p h
 have h2:=EH p (show 0<h by omega)
 generalize p/h=q at*
 generalize p%h=r at*
 constructor
 ·intro h0
  have:p+h-1=(h-1)+h*q:=by omega
  rw[this,Nat.add_mul_div_left _ _ oM,Nat.div_eq_of_lt oM,BT]
 ·intro h0
  have:p+h-1=(r-1)+h*(q+1):=by rw[Nat.mul_succ];omega
  rw[this,Nat.add_mul_div_left _ _ oM,Nat.div_eq_of_lt oM,BT]
theorem aYb.last {d:Nat→Option (List Int)} {size k nb bound first:Nat} {ps:List T5} {buf:List Int} (h:aYb d size k nb bound first ps buf) (hh:1≤aAf size k):
  bQc (aHx d (first+ps.length/aAf size k) (aDd size ((first+ps.length/aAf size k:Nat):Int) (k:Int) (buf.take ((ps.length%aAf size k)*k)))) size k (aAf size k) first ps (ps.length/aAf size k+1):=by
 have em:=DN ps.length (aAf size k)
 have ab:=Nat.div_add_mod ps.length (aAf size k)
 intro j hj
 by_cases aa:j=ps.length/aAf size k
 ·subst aa
  simp only[aHx,if_true]
  rw[h.bufw,A4]
  rw[CK,EK]
  have:=EH ps.length (show 0<aAf size k by omega)
  omega
 ·have:¬(first+j=first+ps.length/aAf size k):=by omega
  simp only[aHx,this,if_false]
  exact h.onto j oM
theorem aRk {σ:Sp} {l:List Ext} {f m a:Nat} (h:aVo σ ((f,m)::l)) (h0:0<a) (h1:a<m):aVo σ ((f+a,m-a)::(f,a)::l):=by
 obtain⟨hf,ha⟩:=BF.1 h.apart
 have hm:=h.fit _ AH
 dsimp only at hm hf
 refine⟨?_,?_,?_,?_⟩
 ·intro e he
  simp only[AM] at he
  rcases he with rfl|rfl|he
  ·dsimp only;omega
  ·dsimp only;omega
  ·exact h.fit e (AI _ he)
 ·refine BF.2 ⟨fun e he=> ?_,BF.2 ⟨fun e he=> ?_,ha⟩⟩
  ·rcases AM.1 he with rfl|he
   ·dsimp only;omega
   ·have:=hf e he;dsimp only;omega
  ·have:=hf e he;dsimp only;omega
 ·intro x hx
  rw[h.free x hx,aDs,aDs,aDs]
  dsimp only
  constructor
  ·rintro hh (c|c|c)
   ·exact hh (.inl oM)
   ·exact hh (.inl oM)
   ·exact hh (.inr c)
  ·rintro hh (c|c)
   ·by_cases aa:x<f+a
    ·exact hh (.inr (.inl oM))
    ·exact hh (.inl oM)
   ·exact hh (.inr (.inr c))
 ·have:=h.sum
  simp only[aJb] at this⊢
  omega
def bQe (bw bd ba bs bx:Nat) (W:Wk) (Gs:List Gr) (Lv:List Ext) (first nb k bound:Nat) (g:Gr) (ps:List T5) (cb:aAc) (v:Value) (H':Hp):Prop:=
 ∃(cd ca cs:aAc) (W':Wk) (f:Fl) (n:Nat),v= .tuple #[flv f,.int .i64 0]∧H'=[aAi bw bd ba bs,cd,ca,cs,[(bx,row (aAw bw f.first f.blocks k ps.length bound g.bb n f.blocks true) 168)],cb]∧
  Wc bd ba bs W' cd ca cs∧Ev W W' 1 0∧W'.δ.acts=W.δ.acts+(aAb W.δ.size k ps.length-ps.length/aAf W.δ.size k)∧W'.α.gs.Perm Gs∧W'.live=(if f.blocks=0 then Lv else f.ext::Lv)∧
  f.width=k∧f.count=ps.length∧f.blocks=aAb W.δ.size k ps.length∧bQc W'.δ.disk W.δ.size k (aAf W.δ.size k) f.first ps f.blocks∧∀x,¬(first≤x∧x<first+nb)→W'.δ.disk x=W.δ.disk x
theorem eQ0:∀f:Fl,flv f= .agg #[.int .i64 (f.first:Int),.int .i64 (f.blocks:Int),.int .i64 (f.width:Int),.int .i64 (f.count:Int)]:=fun _=>rfl
theorem bDu (bw bd ba bs:Nat) (W:Wk) (cd ca cs:aAc) (h:Wc bd ba bs W cd ca cs) (bx first nb k bound:Nat) (g:Gr) (Gs:List Gr) (hg:W.α.gs.Perm (g::Gs)) (a9:g.n=W.δ.size) (Lv:List Ext) (hl:aDv first nb Lv W.live) (ps:List T5) (buf:List Int)
  (ho:aYb W.δ.disk W.δ.size k nb bound first ps buf) (bi:W.δ.acts≤1000000000000):
  Ct AC 93 [pv bx] [aAi bw bd ba bs,cd,ca,cs,[(bx,row (aAw bw first nb k ps.length bound g.bb ((ps.length%aAf W.δ.size k)*k) (ps.length/aAf W.δ.size k) false) 168)],[(g.br,row (aAg buf) 174)]] fun v H'=>
   bQe bw bd ba bs bx W Gs Lv first nb k bound g ps [(g.br,row (aAg buf) 174)] v H'∨
   (v= .tuple #[flv ⟨0,0,0,0⟩,.int .i64 6]∧W.δ.fault=0∧aOx bw bd ba bs bx W Gs Lv first nb k bound g.bb [(g.br,row (aAg buf) 174)] 0 W.δ.failed H'):=by
 obtain⟨⟨bc,b2⟩,b3,b4⟩:=h.dev.num
 have bk:=ho.w1
 have a4:=ho.w2
 have hp:=aAl bc bk a4
 have bo:=ho.room bc
 have ax:=ho.blen
 obtain⟨bp,bq⟩:=bDt (p:=ps.length) hp
 have ak:=aAm (s:=W.δ.size) (k:=k) ho.cnt
 rw[←ho.nbe] at ak
 have ao:=ho.onto
 have ap:=ho.last hp
 have aq:W.δ.fault= -1→aVk W.δ.fault= -1:=fun e=>by unfold aVk;rw[e];rfl
 have ay:nb≠0→first+nb≤W.δ.blocks:=by
  intro be
  unfold aDv at hl
  rw[if_neg be] at hl
  rw[h.nn]
  exact(aGd (h.live.perm hl)).1.2
 have az:=fun (hn:(ps.length%aAf W.δ.size k)*k≤W.δ.size-2) ha hf=>bBk bw bd ba bs W cd ca cs h bx first nb k ps.length bound ((ps.length%aAf W.δ.size k)*k) (ps.length/aAf W.δ.size k) g (hg.mem_iff.2 AH) a9 buf _ ax rfl (by rw[BN,ax];omega) hn ha a4 hf bi
 have a5:=fun (hn:(ps.length%aAf W.δ.size k)*k≤W.δ.size-2) ha hf=>aOy bw bd ba bs W cd ca cs h bx first nb k ps.length bound ((ps.length%aAf W.δ.size k)*k) (ps.length/aAf W.δ.size k) g Gs hg Lv hl a9 buf _ ax rfl (by rw[BN,ax];omega) hn ha a4 hf
 have bu:ps.length%aAf W.δ.size k≠0→0<(ps.length%aAf W.δ.size k)*k:=fun bv=>Nat.mul_pos (Nat.pos_of_ne_zero bv) oM
 have bf:ps.length%aAf W.δ.size k=0→(ps.length%aAf W.δ.size k)*k=0:=fun e=>by rw[e,Nat.zero_mul]
 have bz:=eQ0
 generalize b5:(ps.length%aAf W.δ.size k)*k=n0 at*
 generalize am:ps.length/aAf W.δ.size k=q0 at*
 by_cases a0:ps.length%aAf W.δ.size k=0
 ·have bg:=bf a0
  have ac:=bp a0
  subst bg
  rw[ac] at ak
  have al:(q0=0∧nb=0)∨(q0=0∧0<nb)∨(0<q0∧q0<nb)∨(0<q0∧q0=nb):=oM
  rcases al with⟨c1,c2⟩|⟨c1,c2⟩|⟨c1,c2⟩|⟨c1,c2⟩
  ·have aa:=hl
   unfold aDv at aa
   rw[if_pos c2] at aa
   unfold aAw aAi
   refine Ct.go Tryz.func93 Tryz.ntmps93 fun w0=> ?_
   repeat(refine sv ?_;intros)
   have hR:=aFs ba W.α ca (h.ar.perm (.refl _)) g Gs hg
   refine R.call (hct:=hR) (h:= ?_)
   rintro _ _ ⟨ab,α',rfl,ad,ae,ag,rfl⟩
   try dsimp only[AA,AB]
   repeat(refine sv ?_;intros)
   (refine Dn.post (Hr:=[[(bw,row [pv bd,pv ba,pv bs] 105)],cd,ab,cs,[(bx,row [pv bw,.int .i64 ((0:Nat):Int),.int .i64 ((q0:Nat):Int),.int .i64 (k:Int),.int .i64 (ps.length:Int),.int .i64 (bound:Int),pv g.bb,.int .i64 ((0:Nat):Int),.int .i64 ((q0:Nat):Int),.bool true] 168)],[(g.br,row (aAg buf) 174)]]) Tryz.results93 (hR:= ?_);left)
   exact⟨cd,ab,cs,⟨W.δ,α',W.σ,Lv⟩,⟨0,q0,k,ps.length⟩,0,rfl,rfl,⟨h.dev,ad,h.sp,h.nn,h.live.perm aa⟩,⟨rfl,rfl,⟨AG _,Nat.le_succ _⟩,id,ag,AG _⟩,(by rw[ac,am,DP];rfl),ae,(by rw[if_pos oD]),rfl,rfl,ac.symm,(fun j hj=>by dsimp only at hj;omega),(fun _ _=>rfl)⟩
  ·have aa:=hl
   unfold aDv at aa
   rw[if_neg oM] at aa
   have au:=ay oM
   unfold aAw aAi
   refine Ct.go Tryz.func93 Tryz.ntmps93 fun w0=> ?_
   repeat(refine sv ?_;intros)
   have hR:=aFs ba W.α ca (h.ar.perm (.refl _)) g Gs hg
   have a1:AJ .i64 ((first:Int)+((q0:Nat):Int))=((first+q0:Nat):Int):=by rw[aAd oM];rfl
   have a2:AJ .i64 ((nb:Int)-((q0:Nat):Int))=((nb-q0:Nat):Int):=by rw[aAd oM];omega
   have ah:=h.live.perm aa
   obtain⟨⟨f1,f2⟩,f3⟩:=aGd ah
   have av:=aOs bs W.σ cs h.sp (first+q0) (nb-q0) oM oM (fun x x1 x2=>f3 x oM oM)
   refine R.call (hct:=hR) (h:= ?_)
   rintro _ _ ⟨ab,α',rfl,ad,ae,ag,rfl⟩
   try dsimp only[AA,AB]
   repeat(refine sv ?_;intros)
   refine R.call (hct:=av) (h:= ?_)
   rintro _ _ ⟨ai,σ',rfl,aw,e1,e3,e4,e5,rfl⟩
   try dsimp only[AA,AB]
   repeat(refine sv ?_;intros)
   (refine Dn.post (Hr:=[[(bw,row [pv bd,pv ba,pv bs] 105)],cd,ab,ai,[(bx,row [pv bw,.int .i64 ((0:Nat):Int),.int .i64 ((q0:Nat):Int),.int .i64 (k:Int),.int .i64 (ps.length:Int),.int .i64 (bound:Int),pv g.bb,.int .i64 ((0:Nat):Int),.int .i64 ((q0:Nat):Int),.bool true] 168)],[(g.br,row (aAg buf) 174)]]) Tryz.results93 (hR:= ?_);left)
   exact⟨cd,ab,ai,⟨W.δ,α',σ',Lv⟩,⟨0,q0,k,ps.length⟩,0,rfl,rfl,⟨h.dev,ad,aw,h.nn.trans e1.symm,aIi (f:=first+q0) (m:=nb-q0) (by rw[show first+q0=first by omega,show nb-q0=nb by omega];exact ah) e1 e3 e4⟩,⟨rfl,e1,⟨AG _,Nat.le_succ _⟩,id,ag,(by show _≤big σ'.free+0;omega)⟩,(by rw[ac,am,DP];rfl),ae,(by rw[if_pos oD]),rfl,rfl,ac.symm,(fun j hj=>by dsimp only at hj;omega),(fun _ _=>rfl)⟩
  ·have aa:=hl
   unfold aDv at aa
   rw[if_neg oM] at aa
   have au:=ay oM
   unfold aAw aAi
   refine Ct.go Tryz.func93 Tryz.ntmps93 fun w0=> ?_
   repeat(refine sv ?_;intros)
   have hR:=aFs ba W.α ca (h.ar.perm (.refl _)) g Gs hg
   have a1:AJ .i64 ((first:Int)+((q0:Nat):Int))=((first+q0:Nat):Int):=by rw[aAd oM];rfl
   have a2:AJ .i64 ((nb:Int)-((q0:Nat):Int))=((nb-q0:Nat):Int):=by rw[aAd oM];omega
   have ah:=aRk (h.live.perm aa) (a:=q0) oM oM
   obtain⟨⟨f1,f2⟩,f3⟩:=aGd ah
   have av:=aOs bs W.σ cs h.sp (first+q0) (nb-q0) f1 f2 f3
   refine R.call (hct:=hR) (h:= ?_)
   rintro _ _ ⟨ab,α',rfl,ad,ae,ag,rfl⟩
   try dsimp only[AA,AB]
   repeat(refine sv ?_;intros)
   refine R.call (hct:=av) (h:= ?_)
   rintro _ _ ⟨ai,σ',rfl,aw,e1,e3,e4,e5,rfl⟩
   try dsimp only[AA,AB]
   repeat(refine sv ?_;intros)
   (refine Dn.post (Hr:=[[(bw,row [pv bd,pv ba,pv bs] 105)],cd,ab,ai,[(bx,row [pv bw,.int .i64 ((first:Nat):Int),.int .i64 ((q0:Nat):Int),.int .i64 (k:Int),.int .i64 (ps.length:Int),.int .i64 (bound:Int),pv g.bb,.int .i64 ((0:Nat):Int),.int .i64 ((q0:Nat):Int),.bool true] 168)],[(g.br,row (aAg buf) 174)]]) Tryz.results93 (hR:= ?_);left)
   exact⟨cd,ab,ai,⟨W.δ,α',σ',((first,q0)::Lv)⟩,⟨first,q0,k,ps.length⟩,0,rfl,rfl,⟨h.dev,ad,aw,h.nn.trans e1.symm,aIi ah e1 e3 e4⟩,⟨rfl,e1,⟨AG _,Nat.le_succ _⟩,id,ag,(by show _≤big σ'.free+0;omega)⟩,(by rw[ac,am,DP];rfl),ae,(by rw[if_neg oD];rfl),rfl,rfl,ac.symm,ao,(fun _ _=>rfl)⟩
  ·have aa:=hl
   unfold aDv at aa
   rw[if_neg oM] at aa
   have au:=ay oM
   unfold aAw aAi
   refine Ct.go Tryz.func93 Tryz.ntmps93 fun w0=> ?_
   repeat(refine sv ?_;intros)
   have hR:=aFs ba W.α ca (h.ar.perm (.refl _)) g Gs hg
   refine R.call (hct:=hR) (h:= ?_)
   rintro _ _ ⟨ab,α',rfl,ad,ae,ag,rfl⟩
   try dsimp only[AA,AB]
   repeat(refine sv ?_;intros)
   (refine Dn.post (Hr:=[[(bw,row [pv bd,pv ba,pv bs] 105)],cd,ab,cs,[(bx,row [pv bw,.int .i64 ((first:Nat):Int),.int .i64 ((q0:Nat):Int),.int .i64 (k:Int),.int .i64 (ps.length:Int),.int .i64 (bound:Int),pv g.bb,.int .i64 ((0:Nat):Int),.int .i64 ((q0:Nat):Int),.bool true] 168)],[(g.br,row (aAg buf) 174)]]) Tryz.results93 (hR:= ?_);left)
   exact⟨cd,ab,cs,⟨W.δ,α',W.σ,((first,q0)::Lv)⟩,⟨first,q0,k,ps.length⟩,0,rfl,rfl,⟨h.dev,ad,h.sp,h.nn,(by rw[show q0=nb by omega];exact h.live.perm aa)⟩,⟨rfl,rfl,⟨AG _,Nat.le_succ _⟩,id,ag,AG _⟩,(by rw[ac,am,DP];rfl),ae,(by rw[if_neg oD];rfl),rfl,rfl,ac.symm,ao,(fun _ _=>rfl)⟩
 ·have b1:=bu a0
  have ac:=bq a0
  rw[ac] at ak
  have au:=ay oM
  by_cases hf:W.δ.fault=0
  ·have a5:=a5 oM oM hf
   unfold aAw aAi at*
   refine Ct.go Tryz.func93 Tryz.ntmps93 fun w0=> ?_
   repeat(refine sv ?_;intros)
   refine R.call (hct:=a5) (h:= ?_)
   rintro _ _ ⟨rfl,aj,an,bh,W',a3,n',a',rfl,a6⟩
   try dsimp only[AA,AB]
   unfold aAi aAw
   repeat(refine sv ?_;intros)
   (refine Dn.post (Hr:=[[(bw,row [pv bd,pv ba,pv bs] 105)],aj,an,bh,[(bx,row [pv bw,.int .i64 (first:Int),.int .i64 (nb:Int),.int .i64 (k:Int),.int .i64 (a3:Int),.int .i64 (bound:Int),pv g.bb,.int .i64 (n':Int),.int .i64 (a':Int),.bool true] 168)],[(g.br,row (aAg buf) 174)]]) Tryz.results93 (hR:= ?_);
    exact .inr ⟨rfl,hf,aj,an,bh,W',a3,n',a',rfl,a6⟩)
  ·have az:=az oM oM hf
   have aa:=hl
   unfold aDv at aa
   rw[if_neg oM] at aa
   have al:q0+1<nb∨q0+1=nb:=oM
   rcases al with c2|c2
   ·unfold aAw aAi at*
    refine Ct.go Tryz.func93 Tryz.ntmps93 fun w0=> ?_
    repeat(refine sv ?_;intros)
    refine R.call (hct:=az) (h:= ?_)
    rintro _ _ ⟨rfl,aj,an,rfl,a7,a8⟩
    try dsimp only[AA,AB]
    unfold aAi aAw
    repeat(refine sv ?_;intros)
    have hR:=aFs ba W.α an (h.ar.perm a7) g Gs hg
    have a1:AJ .i64 ((first:Int)+(((q0+1):Nat):Int))=((first+(q0+1):Nat):Int):=by rw[aAd oM];rfl
    have a2:AJ .i64 ((nb:Int)-(((q0+1):Nat):Int))=((nb-(q0+1):Nat):Int):=by rw[aAd oM];omega
    have ah:=aRk (h.live.perm aa) (a:=(q0+1)) oM oM
    obtain⟨⟨f1,f2⟩,f3⟩:=aGd ah
    have av:=aOs bs W.σ cs h.sp (first+(q0+1)) (nb-(q0+1)) f1 f2 f3
    refine R.call (hct:=hR) (h:= ?_)
    rintro _ _ ⟨ab,α',rfl,ad,ae,ag,rfl⟩
    try dsimp only[AA,AB]
    repeat(refine sv ?_;intros)
    refine R.call (hct:=av) (h:= ?_)
    rintro _ _ ⟨ai,σ',rfl,aw,e1,e3,e4,e5,rfl⟩
    try dsimp only[AA,AB]
    repeat(refine sv ?_;intros)
    (refine Dn.post (Hr:=[[(bw,row [pv bd,pv ba,pv bs] 105)],aj,ab,ai,[(bx,row [pv bw,.int .i64 ((first:Nat):Int),.int .i64 (((q0+1):Nat):Int),.int .i64 (k:Int),.int .i64 (ps.length:Int),.int .i64 (bound:Int),pv g.bb,.int .i64 ((0:Nat):Int),.int .i64 (((q0+1):Nat):Int),.bool true] 168)],[(g.br,row (aAg buf) 174)]]) Tryz.results93 (hR:= ?_);left)
    exact⟨aj,ab,ai,⟨(W.δ.wrote (first+q0) (aDd W.δ.size ((first+q0:Nat):Int) (k:Int) (buf.take n0))),α',σ',((first,(q0+1))::Lv)⟩,⟨first,(q0+1),k,ps.length⟩,0,rfl,rfl,⟨a8,ad,aw,h.nn.trans e1.symm,aIi ah e1 e3 e4⟩,⟨rfl,e1,⟨Nat.le_succ _,AG _⟩,aq,ag,(by show _≤big σ'.free+0;omega)⟩,(by rw[ac,am,Nat.add_sub_cancel_left];rfl),ae,(by rw[if_neg oD];rfl),rfl,rfl,ac.symm,ap,(fun x hx=>by simp only[Dv.wrote,aHx];rw[if_neg oM])⟩
   ·unfold aAw aAi at*
    refine Ct.go Tryz.func93 Tryz.ntmps93 fun w0=> ?_
    repeat(refine sv ?_;intros)
    refine R.call (hct:=az) (h:= ?_)
    rintro _ _ ⟨rfl,aj,an,rfl,a7,a8⟩
    try dsimp only[AA,AB]
    unfold aAi aAw
    repeat(refine sv ?_;intros)
    have hR:=aFs ba W.α an (h.ar.perm a7) g Gs hg
    refine R.call (hct:=hR) (h:= ?_)
    rintro _ _ ⟨ab,α',rfl,ad,ae,ag,rfl⟩
    try dsimp only[AA,AB]
    repeat(refine sv ?_;intros)
    (refine Dn.post (Hr:=[[(bw,row [pv bd,pv ba,pv bs] 105)],aj,ab,cs,[(bx,row [pv bw,.int .i64 ((first:Nat):Int),.int .i64 (((q0+1):Nat):Int),.int .i64 (k:Int),.int .i64 (ps.length:Int),.int .i64 (bound:Int),pv g.bb,.int .i64 ((0:Nat):Int),.int .i64 (((q0+1):Nat):Int),.bool true] 168)],[(g.br,row (aAg buf) 174)]]) Tryz.results93 (hR:= ?_);left)
    exact⟨aj,ab,cs,⟨(W.δ.wrote (first+q0) (aDd W.δ.size ((first+q0:Nat):Int) (k:Int) (buf.take n0))),α',W.σ,((first,(q0+1))::Lv)⟩,⟨first,(q0+1),k,ps.length⟩,0,rfl,rfl,⟨a8,ad,h.sp,h.nn,(by rw[show(q0+1)=nb by omega];exact h.live.perm aa)⟩,⟨rfl,rfl,⟨Nat.le_succ _,AG _⟩,aq,ag,AG _⟩,(by rw[ac,am,Nat.add_sub_cancel_left];rfl),ae,(by rw[if_neg oD];rfl),rfl,rfl,ac.symm,ap,(fun x hx=>by simp only[Dv.wrote,aHx];rw[if_neg oM])⟩
def aBh (bw:Nat) (f:Fl) (bb n at_ block count:Nat) (closed:Bool):List Value:=
 [pv bw,.int .i64 (f.first:Int),.int .i64 (f.blocks:Int),.int .i64 (f.width:Int),.int .i64 (f.count:Int),pv bb,.int .i64 (n:Int),.int .i64 (at_:Int),.int .i64 (block:Int),.int .i64 (count:Int),.bool closed]
theorem bGp (bw bd ba bs:Nat) (W:Wk) (cd ca cs:aAc) (h:Wc bd ba bs W cd ca cs) (f:Fl) (h1:1≤f.width) (h2:f.width≤5) (hc:f.count≤100000000) (hb:f.blocks=aAb W.δ.size f.width f.count) (hr:W.α.room-W.α.used<W.δ.size):
  CtQ AC 95 [pv bw,flv f] [aAi bw bd ba bs,cd,ca,cs] (.tuple #[.pointer none,.int .i64 7]):=by
 have hH:=aHp bw bd ba bs W.δ cd h.dev f.width h1 h2
 have hB:=aOw bw bd ba bs W.δ cd h.dev f.width f.count h1 h2 hc
 obtain⟨hs,_⟩:=h.dev.num
 have hp:=aAl hs.1 h1 h2
 have hS:=aGq bd W.δ cd h.dev
 have hn:=h.ar.num
 have hF:=aFull ba W.α ca h.ar (W.δ.size:Int) oM oM
 rw[←hb] at hB
 generalize aAf W.δ.size f.width=hk at*
 unfold aAi at hH hB⊢
 unfold flv
 refine Ct.go Tryz.func95 Tryz.ntmps95 fun w0=> ?_
 repeat(first|(refine st ?_;intros)|refine G.draw (id:=1) [(3,.quiet),(23,.quiet)] (h:= ?_)|refine G.draw (id:=3) [(8,.quiet),(9,.quiet)] (h:= ?_)|refine cq hH ?_|refine cq hS ?_|refine cq hB ?_|refine cq hF ?_)
 (refine Dn.post (Hr:=[[(bw,row [pv bd,pv ba,pv bs] 105)],cd,ca,cs]) Tryz.results95 (hR:= ?_);exact⟨rfl,rfl⟩)
def RdMade (bw bd ba bs:Nat) (W:Wk) (f:Fl) (cd cs:aAc) (v:Value) (H':Hp):Prop:=
 ∃(bx:Nat) (g:Gr) (ca:aAc) (α':Ar),v= .tuple #[pv bx,.int .i64 0]∧
  H'=[aAi bw bd ba bs,cd,ca,cs,[(bx,row (aBh bw f g.bb 0 0 0 0 false) 180)],[(g.br,row (aAg (BY W.δ.size 0)) 174)]]∧
  aKu ba α' ca∧g.n=W.δ.size∧α'.gs.Perm (g::W.α.gs)∧α'.room=W.α.room
theorem bGq (bw bd ba bs:Nat) (W:Wk) (cd ca cs:aAc) (h:Wc bd ba bs W cd ca cs) (f:Fl) (h1:1≤f.width) (h2:f.width≤5) (hc:f.count≤100000000) (hb:f.blocks=aAb W.δ.size f.width f.count) (hr:W.δ.size≤W.α.room-W.α.used):
  Ct AC 95 [pv bw,flv f] [aAi bw bd ba bs,cd,ca,cs] (RdMade bw bd ba bs W f cd cs):=by
 have hH:=aHp bw bd ba bs W.δ cd h.dev f.width h1 h2
 have hB:=aOw bw bd ba bs W.δ cd h.dev f.width f.count h1 h2 hc
 obtain⟨hs,_⟩:=h.dev.num
 have hp:=aAl hs.1 h1 h2
 have hS:=aGq bd W.δ cd h.dev
 have hn:=h.ar.num
 have hG:=bGj ba W.α ca h.ar W.δ.size oM
 rw[←hb] at hB
 generalize aAf W.δ.size f.width=hk at*
 unfold aAi at hH hB⊢
 unfold flv
 refine Ct.go Tryz.func95 Tryz.ntmps95 fun w0=> ?_
 repeat(first|(refine st ?_;intros)|refine G.draw (id:=1) [(3,.quiet),(23,.quiet)] (h:= ?_)|refine G.draw (id:=3) [(8,.quiet)] (h:= ?_)|refine cq hH ?_|refine cq hS ?_|refine cq hB ?_)
 refine R.call (hct:=hG) (h:= ?_)
 rintro _ _ ⟨g,aa,α',ab,rfl,ac,ad,ae,rfl⟩
 try dsimp only[AA,AB]
 repeat(first|(refine st ?_;intros)|refine G.draw (id:=1) [(3,.quiet),(23,.quiet)] (h:= ?_)|refine G.draw (id:=3) [(8,.quiet)] (h:= ?_)|refine cq hH ?_|refine cq hS ?_|refine cq hB ?_)
 rename_i bx
 (refine Dn.post (Hr:=[[(bw,row [pv bd,pv ba,pv bs] 105)],cd,aa,cs,[(bx,row (aBh bw f g.bb 0 0 0 0 false) 180)],[(g.br,row (aAg (BY W.δ.size 0)) 174)]]) Tryz.results95 (hR:= ?_);
  exact⟨bx,g,aa,α',rfl,rfl,ac,ab,ad,ae⟩)
theorem bDv:CtQ AC 96 [.pointer none] [] (.tuple #[]):=by
 refine Ct.go Tryz.func96 Tryz.ntmps96 fun w0=> ?_
 repeat(refine sv ?_;intros)
 (refine Dn.postEnd (Hr:=[]) Tryz.results96 (hR:= ?_);exact⟨rfl,rfl⟩)
theorem aQt (bw:Nat) (f:Fl) (bb n a kb pos bx:Nat):Cb AC 96 [pv bx] [[(bx,row (aBh bw f bb n a kb pos true) 180)]] (fun v' H'=>v'= .tuple #[]∧H'=[[(bx,row (aBh bw f bb n a kb pos true) 180)]]):=by
 unfold aBh
 refine Cb.intro Tryz.func96 rfl Tryz.ntmps96 (nle rfl) fun w0=> ?_;dsimp only[aAa,AD]
 repeat(refine sv ?_;intros)
 (refine Dn.postEnd (Hr:=[[(bx,row [pv bw,.int .i64 (f.first:Int),.int .i64 (f.blocks:Int),.int .i64 (f.width:Int),.int .i64 (f.count:Int),pv bb,.int .i64 (n:Int),.int .i64 (a:Int),.int .i64 (kb:Int),.int .i64 (pos:Int),.bool true] 180)]]) Tryz.results96 (hR:= ?_);exact⟨rfl,rfl⟩)
theorem aVv (bw bd ba bs:Nat) (α:Ar) (ca:aAc) (h:aKu ba α ca) (f:Fl) (n a kb pos bx:Nat) (g:Gr) (Gs:List Gr) (hg:α.gs.Perm (g::Gs)):
  Cb AC 96 [pv bx] [aAi bw bd ba bs,ca,[(bx,row (aBh bw f g.bb n a kb pos false) 180)]] fun v H'=>
   ∃(aa:aAc) (α':Ar),v= .tuple #[]∧aKu ba α' aa∧α'.gs.Perm Gs∧α'.room=α.room∧H'=[aAi bw bd ba bs,aa,[(bx,row (aBh bw f g.bb n a kb pos true) 180)]]:=by
 have hR:=aFs ba α ca h g Gs hg
 unfold aBh aAi
 refine Cb.intro Tryz.func96 rfl Tryz.ntmps96 (nle rfl) fun w0=> ?_;dsimp only[aAa,AD]
 repeat(refine sv ?_;intros)
 refine R.call (hct:=hR) (h:= ?_)
 rintro _ _ ⟨aa,α',rfl,ab,ac,ad,rfl⟩
 try dsimp only[AA,AB]
 repeat(refine sv ?_;intros)
 (refine Dn.postEnd (Hr:=[[(bw,row [pv bd,pv ba,pv bs] 105)],aa,[(bx,row [pv bw,.int .i64 (f.first:Int),.int .i64 (f.blocks:Int),.int .i64 (f.width:Int),.int .i64 (f.count:Int),pv g.bb,.int .i64 (n:Int),.int .i64 (a:Int),.int .i64 (kb:Int),.int .i64 (pos:Int),.bool true] 180)]]) Tryz.results96 (hR:= ?_);
  exact⟨aa,α',rfl,ab,ac,ad,rfl⟩)
theorem bGr (bw bd ba bs:Nat) (α:Ar) (ca:aAc) (h:aKu ba α ca) (f:Fl) (n a kb pos bx:Nat) (g:Gr) (Gs:List Gr) (hg:α.gs.Perm (g::Gs)):
  Ct AC 96 [pv bx] [aAi bw bd ba bs,ca,[(bx,row (aBh bw f g.bb n a kb pos false) 180)]] fun v H'=>
   ∃(aa:aAc) (α':Ar),v= .tuple #[]∧aKu ba α' aa∧α'.gs.Perm Gs∧α'.room=α.room∧H'=[aAi bw bd ba bs,aa,[(bx,row (aBh bw f g.bb n a kb pos true) 180)]]:=(aVv bw bd ba bs α ca h f n a kb pos bx g Gs hg).1
theorem bQf (bw bd ba bs:Nat) (δ:Dv) (cd c1:aAc) (h:aEc bd δ cd) (bx:Nat) (f:Fl) (n a kb pos:Nat) (g:Gr) (au:g.n=δ.size) (buf pw:List Int) (ae:buf.length=δ.size) (m:Nat) (hm:m=min (f.count-pos) (aAf δ.size f.width)) (av:1≤m)
  (aa:1≤f.width) (ac:f.width≤5) (a3:pos≤f.count) (a4:f.count≤100000000) (ad:pw.length=m*f.width) (hb:f.first+kb<δ.blocks) (ap:δ.disk (f.first+kb)=some (aDd δ.size ((f.first+kb:Nat):Int) (f.width:Int) pw)) (hf:δ.fault≠0) (aq:δ.acts≤1000000000000):
  Ct AC 165 [pv bx] [aAi bw bd ba bs,cd,c1,[g.obj],[(bx,row (aBh bw f g.bb n a kb pos false) 180)],[(g.br,row (aAg buf) 174)]] fun v H'=>
   ∃cd',v= .int .i64 0∧aEc bd δ.acted cd'∧H'=[aAi bw bd ba bs,cd',c1,[g.obj],[(bx,row (aBh bw f g.bb (m*f.width) 0 (kb+1) pos false) 180)],[(g.br,row (aAg (aOz buf 0 pw)) 174)]]:=by
 obtain⟨⟨ag,aw⟩,bc,be⟩:=h.num
 have hp:=aAl ag aa ac
 have ah:m*f.width≤δ.size-2:=by
  have h1:m*f.width≤aAf δ.size f.width*f.width:=A7 _ oM
  exact BB h1 aOv
 have ax:1≤m*f.width:=Nat.mul_pos av aa
 have ay:=bPz bd δ cd h (f.first+kb) hb hf aq _ ap
 have ai:=fun bl cap rest aj=>Get_ct δ.size (f.first+kb) f.width pw bl cap rest 174 ⟨ag,aw⟩ aj oM (m*f.width) ad.symm ax ah
 have bf:(aDd δ.size ((f.first+kb:Nat):Int) (f.width:Int) pw).length=δ.size:=aIh _ _ _ _ oM
 have a5:AJ .i64 ((f.first:Int)+(kb:Int))=((f.first+kb:Nat):Int):=by rw[←DA];exact aAd oM
 have az:aAf δ.size f.width≤256:=BB (CW _ _) oM
 have ak:(min ((f.count:Int)-(pos:Int)) ((aAf δ.size f.width:Nat):Int))=(m:Int):=oM
 have a0:AJ .i64 ((min ((f.count:Int)-(pos:Int)) ((aAf δ.size f.width:Nat):Int))*(f.width:Int))=((m*f.width:Nat):Int):=by
  rw[ak,←Int.natCast_mul];exact aAd oM
 have bg:Nat.min (m*f.width) δ.size=m*f.width:=Nat.min_eq_left oM
 have a1:aFm (aAg buf) 0 (aAg pw)=aAg (aOz buf 0 pw):=by
  rw[aGb _ _ _ (by simp[ae];omega)]
  simp[aOz,aAg,List.map_drop]
 have bh:=aLy pw
 have al:(aAg pw).length=m*f.width:=by rw[aBz,ad]
 have bi:0+m*f.width≤(aAg buf).length:=by rw[aBz,ae];omega
 have am:([g.obj]:aAc)=[(g.bb,row [.slice (some ⟨g.br,0,none⟩) δ.size δ.size] 177)]:=by unfold Gr.obj;rw[au]
 rw[am]
 generalize aDd δ.size ((f.first+kb:Nat):Int) (f.width:Int) pw=sw at*
 unfold aBh aAi
 refine Ct.go Tryz.func165 Tryz.ntmps165 fun w0=> ?_
 repeat(first|(refine sv ?_;intros)|refine G.draw (id:=5) [(19,.quiet)] (h:= ?_)|refine cq hH ?_)
 refine R.call (hct:=ay) (h:= ?_)
 rintro _ _ ⟨cd',p,an,c2,rfl,hV,ao,rfl⟩
 try dsimp only[AA,AB]
 obtain⟨_,h0|⟨bl,rest,rfl,rfl,bk,bo,bp⟩⟩:=hV
 ·omega
 have hH:CtQ AC 156 [pv bw,.int .i64 (f.width:Int)] [[(bw,row [pv bd,pv ba,pv bs] 105)],cd'] (.int .i64 ((aAf δ.size f.width:Nat):Int)):=aHp bw bd ba bs δ.acted cd' ao f.width aa ac
 repeat(first|(refine sv ?_;intros)|refine G.draw (id:=5) [(19,.quiet)] (h:= ?_)|refine cq hH ?_)
 refine R.call (hct:=ai bl an rest oM) (h:= ?_)
 rintro _ _ ⟨p2,a6,c3,rfl,a2,rfl⟩
 try dsimp only[AA,AB]
 obtain⟨_,h0|⟨b2,ab,rfl,rfl,a7,a8,a9⟩⟩:=a2
 ·omega
 have bq:((aAg pw++ab).drop 0).take (m*f.width)=aAg pw:=aNo al
 repeat(first|(refine sv ?_;intros)|refine G.draw (id:=5) [(19,.quiet)] (h:= ?_)|refine cq hH ?_)
 (refine Dn.post (Hr:=[[(bw,row [pv bd,pv ba,pv bs] 105)],cd',c1,[(g.bb,row [.slice (some ⟨g.br,0,none⟩) δ.size δ.size] 177)],[(bx,row [pv bw,.int .i64 (f.first:Int),.int .i64 (f.blocks:Int),.int .i64 (f.width:Int),.int .i64 (f.count:Int),pv g.bb,.int .i64 ((m*f.width:Nat):Int),.int .i64 ((0:Nat):Int),.int .i64 ((kb+1:Nat):Int),.int .i64 (pos:Int),.bool false] 180)],[(g.br,row (aAg (aOz buf 0 pw)) 174)]]) Tryz.results165 (hR:= ?_);
  exact⟨cd',rfl,ao,rfl⟩)
structure RdB (size k count kb:Nat) (ts:List T5) (pos:Nat) (buf:List Int) (n a:Nat):Prop where
 posc:pos≤count
 tsl:ts.length=count
 na:a+(min count (kb*aAf size k)-pos)*k=n
 ns:n≤size-2
 bl:buf.length=size
 bw:(buf.drop a).take ((min count (kb*aAf size k)-pos)*k)=aBr k ((ts.drop pos).take (min count (kb*aAf size k)-pos))
def bLb (size k count:Nat) (ts:List T5) (pos:Nat) (buf:List Int) (n a:Nat):Prop:=RdB size k count (aAb size k pos) ts pos buf n a
theorem aEk {s k:Nat} (h:1≤aAf s k):aAb s k 0=0:=by
 unfold aAb;rw[BT,Nat.div_eq_of_lt oM]
theorem bLb.start {size k count:Nat} {ts:List T5} (hs:1≤aAf size k) (ht:ts.length=count):bLb size k count ts 0 (BY size 0) 0 0:=by
 unfold bLb
 rw[aEk hs]
 exact⟨AS _,ht,by simp,AS _,by simp,by simp⟩
theorem bDw {s k pos:Nat} (hh:1≤aAf s k) (aa:pos<aAb s k pos*aAf s k):aAb s k (pos+1)=aAb s k pos:=by
 have h1:aAb s k pos≤aAb s k (pos+1):=aAm oM
 refine Nat.le_antisymm ?_ h1
 generalize aAb s k pos=q at aa
 unfold aAb
 generalize aAf s k=h at*
 have h2:pos+1+h-1<(q+1)*h:=by rw[BG];omega
 have:=(Nat.div_lt_iff_lt_mul oM).2 h2
 omega
theorem aRl {s k pos q:Nat} (hh:1≤aAf s k) (he:pos=q*aAf s k):aAb s k (pos+1)=q+1:=by
 unfold aAb
 generalize aAf s k=h at*
 have:pos+1+h-1=(q+1)*h:=by rw[BG];omega
 rw[this,Nat.mul_div_cancel _ oM]
theorem bDx {s k pos:Nat} (hh:1≤aAf s k):pos≤aAb s k pos*aAf s k:=by
 unfold aAb
 generalize aAf s k=h at*
 have e:=Nat.div_add_mod (pos+h-1) h
 have h2:=EH (pos+h-1) (show 0<h by omega)
 rw[EK] at e
 omega
theorem RdB.get {size k count kb:Nat} {ts:List T5} {pos:Nat} {buf:List Int} {n a:Nat} (h:RdB size k count kb ts pos buf n a) (hk:k≤5) (ab:pos<min count (kb*aAf size k)) {t:T5} (ht:ts[pos]? =some t) (i:Nat) (hi:i<k):buf[a+i]? =some (wd (t.col i)):=by
 have hm:i<(min count (kb*aAf size k)-pos)*k:=Nat.lt_of_lt_of_le hi (DW k oM)
 have h1:=congrArg (·[i]?) h.bw
 simp only[BW,hm,if_true,List.getElem?_drop] at h1
 rw[h1]
 have aa:pos<ts.length:=(AK.1 ht).1
 have e:ts.drop pos=t::ts.drop (pos+1):=by rw[BQ aa,(AK.1 ht).2]
 obtain⟨q,hq⟩:∃q,min count (kb*aAf size k)-pos=q+1:=⟨min count (kb*aAf size k)-pos-1,oM⟩
 rw[e,hq,List.take_succ_cons]
 simp only[aBr,A8]
 rw[List.getElem?_append_left (by rw[aCp t hk];exact hi)]
 exact bBm t k i hi hk
theorem RdB.step {size k count kb:Nat} {ts:List T5} {pos:Nat} {buf:List Int} {n a:Nat} (h:RdB size k count kb ts pos buf n a) (hk:k≤5) (ac:pos<min count (kb*aAf size k)):RdB size k count kb ts (pos+1) buf n (a+k):=by
 obtain⟨q,hq⟩:∃q,min count (kb*aAf size k)-pos=q+1:=⟨min count (kb*aAf size k)-pos-1,oM⟩
 have aa:min count (kb*aAf size k)-(pos+1)=q:=oM
 refine⟨oM,h.tsl,?_,h.ns,h.bl,?_⟩
 ·rw[aa];have:=h.na;rw[hq,BG] at this;omega
 ·rw[aa]
  have h1:=h.bw
  rw[hq] at h1
  have ab:pos<ts.length:=by have:=h.tsl;omega
  have e:ts.drop pos=ts[pos]::ts.drop (pos+1):=BQ ab
  rw[e,List.take_succ_cons] at h1
  simp only[aBr,A8] at h1⊢
  have h2:=congrArg (List.drop k) h1
  rw[List.drop_left' (aCp _ hk),List.drop_take,List.drop_drop] at h2
  rw[←h2,BG,Nat.add_sub_cancel]
theorem RdB.load {size k count kb:Nat} {ts:List T5} {pos:Nat} {buf:List Int} {n a m:Nat} (h:RdB size k count kb ts pos buf n a) (hk:k≤5) (he:pos=kb*aAf size k) (hm:m=min (count-pos) (aAf size k)):
  RdB size k count (kb+1) ts pos (aOz buf 0 (aBr k ((ts.drop (kb*aAf size k)).take (aAf size k)))) (m*k) 0∧(aBr k ((ts.drop (kb*aAf size k)).take (aAf size k))).length=m*k:=by
 have hl:((ts.drop (kb*aAf size k)).take (aAf size k)).length=m:=by rw[BN,CK,h.tsl,←he,hm,Nat.min_comm]
 have aa:(aBr k ((ts.drop (kb*aAf size k)).take (aAf size k))).length=m*k:=by rw[aCh hk,hl]
 have ac:m*k≤size-2:=BB (A7 _ oM) aOv
 have ab:min count ((kb+1)*aAf size k)-pos=m:=by rw[BG];have:=h.posc;omega
 refine⟨⟨h.posc,h.tsl,by rw[ab];omega,ac,by rw[aGe (by rw[aa,h.bl];omega),h.bl],?_⟩,aa⟩
 rw[ab]
 unfold aOz
 rw[EL,AB,CT,CR oM,A4 oM,he]
 congr 1
 rw[List.take_eq_take_iff]
 simp only[CK,h.tsl]
 omega
theorem bDy (bw bd ba bs:Nat) (δ:Dv) (cd:aAc) (h:aEc bd δ cd) (bx:Nat) (f:Fl) (n a kb pos bb:Nat) (hb:f.first+kb<δ.blocks) (hf:δ.fault=0):
  Ct AC 165 [pv bx] [aAi bw bd ba bs,cd,[(bx,row (aBh bw f bb n a kb pos false) 180)]] fun v H'=>
   ∃cd',v= .int .i64 6∧aEc bd δ.failed cd'∧H'=[aAi bw bd ba bs,cd',[(bx,row (aBh bw f bb n a kb pos false) 180)]]:=by
 obtain⟨⟨ad,ae⟩,ag,ah⟩:=h.num
 have aa:=bDp bd δ cd h (f.first+kb) hb hf
 have ac:AJ .i64 ((f.first:Int)+(kb:Int))=((f.first+kb:Nat):Int):=by rw[←DA];exact aAd oM
 unfold aBh aAi
 refine Ct.go Tryz.func165 Tryz.ntmps165 fun w0=> ?_
 repeat(first|(refine sv ?_;intros)|refine G.drawOrd (id:=5) [0,1,2,3,4,5,6,7,8,9,10,11,12,13,14,15,16,17,18,21,22,23,24,25,19,20,26,27] [(19,.eff [4,8,25])] (h:= ?_))
 refine R.call (hct:=aa) (h:= ?_)
 rintro _ _ ⟨cd',rfl,ab,rfl⟩
 try dsimp only[AA,AB]
 repeat(first|(refine sv ?_;intros)|refine G.drawOrd (id:=5) [0,1,2,3,4,5,6,7,8,9,10,11,12,13,14,15,16,17,18,21,22,23,24,25,19,20,26,27] [(19,.eff [4,8,25])] (h:= ?_))
 (refine Dn.post (Hr:=[[(bw,row [pv bd,pv ba,pv bs] 105)],cd',[(bx,row [pv bw,.int .i64 (f.first:Int),.int .i64 (f.blocks:Int),.int .i64 (f.width:Int),.int .i64 (f.count:Int),pv bb,.int .i64 (n:Int),.int .i64 (a:Int),.int .i64 (kb:Int),.int .i64 (pos:Int),.bool false] 180)]]) Tryz.results165 (hR:= ?_);
  exact⟨cd',rfl,ab,rfl⟩)
def T5.zero:T5:=⟨0,0,0,0,0⟩
theorem bLq (bw bx:Nat) (f:Fl) (bb n a kb:Nat):CtQ AC 97 [pv bx] [[(bx,row (aBh bw f bb n a kb f.count false) 180)]] (.tuple #[tv T5.zero,.bool false,.int .i64 0]):=by
 unfold aBh
 refine Ct.go Tryz.func97 Tryz.ntmps97 fun w0=> ?_
 repeat(refine sv ?_;intros)
 (refine Dn.post (Hr:=[[(bx,row [pv bw,.int .i64 (f.first:Int),.int .i64 (f.blocks:Int),.int .i64 (f.width:Int),.int .i64 (f.count:Int),pv bb,.int .i64 (n:Int),.int .i64 (a:Int),.int .i64 (kb:Int),.int .i64 (f.count:Int),.bool false] 180)]]) Tryz.results97 (hR:= ?_);exact⟨rfl,rfl⟩)
def aIj (t:T5) (i:Nat):List Value:=(aAk t).take i++BY (5-i) (.int .i64 0)
theorem aVw (t:T5) (i:Nat) (h:i<5):(aIj t i).set i (.int .i64 (t.col i))=aIj t (i+1):=by
 match i,h with
 |0,_=>rfl
 |1,_=>rfl
 |2,_=>rfl
 |3,_=>rfl
 |4,_=>rfl
theorem aVx (t:T5) (k:Nat) (h:k≤5) (ht:okT k t):aIj t k=aAk t:=by
 obtain⟨_,h2⟩:=ht
 match k,h,h2 with
 |0,_,h2=>
  have:=h2 0 oM;have:=h2 1 oM;have:=h2 2 oM;have:=h2 3 oM;have:=h2 4 oM
  simp_all [aIj,aAk,T5.col]
 |1,_,h2=>
  have:=h2 1 oM;have:=h2 2 oM;have:=h2 3 oM;have:=h2 4 oM
  simp_all [aIj,aAk,T5.col]
 |2,_,h2=>
  have:=h2 2 oM;have:=h2 3 oM;have:=h2 4 oM
  simp_all [aIj,aAk,T5.col]
 |3,_,h2=>
  have:=h2 3 oM;have:=h2 4 oM
  simp_all [aIj,aAk,T5.col]
 |4,_,h2=>
  have:=h2 4 oM
  simp_all [aIj,aAk,T5.col]
 |5,_,_=>rfl
theorem aRm (t:T5):aIj t 0=[.int .i64 0,.int .i64 0,.int .i64 0,.int .i64 0,.int .i64 0]:=rfl
theorem aNa (t:T5) (i:Nat) (h:i≤5):(aIj t i).length=5:=by simp[aIj,aAk];omega
theorem bGs {k:Nat} {t:T5} (h:okT k t) (i:Nat) (hi:i<5):aAv (t.col i):=by
 obtain⟨h1,_⟩:=h
 apply h1
 match i,hi with
 |0,_=>simp[T5.toList,T5.col]
 |1,_=>simp[T5.toList,T5.col]
 |2,_=>simp[T5.toList,T5.col]
 |3,_=>simp[T5.toList,T5.col]
 |4,_=>simp[T5.toList,T5.col]
def NextOk (bw bd ba bs bx:Nat) (W:Wk) (ca cs:aAc) (f:Fl) (ts:List T5) (g:Gr) (pos:Nat) (t:T5) (v:Value) (H':Hp):Prop:=
 ∃(cd ab:aAc) (δ':Dv) (aa:List Int) (n a:Nat),v= .tuple #[tv t,.bool true,.int .i64 0]∧
  H'=[aAi bw bd ba bs,cd,ab,cs,[(bx,row (aBh bw f g.bb n a (aAb W.δ.size f.width (pos+1)) (pos+1) false) 180)],[(g.br,row (aAg aa) 174)]]∧ab.Perm ca∧
  aEc bd δ' cd∧δ'.size=W.δ.size∧δ'.blocks=W.δ.blocks∧(W.δ.fault= -1→δ'.fault= -1)∧δ'.acts=W.δ.acts+(aAb W.δ.size f.width (pos+1)-aAb W.δ.size f.width pos)∧δ'.disk=W.δ.disk∧
  bLb W.δ.size f.width f.count ts (pos+1) aa n a
def bOj (bw bd ba bs bx:Nat) (W:Wk) (Gs:List Gr) (cs:aAc) (f:Fl) (g:Gr) (cb:aAc) (v:Value) (H':Hp):Prop:=
 v= .tuple #[tv T5.zero,.bool false,.int .i64 6]∧W.δ.fault=0∧∃(cd ca:aAc) (α':Ar) (n a kb pos:Nat),H'=[aAi bw bd ba bs,cd,ca,cs,[(bx,row (aBh bw f g.bb n a kb pos true) 180)],cb]∧
  aEc bd W.δ.failed cd∧aKu ba α' ca∧α'.gs.Perm Gs∧α'.room=W.α.room
theorem bGt (bw bd ba bs:Nat) (W:Wk) (cd ca cs:aAc) (h:Wc bd ba bs W cd ca cs) (bx:Nat) (f:Fl) (ts:List T5) (Lv:List Ext) (ae:aAq W.δ.disk W.δ.size Lv f ts) (a2:∀e∈Lv,e∈W.live) (g:Gr) (Gs:List Gr) (hg:W.α.gs.Perm (g::Gs)) (a1:g.n=W.δ.size)
  (pos n a:Nat) (buf:List Int) (ho:bLb W.δ.size f.width f.count ts pos buf n a) (ci:pos<f.count) (t:T5) (ht:ts[pos]? =some t) (be:W.δ.acts≤1000000000000):
  Ct AC 97 [pv bx] [aAi bw bd ba bs,cd,ca,cs,[(bx,row (aBh bw f g.bb n a (aAb W.δ.size f.width pos) pos false) 180)],[(g.br,row (aAg buf) 174)]] fun v H'=>
   NextOk bw bd ba bs bx W ca cs f ts g pos t v H'∨bOj bw bd ba bs bx W Gs cs f g [(g.br,row (aAg buf) 174)] v H':=by
 obtain⟨⟨bf,cj⟩,cm,cu⟩:=h.dev.num
 obtain⟨c1,ay⟩:=h.ar.open_ (hg.mem_iff.2 AH)
 have a3:=ae.w1
 have ac:=ae.w2
 have a4:=ae.cnt
 have hp:=aAl bf a3 ac
 have av:([g.obj]:aAc)=[(g.bb,row [.slice (some ⟨g.br,0,none⟩) W.δ.size W.δ.size] 177)]:=by unfold Gr.obj;rw[a1]
 have aw:okT f.width t:=ae.fit t (List.mem_of_getElem? ht)
 have cv:=bDx (s:=W.δ.size) (k:=f.width) (pos:=pos) hp
 have az:W.δ.fault= -1→aVk W.δ.fault= -1:=fun e=>by unfold aVk;rw[e];rfl
 have b9:f.first+aAb W.δ.size f.width pos<W.δ.blocks∨f.blocks≤aAb W.δ.size f.width pos:=by
  by_cases hb:f.blocks≤aAb W.δ.size f.width pos
  ·exact .inr hb
  ·have:=h.live.fit _ (a2 _ (ae.live oM))
   simp only[Fl.ext] at this
   left;rw[h.nn];omega
 have aj:∀i,i<f.width→AJ .i64 (wd (t.col i))=t.col i:=fun i hi=>aVn (bGs aw i oM)
 generalize ak:aAb W.δ.size f.width pos=kb at*
 have al:(([aAi bw bd ba bs,cd,ca,cs,[(bx,row (aBh bw f g.bb n a kb pos false) 180)],[(g.br,row (aAg buf) 174)]]:Hp).flatten).Perm
   (([aAi bw bd ba bs,cd,c1,[g.obj],cs,[(bx,row (aBh bw f g.bb n a kb pos false) 180)],[(g.br,row (aAg buf) 174)]]:Hp).flatten):=by
  simp only[AW,A5,AQ,AP]
  refine BE _ (BE _ ?_)
  rw[←AP c1]
  exact DB _ ay
 unfold bLb at ho
 rw[ak] at ho
 have a5:=aRm t
 have a6:=aNa t
 have am:=aVw t
 have an:=aVx t f.width ac aw
 by_cases ao:pos<min f.count (kb*aAf W.δ.size f.width)
 ·
  have ag:=ho.step ac ao
  have ap:=ho.get ac ao ht
  have a7:=ho.na
  have bg:=ho.ns
  have bh:=ho.bl
  have bi:f.width≤(min f.count (kb*aAf W.δ.size f.width)-pos)*f.width:=DW _ oM
  have aa:aAb W.δ.size f.width (pos+1)=kb:=by rw[←ak];exact bDw hp (by rw[ak];omega)
  refine Ct.convP (H2:=[aAi bw bd ba bs,cd,c1,[g.obj],cs,[(bx,row (aBh bw f g.bb n a kb pos false) 180)],[(g.br,row (aAg buf) 174)]])
   (R2:=fun v H'=>v= .tuple #[tv t,.bool true,.int .i64 0]∧H'=[aAi bw bd ba bs,cd,c1,[g.obj],cs,[(bx,row (aBh bw f g.bb n (a+f.width) kb (pos+1) false) 180)],[(g.br,row (aAg buf) 174)]]) ?_ al ?_
  ·rw[av]
   unfold aBh aAi
   have cw:¬((a:Int)=(n:Int)):=oM
   refine Ct.go Tryz.func97 Tryz.ntmps97 fun w0=> ?_
   repeat(refine sv ?_;intros)
   rename_i b2 b5
   refine G.loop (X:=Nat) (fun i=>i≤f.width) (fun i=>[(52,.int .i64 (i:Int)),(51,.int .i64 (f.width:Int)),(0,pv bx),(5,.pointer (some ⟨b5,0,none⟩)),(2,.pointer (some ⟨b2,0,none⟩))])
    (fun i=>[[(b2,row (aIj t 0) 33)],[(b5,row (aIj t i) 33)],[(bw,row [pv bd,pv ba,pv bs] 105)],cd,c1,[(g.bb,row [.slice (some ⟨g.br,0,none⟩) W.δ.size W.δ.size] 177)],cs,
     [(bx,row [pv bw,.int .i64 (f.first:Int),.int .i64 (f.blocks:Int),.int .i64 (f.width:Int),.int .i64 (f.count:Int),pv g.bb,.int .i64 ((n:Nat):Int),.int .i64 ((a:Nat):Int),.int .i64 ((kb:Nat):Int),.int .i64 (pos:Int),.bool false] 180)],[(g.br,row (aAg buf) 174)]])
    (fun i=>f.width-i) 0 oM (body:= ?_)
   intro i hi
   by_cases aq:i<f.width
   ·have bk:(aAg buf)[a+i]? =some (.int .u64 (wd (t.col i))):=by
     unfold aAg;rw[BU,ap i aq];rfl
    have bo:=aj i aq
    have bp:=am i oM
    have bq:=a6 i oM
    have bu:(((a:Nat):Int)+(i:Int)).toNat=a+i:=oM
    repeat(refine sv ?_;intros)
    exact Dn.round (i+1) oM oM
   ·have a0:f.width=i:=oM
    subst a0
    rw[an,a5]
    unfold aAk
    repeat(refine sv ?_;intros)
    (refine Dn.post (Hr:=[[(bw,row [pv bd,pv ba,pv bs] 105)],cd,c1,[(g.bb,row [.slice (some ⟨g.br,0,none⟩) W.δ.size W.δ.size] 177)],cs,[(bx,row [pv bw,.int .i64 (f.first:Int),.int .i64 (f.blocks:Int),.int .i64 (f.width:Int),.int .i64 (f.count:Int),pv g.bb,.int .i64 ((n:Nat):Int),.int .i64 ((a+f.width:Nat):Int),.int .i64 ((kb:Nat):Int),.int .i64 ((pos+1:Nat):Int),.bool false] 180)],[(g.br,row (aAg buf) 174)]]) Tryz.results97 (hR:= ?_);
     exact⟨rfl,rfl⟩)
  ·rintro v H' ⟨rfl,rfl⟩
   refine⟨_,.inl ⟨cd,c1++[g.obj],W.δ,buf,n,a+f.width,rfl,rfl,ay.symm,h.dev,rfl,rfl,id,?_,rfl,?_⟩,?_⟩
   ·rw[aa,ak];omega
   ·unfold bLb;rw[aa];exact ag
   ·rw[aa];simp
 ·have ah:pos=kb*aAf W.δ.size f.width:=oM
  have a8:kb<f.blocks:=by
   have h1:aAb W.δ.size f.width (pos+1)=kb+1:=aRl hp ah
   have h2:=aAm (s:=W.δ.size) (k:=f.width) (show pos+1≤f.count by omega)
   rw[ae.blk];omega
  have a9:f.first+kb<W.δ.blocks:=oM
  have bv:=ae.onto kb a8
  have aa:aAb W.δ.size f.width (pos+1)=kb+1:=aRl hp ah
  have a7:a=n:=by
   have:=ho.na
   rw[show min f.count (kb*aAf W.δ.size f.width)-pos=0 by omega] at this
   omega
  subst a7
  obtain⟨m,hm⟩:∃m,m=min (f.count-pos) (aAf W.δ.size f.width):=⟨_,rfl⟩
  obtain⟨ai,bz⟩:=ho.load ac ah hm
  by_cases hf:W.δ.fault=0
  ·have b1:=bDy bw bd ba bs W.δ cd h.dev bx f a a kb pos g.bb a9 hf
   have b3:=bGr bw bd ba bs W.α ca h.ar f a a kb pos bx g Gs hg
   refine Ct.mono (R:=fun v H'=>bOj bw bd ba bs bx W Gs cs f g [(g.br,row (aAg buf) 174)] v H') ?_ (fun _ _ h=> .inr h)
   unfold aBh aAi at*
   refine Ct.go Tryz.func97 Tryz.ntmps97 fun w0=> ?_
   repeat(refine sv ?_;intros)
   refine R.call (hct:=b1) (h:= ?_)
   rintro _ _ ⟨ab,rfl,au,rfl⟩
   try dsimp only[AA,AB]
   repeat(refine sv ?_;intros)
   refine R.call (hct:=b3) (h:= ?_)
   rintro _ _ ⟨bc,α',rfl,b4,b6,b7,rfl⟩
   try dsimp only[AA,AB]
   repeat(refine sv ?_;intros)
   (refine Dn.post (Hr:=[[(bw,row [pv bd,pv ba,pv bs] 105)],ab,bc,cs,[(bx,row [pv bw,.int .i64 (f.first:Int),.int .i64 (f.blocks:Int),.int .i64 (f.width:Int),.int .i64 (f.count:Int),pv g.bb,.int .i64 (a:Int),.int .i64 (a:Int),.int .i64 (kb:Int),.int .i64 (pos:Int),.bool true] 180)],[(g.br,row (aAg buf) 174)]]) Tryz.results97 (hR:= ?_);
    exact⟨rfl,hf,ab,bc,α',a,a,kb,pos,rfl,au,b4,b6,b7⟩)
  ·have b8:=bQf bw bd ba bs W.δ cd c1 h.dev bx f a a kb pos g a1 buf _ ho.bl m hm oM a3 ac ho.posc a4 bz a9 bv hf be
   have ax:pos<min f.count ((kb+1)*aAf W.δ.size f.width):=by rw[BG];omega
   generalize cg:aOz buf 0 (aBr f.width ((ts.drop (kb*aAf W.δ.size f.width)).take (aAf W.δ.size f.width)))=ad at*
   have ag:=ai.step ac ax
   have ap:=ai.get ac ax ht
   have bg:=ai.ns
   have bh:=ai.bl
   have bi:f.width≤m*f.width:=DW _ oM
   refine Ct.convP (H2:=[aAi bw bd ba bs,cd,c1,[g.obj],cs,[(bx,row (aBh bw f g.bb a a kb pos false) 180)],[(g.br,row (aAg buf) 174)]])
    (R2:=fun v H'=>v= .tuple #[tv t,.bool true,.int .i64 0]∧∃ab,aEc bd W.δ.acted ab∧H'=[aAi bw bd ba bs,ab,c1,[g.obj],cs,[(bx,row (aBh bw f g.bb (m*f.width) (0+f.width) (kb+1) (pos+1) false) 180)],[(g.br,row (aAg ad) 174)]]) ?_ al ?_
   ·rw[av] at*
    unfold aBh aAi at*
    refine Ct.go Tryz.func97 Tryz.ntmps97 fun w0=> ?_
    repeat(refine sv ?_;intros)
    refine R.call (hct:=b8) (h:= ?_)
    rintro _ _ ⟨ab,rfl,au,rfl⟩
    try dsimp only[AA,AB]
    repeat(refine sv ?_;intros)
    rename_i b2 b5
    refine G.loop (X:=Nat) (fun i=>i≤f.width) (fun i=>[(52,.int .i64 (i:Int)),(51,.int .i64 (f.width:Int)),(0,pv bx),(5,.pointer (some ⟨b5,0,none⟩)),(2,.pointer (some ⟨b2,0,none⟩))])
     (fun i=>[[(b2,row (aIj t 0) 33)],[(b5,row (aIj t i) 33)],[(bw,row [pv bd,pv ba,pv bs] 105)],ab,c1,[(g.bb,row [.slice (some ⟨g.br,0,none⟩) W.δ.size W.δ.size] 177)],cs,
      [(bx,row [pv bw,.int .i64 (f.first:Int),.int .i64 (f.blocks:Int),.int .i64 (f.width:Int),.int .i64 (f.count:Int),pv g.bb,.int .i64 ((m*f.width:Nat):Int),.int .i64 ((0:Nat):Int),.int .i64 ((kb+1:Nat):Int),.int .i64 (pos:Int),.bool false] 180)],[(g.br,row (aAg ad) 174)]])
     (fun i=>f.width-i) 0 oM (body:= ?_)
    intro i hi
    by_cases aq:i<f.width
    ·have bk:(aAg ad)[0+i]? =some (.int .u64 (wd (t.col i))):=by
      unfold aAg;rw[BU,ap i aq];rfl
     have bo:=aj i aq
     have bp:=am i oM
     have bq:=a6 i oM
     have bu:(((0:Nat):Int)+(i:Int)).toNat=0+i:=oM
     repeat(refine sv ?_;intros)
     exact Dn.round (i+1) oM oM
    ·have a0:f.width=i:=oM
     subst a0
     rw[an,a5]
     unfold aAk
     repeat(refine sv ?_;intros)
     (refine Dn.post (Hr:=[[(bw,row [pv bd,pv ba,pv bs] 105)],ab,c1,[(g.bb,row [.slice (some ⟨g.br,0,none⟩) W.δ.size W.δ.size] 177)],cs,[(bx,row [pv bw,.int .i64 (f.first:Int),.int .i64 (f.blocks:Int),.int .i64 (f.width:Int),.int .i64 (f.count:Int),pv g.bb,.int .i64 ((m*f.width:Nat):Int),.int .i64 ((0+f.width:Nat):Int),.int .i64 ((kb+1:Nat):Int),.int .i64 ((pos+1:Nat):Int),.bool false] 180)],[(g.br,row (aAg ad) 174)]]) Tryz.results97 (hR:= ?_);
      exact⟨rfl,ab,au,rfl⟩)
   ·rintro v H' ⟨rfl,ab,au,rfl⟩
    refine⟨_,.inl ⟨ab,c1++[g.obj],W.δ.acted,ad,m*f.width,0+f.width,rfl,rfl,ay.symm,au,rfl,rfl,az,?_,rfl,?_⟩,?_⟩
    ·rw[aa,ak,Nat.add_sub_cancel_left];rfl
    ·unfold bLb;rw[aa];exact ag
    ·rw[aa];simp
end Go.Proofs.YtaofijjjheiknaaGreat
