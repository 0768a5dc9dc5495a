/-
  Parts of the proof, put together: SortsLaw, SortOnce. No condition.
-/
import Derived.Test.YtdkihpjnidhnmaaGreatB5
set_option linter.unusedVariables false
set_option linter.unusedSimpArgs false
set_option linter.unnecessarySimpa false
namespace Go.Proofs.YtdkihpjnidhnmaaGreat
open Go.SL Go.Spc Go.Tup Go.Srt
set_option maxHeartbeats 4000000 in
theorem sorts_ct (a b c d d2 : Nat) (ha : a < 256) (hb : b < 256) (hc : c < 256) (hd : d < 256) (p : Option Addr) (n cap : Nat) (ts : List T5) (ch : Chunk) (hv : RV p n ts ch) (hm : n ≤ maxLen) (hin : InT ts) (o : T5) (once : Bool) :
    CtQ Tryz.prog 31 [.agg #[.int .u8 (a : Int), .int .u8 (b : Int), .int .u8 (c : Int), .int .u8 (d2 : Int)], .int .u8 (d : Int), .slice p n cap, tv o, .bool once] [ch] (.bool true) := by
  have hWk := workS_ct a b c d2 ha hb hc
  have hAw := awakeS_ct
  have hRF := rFormed_ct o.c0 o.c1 o.c2 o.c3 o.c4
  rw [show (⟨o.c0, o.c1, o.c2, o.c3, o.c4⟩ : T5) = o from rfl] at hRF
  have hov : tv o = .agg #[.int .i64 o.c0, .int .i64 o.c1, .int .i64 o.c2, .int .i64 o.c3, .int .i64 o.c4] := rfl
  have hs : 8 ≤ psz a ∧ psz a ≤ 67 := by unfold psz; omega
  have hm0 : n ≤ 9223372036854775807 := by simpa [maxLen] using hm
  obtain ⟨k, hk⟩ : ∃ k, k = 1 + d % 5 := ⟨_, rfl⟩
  have e1 : IntKind.wrap .i64 ((d : Int).tmod 5) = ((d % 5 : Nat) : Int) := by rw [Int.tmod_eq_emod_of_nonneg (by omega), wrap_i64 (by omega)]; omega
  have e2 : IntKind.wrap .i64 (1 + ((d % 5 : Nat) : Int)) = (k : Int) := by rw [wrap_i64 (by omega)]; omega
  have e3 : IntKind.wrap .i64 (5 * (psz a : Int)) = ((5 * psz a : Nat) : Int) := by rw [wrap_i64 (by omega)]; omega
  have hRS := fun hn => rSortF_ct o once p n cap ts ch hv hn
  rw [hov] at hRS ⊢
  generalize hps : psz a = s at *
  generalize hpr : proom a b c = room at *
  refine Ct.intro Tryz.func31 rfl Tryz.ntmps31 (nle rfl) fun w0 => ?_; dsimp only [argSlots, Nat.reduceAdd]
  repeat (first | apply G.seq | refine G.plain (h := ?_) | apply Dn.next | refine R.enter0 (h := ?_) | refine R.nil (h := ?_) | refine R.assign (h := ?_) | refine R.loadN (h := ?_) | (refine R.box (h := ?_); intro _))
  refine R.call (hct := hWk) (h := ?_)
  rintro _ _ ⟨bw, bd, ba, bs, cd, ca, cs, rfl, rfl, hW⟩
  try dsimp only [List.cons_append, List.nil_append]
  have hWA := WArena_ct bw bd ba bs
  have hWS := WSpace_ct bw bd ba bs
  by_cases h400 : 400 < n
  · repeat (first | apply G.seq | refine G.plain (h := ?_) | apply G.ret | refine G.condT (h := ?_) | apply Dn.next | apply Dn.retThen | refine R.enter0 (h := ?_) | refine R.nil (h := ?_) | refine R.enterT (h := ?_) | refine R.skip (h := ?_) | refine R.splitT (ht := ?_) | refine R.move (h := ?_) | refine R.assign (h := ?_) | refine R.extract (h := ?_) | refine R.pickT (h := ?_) | refine R.pickF (h := ?_) | refine R.gtr (h := ?_) | refine R.addw (h := ?_) | refine R.remw (h := ?_) | refine R.convert (h := ?_) | refine R.not (h := ?_) | refine R.len (h := ?_) | refine R.eqlNil (h := ?_) | refine R.callP (hct := by apply hAw <;> (first | omega | assumption)) (h := ?_))
    (refine Dn.post (Hr := [ch]) Tryz.results31 (hR := ?_); exact ⟨rfl, rfl⟩)
  have hRS := hRS (by omega)
  have hAl := All_ct p n cap ts ch hv (by omega) k
  cases hall : ts.all (fitsB k) with
  | false =>
    rw [hall] at hAl
    repeat (first | apply G.seq | refine G.plain (h := ?_) | apply G.ret | refine G.condT (h := ?_) | apply Dn.next | apply Dn.retThen | refine R.enter0 (h := ?_) | refine R.nil (h := ?_) | refine R.enterT (h := ?_) | refine R.splitF (ht := ?_) | refine R.move (h := ?_) | refine R.assign (h := ?_) | refine R.extract (h := ?_) | refine R.pickF (h := ?_) | refine R.gtr (h := ?_) | refine R.addw (h := ?_) | refine R.remw (h := ?_) | refine R.convert (h := ?_) | refine R.not (h := ?_) | refine R.len (h := ?_) | refine R.eqlNil (h := ?_) | refine R.callP (hct := by apply hAw <;> (first | omega | assumption)) (h := ?_) | refine R.callP (hct := by apply hAl <;> (first | omega | assumption)) (h := ?_))
    (refine Dn.post (Hr := [ch]) Tryz.results31 (hR := ?_); exact ⟨rfl, rfl⟩)
  | true =>
  rw [hall] at hAl
  have hokT : ∀ t ∈ ts, okT k t := fun t ht => okT_mk (hin t ht) (List.all_eq_true.1 hall t ht)
  by_cases h1 : room < s
  · have hLR := Lay_room bw bd ba bs _ cd ca cs hW k (by omega) (by omega) p n cap ts ch hv (by omega) (by show room - 0 < s; omega)
    rw [show flv ⟨0, 0, 0, 0⟩ = .agg #[.int .i64 0, .int .i64 0, .int .i64 0, .int .i64 0] from rfl] at hLR
    repeat (first | apply G.seq | refine G.plain (h := ?_) | apply G.skip | apply G.ret | refine G.condF (h := ?_) | apply Dn.next | apply Dn.retThen | refine G.condPT (ht := ?_) | refine R.enter0 (h := ?_) | refine R.nil (h := ?_) | refine R.enterT (h := ?_) | refine R.splitF (ht := ?_) | refine R.move (h := ?_) | refine R.assign (h := ?_) | refine R.storeN (h := ?_) | (refine R.alloc (h := ?_); intro _) | refine R.extract (h := ?_) | refine R.pickF (h := ?_) | refine R.gtr (h := ?_) | refine R.eql (h := ?_) | refine R.neq (h := ?_) | refine R.addw (h := ?_) | refine R.remw (h := ?_) | refine R.convert (h := ?_) | refine R.not (h := ?_) | refine R.len (h := ?_) | refine R.eqlNil (h := ?_) | refine R.callP (hct := by apply hAw <;> (first | omega | assumption)) (h := ?_) | refine R.callP (hct := by apply hAl <;> (first | omega | assumption)) (h := ?_) | refine R.callP (hct := by apply hLR <;> (first | omega | assumption)) (h := ?_))
    (refine Dn.post (Hr := [ch]) Tryz.results31 (hR := ?_); exact ⟨congrArg Value.bool (dec_true rfl), rfl⟩)
  have hLy := Lay_ct bw bd ba bs _ cd ca cs hW k (by omega) (by omega) p n cap ts ch hv (by omega) hokT (by show s ≤ room - 0; omega) rfl (Nat.zero_le _)
  rw [big0, show (wk0 s 4000 room).δ.size = s from rfl] at hLy
  have hn400 : nblocks s k n ≤ n := nblocks_le (holds_pos hs.1 (by omega) (by omega))
  repeat (first | apply G.seq | refine G.plain (h := ?_) | apply G.skip | refine G.condF (h := ?_) | apply Dn.next | refine R.enter0 (h := ?_) | refine R.nil (h := ?_) | refine R.enterT (h := ?_) | refine R.splitF (ht := ?_) | refine R.move (h := ?_) | refine R.assign (h := ?_) | refine R.extract (h := ?_) | refine R.pickF (h := ?_) | refine R.gtr (h := ?_) | refine R.addw (h := ?_) | refine R.remw (h := ?_) | refine R.convert (h := ?_) | refine R.not (h := ?_) | refine R.len (h := ?_) | refine R.eqlNil (h := ?_) | refine R.callP (hct := by apply hAw <;> (first | omega | assumption)) (h := ?_) | refine R.callP (hct := by apply hAl <;> (first | omega | assumption)) (h := ?_))
  refine R.call (hct := hLy) (h := ?_)
  rintro _ _ ⟨cd1, ca1, cs1, W1, rfl, hW1, hE1, hK1, hg1, ⟨_, f, rfl, hl1, hf1, hf2, hfo1⟩ | ⟨hbg, _⟩⟩
  try dsimp only [List.cons_append, List.nil_append]
  · have hflv : flv f = .agg #[.int .i64 (f.first : Int), .int .i64 (f.blocks : Int), .int .i64 (f.width : Int), .int .i64 (f.count : Int)] := rfl
    rw [hflv]
    have hsz1 : W1.δ.size = s := hE1.size
    have hrm1 : W1.α.room = room := hE1.room
    have hus1 : W1.α.used = 0 := used_eq hW hW1 hg1
    have hac1 := hE1.acts
    have hbg1 := hE1.big
    rw [big0] at hbg1
    rw [show (wk0 s 4000 room).δ.acts = 0 from rfl] at hac1
    have hflt1 : W1.δ.fault = -1 := hE1.fault rfl
    have hfb : f.blocks = nblocks s k n := by rw [hfo1.blk, hf1, hf2]
    have hlv1 : W1.live.Perm (addF f []) := by rw [hl1]; exact .refl _
    have hFr := SFree_ct bs W1.σ cs1 hW1.sp
    cases hfo : formed o with
    | false =>
      rw [hfo] at hRF
      have hSA := Sort_arg bw f o hfo once
      rw [hflv, hov, show flv ⟨0, 0, 0, 0⟩ = .agg #[.int .i64 0, .int .i64 0, .int .i64 0, .int .i64 0] from rfl] at hSA
      have hUs := aUsed ba W1.α ca1 hW1.ar
      rw [hus1] at hUs
      repeat (first | apply G.seq | refine G.plain (h := ?_) | apply G.skip | apply G.ret | refine G.condT (h := ?_) | apply Dn.next | apply Dn.retThen | refine G.condPF (ht := ?_) | refine R.enter0 (h := ?_) | refine R.nil (h := ?_) | refine R.enterT (h := ?_) | refine R.skip (h := ?_) | refine R.splitT (ht := ?_) | refine R.move (h := ?_) | refine R.assign (h := ?_) | refine R.loadN (h := ?_) | refine R.storeN (h := ?_) | (refine R.alloc (h := ?_); intro _) | refine R.extract (h := ?_) | refine R.pickT (h := ?_) | refine R.eql (h := ?_) | refine R.neq (h := ?_) | refine R.not (h := ?_) | refine R.callP (hct := by apply hRF <;> (first | omega | assumption)) (h := ?_) | refine R.callP (hct := by apply hWA <;> (first | omega | assumption)) (h := ?_) | refine R.callP (hct := by apply hUs <;> (first | omega | assumption)) (h := ?_) | refine R.callP (hct := by apply hWS <;> (first | omega | assumption)) (h := ?_) | refine R.callP (hct := by apply hFr <;> (first | omega | assumption)) (h := ?_) | refine R.callP (hct := by apply hSA <;> (first | omega | assumption)) (h := ?_))
      (refine Dn.post (Hr := [ch]) Tryz.results31 (hR := ?_); exact ⟨congrArg Value.bool (dec_true rfl), rfl⟩)
    | true =>
    rw [hfo] at hRF
    by_cases h5 : room < 5 * s
    · have hSr := Sort_room bw bd ba bs W1 cd1 ca1 cs1 hW1 f ts [f.ext] (by rw [hsz1]; exact hfo1) o hfo once (by omega) (by omega)
      rw [hflv, hov, show flv ⟨0, 0, 0, 0⟩ = .agg #[.int .i64 0, .int .i64 0, .int .i64 0, .int .i64 0] from rfl] at hSr
      repeat (first | apply G.seq | refine G.plain (h := ?_) | apply G.skip | apply Dn.next | refine G.condPF (ht := ?_) | refine R.enter0 (h := ?_) | refine R.nil (h := ?_) | refine R.move (h := ?_) | refine R.assign (h := ?_) | refine R.loadN (h := ?_) | refine R.storeN (h := ?_) | (refine R.alloc (h := ?_); intro _) | refine R.extract (h := ?_) | refine R.neq (h := ?_) | refine R.callP (hct := by apply hWS <;> (first | omega | assumption)) (h := ?_) | refine R.callP (hct := by apply hFr <;> (first | omega | assumption)) (h := ?_))
      refine R.call (hct := hSr) (h := ?_)
      rintro _ _ ⟨ca2, α2, rfl, rfl, hW2, hE2, hg2⟩
      try dsimp only [List.cons_append, List.nil_append]
      have hRm := aRoom ba α2 ca2 hW2.ar
      rw [show α2.room = room from hE2.room.trans hrm1] at hRm
      have hus2 : α2.used = 0 := (used_eq hW1 hW2 hg2).trans hus1
      have hUs := aUsed ba α2 ca2 hW2.ar
      rw [hus2] at hUs
      repeat (first | apply G.seq | refine G.plain (h := ?_) | apply G.skip | apply G.ret | refine G.condF (h := ?_) | apply Dn.next | apply Dn.retThen | refine G.condPT (ht := ?_) | refine R.enter0 (h := ?_) | refine R.nil (h := ?_) | refine R.enterT (h := ?_) | refine R.splitT (ht := ?_) | refine R.move (h := ?_) | refine R.assign (h := ?_) | refine R.loadN (h := ?_) | refine R.storeN (h := ?_) | (refine R.alloc (h := ?_); intro _) | refine R.extract (h := ?_) | refine R.pickT (h := ?_) | refine R.pickF (h := ?_) | refine R.lss (h := ?_) | refine R.eql (h := ?_) | refine R.mulw (h := ?_) | refine R.not (h := ?_) | refine R.callP (hct := by apply hRF <;> (first | omega | assumption)) (h := ?_) | refine R.callP (hct := by apply hWA <;> (first | omega | assumption)) (h := ?_) | refine R.callP (hct := by apply hRm <;> (first | omega | assumption)) (h := ?_) | refine R.callP (hct := by apply hUs <;> (first | omega | assumption)) (h := ?_) | refine R.callP (hct := by apply hWS <;> (first | omega | assumption)) (h := ?_) | refine R.callP (hct := by apply hFr <;> (first | omega | assumption)) (h := ?_))
      (refine Dn.post (Hr := [ch]) Tryz.results31 (hR := ?_); exact ⟨congrArg Value.bool (dec_true rfl), rfl⟩)
    have hSo := Sort_u bw bd ba bs W1 cd1 ca1 cs1 hW1 f ts [] (by rw [hsz1]; exact hfo1) hlv1 o hfo once (by omega) (by omega) (by omega)
    rw [hflv, hov] at hSo
    repeat (first | apply G.seq | refine G.plain (h := ?_) | apply G.skip | apply Dn.next | refine G.condPF (ht := ?_) | refine R.enter0 (h := ?_) | refine R.nil (h := ?_) | refine R.move (h := ?_) | refine R.assign (h := ?_) | refine R.loadN (h := ?_) | refine R.storeN (h := ?_) | (refine R.alloc (h := ?_); intro _) | refine R.extract (h := ?_) | refine R.neq (h := ?_) | refine R.callP (hct := by apply hWS <;> (first | omega | assumption)) (h := ?_) | refine R.callP (hct := by apply hFr <;> (first | omega | assumption)) (h := ?_))
    refine R.call (hct := hSo) (h := ?_)
    rintro _ _ ⟨cd2, ca2, cs2, W2, rfl, hW2, hE2, hg2, hK2, ⟨g, out, rfl, hl2, hgw, hgc, hgo, hsd, hsp⟩ | ⟨_, hb, _⟩ | ⟨_, hb, _⟩⟩
    try dsimp only [List.cons_append, List.nil_append]
    · have hgflv : flv g = .agg #[.int .i64 (g.first : Int), .int .i64 (g.blocks : Int), .int .i64 (g.width : Int), .int .i64 (g.count : Int)] := rfl
      rw [hgflv]
      clear hFr
      rw [hfb] at hE2
      have hsz2 : W2.δ.size = s := hE2.size.trans hsz1
      have hrm2 : W2.α.room = room := hE2.room.trans hrm1
      have hus2 := (used_eq hW1 hW2 hg2).trans hus1
      have hsA := sortA_small (b := nblocks s k n) (by omega)
      obtain ⟨Lv, hfoL, hsubL⟩ := fo_sub hgo hl2
      have hLi := List_ct bw bd ba bs W2 cd2 ca2 cs2 hW2 g out Lv (by rw [hsz2, ← hsz1]; exact hfoL) hsubL (by omega) (hE2.fault hflt1) (by have := hE2.acts.2; omega) (by omega)
      rw [hgflv] at hLi
      have hRm := aRoom ba W2.α ca2 hW2.ar
      rw [hrm2] at hRm
      have h5' : ¬ room < 5 * s := h5
      repeat (first | apply G.seq | refine G.plain (h := ?_) | apply G.skip | apply Dn.next | refine G.condPF (ht := ?_) | refine R.enter0 (h := ?_) | refine R.nil (h := ?_) | refine R.enterT (h := ?_) | refine R.move (h := ?_) | refine R.assign (h := ?_) | refine R.loadN (h := ?_) | refine R.storeN (h := ?_) | (refine R.alloc (h := ?_); intro _) | refine R.extract (h := ?_) | refine R.pickF (h := ?_) | refine R.lss (h := ?_) | refine R.mulw (h := ?_) | refine R.not (h := ?_) | refine R.callP (hct := by apply hRF <;> (first | omega | assumption)) (h := ?_) | refine R.callP (hct := by apply hWA <;> (first | omega | assumption)) (h := ?_) | refine R.callP (hct := by apply hRm <;> (first | omega | assumption)) (h := ?_))
      clear hRm
      refine R.call (hct := hRS) (h := ?_)
      rintro _ _ ⟨p4, cap4, us, c4, rfl, rfl, hRV4, hul4, hsd4, hsp4⟩
      try dsimp only [List.cons_append, List.nil_append]
      repeat (first | apply G.seq | refine G.plain (h := ?_) | apply Dn.next | refine R.enter0 (h := ?_) | refine R.nil (h := ?_) | refine R.move (h := ?_) | refine R.assign (h := ?_) | refine R.loadN (h := ?_))
      refine R.call (hct := hLi) (h := ?_)
      rintro _ _ ⟨cd3, ca3, W3, p3, cap3, co, rfl, rfl, hW3, hE3, hd3, hl3, hg3', hV3⟩
      try dsimp only [List.cons_append, List.nil_append]
      have hou : out = us := sort_is hsd hsp hsd4 hsp4
      have hSm := Same_ct p3 g.count cap3 out co (RV.vec hV3) (by omega) p4 us.length cap4 us c4 hRV4
      rw [decide_eq_true hou] at hSm
      have hFr := SFree_ct bs W3.σ cs2 hW3.sp
      have hn3 : W3.σ.n = 4000 := hE3.n.trans (hE2.n.trans hE1.n)
      have htot := free_is hW3 (l := addF g []) (by rw [hl3]; exact hl2)
      rw [total_addF, show total [] = 0 from rfl] at htot
      have hUs := aUsed ba W3.α ca3 hW3.ar
      rw [(used_eq hW2 hW3 hg3').trans hus2] at hUs
      have hRm := aRoom ba W3.α ca3 hW3.ar
      have hPk := aPeak ba W3.α ca3 hW3.ar
      have hpk := hW3.ar.num.2.2.1
      have e9 : IntKind.wrap .i64 (4000 - (g.blocks : Int)) = ((4000 - g.blocks : Nat) : Int) := by rw [wrap_i64 (by omega)]; omega
      repeat (first | apply G.seq | apply G.ret | apply Dn.next | refine G.draw (id := 17) [(15, .quiet), (19, .quiet), (20, .quiet), (25, .quiet), (26, .quiet), (28, .quiet), (29, .quiet), (34, .quiet), (35, .quiet)] (h := ?_) | refine R.enter0 (h := ?_) | refine R.nil (h := ?_) | refine R.enterT (h := ?_) | refine R.splitT (ht := ?_) | refine R.move (h := ?_) | refine R.assign (h := ?_) | refine R.fieldAddr (h := ?_) | refine R.load1 (h := ?_) | refine R.extract (h := ?_) | refine R.pickT (h := ?_) | refine R.leq (h := ?_) | refine R.eql (h := ?_) | refine R.subw (h := ?_) | refine R.callQ (hct := by apply hWA <;> (first | omega | assumption)) (h := ?_) | refine R.callQ (hct := by apply hRm <;> (first | omega | assumption)) (h := ?_) | refine R.callQ (hct := by apply hUs <;> (first | omega | assumption)) (h := ?_) | refine R.callQ (hct := by apply hPk <;> (first | omega | assumption)) (h := ?_) | refine R.callQ (hct := by apply hWS <;> (first | omega | assumption)) (h := ?_) | refine R.callQ (hct := by apply hFr <;> (first | omega | assumption)) (h := ?_) | refine R.callQ (hct := by apply hSm <;> (first | omega | assumption)) (h := ?_))
      (refine Dn.post (Hr := [ch]) Tryz.results31 (hR := ?_); exact ⟨congrArg Value.bool (dec_true (by omega)), rfl⟩)
    · exfalso
      rw [hfb] at hb
      have h9 := sortT_le (b := nblocks s k n) (m := 400) (l := 4) (by omega) (by decide)
      omega
    · exact absurd hflt1 hb
  · omega
theorem SortSorts_ct (a b c d : Nat) (ha : a < 256) (hb : b < 256) (hc : c < 256) (hd : d < 256) (p : Option Addr) (n cap : Nat) (ts : List T5) (ch : Chunk) (hv : RV p n ts ch) (hm : n ≤ maxLen) (hin : InT ts) (o : T5) :
    CtQ Tryz.prog 6 [.agg #[.int .u8 (a : Int), .int .u8 (b : Int), .int .u8 (c : Int), .int .u8 (d : Int)], .slice p n cap, tv o] [ch] (.bool true) := by
  have hS := sorts_ct a b c d d ha hb hc hd p n cap ts ch hv hm hin o false
  have hov : tv o = .agg #[.int .i64 o.c0, .int .i64 o.c1, .int .i64 o.c2, .int .i64 o.c3, .int .i64 o.c4] := rfl
  rw [hov] at hS ⊢
  refine Ct.intro Tryz.func6 rfl Tryz.ntmps6 (nle rfl) fun w0 => ?_; dsimp only [argSlots, Nat.reduceAdd]
  repeat (first | apply G.seq | refine G.plain (h := ?_) | apply G.ret | apply Dn.next | refine R.enter0 (h := ?_) | refine R.nil (h := ?_) | refine R.move (h := ?_) | refine R.assign (h := ?_) | refine R.fieldAddr (h := ?_) | refine R.load1 (h := ?_) | refine R.loadN (h := ?_) | (refine R.box (h := ?_); intro _) | refine R.callP (hct := by apply hS <;> (first | omega | assumption)) (h := ?_))
  (refine Dn.post (Hr := [ch]) Tryz.results6 (hR := ?_); exact ⟨rfl, rfl⟩)
theorem SortOnce_ct (a b c d : Nat) (ha : a < 256) (hb : b < 256) (hc : c < 256) (hd : d < 256) (p : Option Addr) (n cap : Nat) (ts : List T5) (ch : Chunk) (hv : RV p n ts ch) (hm : n ≤ maxLen) (hin : InT ts) (o : T5) :
    CtQ Tryz.prog 7 [.agg #[.int .u8 (a : Int), .int .u8 (b : Int), .int .u8 (c : Int), .int .u8 (d : Int)], .slice p n cap, tv o] [ch] (.bool true) := by
  have hS := sorts_ct a b c d d ha hb hc hd p n cap ts ch hv hm hin o true
  have hov : tv o = .agg #[.int .i64 o.c0, .int .i64 o.c1, .int .i64 o.c2, .int .i64 o.c3, .int .i64 o.c4] := rfl
  rw [hov] at hS ⊢
  refine Ct.intro Tryz.func7 rfl Tryz.ntmps7 (nle rfl) fun w0 => ?_; dsimp only [argSlots, Nat.reduceAdd]
  repeat (first | apply G.seq | refine G.plain (h := ?_) | apply G.ret | apply Dn.next | refine R.enter0 (h := ?_) | refine R.nil (h := ?_) | refine R.move (h := ?_) | refine R.assign (h := ?_) | refine R.fieldAddr (h := ?_) | refine R.load1 (h := ?_) | refine R.loadN (h := ?_) | (refine R.box (h := ?_); intro _) | refine R.callP (hct := by apply hS <;> (first | omega | assumption)) (h := ?_))
  (refine Dn.post (Hr := [ch]) Tryz.results7 (hR := ?_); exact ⟨rfl, rfl⟩)
end Go.Proofs.YtdkihpjnidhnmaaGreat
namespace Go.Proofs.YtdkihpjnidhnmaaGreat
open Go.ChangeShapes Go.WideShapes Go.ChangeAt Go.RowKit Go.SL Go.Tup
set_option maxRecDepth 100000 in
theorem SortOnce_lifted (os : Os) (started : os.Started) (H : Type) (enc : TypeId × Value → H) :
    ReturnsInHanded {} Tryz.checked os 7 .any (Rows.sortOnceSpec.pre6 enc Tryz.prog Tryz.f7 Rows.sortOnceRow.domain false) (Rows.sortOnceSpec.post enc Tryz.prog Tryz.f7 false true false false) := by
  refine returnsInHanded_of_change (C := Tryz.checked) own started (by kernel_rfl) Tryz.func7
    (ChangeSpec.witness6 (enc := enc) (C := Tryz.checked) false ⟨#[], #[.agg #[.int .u8 0, .int .u8 0, .int .u8 0, .int .u8 0], .slice none 0 0, .agg #[.int .i64 0, .int .i64 0, .int .i64 0, .int .i64 0, .int .i64 0]], []⟩ 8 (by kernel_rfl) (by kernel_rfl) (by kernel_rfl) (by kernel_rfl)) ?_
  intro W base args ds gs before hval0 hW hcnd _
  have hval : ∀ (j : Nat) t v, Tryz.f7.params[j]? = some t → args[j]? = some v → Value.okWide Tryz.prog W .any base t v := hval0
  have hW' := hW
  obtain ⟨p, q, hA0, hV, rfl, hfz, hnd⟩ := hW
  have hA : DataW.TrodAll enc Tryz.prog W 0 (fun _ => true) true Tryz.f7.params.toList args.toList ds p := hA0
  rw [Tryz.params7] at hA hval
  obtain ⟨rfl, rfl⟩ := trodVars_none hV
  obtain ⟨v0, v1, v2, d0, d1, d2, p0, p1, p2, rfl, rfl, rfl, h0, h1, h2⟩ := trodAll_three hA
  obtain ⟨l, hll, hlr, rfl⟩ := openU8 (n := 4) (.inl ⟨_, Tryz.underlying23⟩) (by kernel_rfl) (by kernel_rfl) Tryz.underlying5 (hval 0 _ v0 rfl rfl)
  obtain ⟨a, l1, rfl, hl1⟩ := uncons hll
  obtain ⟨b, l2, rfl, hl2⟩ := uncons hl1
  obtain ⟨c, l3, rfl, hl3⟩ := uncons hl2
  obtain ⟨d, l4, rfl, hl4⟩ := uncons hl3
  obtain rfl := List.eq_nil_of_length_eq_zero hl4
  obtain ⟨p, n, cap, ts, ch, rfl, hv, hin, hm, hc, hnd'⟩ := open_tuplesR Tryz.underlying24 Tryz.underlying47 Tryz.underlying2 (by kernel_rfl) (by kernel_rfl) h1 (hval 1 _ v1 rfl rfl)
  obtain ⟨o0, o1, o2, o3, o4, rfl⟩ := open5 Tryz.underlying26 (by kernel_rfl) (by kernel_rfl) Tryz.underlying3 (hval 2 _ v2 rfl rfl)
  clear hA0 hval0
  refine (law_calls1 hc hnd' (SortOnce_ct a b c d (hlr a (by simp)) (hlr b (by simp)) (hlr c (by simp)) (hlr d (by simp)) p n cap ts ch hv hm hin ⟨o0, o1, o2, o3, o4⟩)).mono fun e W' ⟨he, hw⟩ => ?_
  subst he
  exact ⟨_, rfl, lawPost hW' rfl rfl (by kernel_rfl) laidOut (by decide +kernel) rfl hw⟩
theorem SortOnce_holds : Rows.SortOnceSaid :=
  OpenClaim.holds_of_wide 7 Tryz.f7 rfl rfl rfl rfl rfl rfl rfl ⟨rfl, rfl, rfl, rfl, rfl⟩ rfl rfl rfl rfl rfl (by kernel_rfl) Tryz.func7 (by kernel_rfl)
    (of_decide_eq_true (by kernel_rfl)) (by unfold Func.isWrapper; first | (rw [if_pos (by decide +kernel)]; kernel_rfl) | (rw [if_neg (by decide +kernel)]; exact ⟨rfl, rfl⟩))
    (fun os started H enc _ => SortOnce_lifted os started H enc)
end Go.Proofs.YtdkihpjnidhnmaaGreat
