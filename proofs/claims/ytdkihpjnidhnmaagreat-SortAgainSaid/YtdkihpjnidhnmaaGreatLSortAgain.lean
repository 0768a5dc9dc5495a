/-
  Parts of the proof, put together: SortFaults0, SortAgain0, SortAgain. No condition.
-/
import Derived.Test.YtdkihpjnidhnmaaGreatB5
set_option linter.unusedVariables false
set_option linter.unusedSimpArgs false
set_option linter.unnecessarySimpa false
namespace Go.Proofs.YtdkihpjnidhnmaaGreat
open Go.SL Go.Spc Go.Tup Go.Srt
theorem sp_perm {o : T5} {a b : List T5} (h : Go.Srt.Sp (ltO o) false a b) : a.Perm b := by
  rw [List.perm_iff_count]
  intro x
  have h1 := h x
  simp only [keepC, Bool.false_eq_true, if_false] at h1
  have h2 : ∀ l : List T5, l.count x = (l.filter (eqv (ltO o) x)).count x := by
    intro l
    rw [List.count_filter]
    exact eqv_self (ltO_swo o) x
  rw [h2 a, h2 b, h1]
theorem sd_sorted {o : T5} {l : List T5} (h : Sd (ltO o) false l) : sortedB o l = true := by
  rw [sortedB_iff]
  intro i h0 hi
  have h1 := List.pairwise_iff_getElem.1 h (i - 1) i (by omega) hi (by omega)
  have e1 : at5 l i = l[i] := by simp [at5, List.getD_eq_getElem?_getD, hi]
  have e2 : at5 l (i - 1) = l[i - 1] := by simp [at5, List.getD_eq_getElem?_getD, show i - 1 < l.length by omega]
  rw [e1, e2]
  simp only [Bool.false_eq_true, if_false, ltO, decide_eq_false_iff_not] at h1
  omega
def Wk.flt (W : Wk) (n : Int) : Wk := { W with δ := { W.δ with fault := n } }
theorem Wc.flt {bd ba bs : Nat} {W : Wk} {cd ca cs cd' : Chunk} {n : Int} (h : Wc bd ba bs W cd ca cs) (hd : IsDev bd { W.δ with fault := n } cd') : Wc bd ba bs (W.flt n) cd' ca cs := ⟨hd, h.ar, h.sp, h.nn, h.live⟩
set_option maxHeartbeats 4000000 in
theorem SortFaults_ct (a b c d : Nat) (ha : a < 256) (hb : b < 256) (hc : c < 256) (p : Option Addr) (n cap : Nat) (ts : List T5) (ch : Chunk) (hv : RV p n ts ch) (hm : n ≤ maxLen) (hin : InT ts) (e : Nat) (he : e < 65536) :
    CtQ Tryz.prog 8 [.agg #[.int .u8 (a : Int), .int .u8 (b : Int), .int .u8 (c : Int), .int .u8 (d : Int)], .slice p n cap, .int .u16 (e : Int)] [ch] (.bool true) := by
  have hWk := workS_ct a b c d ha hb hc
  have hAw := awakeS_ct
  have hs : 8 ≤ psz a ∧ psz a ≤ 67 := by unfold psz; omega
  have hm0 : n ≤ 9223372036854775807 := by simpa [maxLen] using hm
  have e3 : IntKind.wrap .i64 (5 * (psz a : Int)) = ((5 * psz a : Nat) : Int) := by rw [wrap_i64 (by omega)]; omega
  have e4 : IntKind.wrap .i64 (e : Int) = (e : Int) := wrap_i64 (by omega)
  have e5 : (e : Int).tmod 400 = ((e % 400 : Nat) : Int) := by rw [Int.tmod_eq_emod_of_nonneg (by omega)]; omega
  generalize hps : psz a = s at *
  generalize hpr : proom a b c = room at *
  refine Ct.intro Tryz.func8 rfl Tryz.ntmps8 (nle rfl) fun w0 => ?_; dsimp only [argSlots, Nat.reduceAdd]
  repeat (first | apply G.seq | refine G.plain (h := ?_) | apply Dn.next | refine R.enter0 (h := ?_) | refine R.nil (h := ?_) | refine R.assign (h := ?_) | refine R.loadN (h := ?_) | (refine R.box (h := ?_); intro _))
  refine R.call (hct := hWk) (h := ?_)
  rintro _ _ ⟨bw, bd, ba, bs, cd, ca, cs, rfl, rfl, hW⟩
  try dsimp only [List.cons_append, List.nil_append]
  have hWA := WArena_ct bw bd ba bs
  have hWD := WDevice_ct bw bd ba bs
  have hWS := WSpace_ct bw bd ba bs
  have hRm := aRoom ba _ ca hW.ar
  rw [show (wk0 s 4000 room).α.room = room from rfl] at hRm
  by_cases h200 : 200 < n
  · repeat (first | apply G.seq | refine G.plain (h := ?_) | apply G.ret | refine G.condT (h := ?_) | apply Dn.next | apply Dn.retThen | refine R.enter0 (h := ?_) | refine R.nil (h := ?_) | refine R.enterT (h := ?_) | refine R.skip (h := ?_) | refine R.splitT (ht := ?_) | refine R.move (h := ?_) | refine R.assign (h := ?_) | refine R.storeN (h := ?_) | (refine R.alloc (h := ?_); intro _) | refine R.extract (h := ?_) | refine R.pickT (h := ?_) | refine R.pickF (h := ?_) | refine R.gtr (h := ?_) | refine R.not (h := ?_) | refine R.len (h := ?_) | refine R.eqlNil (h := ?_) | refine R.build (h := ?_) | refine R.callP (hct := by apply hAw <;> (first | omega | assumption)) (h := ?_))
    (refine Dn.post (Hr := [ch]) Tryz.results8 (hR := ?_); exact ⟨rfl, rfl⟩)
  have hAl := All_ct p n cap ts ch hv (by omega) 3
  rw [show ((3 : Nat) : Int) = 3 from rfl] at hAl
  cases hall : ts.all (fitsB 3) with
  | false =>
    rw [hall] at hAl
    repeat (first | apply G.seq | refine G.plain (h := ?_) | apply G.ret | refine G.condT (h := ?_) | apply Dn.next | apply Dn.retThen | refine R.enter0 (h := ?_) | refine R.nil (h := ?_) | refine R.enterT (h := ?_) | refine R.skip (h := ?_) | refine R.splitF (ht := ?_) | refine R.move (h := ?_) | refine R.assign (h := ?_) | refine R.storeN (h := ?_) | (refine R.alloc (h := ?_); intro _) | refine R.extract (h := ?_) | refine R.pickT (h := ?_) | refine R.pickF (h := ?_) | refine R.gtr (h := ?_) | refine R.not (h := ?_) | refine R.len (h := ?_) | refine R.eqlNil (h := ?_) | refine R.build (h := ?_) | refine R.callP (hct := by apply hAw <;> (first | omega | assumption)) (h := ?_) | refine R.callP (hct := by apply hAl <;> (first | omega | assumption)) (h := ?_))
    (refine Dn.post (Hr := [ch]) Tryz.results8 (hR := ?_); exact ⟨rfl, rfl⟩)
  | true =>
  rw [hall] at hAl
  by_cases h5 : room < 5 * s
  · repeat (first | apply G.seq | refine G.plain (h := ?_) | apply G.ret | apply Dn.next | apply Dn.retThen | refine G.condPT (ht := ?_) | refine R.enter0 (h := ?_) | refine R.nil (h := ?_) | refine R.enterT (h := ?_) | refine R.splitF (ht := ?_) | refine R.move (h := ?_) | refine R.assign (h := ?_) | refine R.storeN (h := ?_) | (refine R.alloc (h := ?_); intro _) | refine R.extract (h := ?_) | refine R.pickF (h := ?_) | refine R.lss (h := ?_) | refine R.gtr (h := ?_) | refine R.mulw (h := ?_) | refine R.not (h := ?_) | refine R.len (h := ?_) | refine R.eqlNil (h := ?_) | refine R.build (h := ?_) | refine R.callP (hct := by apply hAw <;> (first | omega | assumption)) (h := ?_) | refine R.callP (hct := by apply hAl <;> (first | omega | assumption)) (h := ?_) | refine R.callP (hct := by apply hWA <;> (first | omega | assumption)) (h := ?_) | refine R.callP (hct := by apply hRm <;> (first | omega | assumption)) (h := ?_))
    (refine Dn.post (Hr := [ch]) Tryz.results8 (hR := ?_); exact ⟨rfl, rfl⟩)
  have hokT : ∀ t ∈ ts, okT 3 t := fun t ht => okT_mk (hin t ht) (List.all_eq_true.1 hall t ht)
  have hLy := Lay_ct bw bd ba bs _ cd ca cs hW 3 (by omega) (by omega) p n cap ts ch hv (by omega) hokT (by show s ≤ room - 0; omega) rfl (Nat.zero_le _)
  rw [big0, show (wk0 s 4000 room).δ.size = s from rfl, show ((3 : Nat) : Int) = 3 from rfl] at hLy
  have hn400 : nblocks s 3 n ≤ n := nblocks_le (holds_pos hs.1 (by omega) (by omega))
  have hT := sortT_le (b := nblocks s 3 n) (m := 200) (l := 4) (by omega) (by decide)
  repeat (first | apply G.seq | refine G.plain (h := ?_) | apply G.skip | apply Dn.next | refine G.condPF (ht := ?_) | refine R.enter0 (h := ?_) | refine R.nil (h := ?_) | refine R.enterT (h := ?_) | refine R.splitF (ht := ?_) | refine R.move (h := ?_) | refine R.assign (h := ?_) | refine R.storeN (h := ?_) | (refine R.alloc (h := ?_); intro _) | refine R.extract (h := ?_) | refine R.pickF (h := ?_) | refine R.lss (h := ?_) | refine R.gtr (h := ?_) | refine R.mulw (h := ?_) | refine R.not (h := ?_) | refine R.len (h := ?_) | refine R.eqlNil (h := ?_) | refine R.build (h := ?_) | refine R.callP (hct := by apply hAw <;> (first | omega | assumption)) (h := ?_) | refine R.callP (hct := by apply hAl <;> (first | omega | assumption)) (h := ?_) | refine R.callP (hct := by apply hWA <;> (first | omega | assumption)) (h := ?_) | refine R.callP (hct := by apply hRm <;> (first | omega | assumption)) (h := ?_))
  clear hRm
  refine R.call (hct := hLy) (h := ?_)
  rintro _ _ ⟨cd1, ca1, cs1, W1, rfl, hW1, hE1, hK1, hg1, ⟨_, f, rfl, hl1, hf1, hf2, hfo1⟩ | ⟨hbg, _⟩⟩
  try dsimp only [List.cons_append, List.nil_append]
  · have hflv : flv f = .agg #[.int .i64 (f.first : Int), .int .i64 (f.blocks : Int), .int .i64 (f.width : Int), .int .i64 (f.count : Int)] := rfl
    rw [hflv]
    have hsz1 : W1.δ.size = s := hE1.size
    have hrm1 : W1.α.room = room := hE1.room
    have hus1 : W1.α.used = 0 := used_eq hW hW1 hg1
    have hac1 := hE1.acts
    have hbg1 := hE1.big
    rw [big0] at hbg1
    rw [show (wk0 s 4000 room).δ.acts = 0 from rfl] at hac1
    have hfb : f.blocks = nblocks s 3 n := by rw [hfo1.blk, hf1, hf2]
    have hlv1 : W1.live.Perm (addF f []) := by rw [hl1]; exact .refl _
    have hFr := SFree_ct bs W1.σ cs1 hW1.sp
    have hn1 : W1.σ.n = 4000 := hE1.n
    have htot1 := free_is hW1 hlv1
    rw [total_addF, show total [] = 0 from rfl] at htot1
    have hSF := SetFault_ct bd W1.δ cd1 hW1.dev ((e % 400 : Nat) : Int) (by omega)
    repeat (first | apply G.seq | refine G.plain (h := ?_) | apply Dn.next | refine R.enter0 (h := ?_) | refine R.nil (h := ?_) | refine R.move (h := ?_) | refine R.assign (h := ?_) | refine R.storeN (h := ?_) | (refine R.alloc (h := ?_); intro _) | refine R.extract (h := ?_) | refine R.remw (h := ?_) | refine R.convert (h := ?_) | refine R.callP (hct := by apply hWD <;> (first | omega | assumption)) (h := ?_) | refine R.callP (hct := by apply hWS <;> (first | omega | assumption)) (h := ?_) | refine R.callP (hct := by apply hFr <;> (first | omega | assumption)) (h := ?_))
    rw [e5]
    clear hFr
    refine R.call (hct := hSF) (h := ?_)
    rintro _ _ ⟨cd1f, rfl, rfl, hdf⟩
    try dsimp only [List.cons_append, List.nil_append]
    have hW1f := hW1.flt hdf
    have hSo := Sort_u bw bd ba bs (W1.flt ((e % 400 : Nat) : Int)) cd1f ca1 cs1 hW1f f ts [] (by show FileOk W1.δ.disk W1.δ.size _ _ _; rw [hsz1]; exact hfo1) hlv1 ⟨2, -1, 0, 0, 0⟩ (by decide) false (by show 5 * W1.δ.size ≤ W1.α.room - W1.α.used; omega) (by show W1.δ.acts ≤ _; omega) (by omega)
    rw [hflv, hfb] at hSo
    rw [hfb]
    rw [show (W1.flt ((e % 400 : Nat) : Int)).δ.size = s from hsz1, show (W1.flt ((e % 400 : Nat) : Int)).σ = W1.σ from rfl] at hSo
    repeat (first | apply G.seq | refine G.plain (h := ?_) | apply Dn.next | refine R.enter0 (h := ?_) | refine R.nil (h := ?_) | refine R.move (h := ?_) | refine R.loadN (h := ?_))
    refine R.call (hct := hSo) (h := ?_)
    rintro _ _ ⟨cd2, ca2, cs2, W2, rfl, hW2, hE2, hg2, hK2, ⟨g, out, rfl, hl2, hgw, hgc, hgo, hsd, hsp⟩ | ⟨_, hbf, _⟩ | ⟨rfl, _, hl2, hKl2⟩⟩
    try dsimp only [List.cons_append, List.nil_append]
    · have hgflv : flv g = .agg #[.int .i64 (g.first : Int), .int .i64 (g.blocks : Int), .int .i64 (g.width : Int), .int .i64 (g.count : Int)] := rfl
      rw [hgflv]
      have hus2 : W2.α.used = 0 := (used_eq hW1f hW2 hg2).trans hus1
      have hrm2 : W2.α.room = room := hE2.room.trans hrm1
      have hsz2 : W2.δ.size = s := hE2.size.trans hsz1
      have hUs := aUsed ba W2.α ca2 hW2.ar
      rw [hus2] at hUs
      have hSF2 := SetFault_ct bd W2.δ cd2 hW2.dev (-1) (by omega)
      have hsA := sortA_small (b := nblocks s 3 n) (by omega)
      have hac2 : W2.δ.acts ≤ W1.δ.acts + sortA (nblocks s 3 n) := hE2.acts.2
      have hgl : g.count = n := by rw [← hgo.len, ← (sp_perm hsp).length_eq]; exact hv.1
      repeat (first | apply G.seq | refine G.plain (h := ?_) | apply G.skip | apply Dn.next | refine G.condPF (ht := ?_) | refine R.enter0 (h := ?_) | refine R.nil (h := ?_) | refine R.enterT (h := ?_) | refine R.splitF (ht := ?_) | refine R.move (h := ?_) | refine R.assign (h := ?_) | refine R.storeN (h := ?_) | (refine R.alloc (h := ?_); intro _) | refine R.extract (h := ?_) | refine R.pickF (h := ?_) | refine R.neq (h := ?_) | refine R.callP (hct := by apply hWA <;> (first | omega | assumption)) (h := ?_) | refine R.callP (hct := by apply hUs <;> (first | omega | assumption)) (h := ?_) | refine R.callP (hct := by apply hWD <;> (first | omega | assumption)) (h := ?_))
      refine R.call (hct := hSF2) (h := ?_)
      rintro _ _ ⟨cd2f, rfl, rfl, hdf2⟩
      try dsimp only [List.cons_append, List.nil_append]
      have hW2f := hW2.flt hdf2
      obtain ⟨Lv, hfoL, hsubL⟩ := fo_sub hgo hl2
      have hLi := List_ct bw bd ba bs (W2.flt (-1)) cd2f ca2 cs2 hW2f g out Lv (by show FileOk W2.δ.disk W2.δ.size _ _ _; rw [hsz2]; exact hfoL) hsubL (by show W2.δ.size ≤ W2.α.room - W2.α.used; omega) rfl (by show W2.δ.acts ≤ _; omega) (by omega)
      rw [hgflv] at hLi
      repeat (first | apply G.seq | refine G.plain (h := ?_) | apply Dn.next | refine G.condPT (ht := ?_) | refine R.enter0 (h := ?_) | refine R.nil (h := ?_) | refine R.move (h := ?_) | refine R.loadN (h := ?_) | refine R.eql (h := ?_))
      refine R.call (hct := hLi) (h := ?_)
      rintro _ _ ⟨cd3, ca3, W3, p3, cap3, co, rfl, rfl, hW3, hE3, hd3, hl3, hg3', hV3⟩
      try dsimp only [List.cons_append, List.nil_append]
      rw [hgl] at hV3 ⊢
      have hTS := Sorted_ct 2 (-1) 0 0 0 p3 n cap3 out co (RV.vec hV3) (by omega)
      rw [show (⟨2, -1, 0, 0, 0⟩ : T5) = ⟨2, -1, 0, 0, 0⟩ from rfl, sd_sorted hsd] at hTS
      repeat (first | apply G.seq | refine G.plain (h := ?_) | apply G.ret | apply Dn.next | apply Dn.retThen | refine R.enter0 (h := ?_) | refine R.nil (h := ?_) | refine R.enterT (h := ?_) | refine R.splitT (ht := ?_) | refine R.move (h := ?_) | refine R.assign (h := ?_) | refine R.loadN (h := ?_) | refine R.extract (h := ?_) | refine R.pickT (h := ?_) | refine R.eql (h := ?_) | refine R.len (h := ?_) | refine R.callP (hct := by apply hTS <;> (first | omega | assumption)) (h := ?_))
      (refine Dn.post (Hr := [ch]) Tryz.results8 (hR := ?_); exact ⟨rfl, rfl⟩)
    · omega
    · have hfz : flv ⟨0, 0, 0, 0⟩ = .agg #[.int .i64 0, .int .i64 0, .int .i64 0, .int .i64 0] := rfl
      rw [hfz]
      have hus2 : W2.α.used = 0 := (used_eq hW1f hW2 hg2).trans hus1
      have hrm2 : W2.α.room = room := hE2.room.trans hrm1
      have hsz2 : W2.δ.size = s := hE2.size.trans hsz1
      have hUs := aUsed ba W2.α ca2 hW2.ar
      rw [hus2] at hUs
      have hSF2 := SetFault_ct bd W2.δ cd2 hW2.dev (-1) (by omega)
      have hsA := sortA_small (b := nblocks s 3 n) (by omega)
      have hac2 : W2.δ.acts ≤ W1.δ.acts + sortA (nblocks s 3 n) := hE2.acts.2
      have hlv2 : W2.live.Perm (addF f []) := hl2.trans hlv1
      have hfo2 : FileOk W2.δ.disk s [f.ext] f ts := FileOk.stay (W := W1.flt ((e % 400 : Nat) : Int)) (by exact hfo1) hlv1 hKl2
      repeat (first | apply G.seq | refine G.plain (h := ?_) | apply G.skip | apply Dn.next | refine G.condPF (ht := ?_) | refine R.enter0 (h := ?_) | refine R.nil (h := ?_) | refine R.enterT (h := ?_) | refine R.splitF (ht := ?_) | refine R.move (h := ?_) | refine R.assign (h := ?_) | refine R.storeN (h := ?_) | (refine R.alloc (h := ?_); intro _) | refine R.extract (h := ?_) | refine R.pickF (h := ?_) | refine R.neq (h := ?_) | refine R.callP (hct := by apply hWA <;> (first | omega | assumption)) (h := ?_) | refine R.callP (hct := by apply hUs <;> (first | omega | assumption)) (h := ?_) | refine R.callP (hct := by apply hWD <;> (first | omega | assumption)) (h := ?_))
      clear hUs
      refine R.call (hct := hSF2) (h := ?_)
      rintro _ _ ⟨cd2f, rfl, rfl, hdf2⟩
      try dsimp only [List.cons_append, List.nil_append]
      have hW2f := hW2.flt hdf2
      obtain ⟨Lv, hfoL, hsubL⟩ := fo_sub hfo2 hlv2
      have hLi := List_ct bw bd ba bs (W2.flt (-1)) cd2f ca2 cs2 hW2f f ts Lv (by show FileOk W2.δ.disk W2.δ.size _ _ _; rw [hsz2]; exact hfoL) hsubL (by show W2.δ.size ≤ W2.α.room - W2.α.used; omega) rfl (by show W2.δ.acts ≤ _; omega) (by omega)
      rw [hflv, hfb] at hLi
      repeat (first | apply G.seq | refine G.plain (h := ?_) | apply G.skip | apply Dn.next | refine G.condPF (ht := ?_) | refine R.enter0 (h := ?_) | refine R.nil (h := ?_) | refine R.move (h := ?_) | refine R.loadN (h := ?_) | refine R.eql (h := ?_))
      refine R.call (hct := hLi) (h := ?_)
      rintro _ _ ⟨cd3, ca3, W3, p3, cap3, co, rfl, rfl, hW3, hE3, hd3, hl3, hg3', hV3⟩
      try dsimp only [List.cons_append, List.nil_append]
      have hSm := Same_ct p3 f.count cap3 ts co (RV.vec hV3) (by omega) p n cap ts ch hv
      rw [decide_eq_true rfl] at hSm
      have hFr := SFree_ct bs W3.σ cs2 hW3.sp
      have hn3 : W3.σ.n = 4000 := hE3.n.trans (hE2.n.trans hn1)
      have htot := free_is hW3 (l := addF f []) (by rw [hl3]; exact hlv2)
      rw [total_addF, show total [] = 0 from rfl] at htot
      have htt : total W3.σ.free = total W1.σ.free := by omega
      rw [htt] at hFr
      repeat (first | apply G.seq | refine G.plain (h := ?_) | apply G.ret | apply Dn.next | refine R.enter0 (h := ?_) | refine R.nil (h := ?_) | refine R.enterT (h := ?_) | refine R.splitT (ht := ?_) | refine R.move (h := ?_) | refine R.assign (h := ?_) | refine R.loadN (h := ?_) | refine R.extract (h := ?_) | refine R.pickT (h := ?_) | refine R.eql (h := ?_) | refine R.eql4 (h := ?_) | refine R.build (h := ?_) | refine R.callP (hct := by apply hWS <;> (first | omega | assumption)) (h := ?_) | refine R.callP (hct := by apply hFr <;> (first | omega | assumption)) (h := ?_) | refine R.callP (hct := by apply hSm <;> (first | omega | assumption)) (h := ?_))
      (refine Dn.post (Hr := [ch]) Tryz.results8 (hR := ?_); exact ⟨congrArg Value.bool (dec_true ⟨rfl, rfl, rfl, rfl⟩), rfl⟩)
  · omega
end Go.Proofs.YtdkihpjnidhnmaaGreat
namespace Go.Proofs.YtdkihpjnidhnmaaGreat
open Go.SL Go.Spc Go.Tup Go.Srt
/-- by all three columns those that are alike are the same -/
theorem eqv_eq3 {a b : T5} (ha : okT 3 a) (hb : okT 3 b) (h : eqv (ltO ⟨3, -1, 2, 0, 0⟩) a b = true) : a = b := by
  have h1 := (eqv_cmp _ _ _).1 h
  unfold cmpT at h1
  rw [if_pos (by decide)] at h1
  have h2 := (cmpL_zero [3, -1, 2, 0, 0] a b (formed_tidy (by decide))).1 h1
  have c3 := h2 3 (by simp)
  have c1 := h2 (-1) (by simp)
  have c2 := h2 2 (by simp)
  have a3 := ha.2 3 (by omega); have a4 := ha.2 4 (by omega)
  have b3 := hb.2 3 (by omega); have b4 := hb.2 4 (by omega)
  obtain ⟨x0, x1, x2, x3, x4⟩ := a
  obtain ⟨y0, y1, y2, y3, y4⟩ := b
  simp only [T5.col] at a3 a4 b3 b4
  simp [cut1, T5.col] at c1 c2 c3
  simp only [T5.mk.injEq]
  omega
theorem perm_sp3 {l m : List T5} (hp : l.Perm m) (hl : ∀ t ∈ l, okT 3 t) : Go.Srt.Sp (ltO ⟨3, -1, 2, 0, 0⟩) false l m := fun c => by
  simp only [keepC, Bool.false_eq_true, if_false]
  have h1 := hp.filter (eqv (ltO ⟨3, -1, 2, 0, 0⟩) c)
  cases hf : l.filter (eqv (ltO ⟨3, -1, 2, 0, 0⟩) c) with
  | nil => rw [hf] at h1; exact (List.nil_perm.1 h1).symm
  | cons v r =>
    have hv : v ∈ l.filter (eqv (ltO ⟨3, -1, 2, 0, 0⟩) c) := by rw [hf]; exact List.mem_cons_self
    have hall : ∀ x ∈ l.filter (eqv (ltO ⟨3, -1, 2, 0, 0⟩) c), x = v := by
      intro x hx
      have e1 := List.mem_filter.1 hx
      have e2 := List.mem_filter.1 hv
      exact eqv_eq3 (hl x e1.1) (hl v e2.1) (eqv_trans (ltO_swo _) (eqv_symm e1.2) e2.2)
    have hall2 : ∀ x ∈ m.filter (eqv (ltO ⟨3, -1, 2, 0, 0⟩) c), x = v := fun x hx => hall x (h1.mem_iff.2 hx)
    rw [← hf, List.eq_replicate_of_mem hall, List.eq_replicate_of_mem hall2, h1.length_eq]
theorem rot_perm {ts us : List T5} {by_ : Nat} (hl : us.length = ts.length) (h : ∀ j, j < ts.length → at5 us j = at5 ts ((j + by_) % ts.length)) : us.Perm ts := by
  by_cases h0 : ts.length = 0
  · rw [List.eq_nil_of_length_eq_zero h0, List.eq_nil_of_length_eq_zero (hl.trans h0)]
  · obtain ⟨r, hr⟩ : ∃ r, r = by_ % ts.length := ⟨_, rfl⟩
    have hrl : r < ts.length := by rw [hr]; exact Nat.mod_lt _ (by omega)
    have e : us = ts.drop r ++ ts.take r := by
      refine ext_at5 (by rw [hl, List.length_append, List.length_drop, List.length_take]; omega) fun j hj => ?_
      rw [h j (by omega)]
      have hm : (j + by_) % ts.length = (j + r) % ts.length := by rw [hr, Nat.add_mod_mod]
      rw [hm]
      unfold at5
      simp only [List.getD_eq_getElem?_getD]
      by_cases h1 : j < ts.length - r
      · rw [List.getElem?_append_left (by rw [List.length_drop]; exact h1), List.getElem?_drop, Nat.mod_eq_of_lt (by omega), Nat.add_comm]
      · rw [List.getElem?_append_right (by rw [List.length_drop]; omega), List.length_drop, List.getElem?_take_of_lt (by omega)]
        have : (j + r) % ts.length = j - (ts.length - r) := by rw [Nat.mod_eq_sub_mod (by omega), Nat.mod_eq_of_lt (by omega)]; omega
        rw [this]
    rw [e]
    exact List.perm_append_comm.trans (by rw [List.take_append_drop])
structure AgX where
  i : Nat
  p : Option Addr
  cap : Nat
  us : List T5
  c : Chunk
set_option maxHeartbeats 8000000 in
theorem SortAgain_ct (a b c d : Nat) (ha : a < 256) (hb : b < 256) (hc : c < 256) (p : Option Addr) (n cap : Nat) (ts : List T5) (ch : Chunk) (hv : RV p n ts ch) (hm : n ≤ maxLen) (hin : InT ts) (e : Nat) (he : e < 256) :
    CtQ Tryz.prog 4 [.agg #[.int .u8 (a : Int), .int .u8 (b : Int), .int .u8 (c : Int), .int .u8 (d : Int)], .slice p n cap, .int .u8 (e : Int)] [ch] (.bool true) := by
  have hWk := workS_ct a b c d ha hb hc
  have hAw := awakeS_ct
  have hs : 8 ≤ psz a ∧ psz a ≤ 67 := by unfold psz; omega
  have hm0 : n ≤ 9223372036854775807 := by simpa [maxLen] using hm
  have e3 : IntKind.wrap .i64 (5 * (psz a : Int)) = ((5 * psz a : Nat) : Int) := by rw [wrap_i64 (by omega)]; omega
  have e4 : IntKind.wrap .i64 (e : Int) = (e : Int) := wrap_i64 (by omega)
  generalize hps : psz a = s at *
  generalize hpr : proom a b c = room at *
  refine Ct.intro Tryz.func4 rfl Tryz.ntmps4 (nle rfl) fun w0 => ?_; dsimp only [argSlots, Nat.reduceAdd]
  repeat (first | apply G.seq | refine G.plain (h := ?_) | apply Dn.next | refine R.enter0 (h := ?_) | refine R.nil (h := ?_) | refine R.assign (h := ?_) | refine R.loadN (h := ?_) | (refine R.box (h := ?_); intro _))
  refine R.call (hct := hWk) (h := ?_)
  rintro _ _ ⟨bw, bd, ba, bs, cd, ca, cs, rfl, rfl, hW⟩
  try dsimp only [List.cons_append, List.nil_append]
  have hWA := WArena_ct bw bd ba bs
  have hRm := aRoom ba _ ca hW.ar
  rw [show (wk0 s 4000 room).α.room = room from rfl] at hRm
  by_cases h300 : 300 < n
  · repeat (first | apply G.seq | refine G.plain (h := ?_) | apply G.ret | refine G.condT (h := ?_) | apply Dn.next | apply Dn.retThen | refine R.enter0 (h := ?_) | refine R.nil (h := ?_) | refine R.enterT (h := ?_) | refine R.skip (h := ?_) | refine R.splitT (ht := ?_) | refine R.move (h := ?_) | refine R.assign (h := ?_) | refine R.extract (h := ?_) | refine R.pickT (h := ?_) | refine R.pickF (h := ?_) | refine R.gtr (h := ?_) | refine R.not (h := ?_) | refine R.len (h := ?_) | refine R.eqlNil (h := ?_) | refine R.callP (hct := by apply hAw <;> (first | omega | assumption)) (h := ?_))
    (refine Dn.post (Hr := [ch]) Tryz.results4 (hR := ?_); exact ⟨rfl, rfl⟩)
  have hAl := All_ct p n cap ts ch hv (by omega) 3
  rw [show ((3 : Nat) : Int) = 3 from rfl] at hAl
  cases hall : ts.all (fitsB 3) with
  | false =>
    rw [hall] at hAl
    repeat (first | apply G.seq | refine G.plain (h := ?_) | apply G.ret | refine G.condT (h := ?_) | apply Dn.next | apply Dn.retThen | refine R.enter0 (h := ?_) | refine R.nil (h := ?_) | refine R.enterT (h := ?_) | refine R.skip (h := ?_) | refine R.splitF (ht := ?_) | refine R.move (h := ?_) | refine R.assign (h := ?_) | refine R.extract (h := ?_) | refine R.pickT (h := ?_) | refine R.pickF (h := ?_) | refine R.gtr (h := ?_) | refine R.not (h := ?_) | refine R.len (h := ?_) | refine R.eqlNil (h := ?_) | refine R.callP (hct := by apply hAw <;> (first | omega | assumption)) (h := ?_) | refine R.callP (hct := by apply hAl <;> (first | omega | assumption)) (h := ?_))
    (refine Dn.post (Hr := [ch]) Tryz.results4 (hR := ?_); exact ⟨rfl, rfl⟩)
  | true =>
  rw [hall] at hAl
  by_cases h5 : room < 5 * s
  · repeat (first | apply G.seq | refine G.plain (h := ?_) | apply G.ret | apply Dn.next | apply Dn.retThen | refine G.condPT (ht := ?_) | refine R.enter0 (h := ?_) | refine R.nil (h := ?_) | refine R.enterT (h := ?_) | refine R.splitF (ht := ?_) | refine R.move (h := ?_) | refine R.assign (h := ?_) | refine R.extract (h := ?_) | refine R.pickF (h := ?_) | refine R.lss (h := ?_) | refine R.gtr (h := ?_) | refine R.mulw (h := ?_) | refine R.not (h := ?_) | refine R.len (h := ?_) | refine R.eqlNil (h := ?_) | refine R.callP (hct := by apply hAw <;> (first | omega | assumption)) (h := ?_) | refine R.callP (hct := by apply hAl <;> (first | omega | assumption)) (h := ?_) | refine R.callP (hct := by apply hWA <;> (first | omega | assumption)) (h := ?_) | refine R.callP (hct := by apply hRm <;> (first | omega | assumption)) (h := ?_))
    (refine Dn.post (Hr := [ch]) Tryz.results4 (hR := ?_); exact ⟨rfl, rfl⟩)
  have hlen := hv.1
  have hokT : ∀ t ∈ ts, okT 3 t := fun t ht => okT_mk (hin t ht) (List.all_eq_true.1 hall t ht)
  repeat (first | apply G.seq | refine G.plain (h := ?_) | apply G.block | apply G.skip | apply Dn.next | refine G.condPF (ht := ?_) | refine R.enter0 (h := ?_) | refine R.nil (h := ?_) | refine R.enterT (h := ?_) | refine R.splitF (ht := ?_) | refine R.move (h := ?_) | refine R.assign (h := ?_) | refine R.storeN (h := ?_) | (refine R.alloc (h := ?_); intro _) | refine R.extract (h := ?_) | refine R.pickF (h := ?_) | refine R.lss (h := ?_) | refine R.gtr (h := ?_) | refine R.mulw (h := ?_) | refine R.not (h := ?_) | refine R.len (h := ?_) | refine R.eqlNil (h := ?_) | refine R.build (h := ?_) | refine R.callP (hct := by apply hAw <;> (first | omega | assumption)) (h := ?_) | refine R.callP (hct := by apply hAl <;> (first | omega | assumption)) (h := ?_) | refine R.callP (hct := by apply hWA <;> (first | omega | assumption)) (h := ?_) | refine R.callP (hct := by apply hRm <;> (first | omega | assumption)) (h := ?_))
  clear hRm
  rename_i b3 bo
  refine G.loop (X := AgX) (fun x => x.i ≤ n ∧ Vec 47 5 x.p x.i x.cap (flat x.us) x.c ∧ x.us.length = x.i ∧ ∀ j, j < x.i → at5 x.us j = at5 ts ((j + e) % n))
    (fun x => [(11, .int .i64 (x.i : Int)), (10, .slice x.p x.i x.cap), (9, pv bo), (7, pv bw), (1, .slice p n cap), (2, .int .u8 (e : Int))])
    (fun x => [wrow bw bd ba bs, cd, ca, cs, ch, [(bo, row [.int .i64 3, .int .i64 (-1), .int .i64 2, .int .i64 0, .int .i64 0] 26)], x.c])
    (fun x => n - x.i) ⟨0, none, 0, [], []⟩ ⟨Nat.zero_le _, Vec.nil _ _, rfl, fun j hj => by dsimp only at hj; omega⟩ (by repeat (first | exact trivial | refine ⟨rfl, ?_⟩)) (by repeat (first | exact Split.nil | (apply Split.cons; · (first | exact Take.nil | (repeat (first | exact Take.here | apply Take.there)))))) ?_
  rintro ⟨i, p1, cap1, us, c1⟩ ⟨hi, hV, hul, hus⟩
  dsimp only at hi hV hul hus ⊢
  by_cases h0 : i < n
  · obtain ⟨bb, off, cells, T, fz, rfl, rfl, hr⟩ := hv.pos (by omega)
    have hq : (i + e) % n < n := Nat.mod_lt _ (by omega)
    have hj := hr _ hq
    have hgd : ts.getD ((i + e) % n) ⟨0, 0, 0, 0, 0⟩ = at5 ts ((i + e) % n) := rfl
    rw [hgd] at hj
    have e5 : IntKind.wrap .i64 ((i : Int) + (e : Int)) = ((i + e : Nat) : Int) := by rw [wrap_i64 (by omega)]; rfl
    have e6 : ((i + e : Nat) : Int).tmod (n : Int) = (((i + e) % n : Nat) : Int) := by rw [Int.tmod_eq_emod_of_nonneg (by omega), ← Int.natCast_emod]
    have e7 : IntKind.wrap .i64 ((i : Int) + 1) = ((i + 1 : Nat) : Int) := by rw [wrap_i64 (by omega)]; rfl
    generalize hq2 : (i + e) % n = q at *
    generalize hx : at5 ts q = x at *
    obtain ⟨x0, x1, x2, x3, x4⟩ := x
    simp only [tcells] at hj
    repeat (first | apply G.seq | refine G.plain (h := ?_) | apply G.block | apply G.skip | apply Dn.next | apply Dn.blockEnd | refine G.condPT (ht := ?_) | refine R.enter0 (h := ?_) | refine R.nil (h := ?_) | refine R.move (h := ?_) | refine R.assign (h := ?_) | refine R.loadN (h := ?_) | refine R.lss (h := ?_) | refine R.addw (h := ?_) | refine R.remw (h := ?_) | refine R.convert (h := ?_) | refine R.len (h := ?_) | refine R.indexAddr (h := ?_) | (refine R.buildSlice (h := ?_); intro _) | (refine R.append (h := ?_); intro _ _ _ _))
    rw [e6]
    skip
    rename_i p2 cap2 c2 hV2
    have hV3 : Vec 47 5 p2 (i + 1) cap2 (flat (us ++ [⟨x0, x1, x2, x3, x4⟩])) c2 := by rw [flat_append]; exact hV2
    refine Dn.round ⟨i + 1, p2, cap2, us ++ [⟨x0, x1, x2, x3, x4⟩], c2⟩ ⟨h0, hV3, by simp [hul], fun j hj => ?_⟩ (by dsimp only; omega)
    dsimp only at hj ⊢
    by_cases hji : j = i
    · subst hji
      rw [hq2, hx]
      simp [at5, List.getD_eq_getElem?_getD, hul]
    · rw [atApp us _ j (by omega)]; exact hus j (by omega)
  obtain rfl : i = n := by omega
  have hpm : us.Perm ts := rot_perm (by_ := e) (hul.trans hlen.symm) (by rw [hlen]; exact hus)
  have hokU : ∀ t ∈ us, okT 3 t := fun t ht => hokT t (hpm.mem_iff.1 ht)
  have hRV2 : RV p1 i us c1 := RV.vec hV
  obtain ⟨nb, hnbe⟩ : ∃ nb, nb = nblocks s 3 i := ⟨_, rfl⟩
  have hnb : nb ≤ 150 := by
    have hh : 2 ≤ holds s 3 := by unfold holds; omega
    rw [hnbe]
    unfold nblocks
    generalize holds s 3 = hd at *
    rw [Nat.div_le_iff_le_mul_add_pred (by omega)]
    have : 2 * 150 ≤ hd * 150 := Nat.mul_le_mul_right _ hh
    omega
  have hT := sortT_le (b := nb) (m := 150) (l := 3) hnb (by decide)
  have hsA := sortA_small (b := nb) (by omega)
  have hLy := Lay_ct bw bd ba bs _ cd ca cs hW 3 (by omega) (by omega) p i cap ts ch hv (by omega) hokT (by show s ≤ room - 0; omega) rfl (Nat.zero_le _)
  rw [big0, show (wk0 s 4000 room).δ.size = s from rfl, show ((3 : Nat) : Int) = 3 from rfl, ← hnbe] at hLy
  repeat (first | apply G.seq | refine G.plain (h := ?_) | apply G.exit | apply Dn.next | apply Dn.exitHere | apply Dn.exitThen | refine G.condPF (ht := ?_) | refine R.enter0 (h := ?_) | refine R.nil (h := ?_) | refine R.move (h := ?_) | refine R.lss (h := ?_) | refine R.len (h := ?_))
  refine R.call (hct := hLy) (h := ?_)
  rintro _ _ ⟨cd1, ca1, cs1, W1, rfl, hW1, hE1, hK1, hg1, ⟨_, f, rfl, hl1, hf1, hf2, hfo1⟩ | ⟨hbg, _⟩⟩
  try dsimp only [List.cons_append, List.nil_append]
  rotate_left
  · omega
  have hflv : flv f = .agg #[.int .i64 (f.first : Int), .int .i64 (f.blocks : Int), .int .i64 (f.width : Int), .int .i64 (f.count : Int)] := rfl
  have hsz1 : W1.δ.size = s := hE1.size
  have hrm1 : W1.α.room = room := hE1.room
  have hus1 : W1.α.used = 0 := used_eq hW hW1 hg1
  have hac1 : W1.δ.acts ≤ 0 + nb := hE1.acts.2
  have hbg1 : 4000 ≤ big W1.σ.free + nb := by have := hE1.big; rw [big0] at this; exact this
  have hft1 : W1.δ.fault = -1 := hE1.fault rfl
  have hfb : f.blocks = nb := by rw [hfo1.blk, hf1, hf2, hnbe]
  have hlv1 : W1.live.Perm (addF f []) := by rw [hl1]; exact .refl _
  have hLy2 := Lay_ct bw bd ba bs W1 cd1 ca1 cs1 hW1 3 (by omega) (by omega) p1 i cap1 us c1 hRV2 (by omega) hokU (by omega) hft1 (by omega)
  rw [hsz1, show ((3 : Nat) : Int) = 3 from rfl, ← hnbe] at hLy2
  rw [hflv]
  repeat (first | apply G.seq | refine G.plain (h := ?_) | apply Dn.next | refine R.enter0 (h := ?_) | refine R.nil (h := ?_) | refine R.move (h := ?_) | refine R.assign (h := ?_) | refine R.storeN (h := ?_) | (refine R.alloc (h := ?_); intro _) | refine R.extract (h := ?_))
  refine R.call (hct := hLy2) (h := ?_)
  rintro _ _ ⟨cd2, ca2, cs2, W2, rfl, hW2, hE2, hK2, hg2, ⟨_, g, rfl, hl2, hgf1, hgf2, hgo2⟩ | ⟨hbg, _⟩⟩
  try dsimp only [List.cons_append, List.nil_append]
  rotate_left
  · omega
  have hglv : flv g = .agg #[.int .i64 (g.first : Int), .int .i64 (g.blocks : Int), .int .i64 (g.width : Int), .int .i64 (g.count : Int)] := rfl
  have hsz2 : W2.δ.size = s := hE2.size.trans hsz1
  have hrm2 : W2.α.room = room := hE2.room.trans hrm1
  have hus2 : W2.α.used = 0 := (used_eq hW1 hW2 hg2).trans hus1
  have hac2 := hE2.acts.2
  have hbg2 := hE2.big
  have hft2 : W2.δ.fault = -1 := hE2.fault hft1
  have hgb : g.blocks = nb := by rw [hgo2.blk, hgf1, hgf2, hnbe]
  have hlv2 : W2.live.Perm (addF g (addF f [])) := by rw [hl2]; exact addF_perm hlv1
  have hfo2 : FileOk W2.δ.disk s [f.ext] f ts := hfo1.stay hlv1 hK2
  have hSo := Sort_u bw bd ba bs W2 cd2 ca2 cs2 hW2 f ts (addF g []) (by rw [hsz2]; exact hfo2) (hlv2.trans (addF_swap _ _ _)) ⟨3, -1, 2, 0, 0⟩ (by decide) false (by omega) (by omega) (by omega)
  rw [hflv, hfb] at hSo
  rw [hfb, hglv]
  repeat (first | apply G.seq | refine G.plain (h := ?_) | apply Dn.next | refine R.enter0 (h := ?_) | refine R.nil (h := ?_) | refine R.move (h := ?_) | refine R.assign (h := ?_) | refine R.loadN (h := ?_) | refine R.storeN (h := ?_) | (refine R.alloc (h := ?_); intro _) | refine R.extract (h := ?_))
  refine R.call (hct := hSo) (h := ?_)
  rintro _ _ ⟨cd3, ca3, cs3, W3, rfl, hW3, hE3, hg3, hK3, ⟨x, ox, rfl, hl3, hxw, hxc, hxo, hsdx, hspx⟩ | ⟨_, hbf, _⟩ | ⟨_, hbf, _⟩⟩
  try dsimp only [List.cons_append, List.nil_append]
  rotate_left
  · omega
  · exact absurd hft2 hbf
  have hxlv : flv x = .agg #[.int .i64 (x.first : Int), .int .i64 (x.blocks : Int), .int .i64 (x.width : Int), .int .i64 (x.count : Int)] := rfl
  have hxn : x.count = i := by rw [← hxo.len, ← (sp_perm hspx).length_eq]; exact hlen
  have hxb : x.blocks = nb := by rw [hxo.blk, hxw, hf1, hxn, hsz2, hnbe]
  have hsz3 : W3.δ.size = s := hE3.size.trans hsz2
  have hrm3 : W3.α.room = room := hE3.room.trans hrm2
  have hus3 : W3.α.used = 0 := (used_eq hW2 hW3 hg3).trans hus2
  have hac3 := hE3.acts.2
  have hbg3 := hE3.big
  have hft3 : W3.δ.fault = -1 := hE3.fault hft2
  rw [hsz2] at hxo
  obtain ⟨Lx, hxoL, hxsL⟩ := fo_sub hxo hl3
  have hLi := List_ct bw bd ba bs W3 cd3 ca3 cs3 hW3 x ox Lx (by rw [hsz3]; exact hxoL) hxsL (by omega) hft3 (by omega) (by omega)
  rw [hxlv, hxb, hxn] at hLi
  rw [hxlv, hxb, hxn]
  repeat (first | apply G.seq | refine G.plain (h := ?_) | apply Dn.next | refine R.enter0 (h := ?_) | refine R.nil (h := ?_) | refine R.move (h := ?_) | refine R.assign (h := ?_) | refine R.loadN (h := ?_) | refine R.storeN (h := ?_) | (refine R.alloc (h := ?_); intro _) | refine R.extract (h := ?_))
  refine R.call (hct := hLi) (h := ?_)
  rintro _ _ ⟨cd4, ca4, W4, p4, cap4, c4, rfl, rfl, hW4, hE4, hd4, hl4, hg4, hV4⟩
  try dsimp only [List.cons_append, List.nil_append]
  have hsz4 : W4.δ.size = s := hE4.size.trans hsz3
  have hrm4 : W4.α.room = room := hE4.room.trans hrm3
  have hus4 : W4.α.used = 0 := (used_eq hW3 hW4 hg4).trans hus3
  have hac4 := hE4.acts.2
  have hbg4 := hE4.big
  have hft4 : W4.δ.fault = -1 := hE4.fault hft3
  have hn4 : nblocks W3.δ.size x.width i = nb := by rw [hsz3, hxw, hf1, ← hnbe]
  rw [hn4] at hac4
  have hlv4 : W4.live.Perm (addF x (addF g [])) := by rw [hl4]; exact hl3
  have hgo4 : FileOk W4.δ.disk s [g.ext] g us := by
    rw [hd4]
    exact hgo2.stay (.refl _) hK3
  have hSo2 := Sort_u bw bd ba bs W4 cd4 ca4 cs3 hW4 g us (addF x []) (by rw [hsz4]; exact hgo4) (hlv4.trans (addF_swap _ _ _)) ⟨3, -1, 2, 0, 0⟩ (by decide) false (by omega) (by omega) (by omega)
  rw [hglv, hgb] at hSo2
  rw [hgb]
  repeat (first | apply G.seq | refine G.plain (h := ?_) | apply Dn.next | refine R.enter0 (h := ?_) | refine R.nil (h := ?_) | refine R.move (h := ?_) | refine R.assign (h := ?_) | refine R.loadN (h := ?_) | refine R.extract (h := ?_))
  refine R.call (hct := hSo2) (h := ?_)
  rintro _ _ ⟨cd5, ca5, cs5, W5, rfl, hW5, hE5, hg5, hK5, ⟨y, oy, rfl, hl5, hyw, hyc, hyo, hsdy, hspy⟩ | ⟨_, hbf, _⟩ | ⟨_, hbf, _⟩⟩
  try dsimp only [List.cons_append, List.nil_append]
  rotate_left
  · omega
  · exact absurd hft4 hbf
  have hylv : flv y = .agg #[.int .i64 (y.first : Int), .int .i64 (y.blocks : Int), .int .i64 (y.width : Int), .int .i64 (y.count : Int)] := rfl
  have hyn : y.count = i := by rw [← hyo.len, ← (sp_perm hspy).length_eq]; exact hul
  have hyb : y.blocks = nb := by rw [hyo.blk, hyw, hgf1, hyn, hsz4, hnbe]
  have hsz5 : W5.δ.size = s := hE5.size.trans hsz4
  have hrm5 : W5.α.room = room := hE5.room.trans hrm4
  have hus5 : W5.α.used = 0 := (used_eq hW4 hW5 hg5).trans hus4
  have hac5 := hE5.acts.2
  have hbg5 := hE5.big
  have hft5 : W5.δ.fault = -1 := hE5.fault hft4
  rw [hsz4] at hyo
  obtain ⟨Ly, hyoL, hysL⟩ := fo_sub hyo hl5
  have hLi2 := List_ct bw bd ba bs W5 cd5 ca5 cs5 hW5 y oy Ly (by rw [hsz5]; exact hyoL) hysL (by omega) hft5 (by omega) (by omega)
  rw [hylv, hyb, hyn] at hLi2
  rw [hylv, hyb, hyn]
  repeat (first | apply G.seq | refine G.plain (h := ?_) | apply Dn.next | refine R.enter0 (h := ?_) | refine R.nil (h := ?_) | refine R.move (h := ?_) | refine R.assign (h := ?_) | refine R.loadN (h := ?_) | refine R.storeN (h := ?_) | (refine R.alloc (h := ?_); intro _) | refine R.extract (h := ?_))
  refine R.call (hct := hLi2) (h := ?_)
  rintro _ _ ⟨cd6, ca6, W6, p6, cap6, c6, rfl, rfl, hW6, hE6, hd6, hl6, hg6, hV6⟩
  try dsimp only [List.cons_append, List.nil_append]
  have hsz6 : W6.δ.size = s := hE6.size.trans hsz5
  have hrm6 : W6.α.room = room := hE6.room.trans hrm5
  have hus6 : W6.α.used = 0 := (used_eq hW5 hW6 hg6).trans hus5
  have hac6 := hE6.acts.2
  have hbg6 := hE6.big
  have hft6 : W6.δ.fault = -1 := hE6.fault hft5
  have hn6 : nblocks W5.δ.size y.width i = nb := by rw [hsz5, hyw, hgf1, ← hnbe]
  rw [hn6] at hac6
  have hlv6 : W6.live.Perm (addF y (addF x [])) := by rw [hl6]; exact hl5
  have hxo6 : FileOk W6.δ.disk s [x.ext] x ox := by
    rw [hd6]
    have hx4 : FileOk W4.δ.disk s [x.ext] x ox := by rw [hd4]; exact hxo
    exact hx4.stay (.refl _) hK5
  have hSo3 := Sort_u bw bd ba bs W6 cd6 ca6 cs5 hW6 x ox (addF y []) (by rw [hsz6]; exact hxo6) (hlv6.trans (addF_swap _ _ _)) ⟨3, -1, 2, 0, 0⟩ (by decide) false (by omega) (by omega) (by omega)
  rw [hxlv, hxb, hxn] at hSo3
  repeat (first | apply G.seq | refine G.plain (h := ?_) | apply Dn.next | refine R.enter0 (h := ?_) | refine R.nil (h := ?_) | refine R.move (h := ?_) | refine R.assign (h := ?_) | refine R.loadN (h := ?_) | refine R.extract (h := ?_))
  refine R.call (hct := hSo3) (h := ?_)
  rintro _ _ ⟨cd7, ca7, cs7, W7, rfl, hW7, hE7, hg7, hK7, ⟨z, oz, rfl, hl7, hzw, hzc, hzo, hsdz, hspz⟩ | ⟨_, hbf, _⟩ | ⟨_, hbf, _⟩⟩
  try dsimp only [List.cons_append, List.nil_append]
  rotate_left
  · omega
  · exact absurd hft6 hbf
  have hzlv : flv z = .agg #[.int .i64 (z.first : Int), .int .i64 (z.blocks : Int), .int .i64 (z.width : Int), .int .i64 (z.count : Int)] := rfl
  have hzn : z.count = i := by rw [← hzo.len, ← (sp_perm hspz).length_eq, hxo.len]; exact hxn
  have hsz7 : W7.δ.size = s := hE7.size.trans hsz6
  have hrm7 : W7.α.room = room := hE7.room.trans hrm6
  have hus7 : W7.α.used = 0 := (used_eq hW6 hW7 hg7).trans hus6
  have hac7 := hE7.acts.2
  have hft7 : W7.δ.fault = -1 := hE7.fault hft6
  rw [hsz6] at hzo
  obtain ⟨Lz, hzoL, hzsL⟩ := fo_sub hzo hl7
  have hLi3 := List_ct bw bd ba bs W7 cd7 ca7 cs7 hW7 z oz Lz (by rw [hsz7]; exact hzoL) hzsL (by omega) hft7 (by omega) (by omega)
  rw [hzlv, hzn] at hLi3
  rw [hzlv, hzn]
  repeat (first | apply G.seq | refine G.plain (h := ?_) | apply Dn.next | refine R.enter0 (h := ?_) | refine R.nil (h := ?_) | refine R.move (h := ?_) | refine R.assign (h := ?_) | refine R.loadN (h := ?_) | refine R.storeN (h := ?_) | (refine R.alloc (h := ?_); intro _) | refine R.extract (h := ?_))
  refine R.call (hct := hLi3) (h := ?_)
  rintro _ _ ⟨cd8, ca8, W8, p8, cap8, c8, rfl, rfl, hW8, hE8, hd8, hl8, hg8, hV8⟩
  try dsimp only [List.cons_append, List.nil_append]
  have hxy : ox = oy := sort_is hsdx hspx hsdy ((perm_sp3 hpm.symm hokT).trans hspy)
  have hxz : ox = oz := sort_is hsdx (Go.Srt.Sp.refl _ _) hsdz hspz
  have hTS := Sorted_ct 3 (-1) 2 0 0 p4 i cap4 ox c4 (RV.vec hV4) (by omega)
  rw [sd_sorted hsdx] at hTS
  have hSm := Same_ct p4 i cap4 ox c4 (RV.vec hV4) (by omega) p6 i cap6 oy c6 (RV.vec hV6)
  rw [decide_eq_true hxy] at hSm
  have hSm2 := Same_ct p4 i cap4 ox c4 (RV.vec hV4) (by omega) p8 i cap8 oz c8 (RV.vec hV8)
  rw [decide_eq_true hxz] at hSm2
  repeat (first | apply G.seq | refine G.plain (h := ?_) | apply G.ret | apply Dn.next | refine R.enter0 (h := ?_) | refine R.nil (h := ?_) | refine R.enterT (h := ?_) | refine R.splitT (ht := ?_) | refine R.move (h := ?_) | refine R.assign (h := ?_) | refine R.loadN (h := ?_) | refine R.extract (h := ?_) | refine R.pickT (h := ?_) | refine R.eql (h := ?_) | refine R.len (h := ?_) | refine R.callP (hct := by apply hSm <;> (first | omega | assumption)) (h := ?_) | refine R.callP (hct := by apply hSm2 <;> (first | omega | assumption)) (h := ?_) | refine R.callP (hct := by apply hTS <;> (first | omega | assumption)) (h := ?_))
  (refine Dn.post (Hr := [ch]) Tryz.results4 (hR := ?_); exact ⟨rfl, rfl⟩)
end Go.Proofs.YtdkihpjnidhnmaaGreat
namespace Go.Proofs.YtdkihpjnidhnmaaGreat
open Go.ChangeShapes Go.WideShapes Go.ChangeAt Go.RowKit Go.SL Go.Tup
set_option maxRecDepth 100000 in
theorem SortAgain_lifted (os : Os) (started : os.Started) (H : Type) (enc : TypeId × Value → H) :
    ReturnsInHanded {} Tryz.checked os 4 .any (Rows.sortAgainSpec.pre6 enc Tryz.prog Tryz.f4 Rows.sortAgainRow.domain false) (Rows.sortAgainSpec.post enc Tryz.prog Tryz.f4 false true false false) := by
  refine returnsInHanded_of_change (C := Tryz.checked) own started (by kernel_rfl) Tryz.func4
    (ChangeSpec.witness6 (enc := enc) (C := Tryz.checked) false ⟨#[], #[.agg #[.int .u8 0, .int .u8 0, .int .u8 0, .int .u8 0], .slice none 0 0, .int .u8 0], []⟩ 8 (by kernel_rfl) (by kernel_rfl) (by kernel_rfl) (by kernel_rfl)) ?_
  intro W base args ds gs before hval0 hW hcnd _
  have hval : ∀ (j : Nat) t v, Tryz.f4.params[j]? = some t → args[j]? = some v → Value.okWide Tryz.prog W .any base t v := hval0
  have hW' := hW
  obtain ⟨p, q, hA0, hV, rfl, hfz, hnd⟩ := hW
  have hA : DataW.TrodAll enc Tryz.prog W 0 (fun _ => true) true Tryz.f4.params.toList args.toList ds p := hA0
  rw [Tryz.params4] at hA hval
  obtain ⟨rfl, rfl⟩ := trodVars_none hV
  obtain ⟨v0, v1, v2, d0, d1, d2, p0, p1, p2, rfl, rfl, rfl, h0, h1, h2⟩ := trodAll_three hA
  obtain ⟨l, hll, hlr, rfl⟩ := openU8 (n := 4) (.inl ⟨_, Tryz.underlying23⟩) (by kernel_rfl) (by kernel_rfl) Tryz.underlying5 (hval 0 _ v0 rfl rfl)
  obtain ⟨a, l1, rfl, hl1⟩ := uncons hll
  obtain ⟨b, l2, rfl, hl2⟩ := uncons hl1
  obtain ⟨c, l3, rfl, hl3⟩ := uncons hl2
  obtain ⟨d, l4, rfl, hl4⟩ := uncons hl3
  obtain rfl := List.eq_nil_of_length_eq_zero hl4
  obtain ⟨p, n, cap, ts, ch, rfl, hv, hin, hm, hc, hnd'⟩ := open_tuplesR Tryz.underlying24 Tryz.underlying47 Tryz.underlying2 (by kernel_rfl) (by kernel_rfl) h1 (hval 1 _ v1 rfl rfl)
  obtain ⟨e2, he2, rfl⟩ := openNat8 Tryz.underlying5 (hval 2 _ v2 rfl rfl)
  clear hA0 hval0
  refine (law_calls1 hc hnd' (SortAgain_ct a b c d (hlr a (by simp)) (hlr b (by simp)) (hlr c (by simp)) p n cap ts ch hv hm hin e2 he2)).mono fun e W' ⟨he, hw⟩ => ?_
  subst he
  exact ⟨_, rfl, lawPost hW' rfl rfl (by kernel_rfl) laidOut (by decide +kernel) rfl hw⟩
theorem SortAgain_holds : Rows.SortAgainSaid :=
  OpenClaim.holds_of_wide 4 Tryz.f4 rfl rfl rfl rfl rfl rfl rfl ⟨rfl, rfl, rfl, rfl, rfl⟩ rfl rfl rfl rfl rfl (by kernel_rfl) Tryz.func4 (by kernel_rfl)
    (of_decide_eq_true (by kernel_rfl)) (by unfold Func.isWrapper; first | (rw [if_pos (by decide +kernel)]; kernel_rfl) | (rw [if_neg (by decide +kernel)]; exact ⟨rfl, rfl⟩))
    (fun os started H enc _ => SortAgain_lifted os started H enc)
end Go.Proofs.YtdkihpjnidhnmaaGreat
