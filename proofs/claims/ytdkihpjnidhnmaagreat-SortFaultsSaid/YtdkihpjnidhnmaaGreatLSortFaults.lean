/-
  Parts of the proof, put together: SortFaults0, SortFaults. No condition.
-/
import Derived.Test.YtdkihpjnidhnmaaGreatB5
set_option linter.unusedVariables false
set_option linter.unusedSimpArgs false
set_option linter.unnecessarySimpa false
namespace Go.Proofs.YtdkihpjnidhnmaaGreat
open Go.SL Go.Spc Go.Tup Go.Srt
theorem sp_perm {o : T5} {a b : List T5} (h : Go.Srt.Sp (ltO o) false a b) : a.Perm b := by
  rw [List.perm_iff_count]
  intro x
  have h1 := h x
  simp only [keepC, Bool.false_eq_true, if_false] at h1
  have h2 : ∀ l : List T5, l.count x = (l.filter (eqv (ltO o) x)).count x := by
    intro l
    rw [List.count_filter]
    exact eqv_self (ltO_swo o) x
  rw [h2 a, h2 b, h1]
theorem sd_sorted {o : T5} {l : List T5} (h : Sd (ltO o) false l) : sortedB o l = true := by
  rw [sortedB_iff]
  intro i h0 hi
  have h1 := List.pairwise_iff_getElem.1 h (i - 1) i (by omega) hi (by omega)
  have e1 : at5 l i = l[i] := by simp [at5, List.getD_eq_getElem?_getD, hi]
  have e2 : at5 l (i - 1) = l[i - 1] := by simp [at5, List.getD_eq_getElem?_getD, show i - 1 < l.length by omega]
  rw [e1, e2]
  simp only [Bool.false_eq_true, if_false, ltO, decide_eq_false_iff_not] at h1
  omega
def Wk.flt (W : Wk) (n : Int) : Wk := { W with δ := { W.δ with fault := n } }
theorem Wc.flt {bd ba bs : Nat} {W : Wk} {cd ca cs cd' : Chunk} {n : Int} (h : Wc bd ba bs W cd ca cs) (hd : IsDev bd { W.δ with fault := n } cd') : Wc bd ba bs (W.flt n) cd' ca cs := ⟨hd, h.ar, h.sp, h.nn, h.live⟩
set_option maxHeartbeats 4000000 in
theorem SortFaults_ct (a b c d : Nat) (ha : a < 256) (hb : b < 256) (hc : c < 256) (p : Option Addr) (n cap : Nat) (ts : List T5) (ch : Chunk) (hv : RV p n ts ch) (hm : n ≤ maxLen) (hin : InT ts) (e : Nat) (he : e < 65536) :
    CtQ Tryz.prog 8 [.agg #[.int .u8 (a : Int), .int .u8 (b : Int), .int .u8 (c : Int), .int .u8 (d : Int)], .slice p n cap, .int .u16 (e : Int)] [ch] (.bool true) := by
  have hWk := workS_ct a b c d ha hb hc
  have hAw := awakeS_ct
  have hs : 8 ≤ psz a ∧ psz a ≤ 67 := by unfold psz; omega
  have hm0 : n ≤ 9223372036854775807 := by simpa [maxLen] using hm
  have e3 : IntKind.wrap .i64 (5 * (psz a : Int)) = ((5 * psz a : Nat) : Int) := by rw [wrap_i64 (by omega)]; omega
  have e4 : IntKind.wrap .i64 (e : Int) = (e : Int) := wrap_i64 (by omega)
  have e5 : (e : Int).tmod 400 = ((e % 400 : Nat) : Int) := by rw [Int.tmod_eq_emod_of_nonneg (by omega)]; omega
  generalize hps : psz a = s at *
  generalize hpr : proom a b c = room at *
  refine Ct.intro Tryz.func8 rfl Tryz.ntmps8 (nle rfl) fun w0 => ?_; dsimp only [argSlots, Nat.reduceAdd]
  repeat (first | apply G.seq | refine G.plain (h := ?_) | apply Dn.next | refine R.enter0 (h := ?_) | refine R.nil (h := ?_) | refine R.assign (h := ?_) | refine R.loadN (h := ?_) | (refine R.box (h := ?_); intro _))
  refine R.call (hct := hWk) (h := ?_)
  rintro _ _ ⟨bw, bd, ba, bs, cd, ca, cs, rfl, rfl, hW⟩
  try dsimp only [List.cons_append, List.nil_append]
  have hWA := WArena_ct bw bd ba bs
  have hWD := WDevice_ct bw bd ba bs
  have hWS := WSpace_ct bw bd ba bs
  have hRm := aRoom ba _ ca hW.ar
  rw [show (wk0 s 4000 room).α.room = room from rfl] at hRm
  by_cases h200 : 200 < n
  · repeat (first | apply G.seq | refine G.plain (h := ?_) | apply G.ret | refine G.condT (h := ?_) | apply Dn.next | apply Dn.retThen | refine R.enter0 (h := ?_) | refine R.nil (h := ?_) | refine R.enterT (h := ?_) | refine R.skip (h := ?_) | refine R.splitT (ht := ?_) | refine R.move (h := ?_) | refine R.assign (h := ?_) | refine R.storeN (h := ?_) | (refine R.alloc (h := ?_); intro _) | refine R.extract (h := ?_) | refine R.pickT (h := ?_) | refine R.pickF (h := ?_) | refine R.gtr (h := ?_) | refine R.not (h := ?_) | refine R.len (h := ?_) | refine R.eqlNil (h := ?_) | refine R.build (h := ?_) | refine R.callP (hct := by apply hAw <;> (first | omega | assumption)) (h := ?_))
    (refine Dn.post (Hr := [ch]) Tryz.results8 (hR := ?_); exact ⟨rfl, rfl⟩)
  have hAl := All_ct p n cap ts ch hv (by omega) 3
  rw [show ((3 : Nat) : Int) = 3 from rfl] at hAl
  cases hall : ts.all (fitsB 3) with
  | false =>
    rw [hall] at hAl
    repeat (first | apply G.seq | refine G.plain (h := ?_) | apply G.ret | refine G.condT (h := ?_) | apply Dn.next | apply Dn.retThen | refine R.enter0 (h := ?_) | refine R.nil (h := ?_) | refine R.enterT (h := ?_) | refine R.skip (h := ?_) | refine R.splitF (ht := ?_) | refine R.move (h := ?_) | refine R.assign (h := ?_) | refine R.storeN (h := ?_) | (refine R.alloc (h := ?_); intro _) | refine R.extract (h := ?_) | refine R.pickT (h := ?_) | refine R.pickF (h := ?_) | refine R.gtr (h := ?_) | refine R.not (h := ?_) | refine R.len (h := ?_) | refine R.eqlNil (h := ?_) | refine R.build (h := ?_) | refine R.callP (hct := by apply hAw <;> (first | omega | assumption)) (h := ?_) | refine R.callP (hct := by apply hAl <;> (first | omega | assumption)) (h := ?_))
    (refine Dn.post (Hr := [ch]) Tryz.results8 (hR := ?_); exact ⟨rfl, rfl⟩)
  | true =>
  rw [hall] at hAl
  by_cases h5 : room < 5 * s
  · repeat (first | apply G.seq | refine G.plain (h := ?_) | apply G.ret | apply Dn.next | apply Dn.retThen | refine G.condPT (ht := ?_) | refine R.enter0 (h := ?_) | refine R.nil (h := ?_) | refine R.enterT (h := ?_) | refine R.splitF (ht := ?_) | refine R.move (h := ?_) | refine R.assign (h := ?_) | refine R.storeN (h := ?_) | (refine R.alloc (h := ?_); intro _) | refine R.extract (h := ?_) | refine R.pickF (h := ?_) | refine R.lss (h := ?_) | refine R.gtr (h := ?_) | refine R.mulw (h := ?_) | refine R.not (h := ?_) | refine R.len (h := ?_) | refine R.eqlNil (h := ?_) | refine R.build (h := ?_) | refine R.callP (hct := by apply hAw <;> (first | omega | assumption)) (h := ?_) | refine R.callP (hct := by apply hAl <;> (first | omega | assumption)) (h := ?_) | refine R.callP (hct := by apply hWA <;> (first | omega | assumption)) (h := ?_) | refine R.callP (hct := by apply hRm <;> (first | omega | assumption)) (h := ?_))
    (refine Dn.post (Hr := [ch]) Tryz.results8 (hR := ?_); exact ⟨rfl, rfl⟩)
  have hokT : ∀ t ∈ ts, okT 3 t := fun t ht => okT_mk (hin t ht) (List.all_eq_true.1 hall t ht)
  have hLy := Lay_ct bw bd ba bs _ cd ca cs hW 3 (by omega) (by omega) p n cap ts ch hv (by omega) hokT (by show s ≤ room - 0; omega) rfl (Nat.zero_le _)
  rw [big0, show (wk0 s 4000 room).δ.size = s from rfl, show ((3 : Nat) : Int) = 3 from rfl] at hLy
  have hn400 : nblocks s 3 n ≤ n := nblocks_le (holds_pos hs.1 (by omega) (by omega))
  have hT := sortT_le (b := nblocks s 3 n) (m := 200) (l := 4) (by omega) (by decide)
  repeat (first | apply G.seq | refine G.plain (h := ?_) | apply G.skip | apply Dn.next | refine G.condPF (ht := ?_) | refine R.enter0 (h := ?_) | refine R.nil (h := ?_) | refine R.enterT (h := ?_) | refine R.splitF (ht := ?_) | refine R.move (h := ?_) | refine R.assign (h := ?_) | refine R.storeN (h := ?_) | (refine R.alloc (h := ?_); intro _) | refine R.extract (h := ?_) | refine R.pickF (h := ?_) | refine R.lss (h := ?_) | refine R.gtr (h := ?_) | refine R.mulw (h := ?_) | refine R.not (h := ?_) | refine R.len (h := ?_) | refine R.eqlNil (h := ?_) | refine R.build (h := ?_) | refine R.callP (hct := by apply hAw <;> (first | omega | assumption)) (h := ?_) | refine R.callP (hct := by apply hAl <;> (first | omega | assumption)) (h := ?_) | refine R.callP (hct := by apply hWA <;> (first | omega | assumption)) (h := ?_) | refine R.callP (hct := by apply hRm <;> (first | omega | assumption)) (h := ?_))
  clear hRm
  refine R.call (hct := hLy) (h := ?_)
  rintro _ _ ⟨cd1, ca1, cs1, W1, rfl, hW1, hE1, hK1, hg1, ⟨_, f, rfl, hl1, hf1, hf2, hfo1⟩ | ⟨hbg, _⟩⟩
  try dsimp only [List.cons_append, List.nil_append]
  · have hflv : flv f = .agg #[.int .i64 (f.first : Int), .int .i64 (f.blocks : Int), .int .i64 (f.width : Int), .int .i64 (f.count : Int)] := rfl
    rw [hflv]
    have hsz1 : W1.δ.size = s := hE1.size
    have hrm1 : W1.α.room = room := hE1.room
    have hus1 : W1.α.used = 0 := used_eq hW hW1 hg1
    have hac1 := hE1.acts
    have hbg1 := hE1.big
    rw [big0] at hbg1
    rw [show (wk0 s 4000 room).δ.acts = 0 from rfl] at hac1
    have hfb : f.blocks = nblocks s 3 n := by rw [hfo1.blk, hf1, hf2]
    have hlv1 : W1.live.Perm (addF f []) := by rw [hl1]; exact .refl _
    have hFr := SFree_ct bs W1.σ cs1 hW1.sp
    have hn1 : W1.σ.n = 4000 := hE1.n
    have htot1 := free_is hW1 hlv1
    rw [total_addF, show total [] = 0 from rfl] at htot1
    have hSF := SetFault_ct bd W1.δ cd1 hW1.dev ((e % 400 : Nat) : Int) (by omega)
    repeat (first | apply G.seq | refine G.plain (h := ?_) | apply Dn.next | refine R.enter0 (h := ?_) | refine R.nil (h := ?_) | refine R.move (h := ?_) | refine R.assign (h := ?_) | refine R.storeN (h := ?_) | (refine R.alloc (h := ?_); intro _) | refine R.extract (h := ?_) | refine R.remw (h := ?_) | refine R.convert (h := ?_) | refine R.callP (hct := by apply hWD <;> (first | omega | assumption)) (h := ?_) | refine R.callP (hct := by apply hWS <;> (first | omega | assumption)) (h := ?_) | refine R.callP (hct := by apply hFr <;> (first | omega | assumption)) (h := ?_))
    rw [e5]
    clear hFr
    refine R.call (hct := hSF) (h := ?_)
    rintro _ _ ⟨cd1f, rfl, rfl, hdf⟩
    try dsimp only [List.cons_append, List.nil_append]
    have hW1f := hW1.flt hdf
    have hSo := Sort_u bw bd ba bs (W1.flt ((e % 400 : Nat) : Int)) cd1f ca1 cs1 hW1f f ts [] (by show FileOk W1.δ.disk W1.δ.size _ _ _; rw [hsz1]; exact hfo1) hlv1 ⟨2, -1, 0, 0, 0⟩ (by decide) false (by show 5 * W1.δ.size ≤ W1.α.room - W1.α.used; omega) (by show W1.δ.acts ≤ _; omega) (by omega)
    rw [hflv, hfb] at hSo
    rw [hfb]
    rw [show (W1.flt ((e % 400 : Nat) : Int)).δ.size = s from hsz1, show (W1.flt ((e % 400 : Nat) : Int)).σ = W1.σ from rfl] at hSo
    repeat (first | apply G.seq | refine G.plain (h := ?_) | apply Dn.next | refine R.enter0 (h := ?_) | refine R.nil (h := ?_) | refine R.move (h := ?_) | refine R.loadN (h := ?_))
    refine R.call (hct := hSo) (h := ?_)
    rintro _ _ ⟨cd2, ca2, cs2, W2, rfl, hW2, hE2, hg2, hK2, ⟨g, out, rfl, hl2, hgw, hgc, hgo, hsd, hsp⟩ | ⟨_, hbf, _⟩ | ⟨rfl, _, hl2, hKl2⟩⟩
    try dsimp only [List.cons_append, List.nil_append]
    · have hgflv : flv g = .agg #[.int .i64 (g.first : Int), .int .i64 (g.blocks : Int), .int .i64 (g.width : Int), .int .i64 (g.count : Int)] := rfl
      rw [hgflv]
      have hus2 : W2.α.used = 0 := (used_eq hW1f hW2 hg2).trans hus1
      have hrm2 : W2.α.room = room := hE2.room.trans hrm1
      have hsz2 : W2.δ.size = s := hE2.size.trans hsz1
      have hUs := aUsed ba W2.α ca2 hW2.ar
      rw [hus2] at hUs
      have hSF2 := SetFault_ct bd W2.δ cd2 hW2.dev (-1) (by omega)
      have hsA := sortA_small (b := nblocks s 3 n) (by omega)
      have hac2 : W2.δ.acts ≤ W1.δ.acts + sortA (nblocks s 3 n) := hE2.acts.2
      have hgl : g.count = n := by rw [← hgo.len, ← (sp_perm hsp).length_eq]; exact hv.1
      repeat (first | apply G.seq | refine G.plain (h := ?_) | apply G.skip | apply Dn.next | refine G.condPF (ht := ?_) | refine R.enter0 (h := ?_) | refine R.nil (h := ?_) | refine R.enterT (h := ?_) | refine R.splitF (ht := ?_) | refine R.move (h := ?_) | refine R.assign (h := ?_) | refine R.storeN (h := ?_) | (refine R.alloc (h := ?_); intro _) | refine R.extract (h := ?_) | refine R.pickF (h := ?_) | refine R.neq (h := ?_) | refine R.callP (hct := by apply hWA <;> (first | omega | assumption)) (h := ?_) | refine R.callP (hct := by apply hUs <;> (first | omega | assumption)) (h := ?_) | refine R.callP (hct := by apply hWD <;> (first | omega | assumption)) (h := ?_))
      refine R.call (hct := hSF2) (h := ?_)
      rintro _ _ ⟨cd2f, rfl, rfl, hdf2⟩
      try dsimp only [List.cons_append, List.nil_append]
      have hW2f := hW2.flt hdf2
      obtain ⟨Lv, hfoL, hsubL⟩ := fo_sub hgo hl2
      have hLi := List_ct bw bd ba bs (W2.flt (-1)) cd2f ca2 cs2 hW2f g out Lv (by show FileOk W2.δ.disk W2.δ.size _ _ _; rw [hsz2]; exact hfoL) hsubL (by show W2.δ.size ≤ W2.α.room - W2.α.used; omega) rfl (by show W2.δ.acts ≤ _; omega) (by omega)
      rw [hgflv] at hLi
      repeat (first | apply G.seq | refine G.plain (h := ?_) | apply Dn.next | refine G.condPT (ht := ?_) | refine R.enter0 (h := ?_) | refine R.nil (h := ?_) | refine R.move (h := ?_) | refine R.loadN (h := ?_) | refine R.eql (h := ?_))
      refine R.call (hct := hLi) (h := ?_)
      rintro _ _ ⟨cd3, ca3, W3, p3, cap3, co, rfl, rfl, hW3, hE3, hd3, hl3, hg3', hV3⟩
      try dsimp only [List.cons_append, List.nil_append]
      rw [hgl] at hV3 ⊢
      have hTS := Sorted_ct 2 (-1) 0 0 0 p3 n cap3 out co (RV.vec hV3) (by omega)
      rw [show (⟨2, -1, 0, 0, 0⟩ : T5) = ⟨2, -1, 0, 0, 0⟩ from rfl, sd_sorted hsd] at hTS
      repeat (first | apply G.seq | refine G.plain (h := ?_) | apply G.ret | apply Dn.next | apply Dn.retThen | refine R.enter0 (h := ?_) | refine R.nil (h := ?_) | refine R.enterT (h := ?_) | refine R.splitT (ht := ?_) | refine R.move (h := ?_) | refine R.assign (h := ?_) | refine R.loadN (h := ?_) | refine R.extract (h := ?_) | refine R.pickT (h := ?_) | refine R.eql (h := ?_) | refine R.len (h := ?_) | refine R.callP (hct := by apply hTS <;> (first | omega | assumption)) (h := ?_))
      (refine Dn.post (Hr := [ch]) Tryz.results8 (hR := ?_); exact ⟨rfl, rfl⟩)
    · omega
    · have hfz : flv ⟨0, 0, 0, 0⟩ = .agg #[.int .i64 0, .int .i64 0, .int .i64 0, .int .i64 0] := rfl
      rw [hfz]
      have hus2 : W2.α.used = 0 := (used_eq hW1f hW2 hg2).trans hus1
      have hrm2 : W2.α.room = room := hE2.room.trans hrm1
      have hsz2 : W2.δ.size = s := hE2.size.trans hsz1
      have hUs := aUsed ba W2.α ca2 hW2.ar
      rw [hus2] at hUs
      have hSF2 := SetFault_ct bd W2.δ cd2 hW2.dev (-1) (by omega)
      have hsA := sortA_small (b := nblocks s 3 n) (by omega)
      have hac2 : W2.δ.acts ≤ W1.δ.acts + sortA (nblocks s 3 n) := hE2.acts.2
      have hlv2 : W2.live.Perm (addF f []) := hl2.trans hlv1
      have hfo2 : FileOk W2.δ.disk s [f.ext] f ts := FileOk.stay (W := W1.flt ((e % 400 : Nat) : Int)) (by exact hfo1) hlv1 hKl2
      repeat (first | apply G.seq | refine G.plain (h := ?_) | apply G.skip | apply Dn.next | refine G.condPF (ht := ?_) | refine R.enter0 (h := ?_) | refine R.nil (h := ?_) | refine R.enterT (h := ?_) | refine R.splitF (ht := ?_) | refine R.move (h := ?_) | refine R.assign (h := ?_) | refine R.storeN (h := ?_) | (refine R.alloc (h := ?_); intro _) | refine R.extract (h := ?_) | refine R.pickF (h := ?_) | refine R.neq (h := ?_) | refine R.callP (hct := by apply hWA <;> (first | omega | assumption)) (h := ?_) | refine R.callP (hct := by apply hUs <;> (first | omega | assumption)) (h := ?_) | refine R.callP (hct := by apply hWD <;> (first | omega | assumption)) (h := ?_))
      clear hUs
      refine R.call (hct := hSF2) (h := ?_)
      rintro _ _ ⟨cd2f, rfl, rfl, hdf2⟩
      try dsimp only [List.cons_append, List.nil_append]
      have hW2f := hW2.flt hdf2
      obtain ⟨Lv, hfoL, hsubL⟩ := fo_sub hfo2 hlv2
      have hLi := List_ct bw bd ba bs (W2.flt (-1)) cd2f ca2 cs2 hW2f f ts Lv (by show FileOk W2.δ.disk W2.δ.size _ _ _; rw [hsz2]; exact hfoL) hsubL (by show W2.δ.size ≤ W2.α.room - W2.α.used; omega) rfl (by show W2.δ.acts ≤ _; omega) (by omega)
      rw [hflv, hfb] at hLi
      repeat (first | apply G.seq | refine G.plain (h := ?_) | apply G.skip | apply Dn.next | refine G.condPF (ht := ?_) | refine R.enter0 (h := ?_) | refine R.nil (h := ?_) | refine R.move (h := ?_) | refine R.loadN (h := ?_) | refine R.eql (h := ?_))
      refine R.call (hct := hLi) (h := ?_)
      rintro _ _ ⟨cd3, ca3, W3, p3, cap3, co, rfl, rfl, hW3, hE3, hd3, hl3, hg3', hV3⟩
      try dsimp only [List.cons_append, List.nil_append]
      have hSm := Same_ct p3 f.count cap3 ts co (RV.vec hV3) (by omega) p n cap ts ch hv
      rw [decide_eq_true rfl] at hSm
      have hFr := SFree_ct bs W3.σ cs2 hW3.sp
      have hn3 : W3.σ.n = 4000 := hE3.n.trans (hE2.n.trans hn1)
      have htot := free_is hW3 (l := addF f []) (by rw [hl3]; exact hlv2)
      rw [total_addF, show total [] = 0 from rfl] at htot
      have htt : total W3.σ.free = total W1.σ.free := by omega
      rw [htt] at hFr
      repeat (first | apply G.seq | refine G.plain (h := ?_) | apply G.ret | apply Dn.next | refine R.enter0 (h := ?_) | refine R.nil (h := ?_) | refine R.enterT (h := ?_) | refine R.splitT (ht := ?_) | refine R.move (h := ?_) | refine R.assign (h := ?_) | refine R.loadN (h := ?_) | refine R.extract (h := ?_) | refine R.pickT (h := ?_) | refine R.eql (h := ?_) | refine R.eql4 (h := ?_) | refine R.build (h := ?_) | refine R.callP (hct := by apply hWS <;> (first | omega | assumption)) (h := ?_) | refine R.callP (hct := by apply hFr <;> (first | omega | assumption)) (h := ?_) | refine R.callP (hct := by apply hSm <;> (first | omega | assumption)) (h := ?_))
      (refine Dn.post (Hr := [ch]) Tryz.results8 (hR := ?_); exact ⟨congrArg Value.bool (dec_true ⟨rfl, rfl, rfl, rfl⟩), rfl⟩)
  · omega
end Go.Proofs.YtdkihpjnidhnmaaGreat
namespace Go.Proofs.YtdkihpjnidhnmaaGreat
open Go.ChangeShapes Go.WideShapes Go.ChangeAt Go.RowKit Go.SL Go.Tup
set_option maxRecDepth 100000 in
theorem SortFaults_lifted (os : Os) (started : os.Started) (H : Type) (enc : TypeId × Value → H) :
    ReturnsInHanded {} Tryz.checked os 8 .any (Rows.sortFaultsSpec.pre6 enc Tryz.prog Tryz.f8 Rows.sortFaultsRow.domain false) (Rows.sortFaultsSpec.post enc Tryz.prog Tryz.f8 false true false false) := by
  refine returnsInHanded_of_change (C := Tryz.checked) own started (by kernel_rfl) Tryz.func8
    (ChangeSpec.witness6 (enc := enc) (C := Tryz.checked) false ⟨#[], #[.agg #[.int .u8 0, .int .u8 0, .int .u8 0, .int .u8 0], .slice none 0 0, .int .u16 0], []⟩ 8 (by kernel_rfl) (by kernel_rfl) (by kernel_rfl) (by kernel_rfl)) ?_
  intro W base args ds gs before hval0 hW hcnd _
  have hval : ∀ (j : Nat) t v, Tryz.f8.params[j]? = some t → args[j]? = some v → Value.okWide Tryz.prog W .any base t v := hval0
  have hW' := hW
  obtain ⟨p, q, hA0, hV, rfl, hfz, hnd⟩ := hW
  have hA : DataW.TrodAll enc Tryz.prog W 0 (fun _ => true) true Tryz.f8.params.toList args.toList ds p := hA0
  rw [Tryz.params8] at hA hval
  obtain ⟨rfl, rfl⟩ := trodVars_none hV
  obtain ⟨v0, v1, v2, d0, d1, d2, p0, p1, p2, rfl, rfl, rfl, h0, h1, h2⟩ := trodAll_three hA
  obtain ⟨l, hll, hlr, rfl⟩ := openU8 (n := 4) (.inl ⟨_, Tryz.underlying23⟩) (by kernel_rfl) (by kernel_rfl) Tryz.underlying5 (hval 0 _ v0 rfl rfl)
  obtain ⟨a, l1, rfl, hl1⟩ := uncons hll
  obtain ⟨b, l2, rfl, hl2⟩ := uncons hl1
  obtain ⟨c, l3, rfl, hl3⟩ := uncons hl2
  obtain ⟨d, l4, rfl, hl4⟩ := uncons hl3
  obtain rfl := List.eq_nil_of_length_eq_zero hl4
  obtain ⟨p, n, cap, ts, ch, rfl, hv, hin, hm, hc, hnd'⟩ := open_tuplesR Tryz.underlying24 Tryz.underlying47 Tryz.underlying2 (by kernel_rfl) (by kernel_rfl) h1 (hval 1 _ v1 rfl rfl)
  obtain ⟨e2, he2, rfl⟩ := openNat16 Tryz.underlying62 (hval 2 _ v2 rfl rfl)
  clear hA0 hval0
  refine (law_calls1 hc hnd' (SortFaults_ct a b c d (hlr a (by simp)) (hlr b (by simp)) (hlr c (by simp)) p n cap ts ch hv hm hin e2 he2)).mono fun e W' ⟨he, hw⟩ => ?_
  subst he
  exact ⟨_, rfl, lawPost hW' rfl rfl (by kernel_rfl) laidOut (by decide +kernel) rfl hw⟩
theorem SortFaults_holds : Rows.SortFaultsSaid :=
  OpenClaim.holds_of_wide 8 Tryz.f8 rfl rfl rfl rfl rfl rfl rfl ⟨rfl, rfl, rfl, rfl, rfl⟩ rfl rfl rfl rfl rfl (by kernel_rfl) Tryz.func8 (by kernel_rfl)
    (of_decide_eq_true (by kernel_rfl)) (by unfold Func.isWrapper; first | (rw [if_pos (by decide +kernel)]; kernel_rfl) | (rw [if_neg (by decide +kernel)]; exact ⟨rfl, rfl⟩))
    (fun os started H enc _ => SortFaults_lifted os started H enc)
end Go.Proofs.YtdkihpjnidhnmaaGreat
