/-
  Parts of the proof, put together: SortActs0, SortActs. No condition.
-/
import Derived.Test.YtdkihpjnidhnmaaGreatB5
set_option linter.unusedVariables false
set_option linter.unusedSimpArgs false
set_option linter.unnecessarySimpa false
namespace Go.Proofs.YtdkihpjnidhnmaaGreat
open Go.SL Go.Spc Go.Tup Go.Srt
theorem lgq_halves (n : Nat) : lgq n ≤ halves n := by
  induction n using Nat.strongRecOn with
  | ind n ih =>
    by_cases h : n ≤ 1
    · rw [lgq_one h]; exact Nat.zero_le _
    · rw [lgq_step h, halves_step h]
      by_cases h2 : (n + 1) / 2 ≤ 1
      · have := lgq_one (n := (n + 3) / 4) (by omega)
        omega
      · have h3 := ih ((n + 3) / 4) (by omega)
        have h4 := halves_step h2
        have h5 : ((n + 1) / 2 + 1) / 2 = (n + 3) / 4 := by omega
        rw [h5] at h4
        omega
theorem halves_mono : ∀ {b a : Nat}, a ≤ b → halves a ≤ halves b := by
  intro b
  induction b using Nat.strongRecOn with
  | ind b ih =>
    intro a hab
    by_cases ha : a ≤ 1
    · rw [halves_one ha]; exact Nat.zero_le _
    · rw [halves_step ha, halves_step (show ¬ b ≤ 1 by omega)]
      have := ih ((b + 1) / 2) (by omega) (a := (a + 1) / 2) (by omega)
      omega
theorem sortA_le (b : Nat) : sortA b ≤ (8 * b + 8) * (halves b + 2) := by
  have h1 : lgq (b / 3 + 1) ≤ halves b := by
    by_cases hb : b ≤ 1
    · rw [lgq_one (by omega)]; exact Nat.zero_le _
    · exact Nat.le_trans (lgq_halves _) (halves_mono (by omega))
  unfold sortA
  generalize lgq (b / 3 + 1) = l at *
  generalize halves b = hv at *
  have h2 : (b + (b / 3 + 1)) * (1 + 2 * l) ≤ (2 * b + 1) * (1 + 2 * hv) := Nat.mul_le_mul (by omega) (by omega)
  have e1 : (2 * b + 1) * (1 + 2 * hv) = 4 * (b * hv) + 2 * b + 2 * hv + 1 := by rw [Nat.mul_add, Nat.mul_one, Nat.add_mul, Nat.one_mul, Nat.mul_assoc, Nat.mul_left_comm b 2 hv]; omega
  have e2 : (8 * b + 8) * (hv + 2) = 8 * (b * hv) + 16 * b + 8 * hv + 16 := by rw [Nat.mul_add, Nat.add_mul, Nat.mul_assoc]; omega
  have h0 : 0 ≤ b * hv := Nat.zero_le _
  omega
set_option maxHeartbeats 4000000 in
theorem SortActs_ct (a b c d : Nat) (ha : a < 256) (hb : b < 256) (hc : c < 256) (hd : d < 256) (p : Option Addr) (n cap : Nat) (ts : List T5) (ch : Chunk) (hv : RV p n ts ch) (hm : n ≤ maxLen) (hin : InT ts) (o : T5) :
    CtQ Tryz.prog 3 [.agg #[.int .u8 (a : Int), .int .u8 (b : Int), .int .u8 (c : Int), .int .u8 (d : Int)], .slice p n cap, tv o] [ch] (.bool true) := by
  have hWk := workS_ct a b c d ha hb hc
  have hAw := awakeS_ct
  have hF := Formed_ct o.c0 o.c1 o.c2 o.c3 o.c4
  rw [show (⟨o.c0, o.c1, o.c2, o.c3, o.c4⟩ : T5) = o from rfl] at hF
  have hov : tv o = .agg #[.int .i64 o.c0, .int .i64 o.c1, .int .i64 o.c2, .int .i64 o.c3, .int .i64 o.c4] := rfl
  have hs : 8 ≤ psz a ∧ psz a ≤ 67 := by unfold psz; omega
  have hm0 : n ≤ 9223372036854775807 := by simpa [maxLen] using hm
  obtain ⟨k, hk⟩ : ∃ k, k = 1 + d % 5 := ⟨_, rfl⟩
  have e1 : IntKind.wrap .i64 ((d : Int).tmod 5) = ((d % 5 : Nat) : Int) := by rw [Int.tmod_eq_emod_of_nonneg (by omega), wrap_i64 (by omega)]; omega
  have e2 : IntKind.wrap .i64 (1 + ((d % 5 : Nat) : Int)) = (k : Int) := by rw [wrap_i64 (by omega)]; omega
  have e3 : IntKind.wrap .i64 (5 * (psz a : Int)) = ((5 * psz a : Nat) : Int) := by rw [wrap_i64 (by omega)]; omega
  rw [hov]
  generalize hps : psz a = s at *
  generalize hpr : proom a b c = room at *
  refine Ct.intro Tryz.func3 rfl Tryz.ntmps3 (nle rfl) fun w0 => ?_; dsimp only [argSlots, Nat.reduceAdd]
  repeat (first | apply G.seq | refine G.plain (h := ?_) | apply Dn.next | refine R.enter0 (h := ?_) | refine R.nil (h := ?_) | refine R.assign (h := ?_) | refine R.loadN (h := ?_) | (refine R.box (h := ?_); intro _))
  refine R.call (hct := hWk) (h := ?_)
  rintro _ _ ⟨bw, bd, ba, bs, cd, ca, cs, rfl, rfl, hW⟩
  try dsimp only [List.cons_append, List.nil_append]
  have hWA := WArena_ct bw bd ba bs
  have hWD := WDevice_ct bw bd ba bs
  have hRm := aRoom ba _ ca hW.ar
  rw [show (wk0 s 4000 room).α.room = room from rfl] at hRm
  by_cases h400 : 400 < n
  · repeat (first | apply G.seq | refine G.plain (h := ?_) | apply G.ret | refine G.condT (h := ?_) | apply Dn.next | apply Dn.retThen | refine R.enter0 (h := ?_) | refine R.nil (h := ?_) | refine R.enterT (h := ?_) | refine R.skip (h := ?_) | refine R.splitT (ht := ?_) | refine R.move (h := ?_) | refine R.assign (h := ?_) | refine R.fieldAddr (h := ?_) | refine R.load1 (h := ?_) | refine R.extract (h := ?_) | refine R.pickT (h := ?_) | refine R.pickF (h := ?_) | refine R.gtr (h := ?_) | refine R.addw (h := ?_) | refine R.remw (h := ?_) | refine R.convert (h := ?_) | refine R.not (h := ?_) | refine R.len (h := ?_) | refine R.eqlNil (h := ?_) | refine R.callP (hct := by apply hAw <;> (first | omega | assumption)) (h := ?_))
    (refine Dn.post (Hr := [ch]) Tryz.results3 (hR := ?_); exact ⟨rfl, rfl⟩)
  have hAl := All_ct p n cap ts ch hv (by omega) k
  cases hall : ts.all (fitsB k) with
  | false =>
    rw [hall] at hAl
    repeat (first | apply G.seq | refine G.plain (h := ?_) | apply G.ret | refine G.condT (h := ?_) | apply Dn.next | apply Dn.retThen | refine R.enter0 (h := ?_) | refine R.nil (h := ?_) | refine R.enterT (h := ?_) | refine R.skip (h := ?_) | refine R.splitF (ht := ?_) | refine R.move (h := ?_) | refine R.assign (h := ?_) | refine R.fieldAddr (h := ?_) | refine R.load1 (h := ?_) | refine R.extract (h := ?_) | refine R.pickT (h := ?_) | refine R.pickF (h := ?_) | refine R.gtr (h := ?_) | refine R.addw (h := ?_) | refine R.remw (h := ?_) | refine R.convert (h := ?_) | refine R.not (h := ?_) | refine R.len (h := ?_) | refine R.eqlNil (h := ?_) | refine R.callP (hct := by apply hAw <;> (first | omega | assumption)) (h := ?_) | refine R.callP (hct := by apply hAl <;> (first | omega | assumption)) (h := ?_))
    (refine Dn.post (Hr := [ch]) Tryz.results3 (hR := ?_); exact ⟨rfl, rfl⟩)
  | true =>
  rw [hall] at hAl
  cases hfo : formed o with
  | false =>
    rw [hfo] at hF
    repeat (first | apply G.seq | refine G.plain (h := ?_) | apply G.ret | refine G.condT (h := ?_) | apply Dn.next | apply Dn.retThen | refine R.enter0 (h := ?_) | refine R.nil (h := ?_) | refine R.enterT (h := ?_) | refine R.skip (h := ?_) | refine R.splitF (ht := ?_) | refine R.move (h := ?_) | refine R.assign (h := ?_) | refine R.fieldAddr (h := ?_) | refine R.load1 (h := ?_) | refine R.loadN (h := ?_) | refine R.extract (h := ?_) | refine R.pickT (h := ?_) | refine R.pickF (h := ?_) | refine R.gtr (h := ?_) | refine R.addw (h := ?_) | refine R.remw (h := ?_) | refine R.convert (h := ?_) | refine R.not (h := ?_) | refine R.len (h := ?_) | refine R.eqlNil (h := ?_) | refine R.callP (hct := by apply hAw <;> (first | omega | assumption)) (h := ?_) | refine R.callP (hct := by apply hAl <;> (first | omega | assumption)) (h := ?_) | refine R.callP (hct := by apply hF <;> (first | omega | assumption)) (h := ?_))
    (refine Dn.post (Hr := [ch]) Tryz.results3 (hR := ?_); exact ⟨rfl, rfl⟩)
  | true =>
  rw [hfo] at hF
  by_cases h5 : room < 5 * s
  · repeat (first | apply G.seq | refine G.plain (h := ?_) | apply G.ret | apply Dn.next | apply Dn.retThen | refine G.condPT (ht := ?_) | refine R.enter0 (h := ?_) | refine R.nil (h := ?_) | refine R.enterT (h := ?_) | refine R.splitF (ht := ?_) | refine R.move (h := ?_) | refine R.assign (h := ?_) | refine R.fieldAddr (h := ?_) | refine R.load1 (h := ?_) | refine R.loadN (h := ?_) | refine R.extract (h := ?_) | refine R.pickF (h := ?_) | refine R.lss (h := ?_) | refine R.gtr (h := ?_) | refine R.addw (h := ?_) | refine R.mulw (h := ?_) | refine R.remw (h := ?_) | refine R.convert (h := ?_) | refine R.not (h := ?_) | refine R.len (h := ?_) | refine R.eqlNil (h := ?_) | refine R.callP (hct := by apply hAw <;> (first | omega | assumption)) (h := ?_) | refine R.callP (hct := by apply hAl <;> (first | omega | assumption)) (h := ?_) | refine R.callP (hct := by apply hF <;> (first | omega | assumption)) (h := ?_) | refine R.callP (hct := by apply hWA <;> (first | omega | assumption)) (h := ?_) | refine R.callP (hct := by apply hRm <;> (first | omega | assumption)) (h := ?_))
    (refine Dn.post (Hr := [ch]) Tryz.results3 (hR := ?_); exact ⟨rfl, rfl⟩)
  have hokT : ∀ t ∈ ts, okT k t := fun t ht => okT_mk (hin t ht) (List.all_eq_true.1 hall t ht)
  have hLy := Lay_ct bw bd ba bs _ cd ca cs hW k (by omega) (by omega) p n cap ts ch hv (by omega) hokT (by show s ≤ room - 0; omega) rfl (Nat.zero_le _)
  rw [big0, show (wk0 s 4000 room).δ.size = s from rfl] at hLy
  have hn400 : nblocks s k n ≤ n := nblocks_le (holds_pos hs.1 (by omega) (by omega))
  repeat (first | apply G.seq | refine G.plain (h := ?_) | apply G.skip | apply Dn.next | refine G.condPF (ht := ?_) | refine R.enter0 (h := ?_) | refine R.nil (h := ?_) | refine R.enterT (h := ?_) | refine R.splitF (ht := ?_) | refine R.move (h := ?_) | refine R.assign (h := ?_) | refine R.fieldAddr (h := ?_) | refine R.load1 (h := ?_) | refine R.loadN (h := ?_) | refine R.extract (h := ?_) | refine R.pickF (h := ?_) | refine R.lss (h := ?_) | refine R.gtr (h := ?_) | refine R.addw (h := ?_) | refine R.mulw (h := ?_) | refine R.remw (h := ?_) | refine R.convert (h := ?_) | refine R.not (h := ?_) | refine R.len (h := ?_) | refine R.eqlNil (h := ?_) | refine R.callP (hct := by apply hAw <;> (first | omega | assumption)) (h := ?_) | refine R.callP (hct := by apply hAl <;> (first | omega | assumption)) (h := ?_) | refine R.callP (hct := by apply hF <;> (first | omega | assumption)) (h := ?_) | refine R.callP (hct := by apply hWA <;> (first | omega | assumption)) (h := ?_) | refine R.callP (hct := by apply hRm <;> (first | omega | assumption)) (h := ?_))
  refine R.call (hct := hLy) (h := ?_)
  rintro _ _ ⟨cd1, ca1, cs1, W1, rfl, hW1, hE1, hK1, hg1, ⟨_, f, rfl, hl1, hf1, hf2, hfo1⟩ | ⟨hbg, _⟩⟩
  try dsimp only [List.cons_append, List.nil_append]
  · have hflv : flv f = .agg #[.int .i64 (f.first : Int), .int .i64 (f.blocks : Int), .int .i64 (f.width : Int), .int .i64 (f.count : Int)] := rfl
    rw [hflv]
    have hsz1 : W1.δ.size = s := hE1.size
    have hrm1 : W1.α.room = room := hE1.room
    have hus1 : W1.α.used = 0 := used_eq hW hW1 hg1
    have hac1 := hE1.acts
    have hbg1 := hE1.big
    rw [big0] at hbg1
    rw [show (wk0 s 4000 room).δ.acts = 0 from rfl] at hac1
    have hflt1 : W1.δ.fault = -1 := hE1.fault rfl
    have hfb : f.blocks = nblocks s k n := by rw [hfo1.blk, hf1, hf2]
    have hSo := Sort_u bw bd ba bs W1 cd1 ca1 cs1 hW1 f ts [] (by rw [hsz1]; exact hfo1) (by rw [hl1]; exact .refl _) o hfo false (by omega) (by omega) (by omega)
    rw [hflv, hov] at hSo
    have hAc := Acts_ct bd W1.δ cd1 hW1.dev
    repeat (first | apply G.seq | refine G.plain (h := ?_) | apply Dn.next | refine R.enter0 (h := ?_) | refine R.nil (h := ?_) | refine R.move (h := ?_) | refine R.assign (h := ?_) | refine R.loadN (h := ?_) | refine R.storeN (h := ?_) | (refine R.alloc (h := ?_); intro _) | refine R.extract (h := ?_) | refine R.callP (hct := by apply hWD <;> (first | omega | assumption)) (h := ?_) | refine R.callP (hct := by apply hAc <;> (first | omega | assumption)) (h := ?_))
    clear hAc
    refine R.call (hct := hSo) (h := ?_)
    rintro _ _ ⟨cd2, ca2, cs2, W2, rfl, hW2, hE2, hg2, hK2, ⟨g, out, rfl, hl2, hgw, hgc, hgo, hsd, hsp⟩ | ⟨_, hb, _⟩ | ⟨_, hb, _⟩⟩
    try dsimp only [List.cons_append, List.nil_append]
    · have hgflv : flv g = .agg #[.int .i64 (g.first : Int), .int .i64 (g.blocks : Int), .int .i64 (g.width : Int), .int .i64 (g.count : Int)] := rfl
      rw [hgflv]
      have hAc := Acts_ct bd W2.δ cd2 hW2.dev
      have hRA := rActs_ct s k n ⟨hs.1, by omega⟩ (by omega) (by omega) (by omega)
      have hac2 := hE2.acts
      have hA := sortA_le (nblocks s k n)
      have hlim : (8 * nblocks s k n + 8) * (halves (nblocks s k n) + 2) ≤ 3208 * 402 := Nat.mul_le_mul (by omega) (by have := halves_le (nblocks s k n); omega)
      rw [hfb] at hac2
      have e4 : IntKind.wrap .i64 ((W2.δ.acts : Int) - (W1.δ.acts : Int)) = ((W2.δ.acts - W1.δ.acts : Nat) : Int) := by rw [wrap_i64 (by omega)]; omega
      generalize (8 * nblocks s k n + 8) * (halves (nblocks s k n) + 2) = lim at *
      repeat (first | apply G.seq | refine G.plain (h := ?_) | apply G.ret | apply Dn.next | refine R.enter0 (h := ?_) | refine R.nil (h := ?_) | refine R.enterT (h := ?_) | refine R.splitT (ht := ?_) | refine R.move (h := ?_) | refine R.assign (h := ?_) | refine R.storeN (h := ?_) | (refine R.alloc (h := ?_); intro _) | refine R.extract (h := ?_) | refine R.pickT (h := ?_) | refine R.leq (h := ?_) | refine R.eql (h := ?_) | refine R.subw (h := ?_) | refine R.len (h := ?_) | refine R.callP (hct := by apply hWD <;> (first | omega | assumption)) (h := ?_) | refine R.callP (hct := by apply hAc <;> (first | omega | assumption)) (h := ?_) | refine R.callP (hct := by apply hRA <;> (first | omega | assumption)) (h := ?_))
      (refine Dn.post (Hr := [ch]) Tryz.results3 (hR := ?_); exact ⟨congrArg Value.bool (dec_true (by omega)), rfl⟩)
    · exfalso
      rw [hfb] at hb
      have h9 := sortT_le (b := nblocks s k n) (m := 400) (l := 4) (by omega) (by decide)
      omega
    · exact absurd hflt1 hb
  · omega
end Go.Proofs.YtdkihpjnidhnmaaGreat
namespace Go.Proofs.YtdkihpjnidhnmaaGreat
open Go.ChangeShapes Go.WideShapes Go.ChangeAt Go.RowKit Go.SL Go.Tup
set_option maxRecDepth 100000 in
theorem SortActs_lifted (os : Os) (started : os.Started) (H : Type) (enc : TypeId × Value → H) :
    ReturnsInHanded {} Tryz.checked os 3 .any (Rows.sortActsSpec.pre6 enc Tryz.prog Tryz.f3 Rows.sortActsRow.domain false) (Rows.sortActsSpec.post enc Tryz.prog Tryz.f3 false true false false) := by
  refine returnsInHanded_of_change (C := Tryz.checked) own started (by kernel_rfl) Tryz.func3
    (ChangeSpec.witness6 (enc := enc) (C := Tryz.checked) false ⟨#[], #[.agg #[.int .u8 0, .int .u8 0, .int .u8 0, .int .u8 0], .slice none 0 0, .agg #[.int .i64 0, .int .i64 0, .int .i64 0, .int .i64 0, .int .i64 0]], []⟩ 8 (by kernel_rfl) (by kernel_rfl) (by kernel_rfl) (by kernel_rfl)) ?_
  intro W base args ds gs before hval0 hW hcnd _
  have hval : ∀ (j : Nat) t v, Tryz.f3.params[j]? = some t → args[j]? = some v → Value.okWide Tryz.prog W .any base t v := hval0
  have hW' := hW
  obtain ⟨p, q, hA0, hV, rfl, hfz, hnd⟩ := hW
  have hA : DataW.TrodAll enc Tryz.prog W 0 (fun _ => true) true Tryz.f3.params.toList args.toList ds p := hA0
  rw [Tryz.params3] at hA hval
  obtain ⟨rfl, rfl⟩ := trodVars_none hV
  obtain ⟨v0, v1, v2, d0, d1, d2, p0, p1, p2, rfl, rfl, rfl, h0, h1, h2⟩ := trodAll_three hA
  obtain ⟨l, hll, hlr, rfl⟩ := openU8 (n := 4) (.inl ⟨_, Tryz.underlying23⟩) (by kernel_rfl) (by kernel_rfl) Tryz.underlying5 (hval 0 _ v0 rfl rfl)
  obtain ⟨a, l1, rfl, hl1⟩ := uncons hll
  obtain ⟨b, l2, rfl, hl2⟩ := uncons hl1
  obtain ⟨c, l3, rfl, hl3⟩ := uncons hl2
  obtain ⟨d, l4, rfl, hl4⟩ := uncons hl3
  obtain rfl := List.eq_nil_of_length_eq_zero hl4
  obtain ⟨p, n, cap, ts, ch, rfl, hv, hin, hm, hc, hnd'⟩ := open_tuplesR Tryz.underlying24 Tryz.underlying47 Tryz.underlying2 (by kernel_rfl) (by kernel_rfl) h1 (hval 1 _ v1 rfl rfl)
  obtain ⟨o0, o1, o2, o3, o4, rfl⟩ := open5 Tryz.underlying26 (by kernel_rfl) (by kernel_rfl) Tryz.underlying3 (hval 2 _ v2 rfl rfl)
  clear hA0 hval0
  refine (law_calls1 hc hnd' (SortActs_ct a b c d (hlr a (by simp)) (hlr b (by simp)) (hlr c (by simp)) (hlr d (by simp)) p n cap ts ch hv hm hin ⟨o0, o1, o2, o3, o4⟩)).mono fun e W' ⟨he, hw⟩ => ?_
  subst he
  exact ⟨_, rfl, lawPost hW' rfl rfl (by kernel_rfl) laidOut (by decide +kernel) rfl hw⟩
theorem SortActs_holds : Rows.SortActsSaid :=
  OpenClaim.holds_of_wide 3 Tryz.f3 rfl rfl rfl rfl rfl rfl rfl ⟨rfl, rfl, rfl, rfl, rfl⟩ rfl rfl rfl rfl rfl (by kernel_rfl) Tryz.func3 (by kernel_rfl)
    (of_decide_eq_true (by kernel_rfl)) (by unfold Func.isWrapper; first | (rw [if_pos (by decide +kernel)]; kernel_rfl) | (rw [if_neg (by decide +kernel)]; exact ⟨rfl, rfl⟩))
    (fun os started H enc _ => SortActs_lifted os started H enc)
end Go.Proofs.YtdkihpjnidhnmaaGreat
