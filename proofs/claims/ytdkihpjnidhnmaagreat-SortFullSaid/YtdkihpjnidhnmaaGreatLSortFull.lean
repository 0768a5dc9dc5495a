/-
  Parts of the proof, put together: SortFull0, SortFull. No condition.
-/
import Derived.Test.YtdkihpjnidhnmaaGreatB5
set_option linter.unusedVariables false
set_option linter.unusedSimpArgs false
set_option linter.unnecessarySimpa false
namespace Go.Proofs.YtdkihpjnidhnmaaGreat
open Go.SL Go.Spc Go.Tup Go.Srt
set_option maxHeartbeats 4000000 in
theorem SortFull_ct (a : Nat) (ha : a < 256) (p : Option Addr) (n cap : Nat) (ts : List T5) (ch : Chunk) (hv : RV p n ts ch) (hm : n ≤ maxLen) (hin : InT ts) (sp : Nat) (hsp : sp < 256) :
    CtQ Tryz.prog 5 [.int .u8 (a : Int), .slice p n cap, .int .u8 (sp : Int)] [ch] (.bool true) := by
  have hAw := awakeS_ct
  have hm0 : n ≤ 9223372036854775807 := by simpa [maxLen] using hm
  obtain ⟨s, hs⟩ : ∃ s, s = 8 + a % 30 := ⟨_, rfl⟩
  have e1 : IntKind.wrap .i64 ((a : Int).tmod 30) = ((a % 30 : Nat) : Int) := by rw [Int.tmod_eq_emod_of_nonneg (by omega), wrap_i64 (by omega)]; omega
  have e2 : IntKind.wrap .i64 (8 + ((a % 30 : Nat) : Int)) = (s : Int) := by rw [wrap_i64 (by omega)]; omega
  have e3 : IntKind.wrap .i64 (sp : Int) = (sp : Int) := wrap_i64 (by omega)
  have e4 : IntKind.wrap .i64 (6 * (s : Int)) = ((6 * s : Nat) : Int) := by rw [wrap_i64 (by omega)]; omega
  by_cases h300 : 300 < n
  · refine Ct.intro Tryz.func5 rfl Tryz.ntmps5 (nle rfl) fun w0 => ?_; dsimp only [argSlots, Nat.reduceAdd]
    repeat (first | apply G.seq | refine G.plain (h := ?_) | apply G.ret | refine G.condT (h := ?_) | apply Dn.next | apply Dn.retThen | refine R.enter0 (h := ?_) | refine R.nil (h := ?_) | refine R.enterT (h := ?_) | refine R.skip (h := ?_) | refine R.splitT (ht := ?_) | refine R.move (h := ?_) | refine R.assign (h := ?_) | refine R.storeN (h := ?_) | (refine R.alloc (h := ?_); intro _) | refine R.pickT (h := ?_) | refine R.pickF (h := ?_) | refine R.gtr (h := ?_) | refine R.addw (h := ?_) | refine R.remw (h := ?_) | refine R.convert (h := ?_) | refine R.not (h := ?_) | refine R.len (h := ?_) | refine R.build (h := ?_) | refine R.callP (hct := by apply hAw <;> (first | omega | assumption)) (h := ?_))
    (refine Dn.post (Hr := [ch]) Tryz.results5 (hR := ?_); exact ⟨rfl, rfl⟩)
  have hAl := All_ct p n cap ts ch hv (by omega) 2
  rw [show ((2 : Nat) : Int) = 2 from rfl] at hAl
  cases hall : ts.all (fitsB 2) with
  | false =>
    rw [hall] at hAl
    refine Ct.intro Tryz.func5 rfl Tryz.ntmps5 (nle rfl) fun w0 => ?_; dsimp only [argSlots, Nat.reduceAdd]
    repeat (first | apply G.seq | refine G.plain (h := ?_) | apply G.ret | refine G.condT (h := ?_) | apply Dn.next | apply Dn.retThen | refine R.enter0 (h := ?_) | refine R.nil (h := ?_) | refine R.enterT (h := ?_) | refine R.splitF (ht := ?_) | refine R.move (h := ?_) | refine R.assign (h := ?_) | refine R.storeN (h := ?_) | (refine R.alloc (h := ?_); intro _) | refine R.pickF (h := ?_) | refine R.gtr (h := ?_) | refine R.addw (h := ?_) | refine R.remw (h := ?_) | refine R.convert (h := ?_) | refine R.not (h := ?_) | refine R.len (h := ?_) | refine R.build (h := ?_) | refine R.callP (hct := by apply hAw <;> (first | omega | assumption)) (h := ?_) | refine R.callP (hct := by apply hAl <;> (first | omega | assumption)) (h := ?_))
    (refine Dn.post (Hr := [ch]) Tryz.results5 (hR := ?_); exact ⟨rfl, rfl⟩)
  | true =>
  rw [hall] at hAl
  have hokT : ∀ t ∈ ts, okT 2 t := fun t ht => okT_mk (hin t ht) (List.all_eq_true.1 hall t ht)
  have hRB := rBlocks_ct s 2 n ⟨by omega, by omega⟩ (by omega) (by omega) (by omega)
  rw [show ((2 : Nat) : Int) = 2 from rfl] at hRB
  have hnb : nblocks s 2 n ≤ n := nblocks_le (holds_pos (by omega) (by omega) (by omega))
  obtain ⟨b, hb⟩ : ∃ b, b = nblocks s 2 n := ⟨_, rfl⟩
  rw [← hb] at hRB hnb
  have e5 : IntKind.wrap .i64 ((b : Int) + (sp : Int)) = ((b + sp : Nat) : Int) := by rw [wrap_i64 (by omega)]; omega
  have e6 : IntKind.wrap .i64 (8 * (b : Int)) = ((8 * b : Nat) : Int) := by rw [wrap_i64 (by omega)]; omega
  have e7 : IntKind.wrap .i64 (((8 * b : Nat) : Int) + 16) = ((8 * b + 16 : Nat) : Int) := by rw [wrap_i64 (by omega)]; omega
  have hDn := DevNew_u s (b + sp) ⟨by omega, by omega⟩ (by omega)
  have hAn := ArenaNew_ct (6 * s) (by omega)
  have hSn := SpaceNewG_ct (b + sp) (by omega)
  have hT : sortT b ≤ 8 * b + 16 := by
    unfold sortT
    have h1 := lgq_pow 4 (b / 3 + 1) (by omega)
    have h2 : (b + (b / 3 + 1)) * (1 + lgq (b / 3 + 1)) ≤ (b + (b / 3 + 1)) * 5 := Nat.mul_le_mul_left _ (by omega)
    omega
  refine Ct.intro Tryz.func5 rfl Tryz.ntmps5 (nle rfl) fun w0 => ?_; dsimp only [argSlots, Nat.reduceAdd]
  repeat (first | apply G.seq | refine G.plain (h := ?_) | apply G.skip | refine G.condF (h := ?_) | apply Dn.next | refine R.enter0 (h := ?_) | refine R.nil (h := ?_) | refine R.enterT (h := ?_) | refine R.splitF (ht := ?_) | refine R.move (h := ?_) | refine R.assign (h := ?_) | refine R.storeN (h := ?_) | (refine R.alloc (h := ?_); intro _) | refine R.pickF (h := ?_) | refine R.gtr (h := ?_) | refine R.addw (h := ?_) | refine R.remw (h := ?_) | refine R.convert (h := ?_) | refine R.not (h := ?_) | refine R.len (h := ?_) | refine R.build (h := ?_) | refine R.callP (hct := by apply hAw <;> (first | omega | assumption)) (h := ?_) | refine R.callP (hct := by apply hAl <;> (first | omega | assumption)) (h := ?_) | refine R.callP (hct := by apply hRB <;> (first | omega | assumption)) (h := ?_))
  refine R.call (hct := hDn) (h := ?_)
  rintro _ _ ⟨bd, cd, rfl, rfl, hdev⟩
  try dsimp only [List.cons_append, List.nil_append]
  repeat (first | apply G.seq | refine G.plain (h := ?_) | apply G.skip | apply Dn.next | refine G.condPF (ht := ?_) | refine R.enter0 (h := ?_) | refine R.nil (h := ?_) | refine R.move (h := ?_) | refine R.assign (h := ?_) | refine R.extract (h := ?_) | refine R.neq (h := ?_) | refine R.mulw (h := ?_))
  refine R.call (hct := hAn) (h := ?_)
  rintro _ _ ⟨ba, ca, rfl, har, rfl⟩
  try dsimp only [List.cons_append, List.nil_append]
  repeat (first | refine R.enter0 (h := ?_) | refine R.move (h := ?_) | refine R.addw (h := ?_) | refine R.convert (h := ?_))
  refine R.call (hct := hSn) (h := ?_)
  rintro _ _ ⟨bs, cs, rfl, hsp', rfl⟩
  try dsimp only [List.cons_append, List.nil_append]
  have hFn := FileNew_ct bd ba bs
  repeat (first | refine R.enter0 (h := ?_))
  refine R.call (hct := hFn) (h := ?_)
  rintro _ _ ⟨bw, rfl, rfl⟩
  try dsimp only [List.cons_append, List.nil_append]
  have hW := wcG hdev har hsp'
  have hWA := WArena_ct bw bd ba bs
  have hWS := WSpace_ct bw bd ba bs
  have hLy := Lay_ct bw bd ba bs _ cd ca cs hW 2 (by omega) (by omega) p n cap ts ch hv (by omega) hokT (by show s ≤ 6 * s - 0; omega) rfl (Nat.zero_le _)
  rw [bigG, show (wkG s (b + sp) (6 * s)).δ.size = s from rfl, show ((2 : Nat) : Int) = 2 from rfl, ← hb] at hLy
  repeat (first | apply G.seq | refine G.plain (h := ?_) | apply Dn.next | refine R.enter0 (h := ?_) | refine R.nil (h := ?_) | refine R.move (h := ?_) | refine R.assign (h := ?_))
  refine R.call (hct := hLy) (h := ?_)
  rintro _ _ ⟨cd1, ca1, cs1, W1, rfl, hW1, hE1, hK1, hg1, ⟨_, f, rfl, hl1, hf1, hf2, hfo1⟩ | ⟨hbg, _⟩⟩
  try dsimp only [List.cons_append, List.nil_append]
  · have hflv : flv f = .agg #[.int .i64 (f.first : Int), .int .i64 (f.blocks : Int), .int .i64 (f.width : Int), .int .i64 (f.count : Int)] := rfl
    rw [hflv]
    have hsz1 : W1.δ.size = s := hE1.size
    have hrm1 : W1.α.room = 6 * s := hE1.room
    have hus1 : W1.α.used = 0 := used_eq hW hW1 hg1
    have hac1 := hE1.acts
    have hbg1 := hE1.big
    rw [bigG] at hbg1
    rw [show (wkG s (b + sp) (6 * s)).δ.acts = 0 from rfl] at hac1
    have hflt1 : W1.δ.fault = -1 := hE1.fault rfl
    have hfb : f.blocks = b := by rw [hfo1.blk, hf1, hf2, hb]
    have hlv1 : W1.live.Perm (addF f []) := by rw [hl1]; exact .refl _
    have hSo := Sort_u bw bd ba bs W1 cd1 ca1 cs1 hW1 f ts [] (by rw [hsz1]; exact hfo1) hlv1 ⟨1, -2, 0, 0, 0⟩ (by decide) false (by omega) (by omega) (by omega)
    rw [hflv] at hSo
    repeat (first | apply G.seq | refine G.plain (h := ?_) | apply Dn.next | refine R.enter0 (h := ?_) | refine R.nil (h := ?_) | refine R.move (h := ?_) | refine R.assign (h := ?_) | refine R.loadN (h := ?_) | refine R.storeN (h := ?_) | (refine R.alloc (h := ?_); intro _) | refine R.extract (h := ?_))
    refine R.call (hct := hSo) (h := ?_)
    rintro _ _ ⟨cd2, ca2, cs2, W2, rfl, hW2, hE2, hg2, hK2, ⟨g, out, rfl, hl2, hgw, hgc, hgo, hsd, hso⟩ | ⟨rfl, hbf, hl2, hKl2⟩ | ⟨_, hbf, _⟩⟩
    try dsimp only [List.cons_append, List.nil_append]
    · have hgflv : flv g = .agg #[.int .i64 (g.first : Int), .int .i64 (g.blocks : Int), .int .i64 (g.width : Int), .int .i64 (g.count : Int)] := rfl
      rw [hgflv]
      have hUs := aUsed ba W2.α ca2 hW2.ar
      rw [(used_eq hW1 hW2 hg2).trans hus1] at hUs
      repeat (first | apply G.seq | refine G.plain (h := ?_) | apply G.skip | apply G.ret | refine G.condF (h := ?_) | apply Dn.next | apply Dn.retThen | refine G.condPT (ht := ?_) | refine R.enter0 (h := ?_) | refine R.nil (h := ?_) | refine R.enterT (h := ?_) | refine R.skip (h := ?_) | refine R.splitF (ht := ?_) | refine R.move (h := ?_) | refine R.assign (h := ?_) | refine R.storeN (h := ?_) | (refine R.alloc (h := ?_); intro _) | refine R.extract (h := ?_) | refine R.pickF (h := ?_) | refine R.eql (h := ?_) | refine R.neq (h := ?_) | refine R.callP (hct := by apply hWA <;> (first | omega | assumption)) (h := ?_) | refine R.callP (hct := by apply hUs <;> (first | omega | assumption)) (h := ?_))
      (refine Dn.post (Hr := [ch]) Tryz.results5 (hR := ?_); exact ⟨rfl, rfl⟩)
    · rw [hfb] at hbf hE2
      have hUs := aUsed ba W2.α ca2 hW2.ar
      have hus2 := (used_eq hW1 hW2 hg2).trans hus1
      rw [hus2] at hUs
      have hsz2 : W2.δ.size = s := hE2.size.trans hsz1
      have hrm2 : W2.α.room = 6 * s := hE2.room.trans hrm1
      have hfo2 := hfo1.stay hlv1 hKl2
      obtain ⟨Lv, hfoL, hsubL⟩ := fo_sub hfo2 (hl2.trans hlv1)
      have hsA := sortA_small (b := b) (by omega)
      have hLi := List_ct bw bd ba bs W2 cd2 ca2 cs2 hW2 f ts Lv (by rw [hsz2]; exact hfoL) hsubL (by omega) (hE2.fault hflt1) (by have := hE2.acts.2; omega) (by omega)
      rw [hflv] at hLi
      rw [show flv ⟨0, 0, 0, 0⟩ = .agg #[.int .i64 0, .int .i64 0, .int .i64 0, .int .i64 0] from rfl]
      repeat (first | apply G.seq | refine G.plain (h := ?_) | apply G.skip | apply Dn.next | refine G.condPF (ht := ?_) | refine R.enter0 (h := ?_) | refine R.nil (h := ?_) | refine R.enterT (h := ?_) | refine R.splitT (ht := ?_) | refine R.splitF (ht := ?_) | refine R.move (h := ?_) | refine R.assign (h := ?_) | refine R.loadN (h := ?_) | refine R.storeN (h := ?_) | (refine R.alloc (h := ?_); intro _) | refine R.extract (h := ?_) | refine R.pickT (h := ?_) | refine R.pickF (h := ?_) | refine R.gtr (h := ?_) | refine R.eql (h := ?_) | refine R.neq (h := ?_) | refine R.addw (h := ?_) | refine R.mulw (h := ?_) | refine R.convert (h := ?_) | refine R.callP (hct := by apply hWA <;> (first | omega | assumption)) (h := ?_) | refine R.callP (hct := by apply hUs <;> (first | omega | assumption)) (h := ?_))
      refine R.call (hct := hLi) (h := ?_)
      rintro _ _ ⟨cd3, ca3, W3, p3, cap3, co, rfl, rfl, hW3, hE3, hd3, hl3, hg3', hV3⟩
      try dsimp only [List.cons_append, List.nil_append]
      have hSm := Same_ct p3 f.count cap3 ts co (RV.vec hV3) (by omega) p n cap ts ch hv
      rw [decide_eq_true rfl] at hSm
      have hFr := SFree_ct bs W3.σ cs2 hW3.sp
      have hn3 : W3.σ.n = b + sp := hE3.n.trans (hE2.n.trans hE1.n)
      have htot := free_is hW3 (l := addF f []) (by rw [hl3]; exact hl2.trans hlv1)
      rw [total_addF, show total [] = 0 from rfl] at htot
      repeat (first | apply G.seq | refine G.plain (h := ?_) | apply G.ret | apply Dn.next | refine R.enter0 (h := ?_) | refine R.nil (h := ?_) | refine R.enterT (h := ?_) | refine R.splitT (ht := ?_) | refine R.move (h := ?_) | refine R.assign (h := ?_) | refine R.extract (h := ?_) | refine R.pickT (h := ?_) | refine R.eql (h := ?_) | refine R.convert (h := ?_) | refine R.callP (hct := by apply hWS <;> (first | omega | assumption)) (h := ?_) | refine R.callP (hct := by apply hFr <;> (first | omega | assumption)) (h := ?_) | refine R.callP (hct := by apply hSm <;> (first | omega | assumption)) (h := ?_))
      (refine Dn.post (Hr := [ch]) Tryz.results5 (hR := ?_); exact ⟨congrArg Value.bool (dec_true (by omega)), rfl⟩)
    · exact absurd hflt1 hbf
  · omega
end Go.Proofs.YtdkihpjnidhnmaaGreat
namespace Go.Proofs.YtdkihpjnidhnmaaGreat
open Go.ChangeShapes Go.WideShapes Go.ChangeAt Go.RowKit Go.SL Go.Tup
set_option maxRecDepth 100000 in
theorem SortFull_lifted (os : Os) (started : os.Started) (H : Type) (enc : TypeId × Value → H) :
    ReturnsInHanded {} Tryz.checked os 5 .any (Rows.sortFullSpec.pre6 enc Tryz.prog Tryz.f5 Rows.sortFullRow.domain false) (Rows.sortFullSpec.post enc Tryz.prog Tryz.f5 false true false false) := by
  refine returnsInHanded_of_change (C := Tryz.checked) own started (by kernel_rfl) Tryz.func5
    (ChangeSpec.witness6 (enc := enc) (C := Tryz.checked) false ⟨#[], #[.int .u8 0, .slice none 0 0, .int .u8 0], []⟩ 8 (by kernel_rfl) (by kernel_rfl) (by kernel_rfl) (by kernel_rfl)) ?_
  intro W base args ds gs before hval0 hW hcnd _
  have hval : ∀ (j : Nat) t v, Tryz.f5.params[j]? = some t → args[j]? = some v → Value.okWide Tryz.prog W .any base t v := hval0
  have hW' := hW
  obtain ⟨p, q, hA0, hV, rfl, hfz, hnd⟩ := hW
  have hA : DataW.TrodAll enc Tryz.prog W 0 (fun _ => true) true Tryz.f5.params.toList args.toList ds p := hA0
  rw [Tryz.params5] at hA hval
  obtain ⟨rfl, rfl⟩ := trodVars_none hV
  obtain ⟨v0, v1, v2, d0, d1, d2, p0, p1, p2, rfl, rfl, rfl, h0, h1, h2⟩ := trodAll_three hA
  obtain ⟨e0, he0, rfl⟩ := openNat8 Tryz.underlying5 (hval 0 _ v0 rfl rfl)
  obtain ⟨p, n, cap, ts, ch, rfl, hv, hin, hm, hc, hnd'⟩ := open_tuplesR Tryz.underlying24 Tryz.underlying47 Tryz.underlying2 (by kernel_rfl) (by kernel_rfl) h1 (hval 1 _ v1 rfl rfl)
  obtain ⟨e2, he2, rfl⟩ := openNat8 Tryz.underlying5 (hval 2 _ v2 rfl rfl)
  clear hA0 hval0
  refine (law_calls1 hc hnd' (SortFull_ct e0 he0 p n cap ts ch hv hm hin e2 he2)).mono fun e W' ⟨he, hw⟩ => ?_
  subst he
  exact ⟨_, rfl, lawPost hW' rfl rfl (by kernel_rfl) laidOut (by decide +kernel) rfl hw⟩
theorem SortFull_holds : Rows.SortFullSaid :=
  OpenClaim.holds_of_wide 5 Tryz.f5 rfl rfl rfl rfl rfl rfl rfl ⟨rfl, rfl, rfl, rfl, rfl⟩ rfl rfl rfl rfl rfl (by kernel_rfl) Tryz.func5 (by kernel_rfl)
    (of_decide_eq_true (by kernel_rfl)) (by unfold Func.isWrapper; first | (rw [if_pos (by decide +kernel)]; kernel_rfl) | (rw [if_neg (by decide +kernel)]; exact ⟨rfl, rfl⟩))
    (fun os started H enc _ => SortFull_lifted os started H enc)
end Go.Proofs.YtdkihpjnidhnmaaGreat
