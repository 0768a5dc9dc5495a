/-
  Parts of the proof, put together: Merge, Pass, Sort, NewWork, Ref10, SortU, Law12, TupRef, RefSort, TupSorted, SortErr, Row, RowTup, RowIn. No condition.
-/
import Derived.Below
import Derived.Carry
import Derived.Deep.Slices
import Derived.OpenShut
import Derived.ProofKit
import Derived.Test.YtdkihpjnidhnmaaGreatRows
import Derived.Test.YtdkihpjnidhnmaaGreatB4
set_option linter.unusedVariables false
set_option linter.unusedSimpArgs false
set_option linter.unnecessarySimpa false
namespace Go.Proofs.YtdkihpjnidhnmaaGreat
open Go.SL Go.Spc Go.Tup Go.Srt
theorem rdAll_mid' (A B : List Rdr) {r : Rdr} {cx cb : Chunk} (h1 : r.cx = cx) (h2 : r.cb = cb) : ((cx ++ cb) ++ rdAll (A ++ B)).Perm (rdAll (A ++ r :: B)) := by
  subst h1 h2; exact (rdAll_mid A B r).symm
theorem heap_set {o : T5} {x y : Hd} {tl : List Hd} (h : HeapFrom (ltH o) (x :: tl) (x :: tl).length 0) : HeapFrom (ltH o) (y :: tl) (y :: tl).length 1 := by
  intro c h1 h2 h3
  have e : ∀ j, 0 < j → at_ (y :: tl) j = at_ (x :: tl) j := fun j hj => by
    obtain ⟨i, rfl⟩ : ∃ i, j = i + 1 := ⟨j - 1, by omega⟩
    rfl
  rw [e _ h1, e _ h3]
  exact h c h1 h2 (Nat.zero_le _)
structure MergeX2 where
  cd : Chunk
  ca : Chunk
  cs : Chunk
  cx : Chunk
  cb : Chunk
  W : Wk
  rds : List Rdr
  hl : List Hd
  ps : List T5
  last : T5
  sm : Bool
  rest : List Value
structure MergeX1 where
  i : Nat
  cnt : Nat
  cd : Chunk
  ca : Chunk
  W : Wk
  rds : List Rdr
  hl : List Hd
  p : Option Addr
  cap : Nat
  vc : Chunk
/-- what a merge leaves: its file, or nothing -/
structure MergeIn (W : Wk) (k : Nat) (o : T5) (once : Bool) (rs : List (Fl × List T5)) : Prop where
  k1 : 1 ≤ k
  k5 : k ≤ 5
  two : 2 ≤ rs.length
  ok : ∀ r ∈ rs, r.1.width = k ∧ FileOk W.δ.disk W.δ.size [r.1.ext] r.1 r.2 ∧ Sd (ltO o) once r.2 ∧ 0 < r.1.count
  live : ∀ r ∈ rs, r.1.ext ∈ W.live
  room : (rs.length + 1) * W.δ.size ≤ W.α.room - W.α.used
  acts : W.δ.acts ≤ 100000000000
  cnt : (rs.map (·.1.count)).sum ≤ 1000000
def filesA (s k : Nat) (rs : List (Fl × List T5)) : Nat := (rs.map fun r => nblocks s k r.1.count).sum
theorem sum_take_le {l : List Nat} {i : Nat} : (l.take i).sum ≤ l.sum := by
  have h := congrArg List.sum (List.take_append_drop i l)
  rw [List.sum_append] at h; omega
theorem len_le_sum {rs : List (Fl × List T5)} (h : ∀ r ∈ rs, 0 < r.1.count) : rs.length ≤ (rs.map (·.1.count)).sum := by
  induction rs with
  | nil => simp
  | cons r rs ih =>
    have h1 := ih fun q hq => h q (List.mem_cons_of_mem _ hq)
    have h2 := h r List.mem_cons_self
    simp only [List.map_cons, List.sum_cons, List.length_cons]; omega
theorem filesA_le {s k : Nat} (hp : 1 ≤ holds s k) {rs : List (Fl × List T5)} : filesA s k rs ≤ (rs.map (·.1.count)).sum := by
  induction rs with
  | nil => simp [filesA]
  | cons r rs ih =>
    have h2 := nblocks_le (n := r.1.count) hp
    simp only [filesA, List.map_cons, List.sum_cons] at ih ⊢; omega
set_option maxHeartbeats 4000000 in
theorem merge_ct (bz bw bd ba bs : Nat) (W : Wk) (cd ca cs : Chunk) (h : Wc bd ba bs W cd ca cs) (k : Nat) (o : T5) (once : Bool) (rs : List (Fl × List T5)) (hin : MergeIn W k o once rs) (vb off vcap : Nat) (cells : List Value)
    (hcell : ∀ (i : Nat) (r : Fl × List T5), rs[i]? = some r → (cells.drop (off + i * 4)).take 4 = [.int .i64 (r.1.first : Int), .int .i64 (r.1.blocks : Int), .int .i64 (r.1.width : Int), .int .i64 (r.1.count : Int)]) (p : Option Addr) (n cap : Nat) (last : T5) (sm : Bool) :
    Ct Tryz.prog 66 [pv bz, .slice (some ⟨vb, off, none⟩) rs.length vcap] [sRow bz bw o once p n cap last sm, wrow bw bd ba bs, cd, ca, cs, [(vb, row cells 37)]] fun v H' =>
      ∃ cd' ca' cs' W' last' sm', H' = [sRow bz bw o once p n cap last' sm', wrow bw bd ba bs, cd', ca', cs', [(vb, row cells 37)]] ∧ Wc bd ba bs W' cd' ca' cs' ∧
        Ev W W' (filesA W.δ.size k rs + nblocks W.δ.size k (rs.map (·.1.count)).sum) (nblocks W.δ.size k (rs.map (·.1.count)).sum) ∧ Keep W.live W W' ∧ W'.α.gs.Perm W.α.gs ∧
        ((∃ f out, v = .tuple #[flv f, .int .i64 0] ∧ W'.live.Perm (addF f W.live) ∧ f.width = k ∧ 0 < f.count ∧ f.count ≤ (rs.map (·.1.count)).sum ∧ FileOk W'.δ.disk W.δ.size [f.ext] f out ∧ Sd (ltO o) once out ∧ Go.Srt.Sp (ltO o) once (rs.flatMap (·.2)) out) ∨
         (v = .tuple #[flv ⟨0, 0, 0, 0⟩, .int .i64 5] ∧ big W.σ.free < nblocks W.δ.size k (rs.map (·.1.count)).sum ∧ W'.live.Perm W.live) ∨
         (v = .tuple #[flv ⟨0, 0, 0, 0⟩, .int .i64 6] ∧ W.δ.fault ≠ -1 ∧ W'.live.Perm W.live)) := by
  obtain ⟨⟨hs1, hs2⟩, hbk, hfr⟩ := h.dev.num
  obtain ⟨hu1, hu2, _, hu4⟩ := h.ar.num
  have hk1 := hin.k1
  have hk5 := hin.k5
  have hp := holds_pos hs1 hk1 hk5
  have hcnt := hin.cnt
  have hrl : rs.length ≤ (rs.map (·.1.count)).sum := len_le_sum fun r hr => (hin.ok r hr).2.2.2
  have hfA : filesA W.δ.size k rs ≤ (rs.map (·.1.count)).sum := filesA_le hp
  have hacW := hin.acts
  have htwo := hin.two
  unfold sRow sCells
  refine Ct.introD Tryz.func66 rfl Tryz.ntmps66 (nle rfl) fun w0 => ?_; dsimp only [argSlots, Nat.reduceAdd]
  repeat (first | apply G.seq | refine G.plain (h := ?_) | apply G.block | apply Dn.next | refine R.enter0 (h := ?_) | refine R.nil (h := ?_) | refine R.move (h := ?_) | refine R.assign (h := ?_) | refine R.nilCheck (h := ?_) | refine R.fieldAddr (h := ?_) | refine R.loadN (h := ?_) | refine R.store1 (h := ?_) | (refine R.alloc (h := ?_); intro _) | (refine R.box (h := ?_); intro _) | refine R.len (h := ?_) | refine R.build (h := ?_) | refine R.makeFunc (h := ?_) | refine R.deferV (h := ?_))
  rename_i b4 bh bc
  have hroom := hin.room
  have hrN : (rs.length + 1) * W.δ.size = rs.length * W.δ.size + W.δ.size := Nat.succ_mul _ _
  refine G.loop (X := MergeX1) (fun x => x.i ≤ rs.length ∧ x.i = x.rds.length ∧ x.hl.length = x.i ∧ x.cnt = ((rs.take x.i).map (·.1.count)).sum ∧ Wc bd ba bs x.W x.cd x.ca cs ∧ Ev W x.W (rdA W.δ.size k x.rds) 0 ∧ x.W.δ.disk = W.δ.disk ∧ x.W.live = W.live ∧ x.W.σ = W.σ ∧
      x.W.α.gs.Perm (rdGrants x.rds ++ W.α.gs) ∧ x.W.α.used = W.α.used + x.i * W.δ.size ∧ x.rds.map Rdr.src = rs.take x.i ∧ (∀ r ∈ x.rds, r.opn = true ∧ r.pos = 1) ∧ MSt bw x.W o x.rds x.hl ∧ Vec 148 7 x.p x.i x.cap (hcells x.hl) x.vc)
    (fun x => [(30, .int .i64 (x.i : Int)), (7, .int .i64 (x.cnt : Int)), (28, .slice (some ⟨vb, off, none⟩) rs.length vcap), (29, .int .i64 (rs.length : Int)), (6, pv bc), (4, pv b4), (0, pv bz), (1, .slice (some ⟨vb, off, none⟩) rs.length vcap)])
    (fun x => [[(b4, row [.int .i64 0, .int .i64 0, .int .i64 0, .int .i64 0] 37)], [(bc, row [pv bh] 143)], [(bh, row [.slice x.p x.i x.cap, .int .i64 o.c0, .int .i64 o.c1, .int .i64 o.c2, .int .i64 o.c3, .int .i64 o.c4] 146)], x.vc, wrow bw bd ba bs, x.cd, x.ca, cs, rdAll x.rds, [(vb, row cells 37)], [(bz, row [pv bw, .int .i64 o.c0, .int .i64 o.c1, .int .i64 o.c2, .int .i64 o.c3, .int .i64 o.c4, .bool once, .slice p n cap, .int .i64 last.c0, .int .i64 last.c1, .int .i64 last.c2, .int .i64 last.c3, .int .i64 last.c4, .bool sm] 87)]])
    (fun x => rs.length - x.i) ⟨0, 0, cd, ca, W, [], [], none, 0, []⟩
    ⟨Nat.zero_le _, rfl, rfl, by simp, h, Ev.refl W, rfl, rfl, rfl, .refl _, by simp, by simp, by simp, MSt.nil _ _ _, Vec.nil _ _⟩ (by repeat (first | exact trivial | refine ⟨rfl, ?_⟩)) (by repeat (first | exact Split.nil | (apply Split.cons; · (first | exact Take.nil | (repeat (first | exact Take.here | apply Take.there)))))) ?_
  rintro ⟨i, cnt, cd1, ca1, W1, rds, hl, p1, cap1, vc⟩ ⟨hi, hird, hhl, hct, hW1, hE1, hd1, hl1, hσ1, hg1, hus1, hsrc, hop1, hM1, hV1⟩
  dsimp only at hi hird hhl hct hW1 hE1 hd1 hl1 hσ1 hg1 hus1 hsrc hop1 hM1 hV1 ⊢
  subst hhl
  have hsz1 := hE1.size
  have hrm1 : W1.α.room = W.α.room := hE1.room
  have hac1 := hE1.acts
  have hCl := fun (W' : Wk) (cd' ca' cs' : Chunk) (hWc : Wc bd ba bs W' cd' ca' cs') (l : List Hd) (p : Option Addr) (cap : Nat) (vc : Chunk) (hV : Vec 148 7 p l.length cap (hcells l) vc) (hle : l.length ≤ 1000000) (rs : List Rdr) (base : List Gr) (hg : W'.α.gs.Perm (rdGrants rs ++ base)) (hC : CSt bw W' rs l) =>
    closeAll_cb bc bh bw bd ba bs W' cd' ca' cs' hWc o l p cap vc hV hle rs base hg hC.rd hC.lr hC.rl hC.nd
  unfold cellH headsRow at hCl
  have hrdA : rdA W.δ.size k rds ≤ filesA W.δ.size k rs := by
    refine Nat.le_trans (rdA_le fun r hr => ?_) ?_
    · have h1 : r.src ∈ rs.take hl.length := by rw [← hsrc]; exact List.mem_map.2 ⟨r, hr, rfl⟩
      have h2 := (hin.ok _ (List.mem_of_mem_take h1)).2.2.2
      have h3 := (hop1 r hr).2
      unfold Rdr.src at h2
      dsimp only at h2
      omega
    · rw [hsrc, List.map_take]; exact sum_take_le
  by_cases hlt : hl.length < rs.length
  · have hri : rs[hl.length]? = Option.some rs[hl.length] := List.getElem?_eq_getElem hlt
    have hcl := hcell hl.length _ hri
    obtain ⟨hf1, hf2, hf3, hf4⟩ := hin.ok _ (List.getElem_mem hlt)
    have hfl := hin.live _ (List.getElem_mem hlt)
    have hmul : (hl.length + 1) * W.δ.size ≤ rs.length * W.δ.size := Nat.mul_le_mul_right _ (by omega)
    rw [Nat.succ_mul] at hmul
    have htk : ((rs.take (hl.length + 1)).map (·.1.count)).sum = ((rs.take hl.length).map (·.1.count)).sum + rs[hl.length].1.count := by rw [List.take_add_one, hri, List.map_append, List.sum_append]; simp
    have htk2 : rs.take (hl.length + 1) = rs.take hl.length ++ [rs[hl.length]] := by rw [List.take_add_one, hri]; rfl
    have hcl2 : ((rs.take (hl.length + 1)).map (·.1.count)).sum ≤ (rs.map (·.1.count)).sum := by rw [List.map_take]; exact sum_take_le
    generalize hrr : rs[hl.length] = r at *
    obtain ⟨f, ts⟩ := r
    dsimp only at hcl hf1 hf2 hf3 hf4 hfl htk
    have hfo : FileOk W1.δ.disk W1.δ.size [f.ext] f ts := by rw [hd1, hsz1]; exact hf2
    have hRd := Read_u bw bd ba bs W1 cd1 ca1 cs hW1 f ts [f.ext] hfo (by rw [hsz1, hrm1, hus1]; omega)
    have hflv : flv f = .agg #[.int .i64 (f.first : Int), .int .i64 (f.blocks : Int), .int .i64 (f.width : Int), .int .i64 (f.count : Int)] := rfl
    rw [hflv] at hRd
    repeat (first | apply G.seq | refine G.plain (h := ?_) | apply G.block | apply G.skip | apply Dn.next | refine G.condPT (ht := ?_) | refine G.draw (id := 7) [] (h := ?_) | refine R.enter0 (h := ?_) | refine R.nil (h := ?_) | refine R.move (h := ?_) | refine R.assign (h := ?_) | refine R.nilCheck (h := ?_) | refine R.fieldAddr (h := ?_) | refine R.load1 (h := ?_) | refine R.loadN (h := ?_) | refine R.storeN (h := ?_) | (refine R.alloc (h := ?_); intro _) | refine R.lss (h := ?_) | refine R.indexAddr (h := ?_))
    refine R.call (hct := hRd) (h := ?_)
    rintro _ _ ⟨bx, g, ca2, α2, cx, cb, rfl, rfl, hW2, hE2, hg2, hgn, hr2⟩
    try dsimp only [List.cons_append, List.nil_append]
    repeat (first | apply G.seq | refine G.plain (h := ?_) | apply G.skip | apply Dn.next | refine G.condPF (ht := ?_) | refine R.enter0 (h := ?_) | refine R.nil (h := ?_) | refine R.move (h := ?_) | refine R.assign (h := ?_) | refine R.extract (h := ?_) | refine R.neq (h := ?_))
    have htl := hf2.len
    have ht0 : ts[0]? = Option.some ts[0] := List.getElem?_eq_getElem (by omega)
    have hNx := Next_u bw bd ba bs { W1 with α := α2 } cd1 ca2 cs hW2 bx f ts [f.ext] (by dsimp only; exact hfo) (by dsimp only; rw [hl1]; simpa using hfl) g (rdGrants rds ++ W.α.gs) (hg2.trans (hg1.cons _)) 0 cx cb hr2 _ ht0 (by dsimp only; omega)
    have htv : tv ts[0] = .agg #[.int .i64 (ts[0]).c0, .int .i64 (ts[0]).c1, .int .i64 (ts[0]).c2, .int .i64 (ts[0]).c3, .int .i64 (ts[0]).c4] := rfl
    have hz : tv T5.zero = .agg #[.int .i64 T5.zero.c0, .int .i64 T5.zero.c1, .int .i64 T5.zero.c2, .int .i64 T5.zero.c3, .int .i64 T5.zero.c4] := rfl
    rw [htv, hz] at hNx
    generalize ht : ts[0] = t at *
    refine R.call (hct := hNx) (h := ?_)
    rintro _ _ ⟨cd3, ca3, W3, cx3, cb3, rfl, hW3, hE3, hd3, hσ3, hl3, ⟨rfl, hα3, hr3⟩ | ⟨rfl, hf3b, hδ3, hg3, hx3⟩⟩
    try dsimp only [List.cons_append, List.nil_append]
    · have e1 : IntKind.wrap .i64 ((cnt : Int) + (f.count : Int)) = ((cnt + f.count : Nat) : Int) := by rw [wrap_i64 (by omega)]; rfl
      have e2 : IntKind.wrap .i64 ((hl.length : Int) + 1) = ((hl.length + 1 : Nat) : Int) := by rw [wrap_i64 (by omega)]; rfl
      have hh0 := hrr
      repeat (first | apply G.seq | refine G.plain (h := ?_) | apply G.skip | refine G.condF (h := ?_) | apply Dn.next | apply Dn.blockEnd | refine G.draw (id := 15) [(10, .eff [0])] (h := ?_) | refine R.enter0 (h := ?_) | refine R.nil (h := ?_) | refine R.enterT (h := ?_) | refine R.splitF (ht := ?_) | refine R.move (h := ?_) | refine R.assign (h := ?_) | refine R.nilCheck (h := ?_) | refine R.fieldAddr (h := ?_) | refine R.load1 (h := ?_) | refine R.loadN (h := ?_) | refine R.store1 (h := ?_) | refine R.storeN (h := ?_) | (refine R.alloc (h := ?_); intro _) | refine R.extract (h := ?_) | refine R.pickF (h := ?_) | refine R.neq (h := ?_) | refine R.addw (h := ?_) | refine R.not (h := ?_) | refine R.build (h := ?_) | (refine R.buildSlice (h := ?_); intro _) | (refine R.appendX (h := ?_); intro _ _ _ _))
      rename_i p' cap' c' hV'
      apply Dn.nodup; intro hnd
      have hap := apart_take (c1 := cx3) (c2 := rdAll rds) hnd (by (repeat (first | exact Take.here | apply Take.there))) (by (repeat (first | exact Take.here | apply Take.there)))
      apply Dn.join (c1 := cx3) (c2 := cb3)
      · (repeat (first | exact Take.here | apply Take.there))
      · (repeat (first | exact Take.here | apply Take.there))
      apply Dn.join (c1 := rdAll rds) (c2 := cx3 ++ cb3)
      · (repeat (first | exact Take.here | apply Take.there))
      · (repeat (first | exact Take.here | apply Take.there))
      have hr3' : IsRd bw bx W3 f ts g 1 cx3 cb3 := hr3
      have hrd3 : RdSt bw W3 ⟨bx, f, ts, g, 1, true, cx3, cb3⟩ := by unfold RdSt; rw [if_pos rfl]; exact hr3'
      have hE4 := (hE1.trans hE2).trans hE3
      rw [show rdAll rds ++ (cx3 ++ cb3) = rdAll (rds ++ [⟨bx, f, ts, g, 1, true, cx3, cb3⟩]) by simp [rdAll]]
      refine Dn.round ⟨hl.length + 1, cnt + f.count, cd3, ca3, W3, rds ++ [⟨bx, f, ts, g, 1, true, cx3, cb3⟩], hl ++ [⟨t, hl.length, bx⟩], p', cap', c'⟩ ⟨hlt, by dsimp only; rw [List.length_append, List.length_singleton]; omega, by dsimp only; rw [List.length_append, List.length_singleton], by dsimp only; omega, hW3, ?_, hd3.trans hd1, hl3.trans hl1, hσ3.trans hσ1, ?_, ?_, ?_, ?_, ?_, ?_⟩ (by dsimp only; omega)
      · have h0 : nblocks W.δ.size k 0 = 0 := nblocks_zero hp
        have := hE4
        rw [hf1] at this
        dsimp only at this ⊢
        rw [rdA_app]
        refine this.weak ?_ (Nat.le_refl _)
        show _ + 0 + (nblocks W1.δ.size k (0 + 1) - nblocks W1.δ.size k 0) ≤ _ + nblocks W.δ.size k 1
        rw [hsz1, h0, Nat.zero_add]; omega
      · dsimp only
        rw [hα3, rdGrants_app, if_pos rfl]
        refine (hg2.trans (hg1.cons _)).trans ?_
        rw [List.append_assoc]
        exact List.perm_middle.symm
      · have e3 := hW3.ar.num.2.2.2
        have e4 := hW1.ar.num.2.2.2
        dsimp only at hgn ⊢
        rw [e3, hα3, (hg2.map (·.n)).sum_nat, List.map_cons, List.sum_cons, ← e4, hgn, hus1, hsz1, Nat.succ_mul]; omega
      · dsimp only
        rw [List.map_append, hsrc, htk2]; rfl
      · intro r hr
        rcases List.mem_append.1 hr with hr | hr
        · exact hop1 r hr
        · simp only [List.mem_singleton] at hr; subst hr; exact ⟨rfl, rfl⟩
      · have hbx : bx ∉ rds.map (·.bx) := bx_apart (W := W3) (fun r hr => (hM1.rd r hr).move (by rw [hE3.size, hE2.size])) (hap bx (by have := hrd3.bx_mem; exact this))
        have := hM1.add (W' := W3) (r := ⟨bx, f, ts, g, 1, true, cx3, cb3⟩) (t := t) (by rw [hE3.size, hE2.size]) hrd3 rfl Nat.one_pos ht0 hbx (sd_weak hf3)
        rw [← hird] at this
        exact this
      · rw [hcells_app]; exact hV'
    · have hRc := RClosed_u bx cx3 hx3
      repeat (first | apply G.seq | refine G.plain (h := ?_) | refine G.condT (h := ?_) | apply Dn.next | refine R.enter0 (h := ?_) | refine R.nil (h := ?_) | refine R.skip (h := ?_) | refine R.splitT (ht := ?_) | refine R.move (h := ?_) | refine R.assign (h := ?_) | refine R.storeN (h := ?_) | (refine R.alloc (h := ?_); intro _) | refine R.extract (h := ?_) | refine R.pickT (h := ?_) | refine R.neq (h := ?_))
      refine R.call (hct := hRc) (h := ?_)
      rintro _ _ ⟨rfl, rfl⟩
      try dsimp only [List.cons_append, List.nil_append]
      repeat (first | apply G.seq | refine G.plain (h := ?_) | apply G.ret | apply Dn.next | apply Dn.retThen | apply Dn.retBlock | apply Dn.postD | refine G.condPT (ht := ?_) | refine R.enter0 (h := ?_) | refine R.nil (h := ?_) | refine R.move (h := ?_) | refine R.assign (h := ?_) | refine R.storeN (h := ?_) | refine R.neq (h := ?_) | refine R.build (h := ?_))
      have hC3 := hCl W3 cd3 ca3 cs hW3 hl p1 cap1 vc hV1 (by omega) rds W.α.gs hg3 (hM1.cst.move (by rw [hE3.size, hE2.size]))
      refine Go.SL.Lv.call (hc := hC3.2) (h := ?_)
      rintro _ _ ⟨ca4, α4, rs4, rfl, rfl, hW4, hE5, hg4⟩
      try dsimp only [List.cons_append, List.nil_append]
      have hE4 := hE1.trans hE2
      have hE3b := hE3
      (refine Go.SL.Lv.nil (Hr := [[(bz, row [pv bw, .int .i64 o.c0, .int .i64 o.c1, .int .i64 o.c2, .int .i64 o.c3, .int .i64 o.c4, .bool once, .slice p n cap, .int .i64 last.c0, .int .i64 last.c1, .int .i64 last.c2, .int .i64 last.c3, .int .i64 last.c4, .bool sm] 87)], wrow bw bd ba bs, cd3, ca4, cs, [(vb, row cells 37)]]) Tryz.results66 (hR := ?_); refine ⟨cd3, ca4, cs, _, last, sm, rfl, hW4, ?_, ?_, hg4, .inr (.inr ⟨rfl, ?_, ?_⟩)⟩)
      · have h5 := (hE4.trans hE3b).trans hE5
        rw [hf1] at h5
        refine h5.weak ?_ (Nat.zero_le _)
        show _ + 0 + (nblocks W1.δ.size k (0 + 1) - nblocks W1.δ.size k 0) + 0 ≤ _
        rw [hsz1, Nat.zero_add]
        have h6 : nblocks W.δ.size k 1 ≤ nblocks W.δ.size k (rs.map (·.1.count)).sum := nblocks_mono (by omega)
        omega
      · exact fun x _ => by show W3.δ.disk x = _; rw [hd3]; dsimp only; rw [hd1]
      · intro e
        have := (hE1.trans hE2).fault e
        dsimp only at this hf3b
        omega
      · show W3.live.Perm W.live
        rw [hl3]; dsimp only; rw [hl1]
  · obtain hle : hl.length = rs.length := by omega
    have htk : rs.take hl.length = rs := by rw [hle, List.take_length]
    rw [htk] at hct hsrc
    obtain ⟨_, h0 | ⟨hb, rest, rfl, rfl, hvl, hmc, hcm⟩⟩ := hV1
    · omega
    have hIn := Init_ct bh hb cap1 o hl rest (by omega)
    unfold HeadsH headV at hIn
    repeat (first | apply G.seq | refine G.plain (h := ?_) | apply G.exit | apply Dn.next | apply Dn.exitHere | apply Dn.exitThen | refine G.condPF (ht := ?_) | refine R.enter0 (h := ?_) | refine R.nil (h := ?_) | refine R.load1 (h := ?_) | refine R.lss (h := ?_) | refine R.mkIface (h := ?_))
    refine R.call (hct := hIn) (h := ?_)
    rintro _ _ ⟨hlB, rfl, rfl, hp2, hh2⟩
    try dsimp only [List.cons_append, List.nil_append]
    have hw2 : cells[off + Int.toNat 0 + 2]? = Option.some (.int .i64 (k : Int)) := by
      have h0 : rs[0]? = Option.some rs[0] := List.getElem?_eq_getElem (by omega)
      have h1 := hcell 0 _ h0
      have h2 := (hin.ok _ (List.getElem_mem (show 0 < rs.length by omega))).1
      have h3 : ((cells.drop (off + 0 * 4)).take 4)[2]? = Option.some (.int .i64 (rs[0].1.width : Int)) := by rw [h1]; rfl
      rw [List.getElem?_take_of_lt (by omega), List.getElem?_drop] at h3
      rw [← h2]; simpa using h3
    have hM2 := hM1.permH hp2
    have hlB2 : hlB.length = rs.length := by rw [hp2.length_eq, hle]
    have hWr := Write_u bw bd ba bs W1 cd1 ca1 cs hW1 k cnt hk1 hk5 (by omega) (by rw [hsz1, hrm1, hus1, hle]; omega)
    rw [hsz1] at hWr
    repeat (first | apply G.seq | apply Dn.next | refine G.draw (id := 19) [] (h := ?_) | refine R.enter0 (h := ?_) | refine R.nil (h := ?_) | refine R.move (h := ?_) | refine R.nilCheck (h := ?_) | refine R.fieldAddr (h := ?_) | refine R.load1 (h := ?_) | refine R.indexAddr (h := ?_))
    apply R.call
    · exact rfl
    · exact hWr
    · exact (by repeat (first | exact Split.nil | (apply Split.cons; · (repeat (first | exact Take.here | apply Take.there | exact Take.nil)))))
    · exact rfl
    · exact nle rfl
    rintro _ _ (⟨hfit, bx, first, gw, cd3, ca3, cs3, W3, cx, cb, rfl, rfl, hW3, hE3, e3, e4, e5, e6, e7⟩ | ⟨hfull, rfl, cd3, ca3, cs3, W3, rfl, hW3, hE3, e3, e4, e5⟩)
    · dsimp only [List.cons_append, List.nil_append]
      repeat (first | apply G.seq | refine G.plain (h := ?_) | apply G.block | apply G.skip | apply Dn.next | refine G.condPF (ht := ?_) | refine R.enter0 (h := ?_) | refine R.nil (h := ?_) | refine R.move (h := ?_) | refine R.assign (h := ?_) | refine R.nilCheck (h := ?_) | refine R.fieldAddr (h := ?_) | refine R.store1 (h := ?_) | refine R.extract (h := ?_) | refine R.neq (h := ?_) | refine R.defer (h := ?_))
      have hleft1 : left rds = rs.flatMap (·.2) := by
        unfold left
        rw [← hsrc, List.flatMap_map, List.flatMap]
        refine congrArg List.flatten (List.map_congr_left fun r hr => ?_)
        obtain ⟨h1, h2⟩ := hop1 r hr
        unfold remOf Rdr.src
        rw [if_pos h1, h2]; rfl
      refine G.loop (X := MergeX2) (fun x => Wc bd ba bs x.W x.cd x.ca x.cs ∧ Ev W x.W (rdA W.δ.size k x.rds + x.ps.length / holds W.δ.size k) (nblocks W.δ.size k cnt) ∧ Keep W.live W x.W ∧ LvOf first (nblocks W.δ.size k cnt) W.live x.W.live ∧ x.W.α.gs.Perm (gw :: (rdGrants x.rds ++ W.α.gs)) ∧
          MSt bw x.W o x.rds x.hl ∧ HeapFrom (ltH o) x.hl x.hl.length 0 ∧ Em o once (rs.flatMap (·.2)) x.ps (left x.rds) ∧ IsWr bw bx x.W first (nblocks W.δ.size k cnt) k cnt gw x.ps x.cx x.cb ∧ Last x.ps x.last x.sm ∧
          x.rds.map Rdr.src = rs ∧ (∀ r ∈ x.rds, r.pos ≤ r.f.count) ∧ x.ps.length + (left x.rds).length ≤ cnt ∧ x.hl.length * 7 + x.rest.length = cap1 * 7 ∧ x.hl.length ≤ rs.length)
        (fun _ => [(14, pv bx), (6, pv bc), (4, pv b4), (0, pv bz)])
        (fun x => [wrow bw bd ba bs, x.cd, x.ca, x.cs, x.cx, x.cb, [(bh, row [.slice (some ⟨hb, 0, none⟩) x.hl.length cap1, .int .i64 o.c0, .int .i64 o.c1, .int .i64 o.c2, .int .i64 o.c3, .int .i64 o.c4] 146)], [(hb, row (hcells x.hl ++ x.rest) 148)],
          [(b4, row [.int .i64 0, .int .i64 0, .int .i64 0, .int .i64 0] 37)], [(bc, row [pv bh] 143)], rdAll x.rds, [(vb, row cells 37)], [(bz, row [pv bw, .int .i64 o.c0, .int .i64 o.c1, .int .i64 o.c2, .int .i64 o.c3, .int .i64 o.c4, .bool once, .slice p n cap, .int .i64 x.last.c0, .int .i64 x.last.c1, .int .i64 x.last.c2, .int .i64 x.last.c3, .int .i64 x.last.c4, .bool x.sm] 87)]])
        (fun x => (left x.rds).length) ⟨cd3, ca3, cs3, cx, cb, W3, rds, hlB, [], last, false, rest⟩
        ⟨hW3, ?_, ?_, ?_, ?_, ?_, ?_, ?_, ?_, ?_, ?_, ?_, ?_, ?_, ?_⟩ (body := ?_)
      · exact (hE1.trans hE3).weak (by dsimp only; simp) (by omega)
      · exact fun y _ => by show W3.δ.disk y = _; rw [e3, hd1]
      · dsimp only; rw [← hl1]; exact e6
      · exact e4.trans (hg1.cons _)
      · exact hM2.move hE3.size
      · exact hh2
      · dsimp only
        rw [hleft1]; exact Em.start (Go.Srt.Sp.refl _ _)
      · exact e7
      · rfl
      · exact hsrc
      · intro r hr
        dsimp only at hr
        have h1 : r.src ∈ rs := by rw [← hsrc]; exact List.mem_map.2 ⟨r, hr, rfl⟩
        have h2 := (hin.ok _ h1).2.2.2
        have h3 := (hop1 r hr).2
        unfold Rdr.src at h2
        dsimp only at h2
        omega
      · dsimp only
        rw [hleft1, hct, List.length_nil, Nat.zero_add, List.length_flatMap]
        refine Nat.le_of_eq (congrArg List.sum (List.map_congr_left fun r hr => (hin.ok r hr).2.1.len))
      · dsimp only
        rw [hcells_length] at hvl
        rw [hlB2, ← hle]; exact hvl
      · dsimp only; omega
      rintro ⟨cd4, ca4, cs4, cx4, cb4, W4, rds4, hl4, ps4, last4, sm4, rest4⟩ ⟨hW4, hE4, hK4, hL4, hg4, hM4, hh4, hm4, hw4, hls4, hsrc4, hpos4, hlen4, hcap4, hhl4⟩
      dsimp only at hW4 hE4 hK4 hL4 hg4 hM4 hh4 hm4 hw4 hls4 hsrc4 hpos4 hlen4 hcap4 hhl4 ⊢
      have hN := HLen_ct bh hb cap1 o hl4 rest4
      unfold HeadsH at hN
      have hV4 : Vec 148 7 (some ⟨hb, 0, none⟩) hl4.length cap1 (hcells hl4) [(hb, row (hcells hl4 ++ rest4) 148)] := ⟨by rw [hcells_length], .inr ⟨hb, rest4, rfl, rfl, by rw [hcells_length]; exact hcap4, by omega, hcm⟩⟩
      by_cases hne : 0 < hl4.length
      · obtain ⟨x, tl, rfl⟩ : ∃ x tl, hl4 = x :: tl := by
          cases hl4 with
          | nil => simp at hne
          | cons x tl => exact ⟨x, tl, rfl⟩
        obtain ⟨a1, a2, a3, a4⟩ := hfacts (rest := rest4) hne
        obtain ⟨A, r, B, rfl, hA, ho, hrb, hpp, hrt, hrm, hAs, hBs⟩ := hM4.top hne hh4
        have hat : at_ (x :: tl) 0 = x := rfl
        rw [hat] at a4 hA hrb hrt hrm hAs hBs
        obtain ⟨xt, xrun, xrd⟩ := x
        dsimp only at hA hrb hrt hrm hAs hBs
        subst hA hrb
        unfold Hd.cells at a4
        dsimp only at a4
        have hrin : r.src ∈ rs := by rw [← hsrc4]; exact List.mem_map.2 ⟨r, by simp, rfl⟩
        obtain ⟨hf1, hf2, hf3, hf4⟩ := hin.ok _ hrin
        have hfl := hin.live _ hrin
        unfold Rdr.src at hf1 hf2 hf3 hf4 hfl
        dsimp only at hf1 hf2 hf3 hf4 hfl
        have htl := hf2.len
        have hposr := hpos4 r (by simp)
        have hxt : xt ∈ r.ts := List.mem_of_getElem? hrt
        have hsz4 := hE4.size
        have hac4 := hE4.acts
        have hpsc : ps4.length < cnt := by
          have := congrArg List.length (left_mid A B r)
          rw [hrm] at this
          simp only [List.length_append, List.length_cons] at this
          omega
        have hdv : ps4.length / holds W.δ.size k ≤ ps4.length := Nat.div_le_self _ _
        have hrA4 : rdA W.δ.size k (A ++ r :: B) ≤ filesA W.δ.size k rs := by
          rw [← hsrc4]; exact rdA_le hpos4
        have hPt := put_ct bz bw bd ba bs W4 cd4 ca4 cs4 hW4 bx first _ k cnt gw ps4 cx4 cb4 hw4 _ hg4 W.live hL4 hpsc xt (by rw [← hf1]; exact hf2.fit _ hxt) (by omega) o once p n cap last4 sm4 hls4
        unfold sRow sCells at hPt
        rw [hsz4] at hPt
        have htv : tv xt = .agg #[.int .i64 xt.c0, .int .i64 xt.c1, .int .i64 xt.c2, .int .i64 xt.c3, .int .i64 xt.c4] := rfl
        rw [htv] at hPt
        repeat (first | apply G.seq | refine G.plain (h := ?_) | apply G.block | apply G.skip | apply Dn.next | refine G.condPT (ht := ?_) | refine R.enter0 (h := ?_) | refine R.nil (h := ?_) | refine R.move (h := ?_) | refine R.nilCheck (h := ?_) | refine R.fieldAddr (h := ?_) | refine R.load1 (h := ?_) | refine R.loadN (h := ?_) | refine R.storeN (h := ?_) | (refine R.alloc (h := ?_); intro _) | refine R.gtr (h := ?_) | refine R.indexAddr (h := ?_) | refine R.callP (hct := by apply hN <;> (first | omega | assumption)) (h := ?_))
        refine R.call (hct := hPt) (h := ?_)
        rintro _ _ ⟨cd5, ca5, cs5, W5, cx5, cb5, last5, sm5, rfl, hW5, hE5, hK5, ⟨rfl, e8, e9, e10, e11, e12⟩ | ⟨rfl, e8, e9, e10, e11, e12⟩⟩
        try dsimp only [List.cons_append, List.nil_append]
        · have hsz5 := hE5.size
          have hac5 := hE5.acts
          have hem := emit_len o once ps4 xt
          have hm5 := Em.merge (A := A.map remOf) (B := B.map remOf) (t := xt) (r := r.ts.drop r.pos) (by have := hm4; unfold left at this; rw [List.map_append, List.map_cons, hrm] at this; exact this) hAs hBs (by rw [← hrm]; exact remOf_sd (hM4.sd r (by simp)))
          have hdv5 : (emit o once ps4 xt).length / holds W.δ.size k ≤ (emit o once ps4 xt).length := Nat.div_le_self _ _
          have hmon : ps4.length / holds W.δ.size k ≤ (emit o once ps4 xt).length / holds W.δ.size k := Nat.div_le_div_right hem.1
          have hK45 := hK4.trans hK5
          have hemn : (emit o once ps4 xt).length / holds W.δ.size k ≤ nblocks W.δ.size k cnt := by unfold nblocks; exact Nat.div_le_div_right (by omega)
          have hrA6 : r.pos < r.ts.length → rdA W.δ.size k A + (nblocks W.δ.size k (r.pos + 1) + rdA W.δ.size k B) ≤ filesA W.δ.size k rs := fun hlt => by
            have h1 := rdA_le (s := W.δ.size) (k := k) (rds := A ++ { r with pos := r.pos + 1 } :: B) (fun q hq => by
              rcases List.mem_append.1 hq with hq | hq
              · exact hpos4 q (List.mem_append_left _ hq)
              · rcases List.mem_cons.1 hq with rfl | hq
                · dsimp only; omega
                · exact hpos4 q (List.mem_append_right _ (List.mem_cons_of_mem _ hq)))
            rw [rdA_mid] at h1
            have h2 : (A ++ { r with pos := r.pos + 1 } :: B).map Rdr.src = rs := by rw [← hsrc4, List.map_append, List.map_append]; rfl
            rw [h2] at h1; exact h1
          have hrd4 := hM4.rd r (by simp)
          unfold RdSt at hrd4
          rw [if_pos ho] at hrd4
          have hg5 : W5.α.gs.Perm (r.g :: gw :: (rdGrants (A ++ B) ++ W.α.gs)) := by
            rw [e8]
            refine hg4.trans ?_
            refine (((rdGrants_mid A B r ho).append_right _).cons _).trans ?_
            exact List.Perm.swap _ _ _
          have hfo5 : FileOk W5.δ.disk W5.δ.size [r.f.ext] r.f r.ts := by
            rw [hsz5, hsz4]
            exact hf2.keep fun y hy => hK45 y (by obtain ⟨e, he, h2⟩ := hy; simp only [List.mem_singleton] at he; subst he; exact ⟨_, hfl, h2⟩)
          have hsb5 : ∀ e ∈ [r.f.ext], e ∈ W5.live := by
            intro e he
            simp only [List.mem_singleton] at he
            subst he
            rw [e10]
            unfold LvOf at hL4
            split at hL4
            · exact hL4.mem_iff.2 hfl
            · exact hL4.mem_iff.2 (List.mem_cons_of_mem _ hfl)
          have hz : tv T5.zero = .agg #[.int .i64 T5.zero.c0, .int .i64 T5.zero.c1, .int .i64 T5.zero.c2, .int .i64 T5.zero.c3, .int .i64 T5.zero.c4] := rfl
          have hr5 : IsRd bw r.bx W5 r.f r.ts r.g r.pos r.cx r.cb := hrd4.move hsz5
          repeat (first | apply G.seq | refine G.plain (h := ?_) | apply G.skip | apply Dn.next | refine G.condPF (ht := ?_) | refine R.enter0 (h := ?_) | refine R.nil (h := ?_) | refine R.move (h := ?_) | refine R.assign (h := ?_) | refine R.fieldAddr (h := ?_) | refine R.load1 (h := ?_) | refine R.neq (h := ?_))
          apply R1.open (rdAll_mid A B r)
          · (repeat (first | exact Take.here | apply Take.there))
          apply R1.open (c := r.cx ++ r.cb) (c1 := r.cx) (c2 := r.cb) (.refl _)
          · (repeat (first | exact Take.here | apply Take.there))
          by_cases hend : r.pos < r.ts.length
          · have htg : r.ts[r.pos]? = Option.some r.ts[r.pos] := List.getElem?_eq_getElem hend
            have hNx := Next_u bw bd ba bs W5 cd5 ca5 cs5 hW5 r.bx r.f r.ts [r.f.ext] hfo5 hsb5 r.g _ hg5 r.pos r.cx r.cb hr5 _ htg (by omega)
            have htv2 : tv r.ts[r.pos] = .agg #[.int .i64 (r.ts[r.pos]).c0, .int .i64 (r.ts[r.pos]).c1, .int .i64 (r.ts[r.pos]).c2, .int .i64 (r.ts[r.pos]).c3, .int .i64 (r.ts[r.pos]).c4] := rfl
            rw [htv2, hz] at hNx
            generalize hyt : r.ts[r.pos] = yt at *
            refine R.call (hct := hNx) (h := ?_)
            rintro _ _ ⟨cd6, ca6, W6, cx6, cb6, rfl, hW6, hE6, hd6, hσ6, hl6', ⟨rfl, hα6, hr6⟩ | ⟨rfl, hf6, hδ6, hg6, hx6⟩⟩
            try dsimp only [List.cons_append, List.nil_append]
            · have hset5 : setL (hcells (⟨xt, A.length, r.bx⟩ :: tl) ++ rest4) 0 [.int .i64 yt.c0, .int .i64 yt.c1, .int .i64 yt.c2, .int .i64 yt.c3, .int .i64 yt.c4] = hcells (⟨yt, A.length, r.bx⟩ :: tl) ++ rest4 := by simp [hcells, Hd.cells, setL]
              have hlen7 : 5 ≤ (hcells (⟨xt, A.length, r.bx⟩ :: tl) ++ rest4).length := by rw [List.length_append, hcells_length, List.length_cons]; omega
              have hFx := Fix_ct bh hb cap1 o (⟨yt, A.length, r.bx⟩ :: tl) rest4 (by rw [List.length_cons] at hhl4 ⊢; omega) (heap_set hh4)
              unfold HeadsH headV at hFx
              repeat (first | apply G.seq | refine G.plain (h := ?_) | apply G.block | refine G.condT (h := ?_) | apply Dn.next | refine G.condPF (ht := ?_) | refine G.draw (id := 35) [] (h := ?_) | refine R.enter0 (h := ?_) | refine R.nil (h := ?_) | refine R.move (h := ?_) | refine R.assign (h := ?_) | refine R.nilCheck (h := ?_) | refine R.fieldAddr (h := ?_) | refine R.load1 (h := ?_) | refine R.loadN (h := ?_) | refine R.storeN (h := ?_) | (refine R.alloc (h := ?_); intro _) | refine R.extract (h := ?_) | refine R.neq (h := ?_) | refine R.indexAddr (h := ?_) | refine R.mkIface (h := ?_))
              refine R.call (hct := hFx) (h := ?_)
              rintro _ _ ⟨hl6, rfl, rfl, hp6, hh6⟩
              try dsimp only [List.cons_append, List.nil_append]
              repeat (first | apply Dn.blockEnd | refine R.nil (h := ?_))
              apply Dn.join (c1 := cx6) (c2 := cb6)
              · (repeat (first | exact Take.here | apply Take.there))
              · (repeat (first | exact Take.here | apply Take.there))
              obtain ⟨r6, hr6e⟩ : ∃ r6 : Rdr, r6 = { r with pos := r.pos + 1, cx := cx6, cb := cb6 } := ⟨_, rfl⟩
              apply Dn.joinP (c := rdAll (A ++ r6 :: B)) (c1 := cx6 ++ cb6) (c2 := rdAll (A ++ B)) (rdAll_mid' A B (by rw [hr6e]) (by rw [hr6e]))
              · (repeat (first | exact Take.here | apply Take.there))
              · (repeat (first | exact Take.here | apply Take.there))
              have hsz6 := hE6.size
              have h6o : r6.opn = true := by rw [hr6e]; exact ho
              have h6p : r6.pos = r.pos + 1 := by rw [hr6e]
              have h6t : r6.ts = r.ts := by rw [hr6e]
              have h6f : r6.f = r.f := by rw [hr6e]
              have h6b : r6.bx = r.bx := by rw [hr6e]
              have h6g : r6.g = r.g := by rw [hr6e]
              have hrs6 : RdSt bw W6 r6 := by unfold RdSt; rw [if_pos h6o, hr6e]; exact hr6
              have hrem6 : remOf r6 = r.ts.drop r.pos := by unfold remOf; rw [if_pos h6o, h6p, h6t, Nat.add_sub_cancel]
              have hl64 := hp6.length_eq
              rw [List.length_cons] at hl64 hhl4 hcap4
              have hleft : (left (A ++ r6 :: B)).length + 1 = (left (A ++ r :: B)).length := by
                rw [left_mid, left_mid, hrem6, hrm]; simp only [List.length_append, List.length_cons]; omega
              refine Dn.round ⟨cd6, ca6, cs5, cx5, cb5, W6, A ++ r6 :: B, hl6, emit o once ps4 xt, last5, sm5, rest4⟩ ⟨hW6, ?_, hK45.trans fun y _ => by rw [hd6], by rw [hl6', e10]; exact hL4, ?_, ?_, hh6, ?_, e11.move hsz6 fun y _ _ => by rw [hd6], e12, ?_, ?_, ?_, ?_, ?_⟩ (by dsimp only; omega)
              · have h7 := (hE4.trans hE5).trans hE6
                rw [hsz5, hsz4, hf1] at h7
                refine h7.weak ?_ (Nat.le_refl _)
                dsimp only
                rw [rdA_mid, rdA_mid, h6p]
                have := nblocks_mono (s := W.δ.size) (k := k) (show r.pos ≤ r.pos + 1 by omega)
                omega
              · dsimp only
                rw [hα6]
                refine hg5.trans ((List.Perm.swap _ _ _).trans (List.Perm.cons _ ?_))
                have := (rdGrants_mid A B r6 h6o).symm.append_right W.α.gs
                rw [h6g] at this
                exact this
              · exact (hM4.step rfl (by rw [hsz6, hsz5]) hrs6 h6b rfl h6t h6o (by omega) (by rw [h6t, h6p, Nat.add_sub_cancel]; exact htg)).permH hp6
              · dsimp only
                unfold left
                rw [List.map_append, List.map_cons, hrem6]; exact hm5
              · dsimp only
                rw [← hsrc4, List.map_append, List.map_append, List.map_cons, List.map_cons]
                unfold Rdr.src; rw [h6t, h6f]
              · intro q hq
                dsimp only at hq
                rcases List.mem_append.1 hq with hq | hq
                · exact hpos4 q (List.mem_append_left _ hq)
                · rcases List.mem_cons.1 hq with rfl | hq
                  · rw [h6p, h6f]; omega
                  · exact hpos4 q (List.mem_append_right _ (List.mem_cons_of_mem _ hq))
              · dsimp only; omega
              · dsimp only; omega
              · dsimp only; omega
            · obtain ⟨rc, hrce⟩ : ∃ rc : Rdr, rc = { r with opn := false, cx := cx6, cb := cb6 } := ⟨_, rfl⟩
              have hco : rc.opn = false := by rw [hrce]
              have hrsc : RdSt bw W6 rc := by unfold RdSt; rw [if_neg (by rw [hco]; simp), hrce]; exact hx6
              apply R.join (c1 := cx6) (c2 := cb6)
              · (repeat (first | exact Take.here | apply Take.there))
              · (repeat (first | exact Take.here | apply Take.there))
              apply R.joinP (c := rdAll (A ++ rc :: B)) (c1 := cx6 ++ cb6) (c2 := rdAll (A ++ B)) (rdAll_mid' A B (by rw [hrce]) (by rw [hrce]))
              · (repeat (first | exact Take.here | apply Take.there))
              · (repeat (first | exact Take.here | apply Take.there))
              have hsz6 := hE6.size
              have hwm : IsWr bw bx W6 first (nblocks W.δ.size k cnt) k cnt gw (emit o once ps4 xt) cx5 cb5 := e11.move hsz6 fun y _ _ => by rw [hd6]
              have hDr := Drop_uB bw bd ba bs W6 cd6 ca6 cs5 hW6 bx first _ k cnt gw _ cx5 cb5 hwm _ hg6 W.live (by rw [hl6', e10]; exact hL4)
              repeat (first | apply G.seq | refine G.plain (h := ?_) | apply G.block | apply G.ret | apply Dn.next | apply Dn.retThen | apply Dn.retBlock | apply Dn.postD | refine G.condPT (ht := ?_) | refine R.enter0 (h := ?_) | refine R.nil (h := ?_) | refine R.move (h := ?_) | refine R.assign (h := ?_) | refine R.storeN (h := ?_) | (refine R.alloc (h := ?_); intro _) | refine R.extract (h := ?_) | refine R.neq (h := ?_) | refine R.build (h := ?_))
              refine Go.SL.Lv.call (hc := hDr.2) (h := ?_)
              rintro _ _ ⟨cd7, ca7, cs7, W7, cx7, cb7, rfl, rfl, hW7, hE7, hδ7, hg7, hl7, hx7⟩
              try dsimp only [List.cons_append, List.nil_append]
              have hC7 := hCl W7 cd7 ca7 cs7 hW7 _ _ cap1 _ hV4 (by omega) (A ++ rc :: B) W.α.gs (hg7.trans ((rdGrants_mid0 A B rc hco).symm.append_right _)) ((hM4.cst.move (W' := W5) hsz5).one (by rw [hE7.size, hsz6]) (by unfold RdSt at hrsc ⊢; rw [if_neg (by rw [hco]; simp)] at hrsc ⊢; exact hrsc) (by rw [hrce]) hco)
              refine Go.SL.Lv.call (hc := hC7.2) (h := ?_)
              rintro _ _ ⟨ca8, α8, rs8, rfl, rfl, hW8, hE8, hg8⟩
              try dsimp only [List.cons_append, List.nil_append]
              (refine Go.SL.Lv.nil (Hr := [[(bz, row [pv bw, .int .i64 o.c0, .int .i64 o.c1, .int .i64 o.c2, .int .i64 o.c3, .int .i64 o.c4, .bool once, .slice p n cap, .int .i64 last5.c0, .int .i64 last5.c1, .int .i64 last5.c2, .int .i64 last5.c3, .int .i64 last5.c4, .bool sm5] 87)], wrow bw bd ba bs, cd7, ca8, cs7, [(vb, row cells 37)]]) Tryz.results66 (hR := ?_); refine ⟨cd7, ca8, cs7, _, last5, sm5, rfl, hW8, ?_, ?_, hg8, .inr (.inr ⟨rfl, ?_, hl7⟩)⟩)
              · have h7 := (((hE4.trans hE5).trans hE6).trans hE7).trans hE8
                rw [hsz5, hsz4, hf1] at h7
                rw [← hct]
                refine h7.weak ?_ (Nat.le_refl _)
                have h8 := hrA6 hend
                rw [rdA_mid]
                have := nblocks_mono (s := W.δ.size) (k := k) (show r.pos ≤ r.pos + 1 by omega)
                omega
              · exact fun y hy => by show W7.δ.disk y = _; rw [hδ7]; rw [hd6]; exact hK45 y hy
              · intro e
                have := (hE4.trans hE5).fault e
                omega
          · have hpe : r.pos = r.f.count := by omega
            have hNe := NextEnd_u bw r.bx W5 r.f r.ts r.g r.cx r.cb (by rw [← hpe]; exact hr5)
            rw [hz] at hNe
            refine R.call (hct := hNe) (h := ?_)
            rintro _ _ ⟨rfl, rfl⟩
            try dsimp only [List.cons_append, List.nil_append]
            have hPp := PopH_ct bh hb cap1 o (⟨xt, A.length, r.bx⟩ :: tl) rest4 (by omega) (by omega) hne hh4
            unfold HeadsH headV at hPp
            have hRc := RClose_u bw bd ba bs W5 cd5 ca5 cs5 hW5 r.bx r.f r.ts r.g _ hg5 r.pos r.cx r.cb hr5
            repeat (first | apply G.seq | refine G.plain (h := ?_) | apply G.block | refine G.condF (h := ?_) | apply Dn.next | refine G.condPF (ht := ?_) | refine R.enter0 (h := ?_) | refine R.nil (h := ?_) | refine R.move (h := ?_) | refine R.assign (h := ?_) | refine R.load1 (h := ?_) | refine R.storeN (h := ?_) | (refine R.alloc (h := ?_); intro _) | refine R.extract (h := ?_) | refine R.neq (h := ?_) | refine R.mkIface (h := ?_))
            refine R.call (hct := hPp) (h := ?_)
            rintro _ _ ⟨hl6, y6, rfl, hy6, rfl, hp6, hln6, hh6⟩
            try dsimp only [List.cons_append, List.nil_append]
            have hy7 : y6 = ⟨xt, A.length, r.bx⟩ := hy6
            subst hy7
            repeat (first | refine G.plain (h := ?_) | apply Dn.next | refine R.enter0 (h := ?_) | refine R.nil (h := ?_) | refine R.fieldAddr (h := ?_) | refine R.load1 (h := ?_))
            refine R.call (hct := hRc) (h := ?_)
            rintro _ _ ⟨ca7, α7, cx7, rfl, rfl, hW7, hE7, hg7, hx7⟩
            try dsimp only [List.cons_append, List.nil_append]
            repeat (first | apply Dn.blockEnd | refine R.nil (h := ?_))
            obtain ⟨rc, hrce⟩ : ∃ rc : Rdr, rc = { r with opn := false, cx := cx7 } := ⟨_, rfl⟩
            have hco : rc.opn = false := by rw [hrce]
            have hct7 : rc.ts = r.ts := by rw [hrce]
            have hcf7 : rc.f = r.f := by rw [hrce]
            have hcp7 : rc.pos = r.pos := by rw [hrce]
            have hcb7 : rc.bx = r.bx := by rw [hrce]
            have hrsc : RdSt bw { W5 with α := α7 } rc := by unfold RdSt; rw [if_neg (by rw [hco]; simp), hrce]; exact hx7
            apply Dn.join (c1 := cx7) (c2 := r.cb)
            · (repeat (first | exact Take.here | apply Take.there))
            · (repeat (first | exact Take.here | apply Take.there))
            apply Dn.joinP (c := rdAll (A ++ rc :: B)) (c1 := cx7 ++ r.cb) (c2 := rdAll (A ++ B)) (rdAll_mid' A B (by rw [hrce]) (by rw [hrce]))
            · (repeat (first | exact Take.here | apply Take.there))
            · (repeat (first | exact Take.here | apply Take.there))
            have hremc : remOf rc = [] := by unfold remOf; rw [hco]; rfl
            have hdr : r.ts.drop r.pos = [] := List.drop_of_length_le (by omega)
            rw [hdr] at hm5 hrm
            have hleft : (left (A ++ rc :: B)).length + 1 = (left (A ++ r :: B)).length := by
              rw [left_mid, left_mid, hremc, hrm]; simp only [List.length_append, List.length_cons, List.length_nil]; omega
            rw [List.length_cons] at hln6 hhl4 hcap4
            have hE57 := (hE4.trans hE5).trans hE7
            refine Dn.round ⟨cd5, ca7, cs5, cx5, cb5, { W5 with α := α7 }, A ++ rc :: B, hl6, emit o once ps4 xt, last5, sm5, Hd.cells ⟨xt, A.length, r.bx⟩ ++ rest4⟩ ⟨hW7, ?_, hK45, by dsimp only; rw [e10]; exact hL4, ?_, ?_, hh6, ?_, e11.move rfl fun _ _ _ => rfl, e12, ?_, ?_, ?_, ?_, ?_⟩ (by dsimp only; omega)
            · refine hE57.weak ?_ (Nat.le_refl _)
              dsimp only
              rw [rdA_mid, rdA_mid, hcp7]
              omega
            · dsimp only
              exact hg7.trans (((rdGrants_mid0 A B rc hco).symm.append_right _).cons _)
            · refine (MSt.close (W' := { W5 with α := α7 }) (hM4.permH hp6) rfl hsz5 hrsc hcb7 hct7 hco)
            · dsimp only
              unfold left
              rw [List.map_append, List.map_cons, hremc]; exact hm5
            · dsimp only
              rw [← hsrc4, List.map_append, List.map_append, List.map_cons, List.map_cons]
              unfold Rdr.src; rw [hct7, hcf7]
            · intro q hq
              dsimp only at hq
              rcases List.mem_append.1 hq with hq | hq
              · exact hpos4 q (List.mem_append_left _ hq)
              · rcases List.mem_cons.1 hq with rfl | hq
                · rw [hcp7, hcf7]; omega
                · exact hpos4 q (List.mem_append_right _ (List.mem_cons_of_mem _ hq))
            · dsimp only; omega
            · dsimp only
              rw [List.length_append, show (Hd.cells ⟨xt, A.length, r.bx⟩).length = 7 from rfl]; omega
            · dsimp only; omega
        · repeat (first | apply G.seq | refine G.plain (h := ?_) | apply G.ret | apply Dn.next | apply Dn.retThen | apply Dn.retBlock | apply Dn.postD | refine G.condPT (ht := ?_) | refine R.enter0 (h := ?_) | refine R.nil (h := ?_) | refine R.move (h := ?_) | refine R.assign (h := ?_) | refine R.storeN (h := ?_) | refine R.neq (h := ?_) | refine R.build (h := ?_))
          refine Go.SL.Lv.call (hc := (Dropped_uB bx cx5 e12).2) (h := ?_)
          rintro _ _ ⟨rfl, rfl⟩
          try dsimp only [List.cons_append, List.nil_append]
          have hC7 := hCl W5 cd5 ca5 cs5 hW5 _ _ cap1 _ hV4 (by omega) (A ++ r :: B) W.α.gs e10 (hM4.cst.move hE5.size)
          refine Go.SL.Lv.call (hc := hC7.2) (h := ?_)
          rintro _ _ ⟨ca8, α8, rs8, rfl, rfl, hW8, hE8, hg8⟩
          try dsimp only [List.cons_append, List.nil_append]
          (refine Go.SL.Lv.nil (Hr := [[(bz, row [pv bw, .int .i64 o.c0, .int .i64 o.c1, .int .i64 o.c2, .int .i64 o.c3, .int .i64 o.c4, .bool once, .slice p n cap, .int .i64 last5.c0, .int .i64 last5.c1, .int .i64 last5.c2, .int .i64 last5.c3, .int .i64 last5.c4, .bool sm5] 87)], wrow bw bd ba bs, cd5, ca8, cs5, [(vb, row cells 37)]]) Tryz.results66 (hR := ?_); refine ⟨cd5, ca8, cs5, _, last5, sm5, rfl, hW8, ?_, ?_, hg8, .inr (.inr ⟨rfl, ?_, e11⟩)⟩)
          · have h7 := (hE4.trans hE5).trans hE8
            rw [← hct]
            refine h7.weak ?_ (Nat.le_refl _)
            have hem := emit_len o once ps4 xt
            have hemn : (emit o once ps4 xt).length / holds W.δ.size k ≤ nblocks W.δ.size k cnt := by unfold nblocks; exact Nat.div_le_div_right (by omega)
            have hdn : ps4.length / holds W.δ.size k ≤ nblocks W.δ.size k cnt := by unfold nblocks; exact Nat.div_le_div_right (by omega)
            omega
          · exact hK4.trans hK5
          · intro e
            have := hE4.fault e
            omega
      · have hl0 : hl4 = [] := by
          cases hl4 with
          | nil => rfl
          | cons x tl => simp at hne
        subst hl0
        have hcls : ∀ r ∈ rds4, r.opn = false := by
          intro r hr
          cases ho : r.opn with
          | false => rfl
          | true =>
            obtain ⟨x, hx, _⟩ := hM4.cst.rl r hr ho
            simp at hx
        have hleft0 : left rds4 = [] := by
          unfold left
          rw [List.flatten_eq_nil_iff]
          intro l hl
          obtain ⟨r, hr, rfl⟩ := List.mem_map.1 hl
          unfold remOf; rw [hcls r hr]; rfl
        have hrg0 : rdGrants rds4 = [] := by
          unfold rdGrants
          rw [List.filter_eq_nil_iff.2 (fun r hr => by rw [hcls r hr]; simp)]; rfl
        rw [hleft0] at hm4 hlen4
        rw [List.length_nil, Nat.add_zero] at hlen4
        have hsz4 := hE4.size
        have hac4 := hE4.acts
        have hdv : ps4.length / holds W.δ.size k ≤ ps4.length := Nat.div_le_self _ _
        have hrA4 : rdA W.δ.size k rds4 ≤ filesA W.δ.size k rs := by
          rw [← hsrc4]; exact rdA_le hpos4
        have hCw := Close_u bw bd ba bs W4 cd4 ca4 cs4 hW4 bx first _ k cnt gw ps4 cx4 cb4 hw4 _ hg4 W.live hL4 (by omega)
        rw [hsz4] at hCw
        have hpn : nblocks W.δ.size k ps4.length ≤ nblocks W.δ.size k cnt := nblocks_mono hlen4
        have hpd : ps4.length / holds W.δ.size k ≤ nblocks W.δ.size k ps4.length := by unfold nblocks; exact Nat.div_le_div_right (by omega)
        repeat (first | apply G.seq | refine G.plain (h := ?_) | apply G.exit | apply Dn.next | apply Dn.exitHere | apply Dn.exitThen | refine G.condPF (ht := ?_) | refine R.enter0 (h := ?_) | refine R.nil (h := ?_) | refine R.move (h := ?_) | refine R.load1 (h := ?_) | refine R.gtr (h := ?_) | refine R.callP (hct := by apply hN <;> (first | omega | assumption)) (h := ?_))
        refine R.call (hct := hCw) (h := ?_)
        rintro _ _ ⟨cd5, ca5, cs5, W5, cx5, cb5, rfl, hW5, hE5, hK5, hg5, hx5, ⟨f, rfl, e8, e9, e10, e11⟩ | ⟨rfl, e8, e9, e10⟩⟩
        try dsimp only [List.cons_append, List.nil_append]
        · have hflv : flv f = .agg #[.int .i64 (f.first : Int), .int .i64 (f.blocks : Int), .int .i64 (f.width : Int), .int .i64 (f.count : Int)] := rfl
          rw [hflv]
          repeat (first | apply G.ret | apply Dn.next | apply Dn.postD | refine R.enter0 (h := ?_) | refine R.nil (h := ?_) | refine R.assign (h := ?_) | refine R.storeN (h := ?_) | refine R.extract (h := ?_))
          refine Go.SL.Lv.call (hc := (Dropped_uB bx cx5 hx5).2) (h := ?_)
          rintro _ _ ⟨rfl, rfl⟩
          try dsimp only [List.cons_append, List.nil_append]
          have hC7 := hCl W5 cd5 ca5 cs5 hW5 _ _ cap1 _ hV4 (by omega) rds4 W.α.gs hg5 (hM4.cst.move hE5.size)
          refine Go.SL.Lv.call (hc := hC7.2) (h := ?_)
          rintro _ _ ⟨ca8, α8, rs8, rfl, rfl, hW8, hE8, hg8⟩
          try dsimp only [List.cons_append, List.nil_append]
          (refine Go.SL.Lv.nil (Hr := [[(bz, row [pv bw, .int .i64 o.c0, .int .i64 o.c1, .int .i64 o.c2, .int .i64 o.c3, .int .i64 o.c4, .bool once, .slice p n cap, .int .i64 last4.c0, .int .i64 last4.c1, .int .i64 last4.c2, .int .i64 last4.c3, .int .i64 last4.c4, .bool sm4] 87)], wrow bw bd ba bs, cd5, ca8, cs5, [(vb, row cells 37)]]) Tryz.results66 (hR := ?_); refine ⟨cd5, ca8, cs5, _, last4, sm4, rfl, hW8, ?_, ?_, hg8, .inl ⟨f, ps4, rfl, ?_, e9, ?_, by omega, e11, ?_, ?_⟩⟩)
          · rw [← hct]
            exact ((hE4.trans hE5).trans hE8).weak (by omega) (Nat.le_refl _)
          · exact hK4.trans hK5
          · show W5.live.Perm _
            rw [e8]; exact .refl _
          · rw [e10]
            cases hps : ps4 with
            | cons a b => simp
            | nil =>
              exfalso
              have h1 := sp_nil hm4.fin.2 hps
              have h0 : rs[0] ∈ rs := List.getElem_mem (by omega)
              obtain ⟨_, hf2, _, hf4⟩ := hin.ok _ h0
              have := hf2.len
              rw [List.flatMap_eq_nil_iff] at h1
              have h3 := h1 _ h0
              rw [h3] at this
              simp at this; omega
          · exact hm4.fin.1
          · exact hm4.fin.2
        · repeat (first | apply G.ret | apply Dn.next | apply Dn.postD | refine R.enter0 (h := ?_) | refine R.nil (h := ?_) | refine R.assign (h := ?_) | refine R.storeN (h := ?_) | refine R.extract (h := ?_))
          refine Go.SL.Lv.call (hc := (Dropped_uB bx cx5 hx5).2) (h := ?_)
          rintro _ _ ⟨rfl, rfl⟩
          try dsimp only [List.cons_append, List.nil_append]
          have hC7 := hCl W5 cd5 ca5 cs5 hW5 _ _ cap1 _ hV4 (by omega) rds4 W.α.gs hg5 (hM4.cst.move hE5.size)
          refine Go.SL.Lv.call (hc := hC7.2) (h := ?_)
          rintro _ _ ⟨ca8, α8, rs8, rfl, rfl, hW8, hE8, hg8⟩
          try dsimp only [List.cons_append, List.nil_append]
          (refine Go.SL.Lv.nil (Hr := [[(bz, row [pv bw, .int .i64 o.c0, .int .i64 o.c1, .int .i64 o.c2, .int .i64 o.c3, .int .i64 o.c4, .bool once, .slice p n cap, .int .i64 last4.c0, .int .i64 last4.c1, .int .i64 last4.c2, .int .i64 last4.c3, .int .i64 last4.c4, .bool sm4] 87)], wrow bw bd ba bs, cd5, ca8, cs5, [(vb, row cells 37)]]) Tryz.results66 (hR := ?_); refine ⟨cd5, ca8, cs5, _, last4, sm4, rfl, hW8, ?_, ?_, hg8, .inr (.inr ⟨rfl, ?_, e10⟩)⟩)
          · rw [← hct]
            exact ((hE4.trans hE5).trans hE8).weak (by omega) (Nat.le_refl _)
          · exact hK4.trans hK5
          · intro e
            have := hE4.fault e
            omega
    · dsimp only [List.cons_append, List.nil_append]
      repeat (first | apply G.seq | refine G.plain (h := ?_) | apply G.ret | apply Dn.next | apply Dn.retThen | apply Dn.postD | refine G.condPT (ht := ?_) | refine R.enter0 (h := ?_) | refine R.nil (h := ?_) | refine R.move (h := ?_) | refine R.assign (h := ?_) | refine R.storeN (h := ?_) | refine R.extract (h := ?_) | refine R.neq (h := ?_) | refine R.build (h := ?_))
      have hV2 : Vec 148 7 (some ⟨hb, 0, none⟩) hlB.length cap1 (hcells hlB) [(hb, row (hcells hlB ++ rest) 148)] := ⟨by rw [hcells_length], .inr ⟨hb, rest, rfl, rfl, by rw [hcells_length, hlB2, ← hle, ← hcells_length]; exact hvl, by omega, hcm⟩⟩
      have hC3 := hCl W3 cd3 ca3 cs3 hW3 hlB _ cap1 _ hV2 (by omega) rds W.α.gs (e5.trans hg1) (hM2.cst.move hE3.size)
      refine Go.SL.Lv.call (hc := hC3.2) (h := ?_)
      rintro _ _ ⟨ca4, α4, rs4, rfl, rfl, hW4, hE5, hg4⟩
      try dsimp only [List.cons_append, List.nil_append]
      (refine Go.SL.Lv.nil (Hr := [[(bz, row [pv bw, .int .i64 o.c0, .int .i64 o.c1, .int .i64 o.c2, .int .i64 o.c3, .int .i64 o.c4, .bool once, .slice p n cap, .int .i64 last.c0, .int .i64 last.c1, .int .i64 last.c2, .int .i64 last.c3, .int .i64 last.c4, .bool sm] 87)], wrow bw bd ba bs, cd3, ca4, cs3, [(vb, row cells 37)]]) Tryz.results66 (hR := ?_); refine ⟨cd3, ca4, cs3, _, last, sm, rfl, hW4, ?_, ?_, hg4, .inr (.inl ⟨rfl, ?_, ?_⟩)⟩)
      · exact ((hE1.trans hE3).trans hE5).weak (by omega) (Nat.zero_le _)
      · exact fun x _ => by show W3.δ.disk x = _; rw [e3, hd1]
      · rw [← hct, ← hσ1]; exact hfull
      · show W3.live.Perm W.live
        rw [e4, hl1]
end Go.Proofs.YtdkihpjnidhnmaaGreat
namespace Go.Proofs.YtdkihpjnidhnmaaGreat
open Go.SL Go.Spc Go.Tup Go.Srt
theorem addF_swap (f g : Fl) (l : List Ext) : (addF f (addF g l)).Perm (addF g (addF f l)) := by
  unfold addF
  split <;> split <;> first | exact .refl _ | exact List.Perm.swap _ _ _
theorem addFs_add (f : Fl) : ∀ (fs : List Fl) (l : List Ext), (addFs fs (addF f l)).Perm (addF f (addFs fs l))
  | [], _ => .refl _
  | g :: fs, l => by
    have h := addFs_add f fs (addF g l)
    refine List.Perm.trans ?_ h
    show (addFs fs (addF g (addF f l))).Perm _
    exact addFs_live (addF_swap g f l)
where
  addFs_live : ∀ {fs : List Fl} {a b : List Ext}, a.Perm b → (addFs fs a).Perm (addFs fs b)
  | [], _, _, h => h
  | f :: fs, _, _, h => addFs_live (fs := fs) (addF_perm h)
theorem addFs_live {fs : List Fl} {a b : List Ext} (h : a.Perm b) : (addFs fs a).Perm (addFs fs b) := addFs_add.addFs_live h
theorem addFs_cons (f : Fl) (fs : List Fl) (l : List Ext) : (addFs (f :: fs) l).Perm (addF f (addFs fs l)) := addFs_add f fs l
theorem addFs_perm {a b : List Fl} (h : a.Perm b) (l : List Ext) : (addFs a l).Perm (addFs b l) := by
  induction h generalizing l with
  | nil => exact .refl _
  | cons x _ ih => exact ih _
  | swap x y l' => exact addFs_live (addF_swap _ _ _)
  | trans _ _ ih1 ih2 => exact (ih1 l).trans (ih2 l)
theorem LvOf.add {f : Fl} {Lv live : List Ext} (h : live.Perm (addF f Lv)) : LvOf f.first f.blocks Lv live := by
  unfold LvOf; unfold addF at h
  split
  · rename_i h0; rw [if_pos h0] at h; exact h
  · rename_i h0; rw [if_neg h0] at h; exact h
theorem fcells_length (fs : List Fl) : (fcells fs).length = fs.length * 4 := by
  induction fs with
  | nil => rfl
  | cons f fs ih => simp only [fcells, List.flatMap_cons, List.length_append, List.length_cons] at ih ⊢; rw [ih]; simp; omega
theorem fc_get {rs : List (Fl × List T5)} {rest : List Value} {j : Nat} {r : Fl × List T5} (h : rs[j]? = some r) :
    ((fcells (rs.map (·.1)) ++ rest).drop (j * 4)).take 4 = [.int .i64 (r.1.first : Int), .int .i64 (r.1.blocks : Int), .int .i64 (r.1.width : Int), .int .i64 (r.1.count : Int)] := by
  induction rs generalizing j with
  | nil => simp at h
  | cons x rs ih =>
    cases j with
    | zero => simp at h; subst h; simp [fcells]
    | succ j =>
      have e : fcells ((x :: rs).map (·.1)) = [.int .i64 (x.1.first : Int), .int .i64 (x.1.blocks : Int), .int .i64 (x.1.width : Int), .int .i64 (x.1.count : Int)] ++ fcells (rs.map (·.1)) := by simp [fcells]
      rw [e, List.append_assoc, show (j + 1) * 4 = 4 + j * 4 by omega, ← List.drop_drop]
      exact ih (by simpa using h)
theorem fcells_all (fs : List Fl) : (fcells fs).all Value.oneCell' = true := by
  induction fs with
  | nil => rfl
  | cons f fs ih =>
    simp only [fcells, List.flatMap_cons, List.all_append] at ih ⊢
    rw [ih]; rfl
theorem nblocks_sum {s k : Nat} (hp : 1 ≤ holds s k) (rs : List (Fl × List T5)) : nblocks s k (rs.map (·.1.count)).sum ≤ filesA s k rs := by
  have hadd : ∀ a b, nblocks s k (a + b) ≤ nblocks s k a + nblocks s k b := by
    intro a b
    unfold nblocks
    generalize holds s k = h at *
    have h1 : a ≤ (a + h - 1) / h * h := by have := Nat.div_add_mod (a + h - 1) h; have := Nat.mod_lt (a + h - 1) (show 0 < h by omega); rw [Nat.mul_comm]; omega
    have h2 : b ≤ (b + h - 1) / h * h := by have := Nat.div_add_mod (b + h - 1) h; have := Nat.mod_lt (b + h - 1) (show 0 < h by omega); rw [Nat.mul_comm]; omega
    rw [Nat.div_le_iff_le_mul_add_pred (by omega)]
    rw [Nat.mul_add, Nat.mul_comm h, Nat.mul_comm h]
    omega
  induction rs with
  | nil => simp [filesA, nblocks_zero hp]
  | cons r rs ih =>
    simp only [filesA, List.map_cons, List.sum_cons] at ih ⊢
    exact Nat.le_trans (hadd _ _) (Nat.add_le_add_left ih _)
theorem filesA_app (s k : Nat) (a b : List (Fl × List T5)) : filesA s k (a ++ b) = filesA s k a + filesA s k b := by simp [filesA, List.sum_append]
/-- a group of runs replaced by one that has the same tuples -/
theorem RunsOk.swap {d : Nat → Option (List Int)} {size k : Nat} {o : T5} {once : Bool} {l out : List T5} {a g b : List (Fl × List T5)} {f : Fl} (h : RunsOk d size k o once l (a ++ (g ++ b))) (h1 : f.width = k) (h2 : FileOk d size [f.ext] f out) (h3 : Sd (ltO o) once out) (h4 : Go.Srt.Sp (ltO o) once (g.flatMap (·.2)) out) (h5 : 0 < f.count) :
    RunsOk d size k o once l ((a ++ [(f, out)]) ++ b) where
  each := fun r hr => by
    simp only [List.mem_append, List.mem_singleton] at hr
    rcases hr with (hr | rfl) | hr
    · exact h.each r (by simp [hr])
    · exact ⟨h1, h2, h3⟩
    · exact h.each r (by simp [hr])
  sp := by
    have := h.sp
    rw [List.flatMap_append, List.flatMap_append] at this
    rw [List.flatMap_append, List.flatMap_append, List.append_assoc]
    refine this.trans (Go.Srt.Sp.app (Go.Srt.Sp.refl _ _) (Go.Srt.Sp.app ?_ (Go.Srt.Sp.refl _ _)))
    simpa using h4
  pos := fun hl r hr => by
    simp only [List.mem_append, List.mem_singleton] at hr
    rcases hr with (hr | rfl) | hr
    · exact h.pos hl r (by simp [hr])
    · exact h5
    · exact h.pos hl r (by simp [hr])
theorem RunsOk.keepS {d d' : Nat → Option (List Int)} {size k : Nat} {o : T5} {once : Bool} {l : List T5} {rs : List (Fl × List T5)} (h : RunsOk d size k o once l rs) (hk : ∀ x, inF (rs.map (·.1.ext)) x → d' x = d x) : RunsOk d' size k o once l rs :=
  ⟨fun r hr => ⟨(h.each r hr).1, (h.each r hr).2.1.keep fun x hx => hk x (by
      obtain ⟨e, he, h1, h2⟩ := hx
      simp only [List.mem_singleton] at he
      subst he
      exact ⟨_, List.mem_map.2 ⟨r, hr, rfl⟩, h1, h2⟩), (h.each r hr).2.2⟩, h.sp, h.pos⟩
structure PassX where
  dn : List (Fl × List T5)
  rem : List (Fl × List T5)
  nx : List (Fl × List T5)
  cd : Chunk
  ca : Chunk
  cs : Chunk
  W : Wk
  pr : Option Addr
  rc : Nat
  pn : Option Addr
  nc : Nat
  vn : Chunk
  last : T5
  sm : Bool
structure FreeX where
  j : Nat
  cs : Chunk
  W : Wk
set_option maxHeartbeats 4000000 in
theorem pass_ct (bz bw bd ba bs : Nat) (W : Wk) (cd ca cs : Chunk) (h : Wc bd ba bs W cd ca cs) (k : Nat) (hk1 : 1 ≤ k) (hk5 : k ≤ 5) (o : T5) (once : Bool) (l : List T5) (hl : l ≠ []) (rs : List (Fl × List T5)) (hR : RunsOk W.δ.disk W.δ.size k o once l rs) (live0 : List Ext) (hlv : W.live.Perm (addFs (rs.map (·.1)) live0))
    (p : Option Addr) (cap : Nat) (vc : Chunk) (hV : Vec 37 4 p rs.length cap (fcells (rs.map (·.1))) vc) (h2 : 2 ≤ rs.length) (hr : 5 * W.δ.size ≤ W.α.room - W.α.used) (hac : W.δ.acts ≤ 10000000000) (hcn : (rs.map (·.1.count)).sum ≤ 1000000)
    (last : T5) (sm : Bool) (fan : Nat) (hfan : fan + 1 = (W.α.room - W.α.used) / W.δ.size) :
    Ct Tryz.prog 43 [pv bz] [sRow bz bw o once p rs.length cap last sm, wrow bw bd ba bs, cd, ca, cs, vc] fun v H' =>
      ∃ cd' ca' cs' W' p' cap' vc' last' sm' rs', H' = [sRow bz bw o once p' rs'.length cap' last' sm', wrow bw bd ba bs, cd', ca', cs', vc'] ∧ Wc bd ba bs W' cd' ca' cs' ∧ Ev W W' (2 * filesA W.δ.size k rs) (filesA W.δ.size k rs) ∧ Keep live0 W W' ∧ W'.α.gs.Perm W.α.gs ∧
        Vec 37 4 p' rs'.length cap' (fcells (rs'.map (·.1))) vc' ∧ W'.live.Perm (addFs (rs'.map (·.1)) live0) ∧
        ((v = .int .i64 0 ∧ RunsOk W'.δ.disk W.δ.size k o once l rs' ∧ 0 < rs'.length ∧ rs'.length * fan ≤ rs.length + (fan - 1) ∧ (rs'.map (·.1.count)).sum ≤ (rs.map (·.1.count)).sum ∧ filesA W.δ.size k rs' ≤ filesA W.δ.size k rs) ∨
         (v = .int .i64 5 ∧ big W.σ.free < filesA W.δ.size k rs) ∨ (v = .int .i64 6 ∧ W.δ.fault ≠ -1)) := by
  obtain ⟨⟨hs1, hs2⟩, hbk, hfr⟩ := h.dev.num
  obtain ⟨hu1, hu2, _, hu4⟩ := h.ar.num
  have hp := holds_pos hs1 hk1 hk5
  have hD := WDevice_ct bw bd ba bs
  have hA := WArena_ct bw bd ba bs
  have hL := aLeft ba W.α ca h.ar
  rw [show (W.α.room : Int) - (W.α.used : Int) = ((W.α.room - W.α.used : Nat) : Int) by omega] at hL
  have hSz := Size_ct bd W.δ cd h.dev
  have hVn := Vec.nil 37 4
  unfold sRow sCells
  have hL1 : W.α.room - W.α.used ≤ 1000000000 := by omega
  have hf4 : 4 ≤ fan := by
    have : 5 ≤ (W.α.room - W.α.used) / W.δ.size := by rw [Nat.le_div_iff_mul_le (by omega)]; omega
    omega
  have hfb : fan + 1 ≤ 1000000000 := by rw [hfan]; exact Nat.le_trans (Nat.div_le_self _ _) hL1
  have hfs : (fan + 1) * W.δ.size ≤ W.α.room - W.α.used := by rw [hfan]; exact Nat.div_mul_le_self _ _
  have e1 : IntKind.wrap .i64 (((W.α.room - W.α.used : Nat) : Int).tdiv (W.δ.size : Int)) = ((fan + 1 : Nat) : Int) := by
    rw [Int.tdiv_eq_ediv_of_nonneg (by omega), ← Int.natCast_ediv, ← hfan, wrap_i64 (by omega)]
  have e2 : IntKind.wrap .i64 (((fan + 1 : Nat) : Int) - 1) = (fan : Int) := by rw [wrap_i64 (by omega)]; omega
  obtain ⟨_, h0 | ⟨vb, rest, rfl, rfl, hvl, hmc, hcm⟩⟩ := hV
  · omega
  have hget : ∀ (j : Nat) (r : Fl × List T5), rs[j]? = some r → ((fcells (rs.map (·.1)) ++ rest).drop (j * 4)).take 4 = _ := fun j r hj => fc_get hj
  generalize hcells : fcells (rs.map (·.1)) ++ rest = cells at *
  have hpos0 := hR.pos hl
  have hfA0 : filesA W.δ.size k rs ≤ (rs.map (·.1.count)).sum := filesA_le hp
  refine Ct.intro Tryz.func43 rfl Tryz.ntmps43 (nle rfl) fun w0 => ?_; dsimp only [argSlots, Nat.reduceAdd]
  repeat (first | apply G.seq | refine G.plain (h := ?_) | apply G.block | apply Dn.next | refine G.draw (id := 1) [(4, .quiet), (5, .quiet), (10, .quiet), (11, .quiet)] (h := ?_) | refine R.enter0 (h := ?_) | refine R.nil (h := ?_) | refine R.move (h := ?_) | refine R.assign (h := ?_) | refine R.nilCheck (h := ?_) | refine R.fieldAddr (h := ?_) | refine R.load1 (h := ?_) | refine R.subw (h := ?_) | refine R.quow (h := ?_) | refine R.callQ (hct := by apply hD <;> (first | omega | assumption)) (h := ?_) | refine R.callQ (hct := by apply hA <;> (first | omega | assumption)) (h := ?_) | refine R.callQ (hct := by apply hL <;> (first | omega | assumption)) (h := ?_) | refine R.callQ (hct := by apply hSz <;> (first | omega | assumption)) (h := ?_))
  refine G.loop (X := PassX) (fun x => rs = x.dn ++ x.rem ∧ Wc bd ba bs x.W x.cd x.ca x.cs ∧ Ev W x.W (2 * filesA W.δ.size k x.dn) (filesA W.δ.size k x.dn) ∧ Keep live0 W x.W ∧ x.W.α.gs.Perm W.α.gs ∧ x.W.live.Perm (addFs ((x.nx ++ x.rem).map (·.1)) live0) ∧ RunsOk x.W.δ.disk W.δ.size k o once l (x.nx ++ x.rem) ∧
      Vec 37 4 x.pn x.nx.length x.nc (fcells (x.nx.map (·.1))) x.vn ∧ x.rem.length ≤ x.rc ∧ x.rc ≤ cap ∧ (x.rem ≠ [] → x.pr = some ⟨vb, x.dn.length * 4, none⟩) ∧ x.nx.length * fan ≤ x.dn.length + (fan - 1) ∧ (x.rem ≠ [] → x.nx.length * fan ≤ x.dn.length) ∧
      (x.nx.map (·.1.count)).sum ≤ (x.dn.map (·.1.count)).sum ∧ filesA W.δ.size k x.nx ≤ filesA W.δ.size k x.dn ∧ (x.dn ≠ [] → 0 < x.nx.length))
    (fun x => [(4, .slice x.pn x.nx.length x.nc), (3, .int .i64 (fan : Int)), (0, pv bz)])
    (fun x => [[(bz, row [pv bw, .int .i64 o.c0, .int .i64 o.c1, .int .i64 o.c2, .int .i64 o.c3, .int .i64 o.c4, .bool once, .slice x.pr x.rem.length x.rc, .int .i64 x.last.c0, .int .i64 x.last.c1, .int .i64 x.last.c2, .int .i64 x.last.c3, .int .i64 x.last.c4, .bool x.sm] 87)], wrow bw bd ba bs, x.cd, x.ca, x.cs, [(vb, row cells 37)], x.vn]) (fun x => x.rem.length)
    ⟨[], rs, [], cd, ca, cs, W, some ⟨vb, 0, none⟩, cap, none, 0, [], last, sm⟩
    ⟨rfl, h, (Ev.refl W).weak (Nat.zero_le _) (Nat.zero_le _), Keep.refl _ _, .refl _, by simpa using hlv, by simpa using hR, Vec.nil _ _, hmc, Nat.le_refl _, fun _ => rfl, by simp, by simp, by simp, by simp [filesA], by simp⟩ (by repeat (first | exact trivial | refine ⟨rfl, ?_⟩)) (by repeat (first | exact Split.nil | (apply Split.cons; · (first | exact Take.nil | (repeat (first | exact Take.here | apply Take.there)))))) ?_
  rintro ⟨dn, rem, nx, cd1, ca1, cs1, W1, pr, rc, pn, nc, vn, last1, sm1⟩ ⟨hrs, hW1, hE1, hK1, hg1, hl1, hR1, hV1, hrc, hrcc, hpr, hlen, hlen2, hcs1, hfA1, hnx1⟩
  dsimp only at hrs hW1 hE1 hK1 hg1 hl1 hR1 hV1 hrc hrcc hpr hlen hlen2 hcs1 hfA1 hnx1 ⊢
  have hsz1 := hE1.size
  have hrm1 : W1.α.room = W.α.room := hE1.room
  have hac1 := hE1.acts
  have hus1 : W1.α.used = W.α.used := by rw [hW1.ar.num.2.2.2, (hg1.map (·.n)).sum_nat, ← hu4]
  have hpos1 := hR1.pos hl
  have hsum : (rs.map (·.1.count)).sum = (dn.map (·.1.count)).sum + (rem.map (·.1.count)).sum := by rw [hrs, List.map_append, List.sum_append]
  have hfAs : filesA W.δ.size k rs = filesA W.δ.size k dn + filesA W.δ.size k rem := by rw [hrs, filesA_app]
  have hrsl : rs.length = dn.length + rem.length := by rw [hrs, List.length_append]
  have hrsle : rs.length ≤ 1000000 := Nat.le_trans (len_le_sum fun r hr => hpos0 r hr) hcn
  have hnxl : nx.length ≤ 1000000 := by
    have h1 : nx.length * 1 ≤ nx.length * fan := Nat.mul_le_mul_left _ (by omega)
    have h2 : nx.length ≤ (nx.map (·.1.count)).sum := len_le_sum fun r hr => hpos1 r (List.mem_append_left _ hr)
    omega
  by_cases hrem : 0 < rem.length
  · have hne : rem ≠ [] := fun e => by rw [e] at hrem; simp at hrem
    have hpe := hpr hne
    subst hpe
    have hlen2 := hlen2 hne
    by_cases hone : rem.length = 1
    · obtain ⟨r, rfl⟩ : ∃ r, rem = [r] := by
        match rem, hone with
        | [r], _ => exact ⟨r, rfl⟩
      have hg0 := hget dn.length r (by rw [hrs]; simp)
      have hmin : min (fan : Int) (([r].length : Nat) : Int) = 1 := by simp; omega
      have hrl1 : rs.length = dn.length + 1 := by rw [hrsl]; rfl
      repeat (first | apply G.seq | refine G.plain (h := ?_) | apply G.block | apply G.skip | apply G.exit | apply G.ret | apply Dn.next | apply Dn.exitHere | (apply Dn.exitPast; decide) | apply Dn.exitThen | refine G.condPT (ht := ?_) | refine R.enter0 (h := ?_) | refine R.nil (h := ?_) | refine R.move (h := ?_) | refine R.assign (h := ?_) | refine R.nilCheck (h := ?_) | refine R.fieldAddr (h := ?_) | refine R.load1 (h := ?_) | refine R.loadN (h := ?_) | refine R.store1 (h := ?_) | refine R.gtr (h := ?_) | refine R.eql (h := ?_) | refine R.min (h := ?_) | refine R.len (h := ?_) | refine R.indexAddr (h := ?_) | (refine R.buildSlice (h := ?_); intro _) | (refine R.append (h := ?_); intro _ _ _ _))
      rename_i p' cap' c' hV'
      have hV3 : Vec 37 4 p' (nx.length + 1) cap' (fcells ((nx ++ [r]).map (·.1))) c' := by rw [List.map_append, fcells_app]; exact hV'
      have hln : (nx ++ [r]).length = nx.length + 1 := by simp
      rw [← hln] at hV3
      (refine Dn.post (Hr := [[(bz, row [pv bw, .int .i64 o.c0, .int .i64 o.c1, .int .i64 o.c2, .int .i64 o.c3, .int .i64 o.c4, .bool once, .slice p' (nx.length + 1) cap', .int .i64 last1.c0, .int .i64 last1.c1, .int .i64 last1.c2, .int .i64 last1.c3, .int .i64 last1.c4, .bool sm1] 87)], wrow bw bd ba bs, cd1, ca1, cs1, c']) Tryz.results43 (hR := ?_); refine ⟨cd1, ca1, cs1, W1, p', cap', c', last1, sm1, nx ++ [r], by rw [hln], hW1, hE1.weak (by omega) (by omega), hK1, hg1, hV3, hl1, .inl ⟨rfl, hR1, by omega, ?_, ?_, ?_⟩⟩)
      · rw [hln, Nat.succ_mul]; omega
      · rw [hsum, List.map_append, List.sum_append]; omega
      · rw [hfAs, filesA_app]; omega
    · obtain ⟨kk, hkk⟩ : ∃ kk, kk = min fan rem.length := ⟨_, rfl⟩
      have hmin : min (fan : Int) (rem.length : Int) = (kk : Int) := by omega
      obtain ⟨grp, hgrp⟩ : ∃ grp, grp = rem.take kk := ⟨_, rfl⟩
      obtain ⟨rem', hrem'⟩ : ∃ rem', rem' = rem.drop kk := ⟨_, rfl⟩
      have hsp : rem = grp ++ rem' := by rw [hgrp, hrem', List.take_append_drop]
      have hgl : grp.length = kk := by rw [hgrp, List.length_take]; omega
      have hrl' : rem'.length = rem.length - kk := by rw [hrem', List.length_drop]
      have hgget : ∀ (j : Nat) (r : Fl × List T5), grp[j]? = some r → (cells.drop (dn.length * 4 + j * 4)).take 4 = [.int .i64 (r.1.first : Int), .int .i64 (r.1.blocks : Int), .int .i64 (r.1.width : Int), .int .i64 (r.1.count : Int)] := by
        intro j r hj
        rw [← Nat.add_mul]
        refine hget (dn.length + j) r ?_
        have hlt := (List.getElem?_eq_some_iff.1 hj).1
        rw [hrs, hsp, List.getElem?_append_right (by omega), show dn.length + j - dn.length = j by omega, List.getElem?_append_left hlt]; exact hj
      have hingr : ∀ r ∈ grp, r ∈ nx ++ rem := fun r hr => by rw [hsp]; simp [hr]
      have hcg : (rem.map (·.1.count)).sum = (grp.map (·.1.count)).sum + (rem'.map (·.1.count)).sum := by rw [hsp, List.map_append, List.sum_append]
      have hfg : filesA W.δ.size k rem = filesA W.δ.size k grp + filesA W.δ.size k rem' := by rw [hsp, filesA_app]
      have hnsum := nblocks_sum hp grp
      have hkf : (kk + 1) * W.δ.size ≤ (fan + 1) * W.δ.size := Nat.mul_le_mul_right _ (by omega)
      have hMg := merge_ct bz bw bd ba bs W1 cd1 ca1 cs1 hW1 k o once grp ⟨hk1, hk5, by omega, fun r hr => ⟨(hR1.each r (hingr r hr)).1, by rw [hsz1]; exact (hR1.each r (hingr r hr)).2.1, (hR1.each r (hingr r hr)).2.2, hpos1 r (hingr r hr)⟩, fun r hr => hl1.mem_iff.2 (addFs_ext (List.mem_map.2 ⟨r, hingr r hr, rfl⟩) (by
          have h1 := (hR1.each r (hingr r hr)).2.1.blk
          have h2 := (hR1.each r (hingr r hr)).1
          have h3 := hpos1 r (hingr r hr)
          rw [h1, h2]
          unfold nblocks
          have : 1 ≤ (r.1.count + holds W.δ.size k - 1) / holds W.δ.size k := by rw [Nat.le_div_iff_mul_le (by omega)]; omega
          omega)), by rw [hsz1, hrm1, hus1, hgl]; omega, by omega, by omega⟩ vb (dn.length * 4) rc cells hgget (some ⟨vb, dn.length * 4, none⟩) rem.length rc last1 sm1
      unfold sRow sCells at hMg
      rw [hgl, hsz1] at hMg
      repeat (first | apply G.seq | refine G.plain (h := ?_) | apply G.block | apply G.skip | apply Dn.next | refine G.condPT (ht := ?_) | refine G.condPF (ht := ?_) | refine R.enter0 (h := ?_) | refine R.nil (h := ?_) | refine R.move (h := ?_) | refine R.assign (h := ?_) | refine R.nilCheck (h := ?_) | refine R.fieldAddr (h := ?_) | refine R.load1 (h := ?_) | refine R.gtr (h := ?_) | refine R.eql (h := ?_) | refine R.min (h := ?_) | refine R.len (h := ?_) | refine R.sliceH (h := ?_))
      rw [hmin, Int.toNat_natCast]
      refine R.call (hct := hMg) (h := ?_)
      rintro _ _ ⟨cd2, ca2, cs2, W2, last2, sm2, rfl, hW2, hE2, hK2, hg2, ⟨f, out, rfl, hl2, hf2, hfc2, hfc3, hfo2, hsd2, hsp2⟩ | ⟨rfl, hbg2, hl2⟩ | ⟨rfl, hft2, hl2⟩⟩
      try dsimp only [List.cons_append, List.nil_append]
      · have hflv : flv f = .agg #[.int .i64 (f.first : Int), .int .i64 (f.blocks : Int), .int .i64 (f.width : Int), .int .i64 (f.count : Int)] := rfl
        rw [hflv]
        repeat (first | apply G.seq | refine G.plain (h := ?_) | apply G.block | apply G.skip | apply Dn.next | refine G.condPF (ht := ?_) | refine R.enter0 (h := ?_) | refine R.nil (h := ?_) | refine R.move (h := ?_) | refine R.assign (h := ?_) | refine R.nilCheck (h := ?_) | refine R.fieldAddr (h := ?_) | refine R.load1 (h := ?_) | refine R.storeN (h := ?_) | (refine R.alloc (h := ?_); intro _) | refine R.extract (h := ?_) | refine R.neq (h := ?_) | refine R.len (h := ?_) | refine R.sliceH (h := ?_))
        rename_i b6
        obtain ⟨base, hbase⟩ : ∃ base, base = addFs (((nx ++ [(f, out)]) ++ rem').map (·.1)) live0 := ⟨_, rfl⟩
        have hlg : W2.live.Perm (addFs (grp.map (·.1)) base) := by
          refine hl2.trans ((addF_perm hl1).trans ((addFs_cons _ _ _).symm.trans ?_))
          rw [hbase, show ∀ a b l, addFs a (addFs b l) = addFs (b ++ a) l from fun a b l => by simp [addFs]]
          refine addFs_perm ?_ _
          rw [hsp]
          simp only [List.map_append, List.map_cons, List.map_nil, List.append_assoc]
          have h1 : ∀ (f : Fl) (a b c : List Fl), (f :: (a ++ (b ++ c))).Perm (a ++ ([f] ++ (c ++ b))) := fun f a b c => by
            refine (List.perm_middle (l₁ := a) (l₂ := b ++ c)).symm.trans (List.Perm.append_left _ ?_)
            exact List.Perm.cons _ List.perm_append_comm
          exact h1 _ _ _ _
        refine G.loop (X := FreeX) (fun x => x.j ≤ kk ∧ Wc bd ba bs x.W cd2 ca2 x.cs ∧ Ev W2 x.W 0 0 ∧ x.W.δ = W2.δ ∧ x.W.α = W2.α ∧ x.W.live.Perm (addFs ((grp.drop x.j).map (·.1)) base))
          (fun x => [(81, .int .i64 (x.j : Int)), (80, .int .i64 (kk : Int)), (79, .slice (some ⟨vb, dn.length * 4, none⟩) kk rc), (6, pv b6), (5, .int .i64 (kk : Int)), (4, .slice pn nx.length nc), (3, .int .i64 (fan : Int)), (0, pv bz)])
          (fun x => [[(bz, row [pv bw, .int .i64 o.c0, .int .i64 o.c1, .int .i64 o.c2, .int .i64 o.c3, .int .i64 o.c4, .bool once, .slice (some ⟨vb, dn.length * 4, none⟩) rem.length rc, .int .i64 last2.c0, .int .i64 last2.c1, .int .i64 last2.c2, .int .i64 last2.c3, .int .i64 last2.c4, .bool sm2] 87)], wrow bw bd ba bs, cd2, ca2, x.cs, [(vb, row cells 37)], vn, [(b6, row [.int .i64 (f.first : Int), .int .i64 (f.blocks : Int), .int .i64 (f.width : Int), .int .i64 (f.count : Int)] 37)]])
          (fun x => kk - x.j) ⟨0, cs2, W2⟩ ⟨Nat.zero_le _, hW2, Ev.refl _, rfl, rfl, hlg⟩ (body := ?_)
        rintro ⟨j, cs3, W3⟩ ⟨hj, hW3, hE3, hδ3, hα3, hl3⟩
        dsimp only at hj hW3 hE3 hδ3 hα3 hl3 ⊢
        by_cases hjk : j < kk
        · have hjg : grp[j]? = some grp[j] := List.getElem?_eq_getElem (by omega)
          have hgj := hgget j _ hjg
          have hdj : grp.drop j = grp[j] :: grp.drop (j + 1) := List.drop_eq_getElem_cons (by omega)
          rw [hdj] at hl3
          generalize grp[j] = r at *
          have hFr := Free_u bw bd ba bs W3 cd2 ca2 cs3 hW3 r.1 _ (LvOf.add (hl3.trans (addFs_cons _ _ _)))
          have hflr : flv r.1 = .agg #[.int .i64 (r.1.first : Int), .int .i64 (r.1.blocks : Int), .int .i64 (r.1.width : Int), .int .i64 (r.1.count : Int)] := rfl
          rw [hflr] at hFr
          have e3 : IntKind.wrap .i64 ((j : Int) + 1) = ((j + 1 : Nat) : Int) := by rw [wrap_i64 (by omega)]; rfl
          repeat (first | apply G.seq | refine G.plain (h := ?_) | apply G.block | apply G.skip | apply Dn.next | refine G.condPT (ht := ?_) | refine G.draw (id := 14) [] (h := ?_) | refine R.enter0 (h := ?_) | refine R.nil (h := ?_) | refine R.move (h := ?_) | refine R.nilCheck (h := ?_) | refine R.fieldAddr (h := ?_) | refine R.load1 (h := ?_) | refine R.loadN (h := ?_) | refine R.storeN (h := ?_) | (refine R.alloc (h := ?_); intro _) | refine R.lss (h := ?_) | refine R.indexAddr (h := ?_))
          refine R.call (hct := hFr) (h := ?_)
          rintro _ _ ⟨cs4, W4, rfl, rfl, hW4, hE4, hδ4, hα4, hl4⟩
          try dsimp only [List.cons_append, List.nil_append]
          repeat (first | refine G.plain (h := ?_) | apply Dn.next | apply Dn.blockEnd | refine R.enter0 (h := ?_) | refine R.nil (h := ?_) | refine R.move (h := ?_) | refine R.addw (h := ?_))
          exact Dn.round ⟨j + 1, cs4, W4⟩ ⟨hjk, hW4, hE3.trans hE4, hδ4.trans hδ3, hα4.trans hα3, by dsimp only; rw [hl4]⟩ (by dsimp only; omega)
        · obtain rfl : j = kk := by omega
          have hl5 : W3.live.Perm base := by rw [← hgl, List.drop_length] at hl3; exact hl3
          repeat (first | apply G.seq | refine G.plain (h := ?_) | apply G.exit | apply Dn.next | apply Dn.blockEnd | apply Dn.exitHere | apply Dn.exitThen | refine G.condPF (ht := ?_) | refine G.drawOrd (id := 16) [0, 1, 2, 5, 6, 7, 8, 9, 10, 3, 4, 11, 12, 13, 14] [(4, .eff [8])] (h := ?_) | refine R.enter0 (h := ?_) | refine R.nil (h := ?_) | refine R.move (h := ?_) | refine R.assign (h := ?_) | refine R.nilCheck (h := ?_) | refine R.fieldAddr (h := ?_) | refine R.load1 (h := ?_) | refine R.loadN (h := ?_) | refine R.store1 (h := ?_) | refine R.lss (h := ?_) | (refine R.buildSlice (h := ?_); intro _) | (refine R.appendX (h := ?_); intro _ _ _ _) | refine R.sliceLx (h := ?_))
          rename_i p' cap' c' hV'
          have hV3 : Vec 37 4 p' (nx.length + 1) cap' (fcells ((nx ++ [(f, out)]).map (·.1))) c' := by rw [List.map_append, fcells_app]; exact hV'
          have hln : (nx ++ [(f, out)]).length = nx.length + 1 := by simp
          have hR2 := hR1.keep (live0 := live0) (d' := W2.δ.disk) fun x hx => hK2 x ((inF_perm hl1 x).2 hx)
          rw [hsp] at hR2
          have hK12 := hK1.trans (hK2.sub (Lv' := live0) fun e he => hl1.mem_iff.2 (addFs_mem he))
          have hE13 := (hE1.trans hE2).trans hE3
          have hdl : (dn ++ grp).length = dn.length + j := by rw [List.length_append, hgl]
          have hne' : rem' ≠ [] → j < rem.length ∧ j = fan := fun hn => by
            have := List.length_pos_iff.2 hn
            omega
          rw [← hln, ← hrl']
          rw [← hln] at hV3
          refine Dn.round ⟨dn ++ grp, rem', nx ++ [(f, out)], cd2, ca2, cs3, W3, cutA (some ⟨vb, dn.length * 4, none⟩) j rc 4, rc - j, p', cap', c', last2, sm2⟩ ⟨by dsimp only; rw [hrs, hsp, List.append_assoc], hW3, ?_, fun x hx => by dsimp only; rw [hδ3]; exact hK12 x hx, by dsimp only; rw [hα3]; exact hg2.trans hg1, by dsimp only; rw [← hbase]; exact hl5, ?_, hV3, by dsimp only; omega, by dsimp only; omega, ?_, ?_, ?_, ?_, ?_, ?_⟩ (by dsimp only; omega)
          · refine hE13.weak ?_ ?_
            · dsimp only; rw [filesA_app]; omega
            · dsimp only; rw [filesA_app]; omega
          · dsimp only; rw [hδ3]; exact hR2.swap hf2 hfo2 hsd2 hsp2 hfc2
          · intro hn
            obtain ⟨h1, h2⟩ := hne' hn
            dsimp only
            unfold cutA
            rw [if_neg (by omega), Option.map_some, Addr.add_mk, hdl, Nat.add_mul]
          · dsimp only; rw [hln, hdl, Nat.succ_mul]; omega
          · intro hn
            obtain ⟨h1, h2⟩ := hne' hn
            dsimp only; rw [hln, hdl, Nat.succ_mul]; omega
          · dsimp only; rw [List.map_append, List.map_append, List.sum_append, List.sum_append]
            simp only [List.map_cons, List.map_nil, List.sum_cons, List.sum_nil]; omega
          · dsimp only; rw [filesA_app, filesA_app]
            have : filesA W.δ.size k [(f, out)] = nblocks W.δ.size k f.count := by simp [filesA]
            have h3 : nblocks W.δ.size k f.count ≤ nblocks W.δ.size k (grp.map (·.1.count)).sum := nblocks_mono hfc3
            omega
          · intro _; dsimp only; omega
      · have hflv : flv ⟨0, 0, 0, 0⟩ = .agg #[.int .i64 0, .int .i64 0, .int .i64 0, .int .i64 0] := rfl
        rw [hflv]
        have hnews : (cells.drop (dn.length * 4)).take (rem.length * 4) = fcells (rem.map (·.1)) := by
          rw [← hcells, hrs, List.map_append, fcells_app, List.append_assoc]
          have h1 : dn.length * 4 = (fcells (dn.map (·.1))).length := by rw [fcells_length, List.length_map]
          have h2 : rem.length * 4 = (fcells (rem.map (·.1))).length := by rw [fcells_length, List.length_map]
          rw [h1, List.drop_left, h2, List.take_left]
        have hnl : (fcells (rem.map (·.1))).length = rem.length * 4 := by rw [fcells_length, List.length_map]
        have hall : (fcells (rem.map (·.1))).all Value.oneCell' = true := fcells_all _
        repeat (first | apply G.seq | refine G.plain (h := ?_) | apply G.ret | apply Dn.next | apply Dn.retThen | apply Dn.retBlock | refine G.condPT (ht := ?_) | refine R.enter0 (h := ?_) | refine R.nil (h := ?_) | refine R.move (h := ?_) | refine R.assign (h := ?_) | refine R.nilCheck (h := ?_) | refine R.fieldAddr (h := ?_) | refine R.load1 (h := ?_) | refine R.store1 (h := ?_) | refine R.storeN (h := ?_) | (refine R.alloc (h := ?_); intro _) | refine R.extract (h := ?_) | refine R.neq (h := ?_) | (refine R.append (h := ?_); intro _ _ _ _))
        rename_i p' cap' c' hV'
        have hV3 : Vec 37 4 p' (nx.length + rem.length) cap' (fcells ((nx ++ rem).map (·.1))) c' := by rw [List.map_append, fcells_app]; exact hV'
        have hln : (nx ++ rem).length = nx.length + rem.length := by simp
        rw [← hln] at hV3
        (refine Dn.post (Hr := [[(bz, row [pv bw, .int .i64 o.c0, .int .i64 o.c1, .int .i64 o.c2, .int .i64 o.c3, .int .i64 o.c4, .bool once, .slice p' (nx.length + rem.length) cap', .int .i64 last2.c0, .int .i64 last2.c1, .int .i64 last2.c2, .int .i64 last2.c3, .int .i64 last2.c4, .bool sm2] 87)], wrow bw bd ba bs, cd2, ca2, cs2, c']) Tryz.results43 (hR := ?_); refine ⟨cd2, ca2, cs2, W2, p', cap', c', last2, sm2, nx ++ rem, by rw [hln], hW2, (hE1.trans hE2).weak (by omega) (by omega), hK1.trans (hK2.sub fun e he => hl1.mem_iff.2 (addFs_mem he)), hg2.trans hg1, hV3, hl2.trans hl1, .inr (.inl ⟨rfl, by have := hE1.big; omega⟩)⟩)
      · have hflv : flv ⟨0, 0, 0, 0⟩ = .agg #[.int .i64 0, .int .i64 0, .int .i64 0, .int .i64 0] := rfl
        rw [hflv]
        have hnews : (cells.drop (dn.length * 4)).take (rem.length * 4) = fcells (rem.map (·.1)) := by
          rw [← hcells, hrs, List.map_append, fcells_app, List.append_assoc]
          have h1 : dn.length * 4 = (fcells (dn.map (·.1))).length := by rw [fcells_length, List.length_map]
          have h2 : rem.length * 4 = (fcells (rem.map (·.1))).length := by rw [fcells_length, List.length_map]
          rw [h1, List.drop_left, h2, List.take_left]
        have hnl : (fcells (rem.map (·.1))).length = rem.length * 4 := by rw [fcells_length, List.length_map]
        have hall : (fcells (rem.map (·.1))).all Value.oneCell' = true := fcells_all _
        repeat (first | apply G.seq | refine G.plain (h := ?_) | apply G.ret | apply Dn.next | apply Dn.retThen | apply Dn.retBlock | refine G.condPT (ht := ?_) | refine R.enter0 (h := ?_) | refine R.nil (h := ?_) | refine R.move (h := ?_) | refine R.assign (h := ?_) | refine R.nilCheck (h := ?_) | refine R.fieldAddr (h := ?_) | refine R.load1 (h := ?_) | refine R.store1 (h := ?_) | refine R.storeN (h := ?_) | (refine R.alloc (h := ?_); intro _) | refine R.extract (h := ?_) | refine R.neq (h := ?_) | (refine R.append (h := ?_); intro _ _ _ _))
        rename_i p' cap' c' hV'
        have hV3 : Vec 37 4 p' (nx.length + rem.length) cap' (fcells ((nx ++ rem).map (·.1))) c' := by rw [List.map_append, fcells_app]; exact hV'
        have hln : (nx ++ rem).length = nx.length + rem.length := by simp
        rw [← hln] at hV3
        (refine Dn.post (Hr := [[(bz, row [pv bw, .int .i64 o.c0, .int .i64 o.c1, .int .i64 o.c2, .int .i64 o.c3, .int .i64 o.c4, .bool once, .slice p' (nx.length + rem.length) cap', .int .i64 last2.c0, .int .i64 last2.c1, .int .i64 last2.c2, .int .i64 last2.c3, .int .i64 last2.c4, .bool sm2] 87)], wrow bw bd ba bs, cd2, ca2, cs2, c']) Tryz.results43 (hR := ?_); refine ⟨cd2, ca2, cs2, W2, p', cap', c', last2, sm2, nx ++ rem, by rw [hln], hW2, (hE1.trans hE2).weak (by omega) (by omega), hK1.trans (hK2.sub fun e he => hl1.mem_iff.2 (addFs_mem he)), hg2.trans hg1, hV3, hl2.trans hl1, .inr (.inr ⟨rfl, fun e => hft2 (hE1.fault e)⟩)⟩)
  · obtain rfl : rem = [] := by
      cases rem with
      | nil => rfl
      | cons a b => simp at hrem
    rw [List.append_nil] at hR1 hl1 hrs
    repeat (first | apply G.seq | refine G.plain (h := ?_) | apply G.exit | apply G.ret | apply Dn.next | apply Dn.exitHere | apply Dn.exitThen | refine G.condPF (ht := ?_) | refine R.enter0 (h := ?_) | refine R.nil (h := ?_) | refine R.move (h := ?_) | refine R.assign (h := ?_) | refine R.nilCheck (h := ?_) | refine R.fieldAddr (h := ?_) | refine R.load1 (h := ?_) | refine R.store1 (h := ?_) | refine R.gtr (h := ?_) | refine R.len (h := ?_))
    (refine Dn.post (Hr := [[(bz, row [pv bw, .int .i64 o.c0, .int .i64 o.c1, .int .i64 o.c2, .int .i64 o.c3, .int .i64 o.c4, .bool once, .slice pn nx.length nc, .int .i64 last1.c0, .int .i64 last1.c1, .int .i64 last1.c2, .int .i64 last1.c3, .int .i64 last1.c4, .bool sm1] 87)], wrow bw bd ba bs, cd1, ca1, cs1, vn]) Tryz.results43 (hR := ?_); refine ⟨cd1, ca1, cs1, W1, pn, nc, vn, last1, sm1, nx, rfl, hW1, hE1.weak (by omega) (by omega), hK1, hg1, hV1, hl1, .inl ⟨rfl, hR1, hnx1 (fun e => by rw [e] at hrs; rw [hrs] at h2; simp at h2), by omega, by omega, by omega⟩⟩)
end Go.Proofs.YtdkihpjnidhnmaaGreat
namespace Go.Proofs.YtdkihpjnidhnmaaGreat
open Go.SL Go.Spc Go.Tup Go.Srt
/-- how many passes at most -/
def lgq (n : Nat) : Nat := if h : n ≤ 1 then 0 else 1 + lgq ((n + 3) / 4)
termination_by n
decreasing_by omega
theorem lgq_one {n : Nat} (h : n ≤ 1) : lgq n = 0 := by unfold lgq; rw [dif_pos h]
theorem lgq_step {n : Nat} (h : ¬ n ≤ 1) : lgq n = 1 + lgq ((n + 3) / 4) := by rw [lgq, dif_neg h]
theorem lgq_mono : ∀ {b a : Nat}, a ≤ b → lgq a ≤ lgq b := by
  intro b
  induction b using Nat.strongRecOn with
  | ind b ih =>
    intro a hab
    by_cases ha : a ≤ 1
    · rw [lgq_one ha]; exact Nat.zero_le _
    · rw [lgq_step ha, lgq_step (show ¬ b ≤ 1 by omega)]
      have := ih ((b + 3) / 4) (by omega) (a := (a + 3) / 4) (by omega)
      omega
theorem lgq_next {n m fan : Nat} (hf : 4 ≤ fan) (hn : ¬ n ≤ 1) (h : m * fan ≤ n + (fan - 1)) : lgq m + 1 ≤ lgq n ∧ m < n := by
  have h1 : m ≤ (n + 3) / 4 := by
    rw [Nat.le_div_iff_mul_le (by omega)]
    by_cases hm : m = 0
    · subst hm; omega
    · obtain ⟨j, rfl⟩ : ∃ j, m = j + 1 := ⟨m - 1, by omega⟩
      obtain ⟨i, rfl⟩ : ∃ i, fan = 4 + i := ⟨fan - 4, by omega⟩
      have : (j + 1) * (4 + i) = j * 4 + j * i + (4 + i) := by rw [Nat.succ_mul, Nat.mul_add]
      have h0 : 0 ≤ j * i := Nat.zero_le _
      omega
  have h2 := lgq_mono h1
  rw [lgq_step hn]
  omega
theorem lgq_pow : ∀ (k n : Nat), n ≤ 4 ^ k → lgq n ≤ k
  | 0, n, h => by rw [lgq_one (by simpa using h)]; omega
  | k + 1, n, h => by
    by_cases h1 : n ≤ 1
    · rw [lgq_one h1]; omega
    · rw [lgq_step h1]
      have := lgq_pow k ((n + 3) / 4) (by rw [Nat.pow_succ] at h; omega)
      omega
theorem filesA_blocks {d : Nat → Option (List Int)} {size k : Nat} {o : T5} {once : Bool} {l : List T5} {rs : List (Fl × List T5)} (h : RunsOk d size k o once l rs) : filesA size k rs = (rs.map (·.1.blocks)).sum := by
  unfold filesA
  refine congrArg List.sum (List.map_congr_left fun r hr => ?_)
  obtain ⟨h1, h2, _⟩ := h.each r hr
  rw [h2.blk, h1]
structure SortX where
  e : Nat
  P : Nat
  rs : List (Fl × List T5)
  cd : Chunk
  ca : Chunk
  cs : Chunk
  vc : Chunk
  W : Wk
  p : Option Addr
  cap : Nat
  last : T5
  sm : Bool
theorem fault_keep {W W' : Wk} {k m : Nat} (h : Ev W W' k m) (hf : W'.δ.fault ≠ -1) : W.δ.fault ≠ -1 := fun e => hf (h.fault e)
set_option maxHeartbeats 4000000 in
theorem Sort_ct (bw bd ba bs : Nat) (W : Wk) (cd ca cs : Chunk) (h : Wc bd ba bs W cd ca cs) (f : Fl) (fts : List T5) (live0 : List Ext) (hfo : FileOk W.δ.disk W.δ.size [f.ext] f fts) (hlv : W.live.Perm (addF f live0)) (o : T5) (ho : formed o = true) (once : Bool)
    (hr : 5 * W.δ.size ≤ W.α.room - W.α.used) (hac : W.δ.acts ≤ 1000000000) (hcn : f.count ≤ 100000) (c : Nat) (hc : c = (W.α.room - W.α.used - 2 * W.δ.size) / f.width) :
    Ct Tryz.prog 18 [pv bw, flv f, tv o, .bool once] [wrow bw bd ba bs, cd, ca, cs] fun v H' =>
      ∃ cd' ca' cs' W' q S P, H' = [wrow bw bd ba bs, cd', ca', cs'] ∧ Wc bd ba bs W' cd' ca' cs' ∧ Ev W W' (nblocks W.δ.size f.width f.count + S + 2 * S * P) (S + S * P) ∧ W'.α.gs.Perm W.α.gs ∧
        S * holds W.δ.size f.width ≤ f.count + q * (holds W.δ.size f.width - 1) ∧ (q - 1) * c ≤ f.count ∧ (0 < f.count → (q - 1) * c < f.count) ∧ P ≤ lgq q ∧ Keep live0 W W' ∧
        ((∃ g out, v = .tuple #[flv g, .int .i64 0] ∧ W'.live.Perm (addF g live0) ∧ g.width = f.width ∧ g.count ≤ f.count ∧ FileOk W'.δ.disk W.δ.size [g.ext] g out ∧ Sd (ltO o) once out ∧ Go.Srt.Sp (ltO o) once fts out) ∨
         (v = .tuple #[flv ⟨0, 0, 0, 0⟩, .int .i64 5] ∧ big W.σ.free < S + S * P ∧ W'.live.Perm W.live ∧ Keep W.live W W') ∨
         (v = .tuple #[flv ⟨0, 0, 0, 0⟩, .int .i64 6] ∧ W.δ.fault ≠ -1 ∧ W'.live.Perm W.live ∧ Keep W.live W W')) := by
  obtain ⟨⟨hs1, hs2⟩, hbk, hfr⟩ := h.dev.num
  obtain ⟨hu1, hu2, _, hu4⟩ := h.ar.num
  have hk1 := hfo.w1
  have hk5 := hfo.w2
  have hp := holds_pos hs1 hk1 hk5
  have htl := hfo.len
  have hF := Formed_ct o.c0 o.c1 o.c2 o.c3 o.c4
  rw [show (⟨o.c0, o.c1, o.c2, o.c3, o.c4⟩ : T5) = o from rfl, ho] at hF
  have hD := WDevice_ct bw bd ba bs
  have hA := WArena_ct bw bd ba bs
  have hRd := Read_u bw bd ba bs W cd ca cs h f fts [f.ext] hfo (by omega)
  have hflv : flv f = .agg #[.int .i64 (f.first : Int), .int .i64 (f.blocks : Int), .int .i64 (f.width : Int), .int .i64 (f.count : Int)] := rfl
  have hov : tv o = .agg #[.int .i64 o.c0, .int .i64 o.c1, .int .i64 o.c2, .int .i64 o.c3, .int .i64 o.c4] := rfl
  rw [hflv] at hRd ⊢
  rw [hov]
  refine Ct.intro Tryz.func18 rfl Tryz.ntmps18 (nle rfl) fun w0 => ?_; dsimp only [argSlots, Nat.reduceAdd]
  repeat (first | apply G.seq | refine G.plain (h := ?_) | apply G.skip | refine G.condF (h := ?_) | apply Dn.next | refine R.enter0 (h := ?_) | refine R.nil (h := ?_) | refine R.enterT (h := ?_) | refine R.move (h := ?_) | refine R.assign (h := ?_) | refine R.loadN (h := ?_) | (refine R.alloc (h := ?_); intro _) | (refine R.box (h := ?_); intro _) | refine R.pickF (h := ?_) | refine R.not (h := ?_) | refine R.eqlNil (h := ?_) | refine R.callP (hct := by apply hF <;> (first | omega | assumption)) (h := ?_))
  refine R.call (hct := hRd) (h := ?_)
  rintro _ _ ⟨bx, g, ca1, α1, cx, cb, rfl, rfl, hW1, hE1, hg1, hgn, hr1⟩
  try dsimp only [List.cons_append, List.nil_append]
  have hRc := RClose_u bw bd ba bs { W with α := α1 } cd ca1 cs hW1 bx f fts g W.α.gs hg1 0 cx cb hr1
  repeat (first | apply G.seq | refine G.plain (h := ?_) | apply G.skip | apply Dn.next | refine G.condPF (ht := ?_) | refine R.enter0 (h := ?_) | refine R.nil (h := ?_) | refine R.move (h := ?_) | refine R.assign (h := ?_) | refine R.extract (h := ?_) | refine R.eql (h := ?_))
  refine R.call (hct := hRc) (h := ?_)
  rintro _ _ ⟨ca2, α2, cx2, rfl, rfl, hW2, hE2, hg2, hx2⟩
  try dsimp only [List.cons_append, List.nil_append]
  have hrm2 : α2.room = W.α.room := by have h1 : α1.room = W.α.room := hE1.room; have h2 : α2.room = α1.room := hE2.room; omega
  have hus2 : α2.used = W.α.used := by
    have h1 := hW2.ar.num.2.2.2
    dsimp only at h1
    rw [h1, (hg2.map (·.n)).sum_nat, ← hu4]
  have hL := aLeft ba α2 ca2 hW2.ar
  rw [show (α2.room : Int) - (α2.used : Int) = ((W.α.room - W.α.used : Nat) : Int) by omega] at hL
  have hSz := Size_ct bd W.δ cd h.dev
  have e5 : IntKind.wrap .i64 (5 * (W.δ.size : Int)) = ((5 * W.δ.size : Nat) : Int) := by rw [wrap_i64 (by omega)]; omega
  obtain ⟨Lv, hfoL, hsubL⟩ : ∃ Lv, FileOk W.δ.disk W.δ.size Lv f fts ∧ ∀ e ∈ Lv, e ∈ W.live := by
    by_cases hb : f.blocks = 0
    · exact ⟨[], { hfo with live := fun e => absurd hb e }, by simp⟩
    · refine ⟨[f.ext], hfo, fun e he => ?_⟩
      simp only [List.mem_singleton] at he; subst he
      unfold addF at hlv; rw [if_neg hb] at hlv
      exact hlv.mem_iff.2 List.mem_cons_self
  repeat (first | apply G.seq | refine G.plain (h := ?_) | apply G.skip | apply Dn.next | refine G.condPF (ht := ?_) | refine R.enter0 (h := ?_) | refine R.nil (h := ?_) | refine R.move (h := ?_) | refine R.assign (h := ?_) | refine R.loadN (h := ?_) | (refine R.box (h := ?_); intro _) | refine R.lss (h := ?_) | refine R.mulw (h := ?_) | refine R.build (h := ?_) | refine R.callP (hct := by apply hD <;> (first | omega | assumption)) (h := ?_) | refine R.callP (hct := by apply hA <;> (first | omega | assumption)) (h := ?_) | refine R.callP (hct := by apply hL <;> (first | omega | assumption)) (h := ?_) | refine R.callP (hct := by apply hSz <;> (first | omega | assumption)) (h := ?_))
  rename_i b5 b6 b8 bz
  have hFm := form_ct bz bw bd ba bs { W with α := α2 } cd ca2 cs hW2 f fts Lv hfoL hsubL o once ⟨0, 0, 0, 0, 0⟩ false (by dsimp only; omega) (by dsimp only; omega) (by omega) (W.α.room - W.α.used) c (by dsimp only; omega) hc
  rw [hflv] at hFm
  unfold sRow sCells at hFm
  dsimp only at hFm
  have hE02 := hE1.trans hE2
  refine R.call (hct := hFm) (h := ?_)
  rintro _ _ ⟨cd3, ca3, cs3, W3, vc3, p3, cap3, last3, sm3, rs3, q, S, l3, rfl, hW3, hE3, hK3, hg3, hV3, hl3, hR3, hS, hq1, hq2, hq3, hcase⟩
  try dsimp only [List.cons_append, List.nil_append]
  obtain ⟨e3, rfl, hcase3⟩ : ∃ e3 : Nat, _ = Value.int .i64 (e3 : Int) ∧ ((e3 = 0 ∧ l3 = fts ∧ rs3 ≠ [] ∧ rs3.length = q ∧ ((rs3.map (·.1.count)).sum ≤ f.count) ∧ ((rs3.map (·.1.blocks)).sum ≤ S)) ∨ (e3 = 5 ∧ big W.σ.free < S) ∨ (e3 = 6 ∧ W.δ.fault ≠ -1)) := by
    rcases hcase with ⟨e, h⟩ | ⟨e, h⟩ | ⟨e, h⟩
    · exact ⟨0, e, .inl ⟨rfl, h⟩⟩
    · exact ⟨5, e, .inr (.inl ⟨rfl, h⟩)⟩
    · exact ⟨6, e, .inr (.inr ⟨rfl, h⟩)⟩
  have hKW3 : Keep W.live W W3 := hK3
  have hEW3 := hE02.trans hE3
  repeat (first | apply G.seq | apply G.block | apply Dn.next | refine R.enter0 (h := ?_) | refine R.nil (h := ?_) | refine R.assign (h := ?_))
  refine G.loop (X := SortX) (fun x => Wc bd ba bs x.W x.cd x.ca x.cs ∧ Ev W x.W (nblocks W.δ.size f.width f.count + S + 2 * S * x.P) (S + S * x.P) ∧ Keep W.live W x.W ∧ x.W.α.gs.Perm W.α.gs ∧ x.W.live.Perm (addFs (x.rs.map (·.1)) W.live) ∧ Vec 37 4 x.p x.rs.length x.cap (fcells (x.rs.map (·.1))) x.vc ∧ x.P ≤ lgq q ∧
      ((x.e = 0 ∧ RunsOk x.W.δ.disk W.δ.size f.width o once fts x.rs ∧ 0 < x.rs.length ∧ (x.rs.map (·.1.count)).sum ≤ f.count ∧ filesA W.δ.size f.width x.rs ≤ S ∧ x.P + lgq x.rs.length ≤ lgq q) ∨ (x.e = 5 ∧ big W.σ.free < S + S * x.P) ∨ (x.e = 6 ∧ W.δ.fault ≠ -1)))
    (fun x => [(11, .int .i64 (x.e : Int)), (12, pv bz), (8, pv b8), (5, pv b5), (0, pv bw)])
    (fun x => [[(bz, row [pv bw, .int .i64 o.c0, .int .i64 o.c1, .int .i64 o.c2, .int .i64 o.c3, .int .i64 o.c4, .bool once, .slice x.p x.rs.length x.cap, .int .i64 x.last.c0, .int .i64 x.last.c1, .int .i64 x.last.c2, .int .i64 x.last.c3, .int .i64 x.last.c4, .bool x.sm] 87)], wrow bw bd ba bs, x.cd, x.ca, x.cs, x.vc, [(b8, row [.int .i64 0, .int .i64 0, .int .i64 0, .int .i64 0] 37)], [(b5, row [.int .i64 (f.first : Int), .int .i64 (f.blocks : Int), .int .i64 (f.width : Int), .int .i64 (f.count : Int)] 37)]])
    (fun x => if x.e = 0 then x.rs.length + 1 else 0) ⟨e3, 0, rs3, cd3, ca3, cs3, vc3, W3, p3, cap3, last3, sm3⟩
    ⟨hW3, hEW3.weak (by dsimp only; omega) (by dsimp only; omega), hKW3, hg3.trans hg2, hl3, hV3, Nat.zero_le _, ?_⟩ (body := ?_)
  · rcases hcase3 with ⟨e, rfl, h1, h2, h3, h4⟩ | ⟨e, h1⟩ | ⟨e, h1⟩
    · exact .inl ⟨e, hR3, List.length_pos_iff.2 h1, h3, by rw [filesA_blocks hR3]; exact h4, by dsimp only; rw [h2]; omega⟩
    · exact .inr (.inl ⟨e, by dsimp only; omega⟩)
    · exact .inr (.inr ⟨e, h1⟩)
  rintro ⟨e4, P4, rs4, cd4, ca4, cs4, vc4, W4, p4, cap4, last4, sm4⟩ ⟨hW4, hE4, hK4, hg4, hl4, hV4, hP4, hc4⟩
  dsimp only at hW4 hE4 hK4 hg4 hl4 hV4 hP4 hc4 ⊢
  have hP9 : P4 ≤ 9 := Nat.le_trans hP4 (lgq_pow 9 q (by omega))
  have hSle := S_le hp hS
  have hSP : 2 * S * P4 ≤ 2 * S * 9 := Nat.mul_le_mul_left _ hP9
  have hnf := nblocks_le (n := f.count) hp
  have hsz4 := hE4.size
  have hrm4 : W4.α.room = W.α.room := hE4.room
  have hac4 := hE4.acts
  have hus4 : W4.α.used = W.α.used := by rw [hW4.ar.num.2.2.2, (hg4.map (·.n)).sum_nat, ← hu4]
  rcases hc4 with ⟨rfl, hR4, hrp4, hcs4, hfA4, hPl4⟩ | hc4
  · by_cases h1 : rs4.length = 1
    · obtain ⟨r, rfl⟩ : ∃ r, rs4 = [r] := by
        match rs4, h1 with
        | [r], _ => exact ⟨r, rfl⟩
      obtain ⟨_, h0 | ⟨vb, rest, rfl, rfl, hvl, hmc, hcm⟩⟩ := hV4
      · simp at h0
      have hg0 := fc_get (rs := [r]) (rest := rest) (j := 0) (r := r) rfl
      generalize hcells : fcells ([r].map (·.1)) ++ rest = cells at *
      obtain ⟨hr1, hr2, hr3⟩ := hR4.each r (by simp)
      have hsp := hR4.sp
      rw [List.flatMap_cons, List.flatMap_nil, List.append_nil] at hsp
      have hlf : W4.live.Perm (addF f (addF r.1 live0)) := hl4.trans ((addF_perm hlv).trans (addF_swap _ _ _))
      have hFr := Free_u bw bd ba bs W4 cd4 ca4 cs4 hW4 f _ (LvOf.add hlf)
      rw [hflv] at hFr
      repeat (first | apply G.seq | refine G.plain (h := ?_) | apply G.skip | apply G.exit | apply Dn.next | apply Dn.exitHere | apply Dn.exitThen | refine G.condPF (ht := ?_) | refine R.enter0 (h := ?_) | refine R.nil (h := ?_) | refine R.enterT (h := ?_) | refine R.splitT (ht := ?_) | refine R.move (h := ?_) | refine R.nilCheck (h := ?_) | refine R.fieldAddr (h := ?_) | refine R.load1 (h := ?_) | refine R.loadN (h := ?_) | refine R.pickT (h := ?_) | refine R.gtr (h := ?_) | refine R.eql (h := ?_) | refine R.neq (h := ?_) | refine R.len (h := ?_))
      refine R.call (hct := hFr) (h := ?_)
      rintro _ _ ⟨cs5, W5, rfl, rfl, hW5, hE5, hδ5, hα5, hl5⟩
      try dsimp only [List.cons_append, List.nil_append]
      repeat (first | apply G.seq | refine G.plain (h := ?_) | apply G.ret | apply Dn.next | refine R.enter0 (h := ?_) | refine R.nil (h := ?_) | refine R.move (h := ?_) | refine R.assign (h := ?_) | refine R.nilCheck (h := ?_) | refine R.fieldAddr (h := ?_) | refine R.load1 (h := ?_) | refine R.loadN (h := ?_) | refine R.storeN (h := ?_) | refine R.indexAddr (h := ?_))
      (refine Dn.post (Hr := [wrow bw bd ba bs, cd4, ca4, cs5]) Tryz.results18 (hR := ?_); refine ⟨cd4, ca4, cs5, W5, q, S, P4, rfl, hW5, (hE4.trans hE5).weak (by omega) (by omega), by rw [hα5]; exact hg4, hS, hq1, hq2, by omega, fun x hx => ?_, .inl ⟨r.1, r.2, rfl, by rw [hl5], hr1, by simpa using hcs4, ?_, hr3, hsp⟩⟩)
      · rw [hδ5]
        exact hK4 x (by
          obtain ⟨e, he, h2⟩ := hx
          exact ⟨e, hlv.mem_iff.2 (addF_mem he), h2⟩)
      · rw [hδ5]; exact hr2
    · have hcnt0 : fts ≠ [] := by
        intro e0
        have h2 : ¬ q ≤ 1 := fun hq => by
          have h3 := lgq_step (n := rs4.length) (by omega)
          rw [lgq_one hq] at hPl4; omega
        have hc1 : 1 ≤ c := by rw [hc, Nat.le_div_iff_mul_le (by omega)]; omega
        have h4 : (q - 1) * 1 ≤ (q - 1) * c := Nat.mul_le_mul_left _ hc1
        have h5 := congrArg List.length e0
        rw [htl, List.length_nil] at h5
        omega
      obtain ⟨fan, hfan⟩ : ∃ fan, fan + 1 = (W.α.room - W.α.used) / W.δ.size := ⟨(W.α.room - W.α.used) / W.δ.size - 1, by
        have : 5 ≤ (W.α.room - W.α.used) / W.δ.size := by rw [Nat.le_div_iff_mul_le (by omega)]; omega
        omega⟩
      have hf4 : 4 ≤ fan := by
        have : 5 ≤ (W.α.room - W.α.used) / W.δ.size := by rw [Nat.le_div_iff_mul_le (by omega)]; omega
        omega
      have hPs := pass_ct bz bw bd ba bs W4 cd4 ca4 cs4 hW4 f.width hk1 hk5 o once fts hcnt0 rs4 (by rw [hsz4]; exact hR4) W.live hl4 p4 cap4 vc4 hV4 (by omega) (by rw [hsz4, hrm4, hus4]; exact hr) (by omega) (by omega) last4 sm4 fan (by rw [hsz4, hrm4, hus4]; exact hfan)
      unfold sRow sCells at hPs
      rw [hsz4] at hPs
      repeat (first | apply G.seq | refine G.plain (h := ?_) | apply G.block | apply G.skip | apply Dn.next | refine G.condPT (ht := ?_) | refine R.enter0 (h := ?_) | refine R.nil (h := ?_) | refine R.enterT (h := ?_) | refine R.splitT (ht := ?_) | refine R.move (h := ?_) | refine R.nilCheck (h := ?_) | refine R.fieldAddr (h := ?_) | refine R.load1 (h := ?_) | refine R.pickT (h := ?_) | refine R.gtr (h := ?_) | refine R.eql (h := ?_) | refine R.len (h := ?_))
      refine R.call (hct := hPs) (h := ?_)
      rintro _ _ ⟨cd5, ca5, cs5, W5, p5, cap5, vc5, last5, sm5, rs5, rfl, hW5, hE5, hK5, hg5, hV5, hl5, hcase5⟩
      try dsimp only [List.cons_append, List.nil_append]
      have hl2S : 2 * S * (P4 + 1) = 2 * S * P4 + 2 * S := Nat.mul_succ _ _
      have hlS : S * (P4 + 1) = S * P4 + S := Nat.mul_succ _ _
      have hPq : P4 + 1 ≤ lgq q := by
        have h3 := lgq_step (n := rs4.length) (by omega)
        omega
      have hE45 : Ev W W5 (nblocks W.δ.size f.width f.count + S + 2 * S * (P4 + 1)) (S + S * (P4 + 1)) := (hE4.trans hE5).weak (by omega) (by omega)
      obtain ⟨e5', rfl, hcase6⟩ : ∃ e5 : Nat, _ = Value.int .i64 (e5 : Int) ∧ ((e5 = 0 ∧ RunsOk W5.δ.disk W.δ.size f.width o once fts rs5 ∧ 0 < rs5.length ∧ (rs5.map (·.1.count)).sum ≤ f.count ∧ filesA W.δ.size f.width rs5 ≤ S ∧ P4 + 1 + lgq rs5.length ≤ lgq q ∧ rs5.length < rs4.length) ∨ (e5 = 5 ∧ big W.σ.free < S + S * (P4 + 1)) ∨ (e5 = 6 ∧ W.δ.fault ≠ -1)) := by
        rcases hcase5 with ⟨e, h1, h2, h3, h4, h5⟩ | ⟨e, h2⟩ | ⟨e, h2⟩
        · have := lgq_next hf4 (by omega) h3
          exact ⟨0, e, .inl ⟨rfl, h1, h2, by omega, by omega, by omega, this.2⟩⟩
        · exact ⟨5, e, .inr (.inl ⟨rfl, by have := hE4.big; omega⟩)⟩
        · exact ⟨6, e, .inr (.inr ⟨rfl, fault_keep hE4 h2⟩)⟩
      repeat (first | apply Dn.blockEnd | refine R.enter0 (h := ?_) | refine R.nil (h := ?_) | refine R.assign (h := ?_))
      refine Dn.round ⟨e5', P4 + 1, rs5, cd5, ca5, cs5, vc5, W5, p5, cap5, last5, sm5⟩ ⟨hW5, hE45, hK4.trans hK5, hg5.trans hg4, hl5, hV5, hPq, ?_⟩ ?_
      · rcases hcase6 with ⟨e, h1, h2, h3, h4, h5, _⟩ | h2 | h2
        · exact .inl ⟨e, h1, h2, h3, h4, h5⟩
        · exact .inr (.inl h2)
        · exact .inr (.inr h2)
      · rcases hcase6 with ⟨e, _, _, _, _, _, h6⟩ | ⟨e, _⟩ | ⟨e, _⟩ <;> (dsimp only; subst e; simp; try omega)
  · have he4 : e4 ≠ 0 ∧ (e4 : Int) ≠ 0 := by rcases hc4 with ⟨rfl, _⟩ | ⟨rfl, _⟩ <;> decide
    obtain ⟨he4, he4i⟩ := he4
    have hll4 : rs4.length ≤ 9223372036854775807 := by
      obtain ⟨h1, h0 | ⟨vb, rest, _, _, _, hmc, hcm⟩⟩ := hV4
      · omega
      · simp only [maxLen] at hcm; omega
    repeat (first | apply G.seq | refine G.plain (h := ?_) | apply G.block | apply G.exit | refine G.condF (h := ?_) | apply Dn.next | apply Dn.exitHere | apply Dn.exitThen | refine G.condPT (ht := ?_) | refine R.enter0 (h := ?_) | refine R.nil (h := ?_) | refine R.skip (h := ?_) | refine R.splitF (ht := ?_) | refine R.move (h := ?_) | refine R.nilCheck (h := ?_) | refine R.fieldAddr (h := ?_) | refine R.load1 (h := ?_) | refine R.pickF (h := ?_) | refine R.eql (h := ?_) | refine R.neq (h := ?_) | refine R.len (h := ?_))
    refine G.loop (X := FreeX) (fun x => x.j ≤ rs4.length ∧ Wc bd ba bs x.W cd4 ca4 x.cs ∧ Ev W4 x.W 0 0 ∧ x.W.δ = W4.δ ∧ x.W.α = W4.α ∧ x.W.live.Perm (addFs ((rs4.drop x.j).map (·.1)) W.live))
      (fun x => [(71, .int .i64 (x.j : Int)), (70, .int .i64 (rs4.length : Int)), (69, .slice p4 rs4.length cap4), (11, .int .i64 (e4 : Int)), (8, pv b8), (0, pv bw)])
      (fun x => [wrow bw bd ba bs, cd4, ca4, x.cs, vc4, [(b8, row [.int .i64 0, .int .i64 0, .int .i64 0, .int .i64 0] 37)]])
      (fun x => rs4.length - x.j) ⟨0, cs4, W4⟩ ⟨Nat.zero_le _, hW4, Ev.refl _, rfl, rfl, hl4⟩ (body := ?_)
    rintro ⟨j, cs5, W5⟩ ⟨hj, hW5, hE5, hδ5, hα5, hl5⟩
    dsimp only at hj hW5 hE5 hδ5 hα5 hl5 ⊢
    by_cases hjk : j < rs4.length
    · have hjg : rs4[j]? = some rs4[j] := List.getElem?_eq_getElem hjk
      have hdj : rs4.drop j = rs4[j] :: rs4.drop (j + 1) := List.drop_eq_getElem_cons hjk
      obtain ⟨_, h0 | ⟨vb, rest, rfl, rfl, hvl, hmc, hcm⟩⟩ := hV4
      · omega
      have hgj := fc_get (rest := rest) hjg
      generalize hcells : fcells (rs4.map (·.1)) ++ rest = cells at *
      rw [hdj] at hl5
      generalize rs4[j] = r at *
      have hFr := Free_u bw bd ba bs W5 cd4 ca4 cs5 hW5 r.1 _ (LvOf.add (hl5.trans (addFs_cons _ _ _)))
      have hflr : flv r.1 = .agg #[.int .i64 (r.1.first : Int), .int .i64 (r.1.blocks : Int), .int .i64 (r.1.width : Int), .int .i64 (r.1.count : Int)] := rfl
      rw [hflr] at hFr
      have e3 : IntKind.wrap .i64 ((j : Int) + 1) = ((j + 1 : Nat) : Int) := by rw [wrap_i64 (by omega)]; rfl
      repeat (first | apply G.seq | refine G.plain (h := ?_) | apply G.block | apply G.skip | apply Dn.next | refine G.condPT (ht := ?_) | refine R.enter0 (h := ?_) | refine R.nil (h := ?_) | refine R.move (h := ?_) | refine R.loadN (h := ?_) | refine R.storeN (h := ?_) | (refine R.alloc (h := ?_); intro _) | refine R.lss (h := ?_) | refine R.indexAddr (h := ?_))
      refine R.call (hct := hFr) (h := ?_)
      rintro _ _ ⟨cs6, W6, rfl, rfl, hW6, hE6, hδ6, hα6, hl6⟩
      try dsimp only [List.cons_append, List.nil_append]
      repeat (first | refine G.plain (h := ?_) | apply Dn.next | apply Dn.blockEnd | refine R.enter0 (h := ?_) | refine R.nil (h := ?_) | refine R.move (h := ?_) | refine R.addw (h := ?_))
      exact Dn.round ⟨j + 1, cs6, W6⟩ ⟨hjk, hW6, hE5.trans hE6, hδ6.trans hδ5, hα6.trans hα5, by dsimp only; rw [hl6]⟩ (by dsimp only; omega)
    · obtain rfl : j = rs4.length := by omega
      have hl6 : W5.live.Perm W.live := by rw [List.drop_length] at hl5; exact hl5
      have hKx : Keep W.live W W5 := fun x hx => by rw [hδ5]; exact hK4 x hx
      have hKy : Keep live0 W W5 := hKx.sub fun e he => hlv.mem_iff.2 (addF_mem he)
      repeat (first | apply G.seq | refine G.plain (h := ?_) | apply G.exit | apply G.ret | apply Dn.next | apply Dn.exitHere | apply Dn.exitThen | apply Dn.retThen | refine G.condPF (ht := ?_) | refine R.enter0 (h := ?_) | refine R.nil (h := ?_) | refine R.move (h := ?_) | refine R.assign (h := ?_) | refine R.storeN (h := ?_) | refine R.lss (h := ?_) | refine R.build (h := ?_))
      (refine Dn.post (Hr := [wrow bw bd ba bs, cd4, ca4, cs5]) Tryz.results18 (hR := ?_); refine ⟨cd4, ca4, cs5, W5, q, S, P4, rfl, hW5, (hE4.trans hE5).weak (by omega) (by omega), by rw [hα5]; exact hg4, hS, hq1, hq2, hP4, hKy, ?_⟩)
      rcases hc4 with ⟨rfl, h1⟩ | ⟨rfl, h1⟩
      · exact .inr (.inl ⟨rfl, h1, hl6, hKx⟩)
      · exact .inr (.inr ⟨rfl, h1, hl6, hKx⟩)
end Go.Proofs.YtdkihpjnidhnmaaGreat
namespace Go.Proofs.YtdkihpjnidhnmaaGreat
open Go.SL Go.Spc Go.Tup Go.Srt
def dv0 (s n : Nat) : Dv := ⟨s, n, fun _ => none, -1, 0⟩
def wk0 (s n room : Nat) : Wk := ⟨dv0 s n, ⟨room, 0, 0, []⟩, ⟨n, [(0, n)]⟩, []⟩
theorem DevNew_u (s n : Nat) (hs : 8 ≤ s ∧ s ≤ 256) (hb : n ≤ 1000000) : Ct Tryz.prog 24 [.int .i64 (s : Int), .int .i64 (n : Int)] [] fun v H' =>
    ∃ bd c, v = .tuple #[pv bd, .int .i64 0] ∧ H' = [c] ∧ IsDev bd (dv0 s n) c := by
  refine Ct.convP (DeviceNew_ct s n hs hb) (.refl _) ?_
  rintro v H' ⟨bd, bl, bn, rfl, rfl⟩
  refine ⟨_, ⟨bd, _, rfl, rfl, bl, bn, none, 0, 0, [], [], [], 0, [], rfl, Vec.nil _ _, by simp, fun _ => rfl, Nat.zero_le _, hs, hb, by simp [dv0]⟩, by simp [mrow, chs, dv0]⟩
theorem FileNew_ct (bd ba bs : Nat) : Ct Tryz.prog 25 [pv bd, pv ba, pv bs] [] fun v H' => ∃ bw, v = pv bw ∧ H' = [wrow bw bd ba bs] := by
  refine Ct.intro Tryz.func25 rfl Tryz.ntmps25 (nle rfl) fun w0 => ?_; dsimp only [argSlots, Nat.reduceAdd]
  repeat (first | apply G.seq | refine G.plain (h := ?_) | apply G.skip | apply G.ret | refine G.condF (h := ?_) | apply Dn.next | refine R.enter0 (h := ?_) | refine R.nil (h := ?_) | refine R.enterT (h := ?_) | refine R.move (h := ?_) | refine R.assign (h := ?_) | (refine R.box (h := ?_); intro _) | refine R.pickF (h := ?_) | refine R.eqlNil (h := ?_) | refine R.build (h := ?_))
  rename_i bw
  (refine Dn.post (Hr := [[(bw, row [pv bd, pv ba, pv bs] 68)]]) Tryz.results25 (hR := ?_); exact ⟨bw, rfl, rfl⟩)
theorem live0 (n : Nat) (h : 1 ≤ n) : Live ⟨n, [(0, n)]⟩ [] where
  fit := by simp
  apart := List.Pairwise.nil
  free := fun x hx => by simp [inF]; exact hx
  sum := by simp [total]
theorem wc0 {bd ba bs s n room : Nat} {cd ca cs : Chunk} (hn : 1 ≤ n) (h1 : IsDev bd (dv0 s n) cd) (h2 : IsArena ba ⟨room, 0, 0, []⟩ ca) (h3 : IsSpace bs ⟨n, [(0, n)]⟩ cs) : Wc bd ba bs (wk0 s n room) cd ca cs :=
  ⟨h1, h2.ar, h3, rfl, live0 n hn⟩
def sp0 (n : Nat) : Sp := ⟨n, if n = 0 then [] else [(0, n)]⟩
theorem SpaceNewG_ct (n : Nat) (h2 : n ≤ 1000000) : Ct Tryz.prog 27 [.int .i64 0, .int .i64 (n : Int)] [] fun v H' =>
    ∃ bs c', v = .pointer (some ⟨bs, 0, none⟩) ∧ IsSpace bs (sp0 n) c' ∧ H' = [c'] := by
  by_cases h0 : n = 0
  · subst h0
    refine Ct.convP (H2 := []) (R2 := fun v H' => ∃ bs, v = pv bs ∧ H' = [[(bs, row [.int .i64 0, .int .i64 0, .slice none 0 0] 101)]]) ?_ (.refl _) ?_
    · refine Ct.intro Tryz.func27 rfl Tryz.ntmps27 (nle rfl) fun w0 => ?_; dsimp only [argSlots, Nat.reduceAdd]
      repeat (first | apply G.seq | refine G.plain (h := ?_) | apply G.skip | apply G.ret | apply Dn.next | refine G.condPF (ht := ?_) | refine R.enter0 (h := ?_) | refine R.nil (h := ?_) | refine R.enterT (h := ?_) | refine R.splitF (ht := ?_) | refine R.move (h := ?_) | refine R.assign (h := ?_) | (refine R.box (h := ?_); intro _) | refine R.pickF (h := ?_) | refine R.lss (h := ?_) | refine R.gtr (h := ?_) | refine R.build (h := ?_))
      rename_i bs
      (refine Dn.post (Hr := [[(bs, row [.int .i64 0, .int .i64 0, .slice none 0 0] 101)]]) Tryz.results27 (hR := ?_); exact ⟨bs, rfl, rfl⟩)
    · rintro v H' ⟨bs, rfl, rfl⟩
      exact ⟨_, ⟨bs, _, rfl, ⟨none, 0, [], rfl, Vec.nil _ _, fok_nil 0, h2⟩, rfl⟩, by simp [spCells, sp0]⟩
  · have := SpaceNew_ct n (by omega) h2
    unfold sp0
    rw [if_neg h0]
    exact this
theorem liveG (n : Nat) : Live (sp0 n) [] := by
  by_cases h : n = 0
  · subst h
    exact ⟨by simp, List.Pairwise.nil, fun x hx => by simp [sp0] at hx, by simp [sp0, total]⟩
  · have := live0 n (by omega)
    unfold sp0; rw [if_neg h]; exact this
def wkG (s n room : Nat) : Wk := ⟨dv0 s n, ⟨room, 0, 0, []⟩, sp0 n, []⟩
theorem wcG {bd ba bs s n room : Nat} {cd ca cs : Chunk} (h1 : IsDev bd (dv0 s n) cd) (h2 : IsArena ba ⟨room, 0, 0, []⟩ ca) (h3 : IsSpace bs (sp0 n) cs) : Wc bd ba bs (wkG s n room) cd ca cs :=
  ⟨h1, h2.ar, h3, rfl, liveG n⟩
theorem bigG (s n room : Nat) : big (wkG s n room).σ.free = n := by
  unfold wkG sp0
  by_cases h : n = 0
  · subst h; simp [big]
  · simp [h, big]
theorem SetFault_ct (bd : Nat) (δ : Dv) (c : Chunk) (h : IsDev bd δ c) (n : Int) (hn : -1 ≤ n ∧ n ≤ 1000000000) : Ct Tryz.prog 32 [pv bd, .int .i64 n] [c] fun v H' =>
    ∃ c', v = .tuple #[] ∧ H' = [c'] ∧ IsDev bd { δ with fault := n } c' := by
  obtain ⟨bl, bn, pp, np, cp, xs, pc, es, ck, junk, rfl, h1, h2, h3, h4, h5, h6, h7⟩ := h
  refine Ct.convP (H2 := [[(bd, row (dvCells δ.size δ.blocks bl bn pp np cp δ.fault δ.acts) 80)], (bn, mrow ikey (es.map (Db.ent δ.size)) ck) :: (pc ++ (chs es ++ junk))])
    (R2 := fun v H' => v = .tuple #[] ∧ H' = [[(bd, row (dvCells δ.size δ.blocks bl bn pp np cp n δ.acts) 80)], (bn, mrow ikey (es.map (Db.ent δ.size)) ck) :: (pc ++ (chs es ++ junk))]) ?_ (by simp) ?_
  · unfold dvCells
    have hmx : max n (-1) = n := by omega
    refine Ct.intro Tryz.func32 rfl Tryz.ntmps32 (nle rfl) fun w0 => ?_; dsimp only [argSlots, Nat.reduceAdd]
    repeat (first | apply G.seq | refine G.plain (h := ?_) | refine G.condT (h := ?_) | apply Dn.next | refine R.enter0 (h := ?_) | refine R.nil (h := ?_) | refine R.move (h := ?_) | refine R.nilCheck (h := ?_) | refine R.fieldAddr (h := ?_) | refine R.store1 (h := ?_) | refine R.max (h := ?_) | refine R.neqNil (h := ?_))
    rw [hmx]
    (refine Dn.postEnd (Hr := [[(bd, row [.int .i64 (δ.size : Int), .int .i64 (δ.blocks : Int), .map (some bl), .map (some bn), .slice pp np cp, .int .i64 (-1), .int .i64 n, .bool false, .int .i64 (δ.acts : Int)] 80)], (bn, mrow ikey (es.map (Db.ent δ.size)) ck) :: (pc ++ (chs es ++ junk))]) Tryz.results32 (hR := ?_); exact ⟨rfl, rfl⟩)
  · rintro v H' ⟨rfl, rfl⟩
    exact ⟨_, ⟨_, rfl, rfl, bl, bn, pp, np, cp, xs, pc, es, ck, junk, rfl, h1, h2, h3, h4, h5, h6, hn⟩, by simp⟩
end Go.Proofs.YtdkihpjnidhnmaaGreat
namespace Go.Proofs.YtdkihpjnidhnmaaGreat
open Go.SL Go.Spc Go.Tup
def fitsB (k : Nat) (t : T5) : Bool := (List.range 5).all fun i => decide (i < k) || decide (t.col i = 0)
theorem fitsB_iff {k : Nat} {t : T5} : fitsB k t = true ↔ ∀ i, i < 5 → k ≤ i → t.col i = 0 := by
  simp only [fitsB, List.all_eq_true, List.mem_range, Bool.or_eq_true, decide_eq_true_eq]
  constructor
  · intro h i hi hk
    rcases h i hi with h | h
    · omega
    · exact h
  · intro h i hi
    by_cases hk : i < k
    · exact .inl hk
    · exact .inr (h i hi (by omega))
theorem tcol_get (t : T5) (i : Nat) (h : i < 5) : ([.int .i64 t.c0, .int .i64 t.c1, .int .i64 t.c2, .int .i64 t.c3, .int .i64 t.c4] : List Value)[i]? = some (.int .i64 (t.col i)) := by
  match i, h with
  | 0, _ => rfl
  | 1, _ => rfl
  | 2, _ => rfl
  | 3, _ => rfl
  | 4, _ => rfl
theorem Fits_ct (t : T5) (k : Nat) : CtQ Tryz.prog 33 [tv t, .int .i64 (k : Int)] [] (.bool (fitsB k t)) := by
  have htv : tv t = .agg #[.int .i64 t.c0, .int .i64 t.c1, .int .i64 t.c2, .int .i64 t.c3, .int .i64 t.c4] := rfl
  rw [htv]
  have hget := tcol_get t
  generalize hcol : t.col = col at *
  generalize hcs : ([.int .i64 t.c0, .int .i64 t.c1, .int .i64 t.c2, .int .i64 t.c3, .int .i64 t.c4] : List Value) = cs at *
  have hcl : cs.length = 5 := by rw [← hcs]; rfl
  have hbox : (Value.agg cs.toArray).cells = cs.toArray := rfl
  refine Ct.intro Tryz.func33 rfl Tryz.ntmps33 (nle rfl) fun w0 => ?_; dsimp only [argSlots, Nat.reduceAdd]
  repeat (first | apply G.seq | refine G.plain (h := ?_) | apply G.block | apply Dn.next | refine R.enter0 (h := ?_) | refine R.nil (h := ?_) | refine R.assign (h := ?_) | (refine R.box (h := ?_); intro _))
  rename_i b2
  refine G.loop (X := Nat) (fun i => i ≤ 5 ∧ ∀ j, j < i → k ≤ j → col j = 0) (fun i => [(5, .int .i64 (i : Int)), (2, pv b2), (1, .int .i64 (k : Int))]) (fun _ => [[(b2, row cs 47)]]) (fun i => 5 - i) 0 ⟨by omega, by omega⟩ (body := ?_)
  rintro i ⟨hi, hz⟩
  by_cases h5 : i < 5
  · have hg := hget i h5
    have e1 : IntKind.wrap .i64 ((i : Int) + 1) = ((i + 1 : Nat) : Int) := by rw [wrap_i64 (by omega)]; rfl
    by_cases hk : k ≤ i
    · by_cases hc : col i = 0
      · repeat (first | apply G.seq | refine G.plain (h := ?_) | apply G.block | apply G.skip | apply Dn.next | apply Dn.blockEnd | refine G.condPT (ht := ?_) | refine G.condPF (ht := ?_) | refine R.enter0 (h := ?_) | refine R.nil (h := ?_) | refine R.enterT (h := ?_) | refine R.splitT (ht := ?_) | refine R.move (h := ?_) | refine R.assign (h := ?_) | refine R.load1 (h := ?_) | refine R.pickT (h := ?_) | refine R.lss (h := ?_) | refine R.geq (h := ?_) | refine R.neq (h := ?_) | refine R.addw (h := ?_) | refine R.indexAddrA (h := ?_))
        exact Dn.round (i + 1) ⟨by omega, fun j h1 h2 => by
          rcases Nat.lt_or_ge j i with h3 | h3
          · exact hz j h3 h2
          · obtain rfl : j = i := by omega
            exact hc⟩ (by omega)
      · have hf : fitsB k t = false := by
          rw [Bool.eq_false_iff]
          intro h
          have h2 := fitsB_iff.1 h i h5 hk
          rw [hcol] at h2
          exact hc h2
        rw [hf]
        repeat (first | apply G.seq | refine G.plain (h := ?_) | apply G.block | apply G.skip | apply G.ret | apply Dn.next | apply Dn.retThen | apply Dn.retBlock | refine G.condPT (ht := ?_) | refine R.enter0 (h := ?_) | refine R.nil (h := ?_) | refine R.enterT (h := ?_) | refine R.splitT (ht := ?_) | refine R.move (h := ?_) | refine R.assign (h := ?_) | refine R.load1 (h := ?_) | refine R.pickT (h := ?_) | refine R.lss (h := ?_) | refine R.geq (h := ?_) | refine R.neq (h := ?_) | refine R.indexAddrA (h := ?_))
        (refine Dn.post (Hr := []) Tryz.results33 (hR := ?_); exact ⟨rfl, rfl⟩)
    · repeat (first | apply G.seq | refine G.plain (h := ?_) | apply G.block | apply G.skip | refine G.condF (h := ?_) | apply Dn.next | apply Dn.blockEnd | refine G.condPT (ht := ?_) | refine R.enter0 (h := ?_) | refine R.nil (h := ?_) | refine R.skip (h := ?_) | refine R.splitF (ht := ?_) | refine R.move (h := ?_) | refine R.assign (h := ?_) | refine R.pickF (h := ?_) | refine R.lss (h := ?_) | refine R.geq (h := ?_) | refine R.addw (h := ?_))
      exact Dn.round (i + 1) ⟨by omega, fun j h1 h2 => hz j (by omega) h2⟩ (by omega)
  · obtain rfl : i = 5 := by omega
    have hf : fitsB k t = true := by
      rw [fitsB_iff, hcol]; exact hz
    rw [hf]
    repeat (first | apply G.seq | refine G.plain (h := ?_) | apply G.exit | apply G.ret | apply Dn.next | apply Dn.exitHere | apply Dn.exitThen | refine G.condPF (ht := ?_) | refine R.enter0 (h := ?_) | refine R.nil (h := ?_) | refine R.move (h := ?_) | refine R.assign (h := ?_) | refine R.lss (h := ?_))
    (refine Dn.post (Hr := []) Tryz.results33 (hR := ?_); exact ⟨rfl, rfl⟩)
theorem All_ct (p : Option Addr) (n cap : Nat) (ts : List T5) (c : Chunk) (hv : RV p n ts c) (hn : n ≤ 1000000000) (k : Nat) : CtQ Tryz.prog 11 [.slice p n cap, .int .i64 (k : Int)] [c] (.bool (ts.all (fitsB k))) := by
  refine Ct.intro Tryz.func11 rfl Tryz.ntmps11 (nle rfl) fun w0 => ?_; dsimp only [argSlots, Nat.reduceAdd]
  repeat (first | apply G.seq | refine G.plain (h := ?_) | apply G.block | apply Dn.next | refine R.enter0 (h := ?_) | refine R.nil (h := ?_) | refine R.assign (h := ?_))
  refine G.loop (X := Nat) (fun i => i ≤ n ∧ ∀ t ∈ ts.take i, fitsB k t = true) (fun i => [(5, .int .i64 (i : Int)), (0, .slice p n cap), (1, .int .i64 (k : Int))]) (fun _ => [c]) (fun i => n - i) 0 ⟨Nat.zero_le _, by simp⟩ (body := ?_)
  rintro i ⟨hi, hz⟩
  have hlen := hv.1
  by_cases h0 : i < n
  · obtain ⟨b, off, cs, T, fz, rfl, rfl, hr⟩ := hv.pos (by omega)
    have hj := hr i h0
    have hlt : i < ts.length := by omega
    have hgd : ts.getD i ⟨0, 0, 0, 0, 0⟩ = ts[i] := by simp [List.getD_eq_getElem?_getD, hlt]
    have htk : ts.take (i + 1) = ts.take i ++ [ts[i]] := by rw [List.take_add_one]; simp [hlt]
    rw [hgd] at hj
    have hF := Fits_ct ts[i] k
    have hmem : ts[i] ∈ ts := List.getElem_mem hlt
    have e1 : IntKind.wrap .i64 ((i : Int) + 1) = ((i + 1 : Nat) : Int) := by rw [wrap_i64 (by omega)]; rfl
    generalize ts[i] = t at *
    have htv : tv t = .agg #[.int .i64 t.c0, .int .i64 t.c1, .int .i64 t.c2, .int .i64 t.c3, .int .i64 t.c4] := rfl
    rw [htv] at hF
    simp only [tcells] at hj
    cases hft : fitsB k t with
    | true =>
      rw [hft] at hF
      repeat (first | apply G.seq | refine G.plain (h := ?_) | apply G.block | apply G.skip | refine G.condF (h := ?_) | apply Dn.next | apply Dn.blockEnd | refine G.condPT (ht := ?_) | refine R.enter0 (h := ?_) | refine R.nil (h := ?_) | refine R.move (h := ?_) | refine R.assign (h := ?_) | refine R.loadN (h := ?_) | refine R.lss (h := ?_) | refine R.addw (h := ?_) | refine R.not (h := ?_) | refine R.len (h := ?_) | refine R.indexAddr (h := ?_) | refine R.callP (hct := by apply hF <;> (first | omega | assumption)) (h := ?_))
      exact Dn.round (i + 1) ⟨by omega, fun u hu => by
        rw [htk] at hu
        rcases List.mem_append.1 hu with hu | hu
        · exact hz u hu
        · simp only [List.mem_singleton] at hu; subst hu; exact hft⟩ (by omega)
    | false =>
      rw [hft] at hF
      have hf : ts.all (fitsB k) = false := by
        rw [Bool.eq_false_iff]
        intro h
        rw [List.all_eq_true] at h
        rw [h t hmem] at hft; cases hft
      rw [hf]
      repeat (first | apply G.seq | refine G.plain (h := ?_) | apply G.block | apply G.skip | apply G.ret | refine G.condT (h := ?_) | apply Dn.next | apply Dn.retThen | apply Dn.retBlock | refine G.condPT (ht := ?_) | refine R.enter0 (h := ?_) | refine R.nil (h := ?_) | refine R.move (h := ?_) | refine R.assign (h := ?_) | refine R.loadN (h := ?_) | refine R.lss (h := ?_) | refine R.not (h := ?_) | refine R.len (h := ?_) | refine R.indexAddr (h := ?_) | refine R.callP (hct := by apply hF <;> (first | omega | assumption)) (h := ?_))
      (refine Dn.post (Hr := [[(b, rowf cs T fz)]]) Tryz.results11 (hR := ?_); exact ⟨rfl, rfl⟩)
  · obtain rfl : i = n := by omega
    have hf : ts.all (fitsB k) = true := by
      rw [List.all_eq_true]
      intro t ht
      exact hz t (by rw [← hlen, List.take_length]; exact ht)
    rw [hf]
    repeat (first | apply G.seq | refine G.plain (h := ?_) | apply G.exit | apply G.ret | apply Dn.next | apply Dn.exitHere | apply Dn.exitThen | refine G.condPF (ht := ?_) | refine R.enter0 (h := ?_) | refine R.nil (h := ?_) | refine R.move (h := ?_) | refine R.assign (h := ?_) | refine R.lss (h := ?_) | refine R.len (h := ?_))
    (refine Dn.post (Hr := [c]) Tryz.results11 (hR := ?_); exact ⟨rfl, rfl⟩)
theorem Same_ct (p : Option Addr) (n cap : Nat) (ts : List T5) (c : Chunk) (hv : RV p n ts c) (hn : n ≤ 1000000000) (p2 : Option Addr) (n2 cap2 : Nat) (us : List T5) (c2 : Chunk) (hv2 : RV p2 n2 us c2) :
    CtQ Tryz.prog 22 [.slice p n cap, .slice p2 n2 cap2] [c, c2] (.bool (decide (ts = us))) := by
  have hlen := hv.1
  have hlen2 := hv2.1
  by_cases hnn : n = n2
  · subst hnn
    refine Ct.intro Tryz.func22 rfl Tryz.ntmps22 (nle rfl) fun w0 => ?_; dsimp only [argSlots, Nat.reduceAdd]
    repeat (first | apply G.seq | refine G.plain (h := ?_) | apply G.block | apply G.skip | apply Dn.next | refine G.condPF (ht := ?_) | refine R.enter0 (h := ?_) | refine R.nil (h := ?_) | refine R.move (h := ?_) | refine R.assign (h := ?_) | refine R.neq (h := ?_) | refine R.len (h := ?_))
    refine G.loop (X := Nat) (fun i => i ≤ n ∧ ts.take i = us.take i) (fun i => [(5, .int .i64 (i : Int)), (0, .slice p n cap), (1, .slice p2 n cap2)]) (fun _ => [c, c2]) (fun i => n - i) 0 ⟨Nat.zero_le _, by simp⟩ (body := ?_)
    rintro i ⟨hi, hz⟩
    by_cases h0 : i < n
    · obtain ⟨b, off, cs, T, fz, rfl, rfl, hr⟩ := hv.pos (by omega)
      obtain ⟨b2, off2, cs2, T2, fz2, rfl, rfl, hr2⟩ := hv2.pos (by omega)
      have hj := hr i h0
      have hj2 := hr2 i h0
      have hlt : i < ts.length := by omega
      have hlt2 : i < us.length := by omega
      have hgd : ts.getD i ⟨0, 0, 0, 0, 0⟩ = ts[i] := by simp [List.getD_eq_getElem?_getD, hlt]
      have hgd2 : us.getD i ⟨0, 0, 0, 0, 0⟩ = us[i] := by simp [List.getD_eq_getElem?_getD, hlt2]
      have htk : ts.take (i + 1) = ts.take i ++ [ts[i]] := by rw [List.take_add_one]; simp [hlt]
      have htk2 : us.take (i + 1) = us.take i ++ [us[i]] := by rw [List.take_add_one]; simp [hlt2]
      have hne : ts[i] ≠ us[i] → ts ≠ us := fun h e => h (by subst e; rfl)
      rw [hgd] at hj
      rw [hgd2] at hj2
      have e1 : IntKind.wrap .i64 ((i : Int) + 1) = ((i + 1 : Nat) : Int) := by rw [wrap_i64 (by omega)]; rfl
      generalize ts[i] = t at *
      generalize us[i] = u at *
      simp only [tcells] at hj hj2
      by_cases htu : t = u
      · subst htu
        repeat (first | apply G.seq | refine G.plain (h := ?_) | apply G.block | apply G.skip | apply Dn.next | apply Dn.blockEnd | refine G.condPT (ht := ?_) | refine G.condPF (ht := ?_) | refine G.draw (id := 6) [] (h := ?_) | refine R.enter0 (h := ?_) | refine R.nil (h := ?_) | refine R.move (h := ?_) | refine R.assign (h := ?_) | refine R.loadN (h := ?_) | refine R.lss (h := ?_) | refine R.addw (h := ?_) | refine R.len (h := ?_) | refine R.neq5 (h := ?_) | refine R.indexAddr (h := ?_))
        exact Dn.round (i + 1) ⟨by omega, by rw [htk, htk2, hz]⟩ (by omega)
      · rw [decide_eq_false (hne htu)]
        have hne5 : ¬ (t.c0 = u.c0 ∧ t.c1 = u.c1 ∧ t.c2 = u.c2 ∧ t.c3 = u.c3 ∧ t.c4 = u.c4) := fun ⟨h0, h1, h2, h3, h4⟩ => htu (by cases t; cases u; simp_all)
        repeat (first | apply G.seq | refine G.plain (h := ?_) | apply G.block | apply G.skip | apply G.ret | apply Dn.next | apply Dn.retThen | apply Dn.retBlock | refine G.condPT (ht := ?_) | refine G.draw (id := 6) [] (h := ?_) | refine R.enter0 (h := ?_) | refine R.nil (h := ?_) | refine R.move (h := ?_) | refine R.assign (h := ?_) | refine R.loadN (h := ?_) | refine R.lss (h := ?_) | refine R.len (h := ?_) | refine R.neq5 (h := ?_) | refine R.indexAddr (h := ?_))
        (refine Dn.post (Hr := [[(b, rowf cs T fz)], [(b2, rowf cs2 T2 fz2)]]) Tryz.results22 (hR := ?_); exact ⟨rfl, rfl⟩)
    · obtain rfl : i = n := by omega
      have hf : ts = us := by
        have h1 := List.take_of_length_le (l := ts) (i := i) (by omega)
        have h2 := List.take_of_length_le (l := us) (i := i) (by omega)
        rw [← h1, ← h2, hz]
      rw [decide_eq_true hf]
      repeat (first | apply G.seq | refine G.plain (h := ?_) | apply G.exit | apply G.ret | apply Dn.next | apply Dn.exitHere | apply Dn.exitThen | refine G.condPF (ht := ?_) | refine R.enter0 (h := ?_) | refine R.nil (h := ?_) | refine R.move (h := ?_) | refine R.assign (h := ?_) | refine R.lss (h := ?_) | refine R.len (h := ?_))
      (refine Dn.post (Hr := [c, c2]) Tryz.results22 (hR := ?_); exact ⟨rfl, rfl⟩)
  · rw [decide_eq_false (by intro e; subst e; omega)]
    refine Ct.intro Tryz.func22 rfl Tryz.ntmps22 (nle rfl) fun w0 => ?_; dsimp only [argSlots, Nat.reduceAdd]
    repeat (first | apply G.seq | refine G.plain (h := ?_) | apply G.ret | apply Dn.next | apply Dn.retThen | refine G.condPT (ht := ?_) | refine R.enter0 (h := ?_) | refine R.nil (h := ?_) | refine R.move (h := ?_) | refine R.assign (h := ?_) | refine R.neq (h := ?_) | refine R.len (h := ?_))
    (refine Dn.post (Hr := [c, c2]) Tryz.results22 (hR := ?_); exact ⟨rfl, rfl⟩)
theorem rHolds_ct (s k : Nat) (hs : 8 ≤ s ∧ s ≤ 256) (h1 : 1 ≤ k) (h2 : k ≤ 5) : CtQ Tryz.prog 50 [.int .i64 (s : Int), .int .i64 (k : Int)] [] (.int .i64 (holds s k : Int)) := by
  have e2 : IntKind.wrap .i64 ((s : Int) - 2) = ((s - 2 : Nat) : Int) := by rw [wrap_i64 (by omega)]; omega
  refine Ct.intro Tryz.func50 rfl Tryz.ntmps50 (nle rfl) fun w0 => ?_; dsimp only [argSlots, Nat.reduceAdd]
  repeat (first | apply G.seq | refine G.plain (h := ?_) | apply G.block | apply G.skip | apply Dn.next | refine G.condPF (ht := ?_) | refine R.enter0 (h := ?_) | refine R.nil (h := ?_) | refine R.enterT (h := ?_) | refine R.splitF (ht := ?_) | refine R.move (h := ?_) | refine R.assign (h := ?_) | refine R.pickF (h := ?_) | refine R.lss (h := ?_) | refine R.gtr (h := ?_))
  refine G.loop (X := Nat) (fun i => i ≤ holds s k) (fun i => [(5, .int .i64 (i : Int)), (0, .int .i64 (s : Int)), (1, .int .i64 (k : Int))]) (fun _ => []) (fun i => holds s k - i) 0 (Nat.zero_le _) (body := ?_)
  intro i hi
  have hh : holds s k ≤ 256 := Nat.le_trans (Nat.div_le_self _ _) (by omega)
  have hiff : (i + 1) * k ≤ s - 2 ↔ i + 1 ≤ holds s k := by unfold holds; rw [Nat.le_div_iff_mul_le (by omega)]
  have e1 : IntKind.wrap .i64 ((i : Int) + 1) = ((i + 1 : Nat) : Int) := by rw [wrap_i64 (by omega)]; rfl
  have hm : (i + 1) * k ≤ 257 * 5 := Nat.mul_le_mul (by omega) h2
  have e3 : IntKind.wrap .i64 (((i + 1 : Nat) : Int) * (k : Int)) = (((i + 1) * k : Nat) : Int) := by rw [← Int.natCast_mul]; exact wrap_i64 (by omega)
  generalize (i + 1) * k = m at *
  by_cases h0 : i + 1 ≤ holds s k
  · have h3 := hiff.2 h0
    repeat (first | apply G.seq | refine G.plain (h := ?_) | apply G.block | apply G.skip | apply Dn.next | apply Dn.blockEnd | refine G.condPT (ht := ?_) | refine R.enter0 (h := ?_) | refine R.nil (h := ?_) | refine R.move (h := ?_) | refine R.assign (h := ?_) | refine R.leq (h := ?_) | refine R.addw (h := ?_) | refine R.subw (h := ?_) | refine R.mulw (h := ?_))
    exact Dn.round (i + 1) h0 (by omega)
  · have h3 : ¬ m ≤ s - 2 := fun e => h0 (hiff.1 e)
    obtain rfl : i = holds s k := by omega
    repeat (first | apply G.seq | refine G.plain (h := ?_) | apply G.exit | apply G.ret | apply Dn.next | apply Dn.exitHere | apply Dn.exitThen | refine G.condPF (ht := ?_) | refine R.enter0 (h := ?_) | refine R.nil (h := ?_) | refine R.move (h := ?_) | refine R.assign (h := ?_) | refine R.leq (h := ?_) | refine R.addw (h := ?_) | refine R.subw (h := ?_) | refine R.mulw (h := ?_))
    (refine Dn.post (Hr := []) Tryz.results50 (hR := ?_); exact ⟨rfl, rfl⟩)
theorem rBlocks_ct (s k n : Nat) (hs : 8 ≤ s ∧ s ≤ 256) (h1 : 1 ≤ k) (h2 : k ≤ 5) (hn : n ≤ 100000000) : CtQ Tryz.prog 23 [.int .i64 (s : Int), .int .i64 (k : Int), .int .i64 (n : Int)] [] (.int .i64 (nblocks s k n : Int)) := by
  have hH := rHolds_ct s k hs h1 h2
  have hp : 1 ≤ holds s k := by unfold holds; rw [Nat.le_div_iff_mul_le (by omega)]; omega
  have hh : holds s k ≤ 256 := Nat.le_trans (Nat.div_le_self _ _) (by omega)
  have hnb : nblocks s k n ≤ n := by
    unfold nblocks
    rw [Nat.div_le_iff_le_mul_add_pred (by omega)]
    have := Nat.le_mul_of_pos_left n (show 0 < holds s k by omega)
    omega
  have hiffB : ∀ i, i * holds s k < n ↔ i < nblocks s k n := by
    intro i
    unfold nblocks
    generalize holds s k = h at *
    show i * h + 1 ≤ n ↔ i + 1 ≤ (n + h - 1) / h
    rw [Nat.le_div_iff_mul_le (by omega), Nat.succ_mul]
    omega
  have hub : ∀ i, i ≤ n → i * holds s k ≤ 100000000 * 256 := fun i hi => Nat.mul_le_mul (by omega) hh
  generalize hhk : holds s k = h at *
  generalize hbb : nblocks s k n = bb at *
  refine Ct.intro Tryz.func23 rfl Tryz.ntmps23 (nle rfl) fun w0 => ?_; dsimp only [argSlots, Nat.reduceAdd]
  repeat (first | apply G.seq | refine G.plain (h := ?_) | apply G.block | apply Dn.next | refine R.enter0 (h := ?_) | refine R.nil (h := ?_) | refine R.move (h := ?_) | refine R.assign (h := ?_) | refine R.callP (hct := by apply hH <;> (first | omega | assumption)) (h := ?_))
  refine G.loop (X := Nat) (fun i => i ≤ bb) (fun i => [(8, .int .i64 (i : Int)), (7, .int .i64 (h : Int)), (2, .int .i64 (n : Int))]) (fun _ => []) (fun i => bb - i) 0 (Nat.zero_le _) (body := ?_)
  intro i hi
  have e1 : IntKind.wrap .i64 ((i : Int) + 1) = ((i + 1 : Nat) : Int) := by rw [wrap_i64 (by omega)]; rfl
  have hu := hub i (by omega)
  have hif := hiffB i
  have e3 : IntKind.wrap .i64 ((i : Int) * (h : Int)) = ((i * h : Nat) : Int) := by rw [← Int.natCast_mul]; exact wrap_i64 (by omega)
  generalize i * h = m at *
  by_cases h0 : i < bb
  · have h3 := hif.2 h0
    repeat (first | apply G.seq | refine G.plain (h := ?_) | apply G.block | apply G.skip | apply Dn.next | apply Dn.blockEnd | refine G.condPT (ht := ?_) | refine R.enter0 (h := ?_) | refine R.nil (h := ?_) | refine R.enterT (h := ?_) | refine R.splitT (ht := ?_) | refine R.move (h := ?_) | refine R.assign (h := ?_) | refine R.pickT (h := ?_) | refine R.lss (h := ?_) | refine R.gtr (h := ?_) | refine R.addw (h := ?_) | refine R.mulw (h := ?_))
    exact Dn.round (i + 1) h0 (by omega)
  · have h3 : ¬ m < n := fun e => h0 (hif.1 e)
    obtain rfl : i = bb := by omega
    repeat (first | apply G.seq | refine G.plain (h := ?_) | apply G.exit | apply G.ret | apply Dn.next | apply Dn.exitHere | apply Dn.exitThen | refine G.condPF (ht := ?_) | refine R.enter0 (h := ?_) | refine R.nil (h := ?_) | refine R.enterT (h := ?_) | refine R.splitT (ht := ?_) | refine R.move (h := ?_) | refine R.assign (h := ?_) | refine R.pickT (h := ?_) | refine R.lss (h := ?_) | refine R.gtr (h := ?_) | refine R.mulw (h := ?_))
    (refine Dn.post (Hr := []) Tryz.results23 (hR := ?_); exact ⟨rfl, rfl⟩)
def halves (n : Nat) : Nat := if h : n ≤ 1 then 0 else 1 + halves ((n + 1) / 2)
termination_by n
decreasing_by omega
theorem halves_one {n : Nat} (h : n ≤ 1) : halves n = 0 := by unfold halves; rw [dif_pos h]
theorem halves_step {n : Nat} (h : ¬ n ≤ 1) : halves n = 1 + halves ((n + 1) / 2) := by rw [halves, dif_neg h]
theorem halves_le (n : Nat) : halves n ≤ n := by
  induction n using Nat.strongRecOn with
  | ind n ih =>
    by_cases h : n ≤ 1
    · rw [halves_one h]; omega
    · rw [halves_step h]
      have := ih ((n + 1) / 2) (by omega)
      omega
theorem Halves_ct (n : Nat) (hn : n ≤ 1000000000) : CtQ Tryz.prog 45 [.int .i64 (n : Int)] [] (.int .i64 (halves n : Int)) := by
  have hle := halves_le n
  refine Ct.intro Tryz.func45 rfl Tryz.ntmps45 (nle rfl) fun w0 => ?_; dsimp only [argSlots, Nat.reduceAdd]
  repeat (first | apply G.seq | refine G.plain (h := ?_) | apply G.block | apply Dn.next | refine R.enter0 (h := ?_) | refine R.nil (h := ?_) | refine R.assign (h := ?_))
  refine G.loop (X := Nat × Nat) (fun x => x.1 ≤ n ∧ x.2 + halves x.1 = halves n) (fun x => [(0, .int .i64 (x.1 : Int)), (3, .int .i64 (x.2 : Int))]) (fun _ => []) (fun x => x.1) (n, 0) ⟨Nat.le_refl _, by dsimp only; omega⟩ (body := ?_)
  rintro ⟨m, k⟩ ⟨hm, hk⟩
  dsimp only at hm hk ⊢
  by_cases h1 : m ≤ 1
  · rw [halves_one h1] at hk
    obtain rfl : k = halves n := by omega
    repeat (first | apply G.seq | refine G.plain (h := ?_) | apply G.exit | apply G.ret | apply Dn.next | apply Dn.exitHere | apply Dn.exitThen | refine G.condPF (ht := ?_) | refine R.enter0 (h := ?_) | refine R.nil (h := ?_) | refine R.move (h := ?_) | refine R.assign (h := ?_) | refine R.gtr (h := ?_))
    (refine Dn.post (Hr := []) Tryz.results45 (hR := ?_); exact ⟨rfl, rfl⟩)
  · rw [halves_step h1] at hk
    have e1 : IntKind.wrap .i64 ((m : Int) + 1) = ((m + 1 : Nat) : Int) := by rw [wrap_i64 (by omega)]; rfl
    have e2 : IntKind.wrap .i64 (((m + 1 : Nat) : Int).tdiv 2) = (((m + 1) / 2 : Nat) : Int) := by rw [Int.tdiv_eq_ediv_of_nonneg (by omega), wrap_i64 (by omega)]; omega
    have e3 : IntKind.wrap .i64 ((k : Int) + 1) = ((k + 1 : Nat) : Int) := by rw [wrap_i64 (by omega)]; rfl
    repeat (first | apply G.seq | refine G.plain (h := ?_) | apply G.block | apply G.skip | apply Dn.next | apply Dn.blockEnd | refine G.condPT (ht := ?_) | refine R.enter0 (h := ?_) | refine R.nil (h := ?_) | refine R.move (h := ?_) | refine R.assign (h := ?_) | refine R.gtr (h := ?_) | refine R.addw (h := ?_) | refine R.quow (h := ?_))
    exact Dn.round ((m + 1) / 2, k + 1) ⟨by dsimp only; omega, by dsimp only; omega⟩ (by dsimp only; omega)
theorem rActs_ct (s k n : Nat) (hs : 8 ≤ s ∧ s ≤ 256) (h1 : 1 ≤ k) (h2 : k ≤ 5) (hn : n ≤ 1000000) : CtQ Tryz.prog 19 [.int .i64 (s : Int), .int .i64 (k : Int), .int .i64 (n : Int)] [] (.int .i64 (((8 * nblocks s k n + 8) * (halves (nblocks s k n) + 2) : Nat) : Int)) := by
  have hB := rBlocks_ct s k n hs h1 h2 (by omega)
  have hp : 1 ≤ holds s k := by unfold holds; rw [Nat.le_div_iff_mul_le (by omega)]; omega
  have hnb : nblocks s k n ≤ n := by
    unfold nblocks
    rw [Nat.div_le_iff_le_mul_add_pred (by omega)]
    have := Nat.le_mul_of_pos_left n (show 0 < holds s k by omega)
    omega
  generalize nblocks s k n = b at *
  have hH := Halves_ct b (by omega)
  have hle := halves_le b
  generalize halves b = hv at *
  have hm : (8 * b + 8) * (hv + 2) ≤ (8 * 1000000 + 8) * (1000000 + 2) := Nat.mul_le_mul (by omega) (by omega)
  have e1 : IntKind.wrap .i64 (8 * (b : Int)) = ((8 * b : Nat) : Int) := by rw [wrap_i64 (by omega)]; omega
  have e2 : IntKind.wrap .i64 (((8 * b : Nat) : Int) + 8) = ((8 * b + 8 : Nat) : Int) := by rw [wrap_i64 (by omega)]; omega
  have e3 : IntKind.wrap .i64 ((hv : Int) + 2) = ((hv + 2 : Nat) : Int) := by rw [wrap_i64 (by omega)]; omega
  have e4 : IntKind.wrap .i64 (((8 * b + 8 : Nat) : Int) * ((hv + 2 : Nat) : Int)) = (((8 * b + 8) * (hv + 2) : Nat) : Int) := by rw [← Int.natCast_mul]; exact wrap_i64 (by omega)
  generalize (8 * b + 8) * (hv + 2) = m at *
  refine Ct.intro Tryz.func19 rfl Tryz.ntmps19 (nle rfl) fun w0 => ?_; dsimp only [argSlots, Nat.reduceAdd]
  repeat (first | apply G.seq | refine G.plain (h := ?_) | apply G.ret | apply Dn.next | refine R.enter0 (h := ?_) | refine R.nil (h := ?_) | refine R.move (h := ?_) | refine R.assign (h := ?_) | refine R.addw (h := ?_) | refine R.mulw (h := ?_) | refine R.callP (hct := by apply hB <;> (first | omega | assumption)) (h := ?_) | refine R.callP (hct := by apply hH <;> (first | omega | assumption)) (h := ?_))
  (refine Dn.post (Hr := []) Tryz.results19 (hR := ?_); exact ⟨rfl, rfl⟩)
end Go.Proofs.YtdkihpjnidhnmaaGreat
namespace Go.Proofs.YtdkihpjnidhnmaaGreat
open Go.SL Go.Spc Go.Tup Go.Srt
/-- so many blocks are taken at most -/
def sortT (b : Nat) : Nat := (b + (b / 3 + 1)) * (1 + lgq (b / 3 + 1))
/-- so many acts are done at most -/
def sortA (b : Nat) : Nat := b + (b + (b / 3 + 1)) * (1 + 2 * lgq (b / 3 + 1))
theorem sort_bounds {s k n L c q S : Nat} (hs : 8 ≤ s) (hk1 : 1 ≤ k) (hk5 : k ≤ 5) (h5 : 5 * s ≤ L) (hc : c = (L - 2 * s) / k) (hS : S * holds s k ≤ n + q * (holds s k - 1)) (hq1 : (q - 1) * c ≤ n) (hq2 : 0 < n → (q - 1) * c < n) :
    q ≤ nblocks s k n / 3 + 1 ∧ S ≤ nblocks s k n + (nblocks s k n / 3 + 1) := by
  have hp : 1 ≤ holds s k := holds_pos hs hk1 hk5
  have hc3 : 3 * holds s k ≤ c := by
    rw [hc, Nat.le_div_iff_mul_le (by omega)]
    have h1 : holds s k * k ≤ s - 2 := Nat.div_mul_le_self _ _
    rw [Nat.mul_assoc]; omega
  have hnb : n ≤ nblocks s k n * holds s k := by
    unfold nblocks
    generalize holds s k = h at *
    have := Nat.div_add_mod (n + h - 1) h
    have h2 := Nat.mod_lt (n + h - 1) (show 0 < h by omega)
    rw [Nat.mul_comm] at this
    omega
  generalize nblocks s k n = b at *
  generalize holds s k = h at *
  have hq : q ≤ b / 3 + 1 := by
    rcases Nat.eq_zero_or_pos n with rfl | hn
    · have h1 : (q - 1) * 1 ≤ (q - 1) * c := Nat.mul_le_mul_left _ (by omega)
      omega
    · have h1 : (q - 1) * (3 * h) ≤ (q - 1) * c := Nat.mul_le_mul_left _ hc3
      have h2 := hq2 hn
      have h3 : (q - 1) * 3 * h < b * h := by rw [Nat.mul_assoc]; omega
      have h4 : (q - 1) * 3 < b := Nat.lt_of_mul_lt_mul_right h3
      omega
  refine ⟨hq, ?_⟩
  have h1 : q * (h - 1) ≤ q * h := Nat.mul_le_mul_left _ (by omega)
  have h2 : S * h ≤ (b + q) * h := by rw [Nat.add_mul]; omega
  have h3 : S ≤ b + q := Nat.le_of_mul_le_mul_right h2 (by omega)
  omega
theorem fo_sub {d : Nat → Option (List Int)} {s : Nat} {f : Fl} {ts : List T5} {live l0 : List Ext} (h : FileOk d s [f.ext] f ts) (hl : live.Perm (addF f l0)) : ∃ Lv, FileOk d s Lv f ts ∧ ∀ e ∈ Lv, e ∈ live := by
  by_cases hb : f.blocks = 0
  · exact ⟨[], { h with live := fun e => absurd hb e }, by simp⟩
  · refine ⟨[f.ext], h, fun e he => ?_⟩
    simp only [List.mem_singleton] at he; subst he
    unfold addF at hl; rw [if_neg hb] at hl
    exact hl.mem_iff.2 List.mem_cons_self
theorem used_eq {bd ba bs : Nat} {W W' : Wk} {cd ca cs cd' ca' cs' : Chunk} (h : Wc bd ba bs W cd ca cs) (h' : Wc bd ba bs W' cd' ca' cs') (hg : W'.α.gs.Perm W.α.gs) : W'.α.used = W.α.used := by
  rw [h'.ar.num.2.2.2, (hg.map (·.n)).sum_nat, ← h.ar.num.2.2.2]
theorem addF_app (f : Fl) (l : List Ext) : addF f l = (if f.blocks = 0 then [] else [f.ext]) ++ l := by unfold addF; split <;> rfl
/-- what stays when others' blocks turn -/
theorem FileOk.stay {s : Nat} {f : Fl} {ts : List T5} {W W' : Wk} {l0 live : List Ext} (h : FileOk W.δ.disk s [f.ext] f ts) (hl : live.Perm (addF f l0)) (hk : Keep live W W') : FileOk W'.δ.disk s [f.ext] f ts := by
  by_cases hb : f.blocks = 0
  · have h2 : FileOk W.δ.disk s [] f ts := { h with live := fun e => absurd hb e }
    have h3 := h2.keep (d' := W'.δ.disk) (fun x hx => by obtain ⟨e, he, _⟩ := hx; simp at he)
    exact h3.sub (by simp)
  · refine h.keep fun x hx => hk x ?_
    obtain ⟨e, he, h2⟩ := hx
    simp only [List.mem_singleton] at he; subst he
    unfold addF at hl; rw [if_neg hb] at hl
    exact ⟨_, hl.mem_iff.2 List.mem_cons_self, h2⟩
theorem sortT_le {b m l : Nat} (h : b ≤ m) (hl : m / 3 + 1 ≤ 4 ^ l) : sortT b ≤ (m + (m / 3 + 1)) * (1 + l) := by
  unfold sortT
  have h1 := lgq_pow l (b / 3 + 1) (by omega)
  exact Nat.mul_le_mul (by omega) (by omega)
theorem sortA_small {b : Nat} (h : b ≤ 1000) : sortA b ≤ 20000 := by
  unfold sortA
  have h1 := lgq_pow 5 (b / 3 + 1) (by omega)
  have h2 : (b + (b / 3 + 1)) * (1 + 2 * lgq (b / 3 + 1)) ≤ 1334 * 11 := Nat.mul_le_mul (by omega) (by omega)
  omega
theorem total_addF (f : Fl) (l : List Ext) : total (addF f l) = f.blocks + total l := by
  unfold addF
  split
  · rename_i h; rw [h]; simp
  · simp [total, Fl.ext]
theorem free_is {bd ba bs : Nat} {W : Wk} {cd ca cs : Chunk} (h : Wc bd ba bs W cd ca cs) {l : List Ext} (hl : W.live.Perm l) : total W.σ.free + total l = W.σ.n := by
  rw [← total_perm hl]; exact h.live.sum
theorem Sort_u (bw bd ba bs : Nat) (W : Wk) (cd ca cs : Chunk) (h : Wc bd ba bs W cd ca cs) (f : Fl) (fts : List T5) (live0 : List Ext) (hfo : FileOk W.δ.disk W.δ.size [f.ext] f fts) (hlv : W.live.Perm (addF f live0)) (o : T5) (ho : formed o = true) (once : Bool)
    (hr : 5 * W.δ.size ≤ W.α.room - W.α.used) (hac : W.δ.acts ≤ 1000000000) (hcn : f.count ≤ 100000) :
    Ct Tryz.prog 18 [pv bw, flv f, tv o, .bool once] [wrow bw bd ba bs, cd, ca, cs] fun v H' =>
      ∃ cd' ca' cs' W', H' = [wrow bw bd ba bs, cd', ca', cs'] ∧ Wc bd ba bs W' cd' ca' cs' ∧ Ev W W' (sortA f.blocks) (sortT f.blocks) ∧ W'.α.gs.Perm W.α.gs ∧ Keep live0 W W' ∧
        ((∃ g out, v = .tuple #[flv g, .int .i64 0] ∧ W'.live.Perm (addF g live0) ∧ g.width = f.width ∧ g.count ≤ f.count ∧ FileOk W'.δ.disk W.δ.size [g.ext] g out ∧ Sd (ltO o) once out ∧ Go.Srt.Sp (ltO o) once fts out) ∨
         (v = .tuple #[flv ⟨0, 0, 0, 0⟩, .int .i64 5] ∧ big W.σ.free < sortT f.blocks ∧ W'.live.Perm W.live ∧ Keep W.live W W') ∨
         (v = .tuple #[flv ⟨0, 0, 0, 0⟩, .int .i64 6] ∧ W.δ.fault ≠ -1 ∧ W'.live.Perm W.live ∧ Keep W.live W W')) := by
  refine (Sort_ct bw bd ba bs W cd ca cs h f fts live0 hfo hlv o ho once hr hac hcn _ rfl).mono ?_
  rintro v H' ⟨cd', ca', cs', W', q, S, P, rfl, hW, hE, hg, hS, hq1, hq2, hP, hK, hc⟩
  obtain ⟨⟨hs1, hs2⟩, _⟩ := h.dev.num
  obtain ⟨h1, h2⟩ := sort_bounds hs1 hfo.w1 hfo.w2 hr rfl hS hq1 hq2
  rw [← hfo.blk] at h1 h2 hE
  have hP2 : P ≤ lgq (f.blocks / 3 + 1) := Nat.le_trans hP (lgq_mono h1)
  have hm : S * P ≤ (f.blocks + (f.blocks / 3 + 1)) * lgq (f.blocks / 3 + 1) := Nat.mul_le_mul h2 hP2
  have hT : S + S * P ≤ sortT f.blocks := by unfold sortT; rw [Nat.mul_add, Nat.mul_one]; omega
  have hA : f.blocks + S + 2 * S * P ≤ sortA f.blocks := by
    unfold sortA
    rw [Nat.mul_add, Nat.mul_one, Nat.mul_left_comm, Nat.mul_assoc]
    omega
  refine ⟨cd', ca', cs', W', rfl, hW, hE.weak hA hT, hg, hK, ?_⟩
  rcases hc with hc | ⟨e, hb, hc⟩ | hc
  · exact .inl hc
  · exact .inr (.inl ⟨e, by omega, hc⟩)
  · exact .inr (.inr hc)
end Go.Proofs.YtdkihpjnidhnmaaGreat
namespace Go.Proofs.YtdkihpjnidhnmaaGreat
open Go.SL Go.Spc Go.Tup Go.Srt
def psz (a : Nat) : Nat := 8 + a % 60
def proom (a b c : Nat) : Nat := b % 40 * psz a + c % psz a
theorem workS_ct (a b c d : Nat) (ha : a < 256) (hb : b < 256) (hc : c < 256) : Ct Tryz.prog 9 [.agg #[.int .u8 (a : Int), .int .u8 (b : Int), .int .u8 (c : Int), .int .u8 (d : Int)]] [] fun v H' =>
    ∃ bw bd ba bs cd ca cs, v = .tuple #[pv bw, .int .i64 (psz a : Int)] ∧ H' = [wrow bw bd ba bs, cd, ca, cs] ∧ Wc bd ba bs (wk0 (psz a) 4000 (proom a b c)) cd ca cs := by
  have hs : 8 ≤ psz a ∧ psz a ≤ 256 := by unfold psz; omega
  have hs2 : psz a ≤ 67 := by unfold psz; omega
  have hm : b % 40 * psz a ≤ 40 * 67 := Nat.mul_le_mul (by omega) hs2
  have hcm : c % psz a < psz a := Nat.mod_lt _ (by omega)
  have e1 : IntKind.wrap .u8 ((a : Int).tmod 60) = ((a % 60 : Nat) : Int) := by rw [Int.tmod_eq_emod_of_nonneg (by omega), wrap_u8 (by omega)]; omega
  have e2 : IntKind.wrap .i64 ((a % 60 : Nat) : Int) = ((a % 60 : Nat) : Int) := wrap_i64 (by omega)
  have e3 : IntKind.wrap .i64 (8 + ((a % 60 : Nat) : Int)) = (psz a : Int) := by unfold psz; rw [wrap_i64 (by omega)]; omega
  have e4 : IntKind.wrap .u8 ((b : Int).tmod 40) = ((b % 40 : Nat) : Int) := by rw [Int.tmod_eq_emod_of_nonneg (by omega), wrap_u8 (by omega)]; omega
  have e5 : IntKind.wrap .i64 ((b % 40 : Nat) : Int) = ((b % 40 : Nat) : Int) := wrap_i64 (by omega)
  have e6 : IntKind.wrap .i64 (((b % 40 : Nat) : Int) * (psz a : Int)) = ((b % 40 * psz a : Nat) : Int) := by rw [← Int.natCast_mul]; exact wrap_i64 (by omega)
  have e7 : IntKind.wrap .i64 (c : Int) = (c : Int) := wrap_i64 (by omega)
  have e8 : IntKind.wrap .i64 ((c : Int).tmod (psz a : Int)) = ((c % psz a : Nat) : Int) := by rw [Int.tmod_eq_emod_of_nonneg (by omega), ← Int.natCast_emod]; exact wrap_i64 (by omega)
  have e9 : IntKind.wrap .i64 (((b % 40 * psz a : Nat) : Int) + ((c % psz a : Nat) : Int)) = (proom a b c : Int) := by unfold proom; rw [← Int.natCast_add]; exact wrap_i64 (by omega)
  have e10 : IntKind.wrap .i64 (((b % 40 * psz a : Nat) : Int) + (c : Int).tmod (psz a : Int)) = (proom a b c : Int) := by rw [Int.tmod_eq_emod_of_nonneg (by omega), ← Int.natCast_emod]; exact e9
  have hrm : proom a b c ≤ 1000000000 := by unfold proom; omega
  have hDn := DevNew_u (psz a) 4000 hs (by omega)
  have hAn := ArenaNew_ct (proom a b c) hrm
  have hSn := SpaceNew_ct 4000 (by omega) (by omega)
  generalize b % 40 * psz a = m1 at *
  generalize c % psz a = m2 at *
  generalize proom a b c = room at *
  generalize psz a = s at *
  refine Ct.intro Tryz.func9 rfl Tryz.ntmps9 (nle rfl) fun w0 => ?_; dsimp only [argSlots, Nat.reduceAdd]
  repeat (first | apply G.seq | refine G.plain (h := ?_) | apply Dn.next | refine R.enter0 (h := ?_) | refine R.nil (h := ?_) | refine R.move (h := ?_) | refine R.assign (h := ?_) | refine R.fieldAddr (h := ?_) | refine R.load1 (h := ?_) | (refine R.box (h := ?_); intro _) | refine R.addw (h := ?_) | refine R.remw (h := ?_) | refine R.convert (h := ?_))
  refine R.call (hct := hDn) (h := ?_)
  rintro _ _ ⟨bd, cd, rfl, rfl, hdev⟩
  try dsimp only [List.cons_append, List.nil_append]
  repeat (first | apply G.seq | refine G.plain (h := ?_) | apply G.skip | apply Dn.next | refine G.condPF (ht := ?_) | refine G.draw (id := 5) [] (h := ?_) | refine R.enter0 (h := ?_) | refine R.nil (h := ?_) | refine R.move (h := ?_) | refine R.assign (h := ?_) | refine R.fieldAddr (h := ?_) | refine R.load1 (h := ?_) | refine R.extract (h := ?_) | refine R.neq (h := ?_) | refine R.addw (h := ?_) | refine R.mulw (h := ?_) | refine R.remw (h := ?_) | refine R.convert (h := ?_))
  refine R.call (hct := hAn) (h := ?_)
  rintro _ _ ⟨ba, ca, rfl, har, rfl⟩
  try dsimp only [List.cons_append, List.nil_append]
  repeat (first | refine R.enter0 (h := ?_))
  refine R.call (hct := hSn) (h := ?_)
  rintro _ _ ⟨bs, cs, rfl, hsp, rfl⟩
  try dsimp only [List.cons_append, List.nil_append]
  have hFn := FileNew_ct bd ba bs
  repeat (first | refine R.enter0 (h := ?_))
  refine R.call (hct := hFn) (h := ?_)
  rintro _ _ ⟨bw, rfl, rfl⟩
  try dsimp only [List.cons_append, List.nil_append]
  repeat (first | apply G.ret | apply Dn.next | refine R.enter0 (h := ?_) | refine R.nil (h := ?_) | refine R.move (h := ?_) | refine R.assign (h := ?_))
  (refine Dn.post (Hr := [wrow bw bd ba bs, cd, ca, cs]) Tryz.results9 (hR := ?_); exact ⟨bw, bd, ba, bs, cd, ca, cs, rfl, rfl, wc0 (by omega) hdev har hsp⟩)
theorem okT_mk {k : Nat} {t : T5} (h : ∀ c ∈ t.toList, inI64 c) (hz : fitsB k t = true) : okT k t := ⟨h, fun i hi => by
  by_cases h5 : i < 5
  · exact fitsB_iff.1 hz i h5 hi
  · obtain ⟨j, rfl⟩ : ∃ j, i = j + 5 := ⟨i - 5, by omega⟩
    rfl⟩
theorem big0 (s n room : Nat) : big (wk0 s n room).σ.free = n := by simp [wk0, big]
theorem sort_is {o : T5} {once : Bool} {l a b : List T5} (h1 : Sd (ltO o) once a) (h2 : Go.Srt.Sp (ltO o) once l a) (h3 : Sd (ltO o) once b) (h4 : Go.Srt.Sp (ltO o) once l b) : a = b :=
  unique1 (ltO_swo o) h1 h3 (h2.symm.trans h4)
set_option maxHeartbeats 1000000 in
theorem awakeS_ct : CtQ Tryz.prog 10 [] [] (.bool true) := by
  have hWk := workS_ct 0 20 0 0 (by omega) (by omega) (by omega)
  have hWk' : Ct Tryz.prog 9 [.agg #[.int .u8 0, .int .u8 20, .int .u8 0, .int .u8 0]] [] fun v H' =>
    ∃ bw bd ba bs cd ca cs, v = .tuple #[pv bw, .int .i64 8] ∧ H' = [wrow bw bd ba bs, cd, ca, cs] ∧ Wc bd ba bs (wk0 8 4000 160) cd ca cs := hWk
  clear hWk
  refine Ct.intro Tryz.func10 rfl Tryz.ntmps10 (nle rfl) fun w0 => ?_; dsimp only [argSlots, Nat.reduceAdd]
  repeat (first | apply G.seq | refine G.plain (h := ?_) | apply Dn.next | refine R.enter0 (h := ?_) | refine R.nil (h := ?_) | refine R.assign (h := ?_) | refine R.build (h := ?_))
  refine R.call (hct := hWk') (h := ?_)
  rintro _ _ ⟨bw, bd, ba, bs, cd, ca, cs, rfl, rfl, hW⟩
  try dsimp only [List.cons_append, List.nil_append]
  repeat (first | apply G.seq | refine G.plain (h := ?_) | apply Dn.next | refine R.enter0 (h := ?_) | refine R.nil (h := ?_) | refine R.move (h := ?_) | refine R.assign (h := ?_) | refine R.extract (h := ?_) | refine R.build (h := ?_) | (refine R.buildSlice (h := ?_); intro _))
  rename_i bl
  have hRV : RV (some ⟨bl, 0, none⟩) 3 [⟨1, 0, 0, 0, 0⟩, ⟨3, 0, 0, 0, 0⟩, ⟨2, 0, 0, 0, 0⟩] [(bl, row [.int .i64 1, .int .i64 0, .int .i64 0, .int .i64 0, .int .i64 0, .int .i64 3, .int .i64 0, .int .i64 0, .int .i64 0, .int .i64 0, .int .i64 2, .int .i64 0, .int .i64 0, .int .i64 0, .int .i64 0] 47)] :=
    ⟨rfl, .inr ⟨bl, 0, _, _, _, rfl, rfl, rfl⟩⟩
  have hLy := Lay_ct bw bd ba bs _ cd ca cs hW 1 (by omega) (by omega) _ 3 3 _ _ hRV (by omega) (by
    intro t ht
    simp only [List.mem_cons, List.not_mem_nil, or_false] at ht
    rcases ht with rfl | rfl | rfl
    all_goals
      refine okT_mk (fun c hc => ?_) rfl
      simp only [T5.toList, List.mem_cons, List.not_mem_nil, or_false] at hc
      unfold inI64; omega) (by decide) rfl (by decide)
  refine R.call (hct := hLy) (h := ?_)
  rintro _ _ ⟨cd1, ca1, cs1, W1, rfl, hW1, hE1, hK1, hg1, ⟨_, f, rfl, hl1, hf1, hf2, hfo⟩ | ⟨hb, _⟩⟩
  try dsimp only [List.cons_append, List.nil_append]
  · have hflv : flv f = .agg #[.int .i64 (f.first : Int), .int .i64 (f.blocks : Int), .int .i64 (f.width : Int), .int .i64 (f.count : Int)] := rfl
    rw [hflv]
    have hsz1 : W1.δ.size = 8 := hE1.size
    have hrm1 : W1.α.room = 160 := hE1.room
    have hus1 : W1.α.used = 0 := by rw [hW1.ar.num.2.2.2, (hg1.map (·.n)).sum_nat]; rfl
    have hac1 : W1.δ.acts ≤ 0 + nblocks 8 1 3 := hE1.acts.2
    have hbg1 : 4000 ≤ big W1.σ.free + nblocks 8 1 3 := by have := hE1.big; rw [big0] at this; exact this
    have hn1 : nblocks 8 1 3 = 1 := by decide
    have hflt1 : W1.δ.fault = -1 := hE1.fault rfl
    rw [show (wk0 8 4000 160).δ.size = 8 from rfl] at hfo
    have hSo := Sort_u bw bd ba bs W1 cd1 ca1 cs1 hW1 f _ [] (by rw [hsz1]; exact hfo) (by rw [hl1]; exact .refl _) ⟨-1, 0, 0, 0, 0⟩ (by decide) false (by omega) (by omega) (by omega)
    rw [hflv] at hSo
    have hfb : f.blocks = 1 := by rw [hfo.blk, hf1, hf2, hn1]
    have hsT : sortT f.blocks = 2 := by rw [hfb]; unfold sortT; rw [lgq_one (by omega)]
    have hsA : sortA f.blocks = 3 := by rw [hfb]; unfold sortA; rw [lgq_one (by omega)]
    rw [hsT, hsA, hsz1] at hSo
    repeat (first | apply G.seq | refine G.plain (h := ?_) | apply Dn.next | refine R.enter0 (h := ?_) | refine R.nil (h := ?_) | refine R.move (h := ?_) | refine R.assign (h := ?_) | refine R.loadN (h := ?_) | refine R.storeN (h := ?_) | (refine R.alloc (h := ?_); intro _) | refine R.extract (h := ?_) | refine R.build (h := ?_))
    refine R.call (hct := hSo) (h := ?_)
    rintro _ _ ⟨cd2, ca2, cs2, W2, rfl, hW2, hE2, hg2, hK2, ⟨g, out, rfl, hl2, hgw, hgc, hgo, hsd, hsp⟩ | ⟨_, hb, _⟩ | ⟨_, hb, _⟩⟩
    try dsimp only [List.cons_append, List.nil_append]
    · have hout : out = [⟨3, 0, 0, 0, 0⟩, ⟨2, 0, 0, 0, 0⟩, ⟨1, 0, 0, 0, 0⟩] := by
        refine sort_is hsd hsp (by unfold Sd; decide) ?_
        exact Go.Srt.Sp.swap (ltO_swo _) (v := [⟨1, 0, 0, 0, 0⟩]) (x := [⟨3, 0, 0, 0, 0⟩, ⟨2, 0, 0, 0, 0⟩]) (by decide)
      subst hout
      have hgl := hgo.len
      have hgflv : flv g = .agg #[.int .i64 (g.first : Int), .int .i64 (g.blocks : Int), .int .i64 (g.width : Int), .int .i64 (g.count : Int)] := rfl
      have hg3 : g.count = 3 := hgl.symm
      obtain ⟨Lv, hgo2, hsb2⟩ := fo_sub hgo hl2
      have hus2 : W2.α.used = 0 := (used_eq hW1 hW2 hg2).trans hus1
      have hrm2 : W2.α.room = 160 := hE2.room.trans hrm1
      have hsz2 : W2.δ.size = 8 := hE2.size.trans hsz1
      have hLi := List_ct bw bd ba bs W2 cd2 ca2 cs2 hW2 g _ Lv (by rw [hsz2]; exact hgo2) hsb2 (by omega) (hE2.fault hflt1) (by have := hE2.acts.2; omega) (by omega)
      rw [hgflv, hg3] at hLi
      rw [hgflv, hg3]
      repeat (first | apply G.seq | refine G.plain (h := ?_) | apply Dn.next | refine R.enter0 (h := ?_) | refine R.nil (h := ?_) | refine R.move (h := ?_) | refine R.assign (h := ?_) | refine R.loadN (h := ?_) | refine R.storeN (h := ?_) | (refine R.alloc (h := ?_); intro _) | refine R.extract (h := ?_))
      refine R.call (hct := hLi) (h := ?_)
      rintro _ _ ⟨cd3, ca3, W3, p3, cap3, co, rfl, rfl, hW3, hE3, hd3, hl3, hg3', hV3⟩
      try dsimp only [List.cons_append, List.nil_append]
      obtain ⟨_, h0 | ⟨vb, rest, rfl, rfl, hvl, hmc, hcm⟩⟩ := hV3
      · omega
      have hfl : flat [⟨3, 0, 0, 0, 0⟩, ⟨2, 0, 0, 0, 0⟩, ⟨1, 0, 0, 0, 0⟩] = [.int .i64 3, .int .i64 0, .int .i64 0, .int .i64 0, .int .i64 0, .int .i64 2, .int .i64 0, .int .i64 0, .int .i64 0, .int .i64 0, .int .i64 1, .int .i64 0, .int .i64 0, .int .i64 0, .int .i64 0] := rfl
      rw [hfl]
      repeat (first | apply G.seq | refine G.plain (h := ?_) | apply G.ret | apply Dn.next | refine R.enter0 (h := ?_) | refine R.nil (h := ?_) | refine R.enterT (h := ?_) | refine R.splitT (ht := ?_) | refine R.move (h := ?_) | refine R.assign (h := ?_) | refine R.load1 (h := ?_) | refine R.extract (h := ?_) | refine R.pickT (h := ?_) | refine R.eql (h := ?_) | refine R.len (h := ?_) | refine R.indexAddr (h := ?_) | refine R.indexAddrA (h := ?_))
      (refine Dn.post (Hr := []) Tryz.results10 (hR := ?_); exact ⟨congrArg Value.bool (dec_true rfl), rfl⟩)
    · omega
    · exact absurd hflt1 hb
  · rw [big0] at hb
    exact absurd hb (by decide)
end Go.Proofs.YtdkihpjnidhnmaaGreat
namespace Go.Proofs.YtdkihpjnidhnmaaGreat
open Go.SL Go.Tup
def colI (k : Int) : Int := if k < 0 then -k - 1 else k - 1
theorem column_ct (k : Int) (h : -9223372036854775807 ≤ k ∧ k ≤ 9223372036854775807) : CtQ Tryz.prog 70 [.int .i64 k] [] (.int .i64 (colI k)) := by
  refine Ct.intro Tryz.func70 rfl Tryz.ntmps70 (nle rfl) fun w0 => ?_; dsimp only [argSlots, Nat.reduceAdd]
  unfold colI
  by_cases hn : k < 0
  · rw [if_pos hn]
    repeat (first | apply G.seq | refine G.plain (h := ?_) | apply G.ret | apply Dn.next | apply Dn.retThen | refine G.condPT (ht := ?_) | refine R.enter0 (h := ?_) | refine R.nil (h := ?_) | refine R.move (h := ?_) | refine R.assign (h := ?_) | refine R.lss (h := ?_) | refine R.subw (h := ?_) | refine R.negw (h := ?_))
    (refine Dn.post (Hr := []) Tryz.results70 (hR := ?_); exact ⟨rfl, rfl⟩)
  · rw [if_neg hn]
    repeat (first | apply G.seq | refine G.plain (h := ?_) | apply G.skip | apply G.ret | apply Dn.next | refine G.condPF (ht := ?_) | refine R.enter0 (h := ?_) | refine R.nil (h := ?_) | refine R.move (h := ?_) | refine R.assign (h := ?_) | refine R.lss (h := ?_) | refine R.subw (h := ?_))
    (refine Dn.post (Hr := []) Tryz.results70 (hR := ?_); exact ⟨rfl, rfl⟩)
theorem getD_get {o0 o1 o2 o3 o4 : Int} {i : Nat} (h : i < 5) :
    ([.int .i64 o0, .int .i64 o1, .int .i64 o2, .int .i64 o3, .int .i64 o4] : List Value)[i]? = some (.int .i64 ([o0, o1, o2, o3, o4].getD i 0)) := by
  match i, h with
  | 0, _ => rfl
  | 1, _ => rfl
  | 2, _ => rfl
  | 3, _ => rfl
  | 4, _ => rfl
set_option maxHeartbeats 2000000 in
theorem rFormed_ct (o0 o1 o2 o3 o4 : Int) : CtQ Tryz.prog 52 [.agg #[.int .i64 o0, .int .i64 o1, .int .i64 o2, .int .i64 o3, .int .i64 o4]] [] (.bool (formed ⟨o0, o1, o2, o3, o4⟩)) := by
  refine Ct.intro Tryz.func52 rfl Tryz.ntmps52 (nle rfl) fun w0 => ?_; dsimp only [argSlots, Nat.reduceAdd]
  have hF := formed_iff ⟨o0, o1, o2, o3, o4⟩
  simp only [T5.toList] at hF
  generalize hl : [o0, o1, o2, o3, o4] = lo at hF
  have hg : ∀ i, i < 5 → ([.int .i64 o0, .int .i64 o1, .int .i64 o2, .int .i64 o3, .int .i64 o4] : List Value)[i]? = some (.int .i64 (lo.getD i 0)) := fun i hi => by rw [← hl]; exact getD_get hi
  clear hl
  generalize formed ⟨o0, o1, o2, o3, o4⟩ = ff at hF
  have hno : ∀ i, i < 5 → ¬ ((-5 ≤ lo.getD i 0 ∧ lo.getD i 0 ≤ 5) ∧ ∀ k, k < i → apartO (lo.getD k 0) (lo.getD i 0)) → ff = false := by
    intro i hi hn
    cases ff with
    | false => rfl
    | true => exact absurd (hF.1 rfl i hi) hn
  repeat (first | apply G.seq | refine G.plain (h := ?_) | apply G.block | apply Dn.next | refine R.enter0 (h := ?_) | refine R.nil (h := ?_) | refine R.assign (h := ?_) | (refine R.box (h := ?_); intro _))
  rename_i b1
  refine G.loop (X := Nat) (fun i => i ≤ 5 ∧ ∀ j, j < i → (-5 ≤ lo.getD j 0 ∧ lo.getD j 0 ≤ 5) ∧ ∀ k, k < j → apartO (lo.getD k 0) (lo.getD j 0))
    (fun i => [(3, .int .i64 (i : Int)), (1, .pointer (some ⟨b1, 0, none⟩))])
    (fun _ => [[(b1, row [.int .i64 o0, .int .i64 o1, .int .i64 o2, .int .i64 o3, .int .i64 o4] 104)]])
    (fun i => 5 - i) 0 ⟨by decide, fun j hj => by omega⟩ (body := ?_)
  rintro i ⟨hi, hall⟩
  by_cases h5 : i < 5
  · have hgi := hg i h5
    by_cases hb : -5 ≤ lo.getD i 0 ∧ lo.getD i 0 ≤ 5
    · obtain ⟨hb1, hb2⟩ := hb
      generalize hy : lo.getD i 0 = y at *
      repeat (first | apply G.seq | refine G.plain (h := ?_) | apply G.block | apply G.skip | apply Dn.next | refine G.condPT (ht := ?_) | refine G.condPF (ht := ?_) | refine R.enter0 (h := ?_) | refine R.nil (h := ?_) | refine R.enterT (h := ?_) | refine R.splitF (ht := ?_) | refine R.move (h := ?_) | refine R.assign (h := ?_) | refine R.load1 (h := ?_) | refine R.pickF (h := ?_) | refine R.lss (h := ?_) | refine R.gtr (h := ?_) | refine R.indexAddrA (h := ?_))
      refine G.loop (X := Nat) (fun k => k ≤ i ∧ ∀ j, j < k → apartO (lo.getD j 0) y)
        (fun k => [(4, .int .i64 (k : Int)), (3, .int .i64 (i : Int)), (1, .pointer (some ⟨b1, 0, none⟩))])
        (fun _ => [[(b1, row [.int .i64 o0, .int .i64 o1, .int .i64 o2, .int .i64 o3, .int .i64 o4] 104)]])
        (fun k => i - k) 0 ⟨by omega, fun j hj => by omega⟩ (body := ?_)
      rintro k ⟨hk, hpre⟩
      by_cases hki : k < i
      · have hgk := hg k (by omega)
        obtain ⟨hx1, hx2⟩ := (hall k hki).1
        generalize hx : lo.getD k 0 = x at *
        have hcol : (colI x = colI y) ↔ (x.natAbs = y.natAbs ∨ (x = 0 ∧ y = 0)) := by unfold colI; split <;> split <;> omega
        by_cases hp : apartO x y
        · unfold apartO at hp
          repeat' (first | apply G.seq | refine G.plain (h := ?_) | apply G.block | apply G.skip | refine G.condF (h := ?_) | apply Dn.next | apply Dn.blockEnd | refine G.condPT (ht := ?_) | refine G.condPF (ht := ?_) | refine G.draw (id := 9) [(19, .quiet), (23, .quiet)] (h := ?_) | refine R.enter0 (h := ?_) | refine R.nil (h := ?_) | refine R.enterT (h := ?_) | refine R.skip (h := ?_) | refine R.splitF (ht := ?_) | refine R.move (h := ?_) | refine R.assign (h := ?_) | refine R.load1 (h := ?_) | refine R.pickT (h := ?_) | refine R.pickF (h := ?_) | refine R.lss (h := ?_) | refine R.eql (h := ?_) | refine R.neq (h := ?_) | refine R.addw (h := ?_) | refine R.indexAddrA (h := ?_) | refine R.callQ (hct := by apply column_ct <;> (first | omega | assumption)) (h := ?_) | (apply R.split; exact rfl; exact rfl; exact rfl; intro _; rotate_left; intro _; rotate_right))
          all_goals first | (exfalso; omega) | skip
          all_goals exact Dn.round (k + 1) ⟨by omega, fun j hj => by
            by_cases hjk : j < k
            · exact hpre j hjk
            · obtain rfl : j = k := by omega
              rw [hx]; exact hp⟩ (by omega)
        · have hff : ff = false := hno i h5 (fun h => hp (by have := h.2 k hki; rwa [hx, hy] at this))
          unfold apartO at hp
          repeat' (first | apply G.seq | refine G.plain (h := ?_) | apply G.block | apply G.skip | apply G.ret | refine G.condT (h := ?_) | apply Dn.next | apply Dn.retThen | apply Dn.retBlock | refine G.condPT (ht := ?_) | refine G.draw (id := 9) [(19, .quiet), (23, .quiet)] (h := ?_) | refine R.enter0 (h := ?_) | refine R.nil (h := ?_) | refine R.enterT (h := ?_) | refine R.skip (h := ?_) | refine R.skipU (h := ?_) | refine R.splitT (ht := ?_) | refine R.move (h := ?_) | refine R.assign (h := ?_) | refine R.load1 (h := ?_) | refine R.pickT (h := ?_) | refine R.pickF (h := ?_) | refine R.lss (h := ?_) | refine R.eql (h := ?_) | refine R.neq (h := ?_) | refine R.indexAddrA (h := ?_) | refine R.callQ (hct := by apply column_ct <;> (first | omega | assumption)) (h := ?_) | (apply R.split; exact rfl; exact rfl; exact rfl; intro _; rotate_left; intro _; rotate_right))
          all_goals first | (exfalso; omega) | skip
          all_goals (refine Dn.post (Hr := []) Tryz.results52 (hR := ?_); exact ⟨by rw [hff]; rfl, rfl⟩)
      · repeat (first | apply G.seq | refine G.plain (h := ?_) | apply G.exit | apply Dn.next | apply Dn.blockEnd | apply Dn.exitHere | apply Dn.exitThen | refine G.condPF (ht := ?_) | refine R.enter0 (h := ?_) | refine R.nil (h := ?_) | refine R.move (h := ?_) | refine R.assign (h := ?_) | refine R.lss (h := ?_) | refine R.addw (h := ?_))
        exact Dn.round (i + 1) ⟨by omega, fun j hj => by
          by_cases hji : j < i
          · exact hall j hji
          · obtain rfl : j = i := by omega
            rw [hy]; exact ⟨⟨hb1, hb2⟩, fun k' hk' => hpre k' (by omega)⟩⟩ (by omega)
    · have hff : ff = false := hno i h5 (fun h => hb h.1)
      repeat' (first | apply G.seq | refine G.plain (h := ?_) | apply G.block | apply G.skip | apply G.ret | refine G.condT (h := ?_) | apply Dn.next | apply Dn.retThen | apply Dn.retBlock | refine G.condPT (ht := ?_) | refine R.enter0 (h := ?_) | refine R.nil (h := ?_) | refine R.enterT (h := ?_) | refine R.skip (h := ?_) | refine R.move (h := ?_) | refine R.assign (h := ?_) | refine R.load1 (h := ?_) | refine R.pickT (h := ?_) | refine R.pickF (h := ?_) | refine R.lss (h := ?_) | refine R.gtr (h := ?_) | refine R.indexAddrA (h := ?_) | (apply R.split; exact rfl; exact rfl; exact rfl; intro _; rotate_left; intro _; rotate_right))
      all_goals first | (exfalso; omega) | skip
      all_goals (refine Dn.post (Hr := []) Tryz.results52 (hR := ?_); exact ⟨by rw [hff]; rfl, rfl⟩)
  · have hff : ff = true := hF.2 fun j hj => hall j (by omega)
    repeat (first | apply G.seq | refine G.plain (h := ?_) | apply G.exit | apply G.ret | apply Dn.next | apply Dn.exitHere | apply Dn.exitThen | refine G.condPF (ht := ?_) | refine R.enter0 (h := ?_) | refine R.nil (h := ?_) | refine R.move (h := ?_) | refine R.assign (h := ?_) | refine R.lss (h := ?_))
    (refine Dn.post (Hr := []) Tryz.results52 (hR := ?_); exact ⟨by rw [hff]; rfl, rfl⟩)
/-- one column of a tuple, by the reference's own number -/
theorem col_getI (a0 a1 a2 a3 a4 k : Int) (h0 : k ≠ 0) (h1 : -5 ≤ k) (h2 : k ≤ 5) :
    ([.int .i64 a0, .int .i64 a1, .int .i64 a2, .int .i64 a3, .int .i64 a4] : List Value)[(colI k).toNat]? = some (.int .i64 (T5.col ⟨a0, a1, a2, a3, a4⟩ (k.natAbs - 1))) := by
  have e : (colI k).toNat = k.natAbs - 1 := by unfold colI; split <;> omega
  rw [e]
  obtain h | h | h | h | h : k.natAbs = 1 ∨ k.natAbs = 2 ∨ k.natAbs = 3 ∨ k.natAbs = 4 ∨ k.natAbs = 5 := by omega
  all_goals rw [h]; rfl
set_option maxHeartbeats 2000000 in
theorem rCompare_ct (a0 a1 a2 a3 a4 c0 c1 c2 c3 c4 o0 o1 o2 o3 o4 : Int) :
    CtQ Tryz.prog 71 [.agg #[.int .i64 a0, .int .i64 a1, .int .i64 a2, .int .i64 a3, .int .i64 a4], .agg #[.int .i64 c0, .int .i64 c1, .int .i64 c2, .int .i64 c3, .int .i64 c4],
      .agg #[.int .i64 o0, .int .i64 o1, .int .i64 o2, .int .i64 o3, .int .i64 o4]] [] (.int .i64 (cmpT ⟨o0, o1, o2, o3, o4⟩ ⟨a0, a1, a2, a3, a4⟩ ⟨c0, c1, c2, c3, c4⟩)) := by
  refine Ct.intro Tryz.func71 rfl Tryz.ntmps71 (nle rfl) fun w0 => ?_; dsimp only [argSlots, Nat.reduceAdd]
  by_cases hF : formed ⟨o0, o1, o2, o3, o4⟩ = true
  · have hfb := formed_bounds hF
    simp only [T5.toList] at hfb
    simp only [cmpT, hF, if_true, T5.toList]
    generalize hres : cmpL [o0, o1, o2, o3, o4] ⟨a0, a1, a2, a3, a4⟩ ⟨c0, c1, c2, c3, c4⟩ = res
    repeat (first | apply G.seq | refine G.plain (h := ?_) | apply G.block | apply Dn.next | refine R.enter0 (h := ?_) | refine R.nil (h := ?_) | refine R.assign (h := ?_) | (refine R.box (h := ?_); intro _))
    rename_i b1 b2 b3
    refine G.loop (X := Nat) (fun i => i ≤ 5 ∧ res = cmpL ([o0, o1, o2, o3, o4].drop i) ⟨a0, a1, a2, a3, a4⟩ ⟨c0, c1, c2, c3, c4⟩)
      (fun i => [(7, .int .i64 (i : Int)), (3, .pointer (some ⟨b1, 0, none⟩)), (4, .pointer (some ⟨b2, 0, none⟩)), (5, .pointer (some ⟨b3, 0, none⟩))])
      (fun _ => [[(b1, row [.int .i64 a0, .int .i64 a1, .int .i64 a2, .int .i64 a3, .int .i64 a4] 47)], [(b2, row [.int .i64 c0, .int .i64 c1, .int .i64 c2, .int .i64 c3, .int .i64 c4] 47)],
        [(b3, row [.int .i64 o0, .int .i64 o1, .int .i64 o2, .int .i64 o3, .int .i64 o4] 104)]])
      (fun i => 5 - i) 0 ⟨by decide, hres.symm⟩ (body := ?_)
    rintro i ⟨hi, hf⟩
    by_cases h5 : i < 5
    · obtain ⟨k, hk, hd, hm⟩ := five_get o0 o1 o2 o3 o4 i h5
      obtain ⟨hk1, hk2⟩ := hfb k hm
      rw [hd, cmpL] at hf
      by_cases h0 : k = 0
      · rw [if_pos h0] at hf
        repeat (first | apply G.seq | refine G.plain (h := ?_) | apply G.block | apply G.skip | apply G.ret | apply Dn.next | apply Dn.retThen | apply Dn.retBlock | refine G.condVT (h := ?_) | refine G.condPT (ht := ?_) | refine R.enter0 (h := ?_) | refine R.nil (h := ?_) | refine R.enterT (h := ?_) | refine R.splitT (ht := ?_) | refine R.move (h := ?_) | refine R.assign (h := ?_) | refine R.load1 (h := ?_) | refine R.loadN (h := ?_) | refine R.pickT (h := ?_) | refine R.lss (h := ?_) | refine R.eql (h := ?_) | refine R.indexAddrA (h := ?_) | refine R.callP (hct := by apply rFormed_ct <;> (first | omega | assumption)) (h := ?_))
        (refine Dn.post (Hr := []) Tryz.results71 (hR := ?_); exact ⟨congrArg (Value.int .i64) hf.symm, rfl⟩)
      · rw [if_neg h0] at hf
        have g1 := col_getI a0 a1 a2 a3 a4 k h0 hk1 hk2
        have g2 := col_getI c0 c1 c2 c3 c4 k h0 hk1 hk2
        have hcol : 0 ≤ colI k ∧ colI k < 5 := by unfold colI; split <;> omega
        obtain ⟨hcol1, hcol2⟩ := hcol
        generalize T5.col ⟨a0, a1, a2, a3, a4⟩ (k.natAbs - 1) = x at *
        generalize T5.col ⟨c0, c1, c2, c3, c4⟩ (k.natAbs - 1) = y at *
        by_cases hxy : x = y
        · have hz : (if k < 0 then cmp3 y x else cmp3 x y) = 0 := by subst hxy; unfold cmp3; split <;> simp
          simp only [hz] at hf
          rw [if_neg (by simp)] at hf
          repeat (first | apply G.seq | refine G.plain (h := ?_) | apply G.block | apply G.skip | apply Dn.next | apply Dn.blockEnd | refine G.condVT (h := ?_) | refine G.condPF (ht := ?_) | refine G.draw (id := 6) [(3, .quiet), (9, .quiet)] (h := ?_) | refine R.enter0 (h := ?_) | refine R.nil (h := ?_) | refine R.enterT (h := ?_) | refine R.splitT (ht := ?_) | refine R.move (h := ?_) | refine R.assign (h := ?_) | refine R.load1 (h := ?_) | refine R.loadN (h := ?_) | refine R.pickT (h := ?_) | refine R.lss (h := ?_) | refine R.eql (h := ?_) | refine R.neq (h := ?_) | refine R.addw (h := ?_) | refine R.indexAddrA (h := ?_) | refine R.callP (hct := by apply rFormed_ct <;> (first | omega | assumption)) (h := ?_) | refine R.callQ (hct := by apply column_ct <;> (first | omega | assumption)) (h := ?_))
          exact Dn.round (i + 1) ⟨by omega, hf⟩ (by omega)
        · have hz : (if k < 0 then cmp3 y x else cmp3 x y) = if (dec (x < y) == dec (0 < k)) = true then -1 else 1 := by
            simp only [dec_eq]
            unfold cmp3
            by_cases h1 : k < 0 <;> by_cases h2 : x < y
            · have : ¬ 0 < k := by omega
              have : ¬ y < x := by omega
              simp [*]
            · have : ¬ 0 < k := by omega
              have : y < x := by omega
              simp [*]
            · have : 0 < k := by omega
              simp [*]
            · have : 0 < k := by omega
              have : y < x := by omega
              simp [*]
          simp only [hz] at hf
          by_cases hb : (dec (x < y) == dec (0 < k)) = true
          · simp only [hb, if_true] at hf
            rw [if_pos (by decide)] at hf
            repeat (first | apply G.seq | refine G.plain (h := ?_) | apply G.block | apply G.skip | apply G.ret | apply Dn.next | apply Dn.retThen | apply Dn.retBlock | refine G.condVT (h := ?_) | refine G.condPT (ht := ?_) | refine G.condPF (ht := ?_) | refine G.draw (id := 6) [(3, .quiet), (9, .quiet)] (h := ?_) | refine R.enter0 (h := ?_) | refine R.nil (h := ?_) | refine R.enterT (h := ?_) | refine R.splitT (ht := ?_) | refine R.move (h := ?_) | refine R.assign (h := ?_) | refine R.load1 (h := ?_) | refine R.loadN (h := ?_) | refine R.pickT (h := ?_) | refine R.lss (h := ?_) | refine R.gtr (h := ?_) | refine R.eql (h := ?_) | refine R.neq (h := ?_) | refine R.eqlBool (h := ?_) | refine R.indexAddrA (h := ?_) | refine R.callP (hct := by apply rFormed_ct <;> (first | omega | assumption)) (h := ?_) | refine R.callQ (hct := by apply column_ct <;> (first | omega | assumption)) (h := ?_))
            (refine Dn.post (Hr := []) Tryz.results71 (hR := ?_); exact ⟨congrArg (Value.int .i64) hf.symm, rfl⟩)
          · simp only [hb] at hf
            rw [if_pos (by decide), if_neg (by decide)] at hf
            simp only [Bool.not_eq_true] at hb
            repeat (first | apply G.seq | refine G.plain (h := ?_) | apply G.block | apply G.skip | apply G.ret | apply Dn.next | apply Dn.retThen | apply Dn.retBlock | refine G.condVT (h := ?_) | refine G.condVF (h := ?_) | refine G.condPT (ht := ?_) | refine G.condPF (ht := ?_) | refine G.draw (id := 6) [(3, .quiet), (9, .quiet)] (h := ?_) | refine R.enter0 (h := ?_) | refine R.nil (h := ?_) | refine R.enterT (h := ?_) | refine R.splitT (ht := ?_) | refine R.move (h := ?_) | refine R.assign (h := ?_) | refine R.load1 (h := ?_) | refine R.loadN (h := ?_) | refine R.pickT (h := ?_) | refine R.lss (h := ?_) | refine R.gtr (h := ?_) | refine R.eql (h := ?_) | refine R.neq (h := ?_) | refine R.eqlBool (h := ?_) | refine R.indexAddrA (h := ?_) | refine R.callP (hct := by apply rFormed_ct <;> (first | omega | assumption)) (h := ?_) | refine R.callQ (hct := by apply column_ct <;> (first | omega | assumption)) (h := ?_))
            (refine Dn.post (Hr := []) Tryz.results71 (hR := ?_); exact ⟨congrArg (Value.int .i64) hf.symm, rfl⟩)
    · repeat (first | apply G.seq | refine G.plain (h := ?_) | apply G.exit | apply G.ret | refine G.condF (h := ?_) | apply Dn.next | apply Dn.exitHere | apply Dn.exitThen | refine R.enter0 (h := ?_) | refine R.nil (h := ?_) | refine R.skip (h := ?_) | refine R.splitF (ht := ?_) | refine R.move (h := ?_) | refine R.assign (h := ?_) | refine R.pickF (h := ?_) | refine R.lss (h := ?_))
      obtain rfl : i = 5 := by omega
      (refine Dn.post (Hr := []) Tryz.results71 (hR := ?_); exact ⟨congrArg (Value.int .i64) hf.symm, rfl⟩)
  · simp only [Bool.not_eq_true] at hF
    simp only [cmpT, hF]
    repeat (first | apply G.seq | refine G.plain (h := ?_) | apply G.block | apply Dn.next | refine R.enter0 (h := ?_) | refine R.nil (h := ?_) | refine R.assign (h := ?_) | (refine R.box (h := ?_); intro _))
    rename_i b1 b2 b3
    refine G.loop (X := Unit) (fun _ => True)
      (fun _ => [(7, .int .i64 0), (3, .pointer (some ⟨b1, 0, none⟩)), (4, .pointer (some ⟨b2, 0, none⟩)), (5, .pointer (some ⟨b3, 0, none⟩))])
      (fun _ => [[(b1, row [.int .i64 a0, .int .i64 a1, .int .i64 a2, .int .i64 a3, .int .i64 a4] 47)], [(b2, row [.int .i64 c0, .int .i64 c1, .int .i64 c2, .int .i64 c3, .int .i64 c4] 47)],
        [(b3, row [.int .i64 o0, .int .i64 o1, .int .i64 o2, .int .i64 o3, .int .i64 o4] 104)]])
      (fun _ => 0) () trivial (body := ?_)
    rintro _ _
    repeat (first | apply G.seq | refine G.plain (h := ?_) | apply G.exit | apply G.ret | apply Dn.next | apply Dn.exitHere | apply Dn.exitThen | refine G.condVF (h := ?_) | refine R.enter0 (h := ?_) | refine R.nil (h := ?_) | refine R.enterT (h := ?_) | refine R.splitT (ht := ?_) | refine R.move (h := ?_) | refine R.assign (h := ?_) | refine R.loadN (h := ?_) | refine R.pickT (h := ?_) | refine R.lss (h := ?_) | refine R.callP (hct := by apply rFormed_ct <;> (first | omega | assumption)) (h := ?_))
    (refine Dn.post (Hr := []) Tryz.results71 (hR := ?_); exact ⟨rfl, rfl⟩)
end Go.Proofs.YtdkihpjnidhnmaaGreat
namespace Go.Proofs.YtdkihpjnidhnmaaGreat
open Go.SL Go.Spc Go.Tup Go.Srt
theorem vec_posR {E : Nat} {p : Option Addr} {m cap : Nat} {ts : List T5} {c : Chunk} (h : Vec E 5 p m cap (flat ts) c) (hm : 0 < m) : ∃ b rest, p = some ⟨b, 0, none⟩ ∧ c = [(b, row (flat ts ++ rest) E)] ∧
    (flat ts).length + rest.length = cap * 5 ∧ m ≤ cap ∧ cap ≤ maxLen := by
  rcases h.2 with ⟨_, h0, _, _⟩ | ⟨b, rest, hp, hc, h1, h2, h3⟩
  · omega
  · exact ⟨b, rest, hp, hc, h1, h2, h3⟩
theorem flat_readR (ts : List T5) (rest : List Value) (i : Nat) (hi : i < ts.length) : ((flat ts ++ rest).drop (i * 5)).take 5 = tcells (at5 ts i) := by
  have hl := flat_length ts
  rw [List.drop_append_of_le_length (by omega), flat_drop, List.drop_eq_getElem_cons hi, flat, List.append_assoc, List.take_left' (by simp [tcells])]
  simp [at5, List.getD_eq_getElem?_getD, hi]
theorem ext_at5 {a b : List T5} (hl : a.length = b.length) (h : ∀ j, j < a.length → at5 a j = at5 b j) : a = b := by
  apply List.ext_getElem hl
  intro i h1 h2
  have := h i h1
  simpa [at5, List.getD_eq_getElem?_getD, h1, h2] using this
theorem at5_get {ts : List T5} {i : Nat} (h : i < ts.length) : at5 ts i = ts[i] := by simp [at5, List.getD_eq_getElem?_getD, h]
/-- one put where it belongs -/
theorem ins_at {us : List T5} {k : Nat} {x : T5} (hk : k ≤ us.length) (j : Nat) : at5 (us.take k ++ x :: us.drop k) j = if j < k then at5 us j else if j = k then x else at5 us (j - 1) := by
  unfold at5
  simp only [List.getD_eq_getElem?_getD]
  have hl : (us.take k).length = k := by rw [List.length_take]; omega
  by_cases h1 : j < k
  · rw [if_pos h1, List.getElem?_append_left (by omega), List.getElem?_take_of_lt h1]
  · rw [if_neg h1, List.getElem?_append_right (by omega), hl]
    by_cases h2 : j = k
    · subst h2; simp
    · obtain ⟨i, hi⟩ : ∃ i, j - k = i + 1 := ⟨j - k - 1, by omega⟩
      rw [if_neg h2, hi, List.getElem?_cons_succ, List.getElem?_drop, show k + i = j - 1 by omega]
theorem ins_law {o : T5} {once : Bool} {l us : List T5} {k : Nat} {x : T5} (hk : k ≤ us.length) (hs : Sd (ltO o) once us) (hp : Go.Srt.Sp (ltO o) once l us) (h1 : ∀ j, k ≤ j → j < us.length → ltO o x (at5 us j) = true)
    (h2 : 0 < k → ltO o x (at5 us (k - 1)) = false ∧ (once = true → ltO o (at5 us (k - 1)) x = true)) :
    Sd (ltO o) once (us.take k ++ x :: us.drop k) ∧ Go.Srt.Sp (ltO o) once (l ++ [x]) (us.take k ++ x :: us.drop k) := by
  have hsw := ltO_swo o
  have hB : ∀ b ∈ us.drop k, ltO o x b = true := by
    intro b hb
    obtain ⟨j, hj, rfl⟩ := List.getElem_of_mem hb
    rw [List.length_drop] at hj
    rw [List.getElem_drop]
    have := h1 (k + j) (by omega) (by omega)
    rwa [at5_get (by omega)] at this
  have hsp : us = us.take k ++ us.drop k := (List.take_append_drop k us).symm
  have hA : ∀ a ∈ us.take k, ltO o x a = false ∧ (once = true → ltO o a x = true) := by
    intro a ha
    obtain ⟨j, hj, rfl⟩ := List.getElem_of_mem ha
    rw [List.length_take] at hj
    rw [List.getElem_take]
    obtain ⟨h3, h4⟩ := h2 (by omega)
    rw [at5_get (by omega)] at h3 h4
    by_cases e : j = k - 1
    · subst e; exact ⟨h3, h4⟩
    · have h5 := List.pairwise_iff_getElem.1 hs j (k - 1) (by omega) (by omega) (by omega)
      have h6 : ltO o us[k - 1] us[j] = false := by
        cases once with
        | false => simpa using h5
        | true => exact hsw.asym _ _ (by simpa using h5)
      refine ⟨hsw.ntrans _ _ _ h3 h6, fun e1 => ?_⟩
      subst e1
      have h7 : ltO o us[j] us[k - 1] = true := by simpa using h5
      cases hc : ltO o us[j] x with
      | true => rfl
      | false =>
        have := hsw.ntrans _ _ _ hc h3
        rw [h7] at this; cases this
  constructor
  · unfold Sd at hs ⊢
    rw [hsp, List.pairwise_append] at hs
    obtain ⟨s1, s2, s3⟩ := hs
    rw [List.pairwise_append]
    refine ⟨s1, List.pairwise_cons.2 ⟨fun b hb => ?_, s2⟩, fun a ha b hb => ?_⟩
    · have := hB b hb
      cases once with
      | false => simpa using hsw.asym _ _ this
      | true => simpa using this
    · rcases List.mem_cons.1 hb with rfl | hb
      · obtain ⟨h3, h4⟩ := hA a ha
        cases once with
        | false => simpa using h3
        | true => simpa using h4 rfl
      · exact s3 a ha b hb
  · refine (Go.Srt.Sp.app hp (Go.Srt.Sp.refl once [x])).trans ?_
    have h3 := Go.Srt.Sp.app (Go.Srt.Sp.refl (lt := ltO o) once (us.take k)) (Go.Srt.Sp.swap hsw (once := once) (v := us.drop k) (x := [x]) (fun b hb a ha => by simp only [List.mem_singleton] at hb; subst hb; exact hB a ha))
    have e1 : us ++ [x] = us.take k ++ (us.drop k ++ [x]) := by rw [← List.append_assoc, ← hsp]
    rw [e1]; exact h3
theorem skip_law {o : T5} {l us : List T5} {k : Nat} {x : T5} (hk : 0 < k) (hkl : k ≤ us.length) (hp : Go.Srt.Sp (ltO o) true l us) (he : cmpT o x (at5 us (k - 1)) = 0) : Go.Srt.Sp (ltO o) true (l ++ [x]) us := by
  refine (Go.Srt.Sp.app hp (Go.Srt.Sp.refl true [x])).trans ?_
  have hm : at5 us (k - 1) ∈ us := by rw [at5_get (by omega)]; exact List.getElem_mem _
  have := sp_skip (o := o) (ps := us) (rest := []) (z := at5 us (k - 1)) (t := x) hm (eqv_symm ((eqv_cmp o _ _).2 he))
  simpa using this
structure RShift where
  j : Int
  vs : List T5
structure RSx where
  i : Nat
  m : Nat
  p : Option Addr
  cap : Nat
  us : List T5
  c : Chunk
set_option maxHeartbeats 4000000 in
theorem rSortF_ct (o : T5) (once : Bool) (p : Option Addr) (n cap : Nat) (ts : List T5) (c : Chunk) (hv : RV p n ts c) (hn : n ≤ 1000) :
    Ct Tryz.prog 53 [.slice p n cap, tv o, .bool once] [c] fun v H' =>
      ∃ p' cap' us c', v = .slice p' us.length cap' ∧ H' = [c', c] ∧ RV p' us.length us c' ∧ us.length ≤ n ∧ Sd (ltO o) once us ∧ Go.Srt.Sp (ltO o) once ts us := by
  obtain ⟨o0, o1, o2, o3, o4⟩ := o
  have hov : tv ⟨o0, o1, o2, o3, o4⟩ = .agg #[.int .i64 o0, .int .i64 o1, .int .i64 o2, .int .i64 o3, .int .i64 o4] := rfl
  rw [hov]
  refine Ct.intro Tryz.func53 rfl Tryz.ntmps53 (nle rfl) fun w0 => ?_; dsimp only [argSlots, Nat.reduceAdd]
  repeat (first | apply G.seq | refine G.plain (h := ?_) | apply G.block | apply Dn.next | refine R.enter0 (h := ?_) | refine R.nil (h := ?_) | refine R.assign (h := ?_) | (refine R.box (h := ?_); intro _))
  rename_i bo
  have hlen := hv.1
  refine G.loop (X := RSx) (fun x => x.i ≤ n ∧ x.m ≤ x.i ∧ Vec 47 5 x.p x.m x.cap (flat x.us) x.c ∧ x.us.length = x.m ∧ Sd (ltO ⟨o0, o1, o2, o3, o4⟩) once x.us ∧ Go.Srt.Sp (ltO ⟨o0, o1, o2, o3, o4⟩) once (ts.take x.i) x.us)
    (fun x => [(8, .int .i64 (x.i : Int)), (7, .slice x.p x.m x.cap), (0, .slice p n cap), (2, .bool once), (4, .pointer (some ⟨bo, 0, none⟩))])
    (fun x => [c, [(bo, row [.int .i64 o0, .int .i64 o1, .int .i64 o2, .int .i64 o3, .int .i64 o4] 104)], x.c])
    (fun x => n - x.i) ⟨0, 0, none, 0, [], []⟩ ⟨Nat.zero_le _, Nat.le_refl _, Vec.nil _ _, rfl, List.Pairwise.nil, by simpa using Go.Srt.Sp.refl _ _⟩ (body := ?_)
  rintro ⟨i, m, p1, cap1, us, c1⟩ ⟨hi, hmi, hV, hul, hus, hsp⟩
  dsimp only at hi hmi hV hul hus hsp ⊢
  by_cases h0 : i < n
  · have hr0 := hv.pos (by omega)
    obtain ⟨b, off, cs, T, fz, rfl, rfl, hr⟩ := hr0
    have hj := hr i (by omega)
    have hlt : i < ts.length := by omega
    have htk : ts.take (i + 1) = ts.take i ++ [ts[i]] := by rw [List.take_add_one]; simp [hlt]
    have hgd : ts.getD i ⟨0, 0, 0, 0, 0⟩ = ts[i] := by simp [List.getD_eq_getElem?_getD, hlt]
    rw [hgd] at hj
    have e1 : IntKind.wrap .i64 ((i : Int) + 1) = ((i + 1 : Nat) : Int) := by rw [wrap_i64 (by omega)]; rfl
    generalize ts[i] = t1 at hj htk
    obtain ⟨x0, x1, x2, x3, x4⟩ := t1
    simp only [tcells] at hj
    repeat (first | apply G.seq | refine G.plain (h := ?_) | apply G.block | apply G.skip | apply Dn.next | refine G.condPT (ht := ?_) | refine R.enter0 (h := ?_) | refine R.nil (h := ?_) | refine R.move (h := ?_) | refine R.assign (h := ?_) | refine R.lss (h := ?_) | refine R.len (h := ?_))
    refine G.loop (X := Int) (fun k => 0 ≤ k ∧ k ≤ m ∧ ∀ j : Nat, k ≤ j → j < m → ltO ⟨o0, o1, o2, o3, o4⟩ ⟨x0, x1, x2, x3, x4⟩ (at5 us j) = true)
      (fun k => [(9, .int .i64 k), (8, .int .i64 (i : Int)), (7, .slice p1 m cap1), (0, .slice (some ⟨b, off, none⟩) n cap), (2, .bool once), (4, .pointer (some ⟨bo, 0, none⟩))])
      (fun k => [[(b, rowf cs T fz)], [(bo, row [.int .i64 o0, .int .i64 o1, .int .i64 o2, .int .i64 o3, .int .i64 o4] 104)], c1])
      (fun k => k.toNat) (m : Int) ⟨by omega, by omega, by omega⟩ (body := ?_)
    rintro k ⟨hk0, hki, hkc⟩
    by_cases hgo : 0 < k ∧ cmpT ⟨o0, o1, o2, o3, o4⟩ ⟨x0, x1, x2, x3, x4⟩ (at5 us (k.toNat - 1)) < 0
    · obtain ⟨hk, hlt⟩ := hgo
      obtain ⟨b1, rest, rfl, rfl, hrl, hmc, hcm⟩ := vec_posR hV (by omega)
      have hq := flat_readR us rest (k.toNat - 1) (by omega)
      have e3 : (k - 1).toNat = k.toNat - 1 := by omega
      have hlt2 : ltO ⟨o0, o1, o2, o3, o4⟩ ⟨x0, x1, x2, x3, x4⟩ (at5 us (k.toNat - 1)) = true := by unfold ltO; exact decide_eq_true hlt
      have hkc2 : ∀ j : Nat, k - 1 ≤ j → j < m → ltO ⟨o0, o1, o2, o3, o4⟩ ⟨x0, x1, x2, x3, x4⟩ (at5 us j) = true := fun j h1 h2 => by
        by_cases e : j = k.toNat - 1
        · rw [e]; exact hlt2
        · exact hkc j (by omega) h2
      generalize at5 us (k.toNat - 1) = y at hq hlt
      obtain ⟨y0, y1, y2, y3, y4⟩ := y
      simp only [tcells] at hq
      repeat (first | apply G.seq | refine G.plain (h := ?_) | apply G.block | apply G.skip | apply Dn.next | apply Dn.blockEnd | refine G.condPT (ht := ?_) | refine G.draw (id := 6) [(13, .quiet)] (h := ?_) | refine R.enter0 (h := ?_) | refine R.nil (h := ?_) | refine R.enterT (h := ?_) | refine R.splitT (ht := ?_) | refine R.move (h := ?_) | refine R.assign (h := ?_) | refine R.loadN (h := ?_) | refine R.pickT (h := ?_) | refine R.lss (h := ?_) | refine R.gtr (h := ?_) | refine R.subw (h := ?_) | refine R.indexAddr (h := ?_) | refine R.callQ (hct := by apply rCompare_ct <;> (first | omega | assumption)) (h := ?_))
      exact Dn.round (k - 1) ⟨by omega, by omega, hkc2⟩ (by omega)
    · have hstop : 0 < k → 0 ≤ cmpT ⟨o0, o1, o2, o3, o4⟩ ⟨x0, x1, x2, x3, x4⟩ (at5 us (k.toNat - 1)) := fun h => by
        rcases Int.lt_or_le (cmpT ⟨o0, o1, o2, o3, o4⟩ ⟨x0, x1, x2, x3, x4⟩ (at5 us (k.toNat - 1))) 0 with h2 | h2
        · exact absurd ⟨h, h2⟩ hgo
        · exact h2
      have hread : k = 0 ∨ (0 < k ∧ ∃ b1 rest y0 y1 y2 y3 y4, p1 = some ⟨b1, 0, none⟩ ∧ c1 = [(b1, row (flat us ++ rest) 47)] ∧ m ≤ cap1 ∧ ((flat us ++ rest).drop ((k.toNat - 1) * 5)).take 5 = [.int .i64 y0, .int .i64 y1, .int .i64 y2, .int .i64 y3, .int .i64 y4] ∧
          at5 us (k.toNat - 1) = ⟨y0, y1, y2, y3, y4⟩) := by
        by_cases hk : 0 < k
        · obtain ⟨b1, rest, e1, e2, hrl, hmc, hcm⟩ := vec_posR hV (by omega)
          have hq := flat_readR us rest (k.toNat - 1) (by omega)
          generalize at5 us (k.toNat - 1) = y at hq
          obtain ⟨y0, y1, y2, y3, y4⟩ := y
          exact .inr ⟨hk, b1, rest, y0, y1, y2, y3, y4, e1, e2, hmc, hq, rfl⟩
        · exact .inl (by omega)
      clear hgo
      by_cases hskip : once = true ∧ 0 < k ∧ cmpT ⟨o0, o1, o2, o3, o4⟩ ⟨x0, x1, x2, x3, x4⟩ (at5 us (k.toNat - 1)) = 0
      · obtain ⟨rfl, hk, h00⟩ := hskip
        rcases hread with hk2 | ⟨_, b1, rest, y0, y1, y2, y3, y4, rfl, rfl, hmc, hq, hy⟩
        · omega
        have h5 := hstop hk
        have hsk := skip_law (by omega) (by omega) hsp h00
        rw [hy] at h5 h00
        have e3 : (k - 1).toNat = k.toNat - 1 := by omega
        repeat (first | apply G.seq | refine G.plain (h := ?_) | apply G.exit | apply Dn.next | apply Dn.exitHere | apply Dn.exitThen | refine G.condPT (ht := ?_) | refine G.condPF (ht := ?_) | refine G.draw (id := 6) [(13, .quiet)] (h := ?_) | refine G.draw (id := 8) [(16, .quiet)] (h := ?_) | refine R.enter0 (h := ?_) | refine R.nil (h := ?_) | refine R.enterT (h := ?_) | refine R.splitT (ht := ?_) | refine R.move (h := ?_) | refine R.assign (h := ?_) | refine R.loadN (h := ?_) | refine R.pickT (h := ?_) | refine R.lss (h := ?_) | refine R.gtr (h := ?_) | refine R.eql (h := ?_) | refine R.addw (h := ?_) | refine R.subw (h := ?_) | refine R.indexAddr (h := ?_) | refine R.callQ (hct := by apply rCompare_ct <;> (first | omega | assumption)) (h := ?_))
        exact Dn.round ⟨i + 1, m, some ⟨b1, 0, none⟩, cap1, us, _⟩ ⟨h0, by dsimp only; omega, hV, hul, hus, by dsimp only; rw [htk]; exact hsk⟩ (by dsimp only; omega)
      · have hins := ins_law (x := ⟨x0, x1, x2, x3, x4⟩) (k := k.toNat) (by omega) hus hsp (fun j h1 h2 => hkc j (by omega) (by omega)) (fun hk => by
          have h1 := hstop (by omega)
          have h2 := cmpT_swap ⟨o0, o1, o2, o3, o4⟩ ⟨x0, x1, x2, x3, x4⟩ (at5 us (k.toNat - 1))
          refine ⟨by unfold ltO; exact decide_eq_false (by omega), fun e => ?_⟩
          have h3 : cmpT ⟨o0, o1, o2, o3, o4⟩ ⟨x0, x1, x2, x3, x4⟩ (at5 us (k.toNat - 1)) ≠ 0 := fun h => hskip ⟨e, by omega, h⟩
          unfold ltO; exact decide_eq_true (by omega))
        have hne : once = false ∨ k = 0 ∨ (0 < k ∧ cmpT ⟨o0, o1, o2, o3, o4⟩ ⟨x0, x1, x2, x3, x4⟩ (at5 us (k.toNat - 1)) ≠ 0) := by
          cases once with
          | false => exact .inl rfl
          | true =>
            by_cases hk : k = 0
            · exact .inr (.inl hk)
            · exact .inr (.inr ⟨by omega, fun h => hskip ⟨rfl, by omega, h⟩⟩)
        rcases hread with hk | ⟨hk, b1, rest, y0, y1, y2, y3, y4, rfl, rfl, hmc, hq, hy⟩
        · cases honce : once with
          | false =>
            subst honce
            have e3 : (k - 1).toNat = k.toNat - 1 := by omega
            repeat (first | apply G.seq | refine G.plain (h := ?_) | apply G.block | apply G.skip | apply G.exit | refine G.condF (h := ?_) | apply Dn.next | apply Dn.exitHere | apply Dn.exitThen | refine G.draw (id := 6) [(13, .quiet)] (h := ?_) | refine G.draw (id := 8) [(16, .quiet)] (h := ?_) | refine R.enter0 (h := ?_) | refine R.nil (h := ?_) | refine R.skip (h := ?_) | refine R.splitF (ht := ?_) | refine R.move (h := ?_) | refine R.assign (h := ?_) | refine R.loadN (h := ?_) | refine R.pickF (h := ?_) | refine R.gtr (h := ?_) | refine R.subw (h := ?_) | refine R.len (h := ?_) | refine R.indexAddr (h := ?_) | (refine R.buildSlice (h := ?_); intro _) | (refine R.append (h := ?_); intro _ _ _ _))
            rename_i bn p2 cap2 c2 hV2
            have hV3 : Vec 47 5 p2 (m + 1) cap2 (flat (us ++ [⟨x0, x1, x2, x3, x4⟩])) c2 := by rw [flat_append]; exact hV2
            obtain ⟨b2, rest2, rfl, rfl, hrl2, hmc2, hcm2⟩ := vec_posR hV3 (by omega)
            clear hV2
            refine G.loop (X := RShift) (fun z => k ≤ z.j ∧ z.j ≤ m ∧ z.vs.length = m + 1 ∧ (∀ q : Nat, (q : Int) < z.j → at5 z.vs q = at5 us q) ∧ (∀ q : Nat, z.j < q → q ≤ m → at5 z.vs q = at5 us (q - 1)))
              (fun z => [(10, .int .i64 z.j), (9, .int .i64 k), (8, .int .i64 (i : Int)), (7, .slice (some ⟨b2, 0, none⟩) (m + 1) cap2), (0, .slice (some ⟨b, off, none⟩) n cap), (2, .bool false), (4, .pointer (some ⟨bo, 0, none⟩))])
              (fun z => [[(b2, row (flat z.vs ++ rest2) 47)], [(b, rowf cs T fz)], [(bo, row [.int .i64 o0, .int .i64 o1, .int .i64 o2, .int .i64 o3, .int .i64 o4] 104)]])
              (fun z => z.j.toNat) ⟨((m + 1 : Nat) : Int) - 1, us ++ [⟨x0, x1, x2, x3, x4⟩]⟩
              ⟨by dsimp only; omega, by dsimp only; omega, by simp [hul], fun q hq => atApp us _ q (by dsimp only at hq; omega), fun q h1 h2 => by dsimp only at h1; omega⟩ (body := ?_)
            rintro ⟨j, vs⟩ ⟨hj1, hj2, hvl, hva, hvb⟩
            dsimp only at hj1 hj2 hvl hva hvb ⊢
            have hfl := flat_length vs
            by_cases hjk : k < j
            · have hq2 := flat_readR vs rest2 (j.toNat - 1) (by omega)
              have e6 : at5 vs (j.toNat - 1) = at5 us (j.toNat - 1) := hva _ (by omega)
              generalize at5 vs (j.toNat - 1) = z at hq2 e6
              obtain ⟨z0, z1, z2, z3, z4⟩ := z
              have hset := setL_flat vs j.toNat ⟨z0, z1, z2, z3, z4⟩ rest2 (by omega)
              simp only [tcells] at hq2 hset
              have e5 : (j - 1).toNat = j.toNat - 1 := by omega
              repeat (first | apply G.seq | refine G.plain (h := ?_) | apply G.block | apply G.skip | apply Dn.next | apply Dn.blockEnd | refine G.condPT (ht := ?_) | refine R.enter0 (h := ?_) | refine R.nil (h := ?_) | refine R.move (h := ?_) | refine R.assign (h := ?_) | refine R.loadN (h := ?_) | refine R.storeN (h := ?_) | refine R.gtr (h := ?_) | refine R.subw (h := ?_) | refine R.indexAddr (h := ?_))
              refine Dn.round ⟨j - 1, vs.set j.toNat ⟨z0, z1, z2, z3, z4⟩⟩ ⟨by dsimp only; omega, by dsimp only; omega, by simp [hvl], fun q hq => ?_, fun q hq1 hq2 => ?_⟩ (by dsimp only; omega)
              · dsimp only at hq ⊢
                rw [atSet _ _ _ _ (by omega), if_neg (by omega)]
                exact hva q (by omega)
              · dsimp only at hq1 ⊢
                rw [atSet _ _ _ _ (by omega)]
                by_cases hmj : q = j.toNat
                · rw [if_pos hmj, hmj]; exact e6
                · rw [if_neg hmj]; exact hvb q (by omega) hq2
            · obtain rfl : j = k := by omega
              have hset := setL_flat vs j.toNat ⟨x0, x1, x2, x3, x4⟩ rest2 (by omega)
              simp only [tcells] at hset
              have hfin : vs.set j.toNat ⟨x0, x1, x2, x3, x4⟩ = us.take j.toNat ++ ⟨x0, x1, x2, x3, x4⟩ :: us.drop j.toNat := by
                refine ext_at5 (by rw [List.length_set, hvl, List.length_append, List.length_take, List.length_cons, List.length_drop]; omega) fun q hq => ?_
                rw [List.length_set] at hq
                rw [atSet _ _ _ _ (by omega), ins_at (by omega)]
                by_cases h1 : q = j.toNat
                · rw [if_pos h1, if_neg (by omega), if_pos h1]
                · rw [if_neg h1]
                  by_cases h2 : q < j.toNat
                  · rw [if_pos h2]; exact hva q (by omega)
                  · rw [if_neg h2, if_neg h1]; exact hvb q (by omega) (by omega)
              rw [hfin] at hset
              repeat (first | apply G.seq | refine G.plain (h := ?_) | apply G.exit | apply Dn.next | apply Dn.blockEnd | apply Dn.exitHere | apply Dn.exitThen | refine G.condPF (ht := ?_) | refine R.enter0 (h := ?_) | refine R.nil (h := ?_) | refine R.move (h := ?_) | refine R.assign (h := ?_) | refine R.loadN (h := ?_) | refine R.storeN (h := ?_) | refine R.gtr (h := ?_) | refine R.addw (h := ?_) | refine R.indexAddr (h := ?_))
              refine Dn.round ⟨i + 1, m + 1, some ⟨b2, 0, none⟩, cap2, us.take j.toNat ++ ⟨x0, x1, x2, x3, x4⟩ :: us.drop j.toNat, [(b2, row (flat (us.take j.toNat ++ ⟨x0, x1, x2, x3, x4⟩ :: us.drop j.toNat) ++ rest2) 47)]⟩ ⟨h0, by dsimp only; omega, ?_, ?_, hins.1, by dsimp only; rw [htk]; exact hins.2⟩ (by dsimp only; omega)
              · dsimp only
                have hfl2 := flat_length (us.take j.toNat ++ ⟨x0, x1, x2, x3, x4⟩ :: us.drop j.toNat)
                have hfl3 := flat_length (us ++ [⟨x0, x1, x2, x3, x4⟩])
                simp only [List.length_append, List.length_take, List.length_drop, List.length_cons, List.length_nil] at hfl2 hfl3
                exact ⟨by omega, .inr ⟨b2, rest2, rfl, rfl, by omega, hmc2, hcm2⟩⟩
              · dsimp only
                simp only [List.length_append, List.length_take, List.length_drop, List.length_cons]; omega
          | true =>
            subst honce
            have e3 : (k - 1).toNat = k.toNat - 1 := by omega
            repeat (first | apply G.seq | refine G.plain (h := ?_) | apply G.block | apply G.skip | apply G.exit | refine G.condF (h := ?_) | apply Dn.next | apply Dn.exitHere | apply Dn.exitThen | refine G.draw (id := 6) [(13, .quiet)] (h := ?_) | refine G.draw (id := 8) [(16, .quiet)] (h := ?_) | refine R.enter0 (h := ?_) | refine R.nil (h := ?_) | refine R.enterT (h := ?_) | refine R.skip (h := ?_) | refine R.splitF (ht := ?_) | refine R.move (h := ?_) | refine R.assign (h := ?_) | refine R.loadN (h := ?_) | refine R.pickT (h := ?_) | refine R.pickF (h := ?_) | refine R.gtr (h := ?_) | refine R.subw (h := ?_) | refine R.len (h := ?_) | refine R.indexAddr (h := ?_) | (refine R.buildSlice (h := ?_); intro _) | (refine R.append (h := ?_); intro _ _ _ _))
            rename_i bn p2 cap2 c2 hV2
            have hV3 : Vec 47 5 p2 (m + 1) cap2 (flat (us ++ [⟨x0, x1, x2, x3, x4⟩])) c2 := by rw [flat_append]; exact hV2
            obtain ⟨b2, rest2, rfl, rfl, hrl2, hmc2, hcm2⟩ := vec_posR hV3 (by omega)
            clear hV2
            refine G.loop (X := RShift) (fun z => k ≤ z.j ∧ z.j ≤ m ∧ z.vs.length = m + 1 ∧ (∀ q : Nat, (q : Int) < z.j → at5 z.vs q = at5 us q) ∧ (∀ q : Nat, z.j < q → q ≤ m → at5 z.vs q = at5 us (q - 1)))
              (fun z => [(10, .int .i64 z.j), (9, .int .i64 k), (8, .int .i64 (i : Int)), (7, .slice (some ⟨b2, 0, none⟩) (m + 1) cap2), (0, .slice (some ⟨b, off, none⟩) n cap), (2, .bool true), (4, .pointer (some ⟨bo, 0, none⟩))])
              (fun z => [[(b2, row (flat z.vs ++ rest2) 47)], [(b, rowf cs T fz)], [(bo, row [.int .i64 o0, .int .i64 o1, .int .i64 o2, .int .i64 o3, .int .i64 o4] 104)]])
              (fun z => z.j.toNat) ⟨((m + 1 : Nat) : Int) - 1, us ++ [⟨x0, x1, x2, x3, x4⟩]⟩
              ⟨by dsimp only; omega, by dsimp only; omega, by simp [hul], fun q hq => atApp us _ q (by dsimp only at hq; omega), fun q h1 h2 => by dsimp only at h1; omega⟩ (body := ?_)
            rintro ⟨j, vs⟩ ⟨hj1, hj2, hvl, hva, hvb⟩
            dsimp only at hj1 hj2 hvl hva hvb ⊢
            have hfl := flat_length vs
            by_cases hjk : k < j
            · have hq2 := flat_readR vs rest2 (j.toNat - 1) (by omega)
              have e6 : at5 vs (j.toNat - 1) = at5 us (j.toNat - 1) := hva _ (by omega)
              generalize at5 vs (j.toNat - 1) = z at hq2 e6
              obtain ⟨z0, z1, z2, z3, z4⟩ := z
              have hset := setL_flat vs j.toNat ⟨z0, z1, z2, z3, z4⟩ rest2 (by omega)
              simp only [tcells] at hq2 hset
              have e5 : (j - 1).toNat = j.toNat - 1 := by omega
              repeat (first | apply G.seq | refine G.plain (h := ?_) | apply G.block | apply G.skip | apply Dn.next | apply Dn.blockEnd | refine G.condPT (ht := ?_) | refine R.enter0 (h := ?_) | refine R.nil (h := ?_) | refine R.move (h := ?_) | refine R.assign (h := ?_) | refine R.loadN (h := ?_) | refine R.storeN (h := ?_) | refine R.gtr (h := ?_) | refine R.subw (h := ?_) | refine R.indexAddr (h := ?_))
              refine Dn.round ⟨j - 1, vs.set j.toNat ⟨z0, z1, z2, z3, z4⟩⟩ ⟨by dsimp only; omega, by dsimp only; omega, by simp [hvl], fun q hq => ?_, fun q hq1 hq2 => ?_⟩ (by dsimp only; omega)
              · dsimp only at hq ⊢
                rw [atSet _ _ _ _ (by omega), if_neg (by omega)]
                exact hva q (by omega)
              · dsimp only at hq1 ⊢
                rw [atSet _ _ _ _ (by omega)]
                by_cases hmj : q = j.toNat
                · rw [if_pos hmj, hmj]; exact e6
                · rw [if_neg hmj]; exact hvb q (by omega) hq2
            · obtain rfl : j = k := by omega
              have hset := setL_flat vs j.toNat ⟨x0, x1, x2, x3, x4⟩ rest2 (by omega)
              simp only [tcells] at hset
              have hfin : vs.set j.toNat ⟨x0, x1, x2, x3, x4⟩ = us.take j.toNat ++ ⟨x0, x1, x2, x3, x4⟩ :: us.drop j.toNat := by
                refine ext_at5 (by rw [List.length_set, hvl, List.length_append, List.length_take, List.length_cons, List.length_drop]; omega) fun q hq => ?_
                rw [List.length_set] at hq
                rw [atSet _ _ _ _ (by omega), ins_at (by omega)]
                by_cases h1 : q = j.toNat
                · rw [if_pos h1, if_neg (by omega), if_pos h1]
                · rw [if_neg h1]
                  by_cases h2 : q < j.toNat
                  · rw [if_pos h2]; exact hva q (by omega)
                  · rw [if_neg h2, if_neg h1]; exact hvb q (by omega) (by omega)
              rw [hfin] at hset
              repeat (first | apply G.seq | refine G.plain (h := ?_) | apply G.exit | apply Dn.next | apply Dn.blockEnd | apply Dn.exitHere | apply Dn.exitThen | refine G.condPF (ht := ?_) | refine R.enter0 (h := ?_) | refine R.nil (h := ?_) | refine R.move (h := ?_) | refine R.assign (h := ?_) | refine R.loadN (h := ?_) | refine R.storeN (h := ?_) | refine R.gtr (h := ?_) | refine R.addw (h := ?_) | refine R.indexAddr (h := ?_))
              refine Dn.round ⟨i + 1, m + 1, some ⟨b2, 0, none⟩, cap2, us.take j.toNat ++ ⟨x0, x1, x2, x3, x4⟩ :: us.drop j.toNat, [(b2, row (flat (us.take j.toNat ++ ⟨x0, x1, x2, x3, x4⟩ :: us.drop j.toNat) ++ rest2) 47)]⟩ ⟨h0, by dsimp only; omega, ?_, ?_, hins.1, by dsimp only; rw [htk]; exact hins.2⟩ (by dsimp only; omega)
              · dsimp only
                have hfl2 := flat_length (us.take j.toNat ++ ⟨x0, x1, x2, x3, x4⟩ :: us.drop j.toNat)
                have hfl3 := flat_length (us ++ [⟨x0, x1, x2, x3, x4⟩])
                simp only [List.length_append, List.length_take, List.length_drop, List.length_cons, List.length_nil] at hfl2 hfl3
                exact ⟨by omega, .inr ⟨b2, rest2, rfl, rfl, by omega, hmc2, hcm2⟩⟩
              · dsimp only
                simp only [List.length_append, List.length_take, List.length_drop, List.length_cons]; omega
        · have h5 := hstop hk
          rw [hy] at h5 hne
          cases honce : once with
          | false =>
            subst honce
            have e3 : (k - 1).toNat = k.toNat - 1 := by omega
            repeat (first | apply G.seq | refine G.plain (h := ?_) | apply G.block | apply G.skip | apply G.exit | refine G.condF (h := ?_) | apply Dn.next | apply Dn.exitHere | apply Dn.exitThen | refine G.condPF (ht := ?_) | refine G.draw (id := 6) [(13, .quiet)] (h := ?_) | refine G.draw (id := 8) [(16, .quiet)] (h := ?_) | refine R.enter0 (h := ?_) | refine R.nil (h := ?_) | refine R.enterT (h := ?_) | refine R.skip (h := ?_) | refine R.splitT (ht := ?_) | refine R.move (h := ?_) | refine R.assign (h := ?_) | refine R.loadN (h := ?_) | refine R.pickT (h := ?_) | refine R.pickF (h := ?_) | refine R.lss (h := ?_) | refine R.gtr (h := ?_) | refine R.subw (h := ?_) | refine R.len (h := ?_) | refine R.indexAddr (h := ?_) | (refine R.buildSlice (h := ?_); intro _) | (refine R.append (h := ?_); intro _ _ _ _) | refine R.callQ (hct := by apply rCompare_ct <;> (first | omega | assumption)) (h := ?_))
            rename_i bn p2 cap2 c2 hV2
            have hV3 : Vec 47 5 p2 (m + 1) cap2 (flat (us ++ [⟨x0, x1, x2, x3, x4⟩])) c2 := by rw [flat_append]; exact hV2
            obtain ⟨b2, rest2, rfl, rfl, hrl2, hmc2, hcm2⟩ := vec_posR hV3 (by omega)
            clear hV2
            refine G.loop (X := RShift) (fun z => k ≤ z.j ∧ z.j ≤ m ∧ z.vs.length = m + 1 ∧ (∀ q : Nat, (q : Int) < z.j → at5 z.vs q = at5 us q) ∧ (∀ q : Nat, z.j < q → q ≤ m → at5 z.vs q = at5 us (q - 1)))
              (fun z => [(10, .int .i64 z.j), (9, .int .i64 k), (8, .int .i64 (i : Int)), (7, .slice (some ⟨b2, 0, none⟩) (m + 1) cap2), (0, .slice (some ⟨b, off, none⟩) n cap), (2, .bool false), (4, .pointer (some ⟨bo, 0, none⟩))])
              (fun z => [[(b2, row (flat z.vs ++ rest2) 47)], [(b, rowf cs T fz)], [(bo, row [.int .i64 o0, .int .i64 o1, .int .i64 o2, .int .i64 o3, .int .i64 o4] 104)]])
              (fun z => z.j.toNat) ⟨((m + 1 : Nat) : Int) - 1, us ++ [⟨x0, x1, x2, x3, x4⟩]⟩
              ⟨by dsimp only; omega, by dsimp only; omega, by simp [hul], fun q hq => atApp us _ q (by dsimp only at hq; omega), fun q h1 h2 => by dsimp only at h1; omega⟩ (body := ?_)
            rintro ⟨j, vs⟩ ⟨hj1, hj2, hvl, hva, hvb⟩
            dsimp only at hj1 hj2 hvl hva hvb ⊢
            have hfl := flat_length vs
            by_cases hjk : k < j
            · have hq2 := flat_readR vs rest2 (j.toNat - 1) (by omega)
              have e6 : at5 vs (j.toNat - 1) = at5 us (j.toNat - 1) := hva _ (by omega)
              generalize at5 vs (j.toNat - 1) = z at hq2 e6
              obtain ⟨z0, z1, z2, z3, z4⟩ := z
              have hset := setL_flat vs j.toNat ⟨z0, z1, z2, z3, z4⟩ rest2 (by omega)
              simp only [tcells] at hq2 hset
              have e5 : (j - 1).toNat = j.toNat - 1 := by omega
              repeat (first | apply G.seq | refine G.plain (h := ?_) | apply G.block | apply G.skip | apply Dn.next | apply Dn.blockEnd | refine G.condPT (ht := ?_) | refine R.enter0 (h := ?_) | refine R.nil (h := ?_) | refine R.move (h := ?_) | refine R.assign (h := ?_) | refine R.loadN (h := ?_) | refine R.storeN (h := ?_) | refine R.gtr (h := ?_) | refine R.subw (h := ?_) | refine R.indexAddr (h := ?_))
              refine Dn.round ⟨j - 1, vs.set j.toNat ⟨z0, z1, z2, z3, z4⟩⟩ ⟨by dsimp only; omega, by dsimp only; omega, by simp [hvl], fun q hq => ?_, fun q hq1 hq2 => ?_⟩ (by dsimp only; omega)
              · dsimp only at hq ⊢
                rw [atSet _ _ _ _ (by omega), if_neg (by omega)]
                exact hva q (by omega)
              · dsimp only at hq1 ⊢
                rw [atSet _ _ _ _ (by omega)]
                by_cases hmj : q = j.toNat
                · rw [if_pos hmj, hmj]; exact e6
                · rw [if_neg hmj]; exact hvb q (by omega) hq2
            · obtain rfl : j = k := by omega
              have hset := setL_flat vs j.toNat ⟨x0, x1, x2, x3, x4⟩ rest2 (by omega)
              simp only [tcells] at hset
              have hfin : vs.set j.toNat ⟨x0, x1, x2, x3, x4⟩ = us.take j.toNat ++ ⟨x0, x1, x2, x3, x4⟩ :: us.drop j.toNat := by
                refine ext_at5 (by rw [List.length_set, hvl, List.length_append, List.length_take, List.length_cons, List.length_drop]; omega) fun q hq => ?_
                rw [List.length_set] at hq
                rw [atSet _ _ _ _ (by omega), ins_at (by omega)]
                by_cases h1 : q = j.toNat
                · rw [if_pos h1, if_neg (by omega), if_pos h1]
                · rw [if_neg h1]
                  by_cases h2 : q < j.toNat
                  · rw [if_pos h2]; exact hva q (by omega)
                  · rw [if_neg h2, if_neg h1]; exact hvb q (by omega) (by omega)
              rw [hfin] at hset
              repeat (first | apply G.seq | refine G.plain (h := ?_) | apply G.exit | apply Dn.next | apply Dn.blockEnd | apply Dn.exitHere | apply Dn.exitThen | refine G.condPF (ht := ?_) | refine R.enter0 (h := ?_) | refine R.nil (h := ?_) | refine R.move (h := ?_) | refine R.assign (h := ?_) | refine R.loadN (h := ?_) | refine R.storeN (h := ?_) | refine R.gtr (h := ?_) | refine R.addw (h := ?_) | refine R.indexAddr (h := ?_))
              refine Dn.round ⟨i + 1, m + 1, some ⟨b2, 0, none⟩, cap2, us.take j.toNat ++ ⟨x0, x1, x2, x3, x4⟩ :: us.drop j.toNat, [(b2, row (flat (us.take j.toNat ++ ⟨x0, x1, x2, x3, x4⟩ :: us.drop j.toNat) ++ rest2) 47)]⟩ ⟨h0, by dsimp only; omega, ?_, ?_, hins.1, by dsimp only; rw [htk]; exact hins.2⟩ (by dsimp only; omega)
              · dsimp only
                have hfl2 := flat_length (us.take j.toNat ++ ⟨x0, x1, x2, x3, x4⟩ :: us.drop j.toNat)
                have hfl3 := flat_length (us ++ [⟨x0, x1, x2, x3, x4⟩])
                simp only [List.length_append, List.length_take, List.length_drop, List.length_cons, List.length_nil] at hfl2 hfl3
                exact ⟨by omega, .inr ⟨b2, rest2, rfl, rfl, by omega, hmc2, hcm2⟩⟩
              · dsimp only
                simp only [List.length_append, List.length_take, List.length_drop, List.length_cons]; omega
          | true =>
            subst honce
            have hnz : cmpT ⟨o0, o1, o2, o3, o4⟩ ⟨x0, x1, x2, x3, x4⟩ ⟨y0, y1, y2, y3, y4⟩ ≠ 0 := by
              rcases hne with h | h | h
              · cases h
              · omega
              · exact h.2
            have e3 : (k - 1).toNat = k.toNat - 1 := by omega
            repeat (first | apply G.seq | refine G.plain (h := ?_) | apply G.block | apply G.skip | apply G.exit | apply Dn.next | apply Dn.exitHere | apply Dn.exitThen | refine G.condPF (ht := ?_) | refine G.draw (id := 6) [(13, .quiet)] (h := ?_) | refine G.draw (id := 8) [(16, .quiet)] (h := ?_) | refine R.enter0 (h := ?_) | refine R.nil (h := ?_) | refine R.enterT (h := ?_) | refine R.splitT (ht := ?_) | refine R.move (h := ?_) | refine R.assign (h := ?_) | refine R.loadN (h := ?_) | refine R.pickT (h := ?_) | refine R.lss (h := ?_) | refine R.gtr (h := ?_) | refine R.eql (h := ?_) | refine R.subw (h := ?_) | refine R.len (h := ?_) | refine R.indexAddr (h := ?_) | (refine R.buildSlice (h := ?_); intro _) | (refine R.append (h := ?_); intro _ _ _ _) | refine R.callQ (hct := by apply rCompare_ct <;> (first | omega | assumption)) (h := ?_))
            rename_i bn p2 cap2 c2 hV2
            have hV3 : Vec 47 5 p2 (m + 1) cap2 (flat (us ++ [⟨x0, x1, x2, x3, x4⟩])) c2 := by rw [flat_append]; exact hV2
            obtain ⟨b2, rest2, rfl, rfl, hrl2, hmc2, hcm2⟩ := vec_posR hV3 (by omega)
            clear hV2
            refine G.loop (X := RShift) (fun z => k ≤ z.j ∧ z.j ≤ m ∧ z.vs.length = m + 1 ∧ (∀ q : Nat, (q : Int) < z.j → at5 z.vs q = at5 us q) ∧ (∀ q : Nat, z.j < q → q ≤ m → at5 z.vs q = at5 us (q - 1)))
              (fun z => [(10, .int .i64 z.j), (9, .int .i64 k), (8, .int .i64 (i : Int)), (7, .slice (some ⟨b2, 0, none⟩) (m + 1) cap2), (0, .slice (some ⟨b, off, none⟩) n cap), (2, .bool true), (4, .pointer (some ⟨bo, 0, none⟩))])
              (fun z => [[(b2, row (flat z.vs ++ rest2) 47)], [(b, rowf cs T fz)], [(bo, row [.int .i64 o0, .int .i64 o1, .int .i64 o2, .int .i64 o3, .int .i64 o4] 104)]])
              (fun z => z.j.toNat) ⟨((m + 1 : Nat) : Int) - 1, us ++ [⟨x0, x1, x2, x3, x4⟩]⟩
              ⟨by dsimp only; omega, by dsimp only; omega, by simp [hul], fun q hq => atApp us _ q (by dsimp only at hq; omega), fun q h1 h2 => by dsimp only at h1; omega⟩ (body := ?_)
            rintro ⟨j, vs⟩ ⟨hj1, hj2, hvl, hva, hvb⟩
            dsimp only at hj1 hj2 hvl hva hvb ⊢
            have hfl := flat_length vs
            by_cases hjk : k < j
            · have hq2 := flat_readR vs rest2 (j.toNat - 1) (by omega)
              have e6 : at5 vs (j.toNat - 1) = at5 us (j.toNat - 1) := hva _ (by omega)
              generalize at5 vs (j.toNat - 1) = z at hq2 e6
              obtain ⟨z0, z1, z2, z3, z4⟩ := z
              have hset := setL_flat vs j.toNat ⟨z0, z1, z2, z3, z4⟩ rest2 (by omega)
              simp only [tcells] at hq2 hset
              have e5 : (j - 1).toNat = j.toNat - 1 := by omega
              repeat (first | apply G.seq | refine G.plain (h := ?_) | apply G.block | apply G.skip | apply Dn.next | apply Dn.blockEnd | refine G.condPT (ht := ?_) | refine R.enter0 (h := ?_) | refine R.nil (h := ?_) | refine R.move (h := ?_) | refine R.assign (h := ?_) | refine R.loadN (h := ?_) | refine R.storeN (h := ?_) | refine R.gtr (h := ?_) | refine R.subw (h := ?_) | refine R.indexAddr (h := ?_))
              refine Dn.round ⟨j - 1, vs.set j.toNat ⟨z0, z1, z2, z3, z4⟩⟩ ⟨by dsimp only; omega, by dsimp only; omega, by simp [hvl], fun q hq => ?_, fun q hq1 hq2 => ?_⟩ (by dsimp only; omega)
              · dsimp only at hq ⊢
                rw [atSet _ _ _ _ (by omega), if_neg (by omega)]
                exact hva q (by omega)
              · dsimp only at hq1 ⊢
                rw [atSet _ _ _ _ (by omega)]
                by_cases hmj : q = j.toNat
                · rw [if_pos hmj, hmj]; exact e6
                · rw [if_neg hmj]; exact hvb q (by omega) hq2
            · obtain rfl : j = k := by omega
              have hset := setL_flat vs j.toNat ⟨x0, x1, x2, x3, x4⟩ rest2 (by omega)
              simp only [tcells] at hset
              have hfin : vs.set j.toNat ⟨x0, x1, x2, x3, x4⟩ = us.take j.toNat ++ ⟨x0, x1, x2, x3, x4⟩ :: us.drop j.toNat := by
                refine ext_at5 (by rw [List.length_set, hvl, List.length_append, List.length_take, List.length_cons, List.length_drop]; omega) fun q hq => ?_
                rw [List.length_set] at hq
                rw [atSet _ _ _ _ (by omega), ins_at (by omega)]
                by_cases h1 : q = j.toNat
                · rw [if_pos h1, if_neg (by omega), if_pos h1]
                · rw [if_neg h1]
                  by_cases h2 : q < j.toNat
                  · rw [if_pos h2]; exact hva q (by omega)
                  · rw [if_neg h2, if_neg h1]; exact hvb q (by omega) (by omega)
              rw [hfin] at hset
              repeat (first | apply G.seq | refine G.plain (h := ?_) | apply G.exit | apply Dn.next | apply Dn.blockEnd | apply Dn.exitHere | apply Dn.exitThen | refine G.condPF (ht := ?_) | refine R.enter0 (h := ?_) | refine R.nil (h := ?_) | refine R.move (h := ?_) | refine R.assign (h := ?_) | refine R.loadN (h := ?_) | refine R.storeN (h := ?_) | refine R.gtr (h := ?_) | refine R.addw (h := ?_) | refine R.indexAddr (h := ?_))
              refine Dn.round ⟨i + 1, m + 1, some ⟨b2, 0, none⟩, cap2, us.take j.toNat ++ ⟨x0, x1, x2, x3, x4⟩ :: us.drop j.toNat, [(b2, row (flat (us.take j.toNat ++ ⟨x0, x1, x2, x3, x4⟩ :: us.drop j.toNat) ++ rest2) 47)]⟩ ⟨h0, by dsimp only; omega, ?_, ?_, hins.1, by dsimp only; rw [htk]; exact hins.2⟩ (by dsimp only; omega)
              · dsimp only
                have hfl2 := flat_length (us.take j.toNat ++ ⟨x0, x1, x2, x3, x4⟩ :: us.drop j.toNat)
                have hfl3 := flat_length (us ++ [⟨x0, x1, x2, x3, x4⟩])
                simp only [List.length_append, List.length_take, List.length_drop, List.length_cons, List.length_nil] at hfl2 hfl3
                exact ⟨by omega, .inr ⟨b2, rest2, rfl, rfl, by omega, hmc2, hcm2⟩⟩
              · dsimp only
                simp only [List.length_append, List.length_take, List.length_drop, List.length_cons]; omega
  · obtain rfl : i = n := by omega
    rw [List.take_of_length_le (by omega)] at hsp
    subst hul
    repeat (first | apply G.seq | refine G.plain (h := ?_) | apply G.exit | apply G.ret | apply Dn.next | apply Dn.exitHere | apply Dn.exitThen | refine G.condPF (ht := ?_) | refine R.enter0 (h := ?_) | refine R.nil (h := ?_) | refine R.move (h := ?_) | refine R.assign (h := ?_) | refine R.lss (h := ?_) | refine R.len (h := ?_))
    (refine Dn.post (Hr := [c1, c]) Tryz.results53 (hR := ?_); exact ⟨p1, cap1, us, c1, rfl, rfl, RV.vec hV, hmi, hus, hsp⟩)
end Go.Proofs.YtdkihpjnidhnmaaGreat
namespace Go.Proofs.YtdkihpjnidhnmaaGreat
open Go.SL Go.Tup
def ov (o0 o1 o2 o3 o4 : Int) : List Value := [.int .i64 o0, .int .i64 o1, .int .i64 o2, .int .i64 o3, .int .i64 o4]
theorem SortedC_ct (a0 a1 a2 a3 a4 c0 c1 c2 c3 c4 o0 o1 o2 o3 o4 : Int) (bo : Nat) :
    CtQ Tryz.prog 48 [.agg #[.int .i64 a0, .int .i64 a1, .int .i64 a2, .int .i64 a3, .int .i64 a4], .agg #[.int .i64 c0, .int .i64 c1, .int .i64 c2, .int .i64 c3, .int .i64 c4], .pointer (some ⟨bo, 0, none⟩)]
      [[(bo, row [.int .i64 o0, .int .i64 o1, .int .i64 o2, .int .i64 o3, .int .i64 o4] 26)]] (.int .i64 (cmpT ⟨o0, o1, o2, o3, o4⟩ ⟨a0, a1, a2, a3, a4⟩ ⟨c0, c1, c2, c3, c4⟩)) := by
  refine Ct.intro Tryz.func48 rfl Tryz.ntmps48 (nle rfl) fun w0 => ?_; dsimp only [argSlots, Nat.reduceAdd]
  repeat (first | apply G.seq | refine G.plain (h := ?_) | apply G.ret | apply Dn.next | refine R.enter0 (h := ?_) | refine R.nil (h := ?_) | refine R.assign (h := ?_) | refine R.loadN (h := ?_) | (refine R.box (h := ?_); intro _) | refine R.callP (hct := by apply Compare_ct <;> (first | omega | assumption)) (h := ?_))
  (refine Dn.post (Hr := [[(bo, row [.int .i64 o0, .int .i64 o1, .int .i64 o2, .int .i64 o3, .int .i64 o4] 26)]]) Tryz.results48 (hR := ?_); exact ⟨rfl, rfl⟩)
theorem IsSorted_ct (o0 o1 o2 o3 o4 : Int) (bo : Nat) (p : Option Addr) (n cap : Nat) (ts : List T5) (c : Chunk) (hv : RV p n ts c) (hn : n ≤ 300) :
    CtQ Tryz.prog 47 [.slice p n cap, .func (.func 48) #[] #[.pointer (some ⟨bo, 0, none⟩)]]
      [c, [(bo, row [.int .i64 o0, .int .i64 o1, .int .i64 o2, .int .i64 o3, .int .i64 o4] 26)]] (.bool (sortedB ⟨o0, o1, o2, o3, o4⟩ ts)) := by
  refine Ct.intro Tryz.func47 rfl Tryz.ntmps47 (nle rfl) fun w0 => ?_; dsimp only [argSlots, Nat.reduceAdd]
  have hcl := fun a0 a1 a2 a3 a4 c0 c1 c2 c3 c4 => SortedC_ct a0 a1 a2 a3 a4 c0 c1 c2 c3 c4 o0 o1 o2 o3 o4 bo
  repeat (first | apply G.seq | refine G.plain (h := ?_) | apply G.block | apply Dn.next | refine R.enter0 (h := ?_) | refine R.nil (h := ?_) | refine R.move (h := ?_) | refine R.assign (h := ?_) | refine R.subw (h := ?_) | refine R.len (h := ?_))
  refine G.loop (X := Int) (fun i => -1 ≤ i ∧ i ≤ (n : Int) - 1 ∧ ∀ j : Nat, i < j → j < n → 0 ≤ cmpT ⟨o0, o1, o2, o3, o4⟩ (at5 ts j) (at5 ts (j - 1)))
    (fun i => [(5, .int .i64 i), (0, .slice p n cap), (1, .func (.func 48) #[] #[.pointer (some ⟨bo, 0, none⟩)])])
    (fun i => [c, [(bo, row [.int .i64 o0, .int .i64 o1, .int .i64 o2, .int .i64 o3, .int .i64 o4] 26)]])
    (fun i => (i + 1).toNat) ((n : Int) - 1) ⟨by omega, by omega, fun j h1 h2 => by omega⟩ (body := ?_)
  rintro i ⟨hi1, hi2, hi⟩
  have hlen := hv.1
  by_cases h0 : 0 < i
  · obtain ⟨b, off, cs, T, fz, rfl, rfl, hr⟩ := hv.pos (by omega)
    have hj := hr i.toNat (by omega)
    have hj1 := hr (i.toNat - 1) (by omega)
    have e1 : at5 ts i.toNat = ts.getD i.toNat ⟨0, 0, 0, 0, 0⟩ := rfl
    have e2 : at5 ts (i.toNat - 1) = ts.getD (i.toNat - 1) ⟨0, 0, 0, 0, 0⟩ := rfl
    generalize ts.getD i.toNat ⟨0, 0, 0, 0, 0⟩ = t1 at hj e1
    generalize ts.getD (i.toNat - 1) ⟨0, 0, 0, 0, 0⟩ = t2 at hj1 e2
    obtain ⟨x0, x1, x2, x3, x4⟩ := t1
    obtain ⟨y0, y1, y2, y3, y4⟩ := t2
    simp only [tcells] at hj hj1
    have e3 : (i - 1).toNat = i.toNat - 1 := by omega
    by_cases hc : cmpT ⟨o0, o1, o2, o3, o4⟩ ⟨x0, x1, x2, x3, x4⟩ ⟨y0, y1, y2, y3, y4⟩ < 0
    · have hno : sortedB ⟨o0, o1, o2, o3, o4⟩ ts = false := sortedB_no (i := i.toNat) (by omega) (by omega) (by rw [e1, e2]; exact hc)
      repeat (first | apply G.seq | refine G.plain (h := ?_) | apply G.block | apply G.skip | apply G.ret | apply Dn.next | apply Dn.retThen | apply Dn.retBlock | refine G.condPT (ht := ?_) | refine G.draw (id := 4) [] (h := ?_) | refine R.enter0 (h := ?_) | refine R.nil (h := ?_) | refine R.move (h := ?_) | refine R.assign (h := ?_) | refine R.loadN (h := ?_) | refine R.lss (h := ?_) | refine R.gtr (h := ?_) | refine R.subw (h := ?_) | refine R.indexAddr (h := ?_) | refine R.callVP (hct := by apply hcl <;> (first | omega | assumption)) (h := ?_))
      (refine Dn.post (Hr := [[(b, rowf cs T fz)], [(bo, row [.int .i64 o0, .int .i64 o1, .int .i64 o2, .int .i64 o3, .int .i64 o4] 26)]]) Tryz.results47 (hR := ?_); exact ⟨by rw [hno]; rfl, rfl⟩)
    · repeat (first | apply G.seq | refine G.plain (h := ?_) | apply G.block | apply G.skip | apply Dn.next | apply Dn.blockEnd | refine G.condPT (ht := ?_) | refine G.condPF (ht := ?_) | refine G.draw (id := 4) [] (h := ?_) | refine R.enter0 (h := ?_) | refine R.nil (h := ?_) | refine R.move (h := ?_) | refine R.assign (h := ?_) | refine R.loadN (h := ?_) | refine R.lss (h := ?_) | refine R.gtr (h := ?_) | refine R.subw (h := ?_) | refine R.indexAddr (h := ?_) | refine R.callVP (hct := by apply hcl <;> (first | omega | assumption)) (h := ?_))
      refine Dn.round (i - 1) ⟨by omega, by omega, fun j h1 h2 => ?_⟩ (by omega)
      by_cases hji : j = i.toNat
      · subst hji
        rw [e1, e2]; omega
      · exact hi j (by omega) h2
  · have hyes : sortedB ⟨o0, o1, o2, o3, o4⟩ ts = true := sortedB_iff.2 fun j h1 h2 => hi j (by omega) (by omega)
    repeat (first | apply G.seq | refine G.plain (h := ?_) | apply G.exit | apply G.ret | apply Dn.next | apply Dn.exitHere | apply Dn.exitThen | refine G.condPF (ht := ?_) | refine R.enter0 (h := ?_) | refine R.nil (h := ?_) | refine R.move (h := ?_) | refine R.assign (h := ?_) | refine R.gtr (h := ?_))
    (refine Dn.post (Hr := [c, [(bo, row [.int .i64 o0, .int .i64 o1, .int .i64 o2, .int .i64 o3, .int .i64 o4] 26)]]) Tryz.results47 (hR := ?_); exact ⟨by rw [hyes]; rfl, rfl⟩)
theorem Sorted_ct (o0 o1 o2 o3 o4 : Int) (p : Option Addr) (n cap : Nat) (ts : List T5) (c : Chunk) (hv : RV p n ts c) (hn : n ≤ 300) :
    CtQ Tryz.prog 21 [.slice p n cap, .agg #[.int .i64 o0, .int .i64 o1, .int .i64 o2, .int .i64 o3, .int .i64 o4]] [c] (.bool (sortedB ⟨o0, o1, o2, o3, o4⟩ ts)) := by
  refine Ct.intro Tryz.func21 rfl Tryz.ntmps21 (nle rfl) fun w0 => ?_; dsimp only [argSlots, Nat.reduceAdd]
  have hcl := fun bo => IsSorted_ct o0 o1 o2 o3 o4 bo p n cap ts c hv hn
  repeat (first | apply G.seq | refine G.plain (h := ?_) | apply G.ret | apply Dn.next | refine R.enter0 (h := ?_) | refine R.nil (h := ?_) | refine R.move (h := ?_) | refine R.assign (h := ?_) | (refine R.box (h := ?_); intro _) | refine R.makeFunc (h := ?_) | refine R.callP (hct := by apply hcl <;> (first | omega | assumption)) (h := ?_))
  (refine Dn.post (Hr := [c]) Tryz.results21 (hR := ?_); exact ⟨rfl, rfl⟩)
end Go.Proofs.YtdkihpjnidhnmaaGreat
namespace Go.Proofs.YtdkihpjnidhnmaaGreat
open Go.SL Go.Spc Go.Tup Go.Srt
theorem Sort_arg (bw : Nat) (f : Fl) (o : T5) (ho : formed o = false) (once : Bool) : CtQ Tryz.prog 18 [pv bw, flv f, tv o, .bool once] [] (.tuple #[flv ⟨0, 0, 0, 0⟩, .int .i64 1]) := by
  have hF := Formed_ct o.c0 o.c1 o.c2 o.c3 o.c4
  rw [show (⟨o.c0, o.c1, o.c2, o.c3, o.c4⟩ : T5) = o from rfl, ho] at hF
  have hflv : flv f = .agg #[.int .i64 (f.first : Int), .int .i64 (f.blocks : Int), .int .i64 (f.width : Int), .int .i64 (f.count : Int)] := rfl
  have hov : tv o = .agg #[.int .i64 o.c0, .int .i64 o.c1, .int .i64 o.c2, .int .i64 o.c3, .int .i64 o.c4] := rfl
  rw [hov, hflv]
  refine Ct.intro Tryz.func18 rfl Tryz.ntmps18 (nle rfl) fun w0 => ?_; dsimp only [argSlots, Nat.reduceAdd]
  repeat (first | apply G.seq | refine G.plain (h := ?_) | apply G.ret | refine G.condT (h := ?_) | apply Dn.next | apply Dn.retThen | refine R.enter0 (h := ?_) | refine R.nil (h := ?_) | refine R.enterT (h := ?_) | refine R.move (h := ?_) | refine R.assign (h := ?_) | refine R.loadN (h := ?_) | refine R.storeN (h := ?_) | (refine R.alloc (h := ?_); intro _) | (refine R.box (h := ?_); intro _) | refine R.pickF (h := ?_) | refine R.not (h := ?_) | refine R.eqlNil (h := ?_) | refine R.build (h := ?_) | refine R.callP (hct := by apply hF <;> (first | omega | assumption)) (h := ?_))
  (refine Dn.post (Hr := []) Tryz.results18 (hR := ?_); exact ⟨rfl, rfl⟩)
theorem Sort_room (bw bd ba bs : Nat) (W : Wk) (cd ca cs : Chunk) (h : Wc bd ba bs W cd ca cs) (f : Fl) (fts : List T5) (Lv : List Ext) (hfo : FileOk W.δ.disk W.δ.size Lv f fts) (o : T5) (ho : formed o = true) (once : Bool)
    (h1 : W.δ.size ≤ W.α.room - W.α.used) (h2 : W.α.room - W.α.used < 5 * W.δ.size) :
    Ct Tryz.prog 18 [pv bw, flv f, tv o, .bool once] [wrow bw bd ba bs, cd, ca, cs] fun v H' =>
      ∃ ca' α', v = .tuple #[flv ⟨0, 0, 0, 0⟩, .int .i64 7] ∧ H' = [wrow bw bd ba bs, cd, ca', cs] ∧ Wc bd ba bs { W with α := α' } cd ca' cs ∧ Ev W { W with α := α' } 0 0 ∧ α'.gs.Perm W.α.gs := by
  obtain ⟨⟨hs1, hs2⟩, hbk, hfr⟩ := h.dev.num
  obtain ⟨hu1, hu2, _, hu4⟩ := h.ar.num
  have hF := Formed_ct o.c0 o.c1 o.c2 o.c3 o.c4
  rw [show (⟨o.c0, o.c1, o.c2, o.c3, o.c4⟩ : T5) = o from rfl, ho] at hF
  have hD := WDevice_ct bw bd ba bs
  have hA := WArena_ct bw bd ba bs
  have hRd := Read_u bw bd ba bs W cd ca cs h f fts Lv hfo h1
  have hflv : flv f = .agg #[.int .i64 (f.first : Int), .int .i64 (f.blocks : Int), .int .i64 (f.width : Int), .int .i64 (f.count : Int)] := rfl
  have hov : tv o = .agg #[.int .i64 o.c0, .int .i64 o.c1, .int .i64 o.c2, .int .i64 o.c3, .int .i64 o.c4] := rfl
  rw [hflv] at hRd ⊢
  rw [hov]
  refine Ct.intro Tryz.func18 rfl Tryz.ntmps18 (nle rfl) fun w0 => ?_; dsimp only [argSlots, Nat.reduceAdd]
  repeat (first | apply G.seq | refine G.plain (h := ?_) | apply G.skip | refine G.condF (h := ?_) | apply Dn.next | refine R.enter0 (h := ?_) | refine R.nil (h := ?_) | refine R.enterT (h := ?_) | refine R.move (h := ?_) | refine R.assign (h := ?_) | refine R.loadN (h := ?_) | (refine R.alloc (h := ?_); intro _) | (refine R.box (h := ?_); intro _) | refine R.pickF (h := ?_) | refine R.not (h := ?_) | refine R.eqlNil (h := ?_) | refine R.callP (hct := by apply hF <;> (first | omega | assumption)) (h := ?_))
  refine R.call (hct := hRd) (h := ?_)
  rintro _ _ ⟨bx, g, ca1, α1, cx, cb, rfl, rfl, hW1, hE1, hg1, hgn, hr1⟩
  try dsimp only [List.cons_append, List.nil_append]
  have hRc := RClose_u bw bd ba bs { W with α := α1 } cd ca1 cs hW1 bx f fts g W.α.gs hg1 0 cx cb hr1
  repeat (first | apply G.seq | refine G.plain (h := ?_) | apply G.skip | apply Dn.next | refine G.condPF (ht := ?_) | refine R.enter0 (h := ?_) | refine R.nil (h := ?_) | refine R.move (h := ?_) | refine R.assign (h := ?_) | refine R.extract (h := ?_) | refine R.eql (h := ?_))
  refine R.call (hct := hRc) (h := ?_)
  rintro _ _ ⟨ca2, α2, cx2, rfl, rfl, hW2, hE2, hg2, hx2⟩
  try dsimp only [List.cons_append, List.nil_append]
  have hrm2 : α2.room = W.α.room := by have h1 : α1.room = W.α.room := hE1.room; have h2 : α2.room = α1.room := hE2.room; omega
  have hus2 : α2.used = W.α.used := by
    have h1 := hW2.ar.num.2.2.2
    dsimp only at h1
    rw [h1, (hg2.map (·.n)).sum_nat, ← hu4]
  have hL := aLeft ba α2 ca2 hW2.ar
  rw [show (α2.room : Int) - (α2.used : Int) = ((W.α.room - W.α.used : Nat) : Int) by omega] at hL
  have hSz := Size_ct bd W.δ cd h.dev
  have e5 : IntKind.wrap .i64 (5 * (W.δ.size : Int)) = ((5 * W.δ.size : Nat) : Int) := by rw [wrap_i64 (by omega)]; omega
  repeat (first | apply G.seq | refine G.plain (h := ?_) | apply G.ret | apply Dn.next | apply Dn.retThen | refine G.condPT (ht := ?_) | refine R.enter0 (h := ?_) | refine R.nil (h := ?_) | refine R.move (h := ?_) | refine R.assign (h := ?_) | refine R.storeN (h := ?_) | refine R.lss (h := ?_) | refine R.mulw (h := ?_) | refine R.build (h := ?_) | refine R.callP (hct := by apply hD <;> (first | omega | assumption)) (h := ?_) | refine R.callP (hct := by apply hA <;> (first | omega | assumption)) (h := ?_) | refine R.callP (hct := by apply hL <;> (first | omega | assumption)) (h := ?_) | refine R.callP (hct := by apply hSz <;> (first | omega | assumption)) (h := ?_))
  (refine Dn.post (Hr := [wrow bw bd ba bs, cd, ca2, cs]) Tryz.results18 (hR := ?_); exact ⟨ca2, α2, rfl, rfl, hW2, hE1.trans hE2, hg2⟩)
theorem Lay_room (bw bd ba bs : Nat) (W : Wk) (cd ca cs : Chunk) (h : Wc bd ba bs W cd ca cs) (k : Nat) (h1 : 1 ≤ k) (h2 : k ≤ 5) (p : Option Addr) (n cap : Nat) (ts : List T5) (c : Chunk) (hv : RV p n ts c) (hn : n ≤ 100000000) (hr : W.α.room - W.α.used < W.δ.size) :
    CtQ Tryz.prog 15 [pv bw, .int .i64 (k : Int), .slice p n cap] [wrow bw bd ba bs, cd, ca, cs, c] (.tuple #[flv ⟨0, 0, 0, 0⟩, .int .i64 7]) := by
  have hWr := Write_room bw bd ba bs W cd ca cs h k n h1 h2 hn hr
  refine Ct.intro Tryz.func15 rfl Tryz.ntmps15 (nle rfl) fun w0 => ?_; dsimp only [argSlots, Nat.reduceAdd]
  repeat (first | apply G.seq | refine G.plain (h := ?_) | apply G.ret | apply Dn.next | apply Dn.retThen | refine G.condPT (ht := ?_) | refine R.enter0 (h := ?_) | refine R.nil (h := ?_) | refine R.move (h := ?_) | refine R.assign (h := ?_) | refine R.storeN (h := ?_) | (refine R.alloc (h := ?_); intro _) | refine R.extract (h := ?_) | refine R.neq (h := ?_) | refine R.len (h := ?_) | refine R.build (h := ?_) | refine R.callP (hct := by apply hWr <;> (first | omega | assumption)) (h := ?_))
  (refine Dn.post (Hr := [wrow bw bd ba bs, cd, ca, cs, c]) Tryz.results15 (hR := ?_); exact ⟨rfl, rfl⟩)
end Go.Proofs.YtdkihpjnidhnmaaGreat
namespace Go.Proofs.YtdkihpjnidhnmaaGreat
open Go.ChangeShapes Go.WideShapes Go.ChangeAt Go.RowKit Go.SL
theorem own : ownKnob Tryz.prog.godebug = none := by kernel_rfl
theorem laidOut : laidOutB Tryz.prog = true := by kernel_rfl
theorem below_of_st {W W' : World} {H : Hp} (h : St W [] W' H) : Below W.heap.size W W' :=
  ⟨h.os, h.tape, h.output, h.size, fun k hk => h.frame k hk (by simp)⟩
theorem trodAll_below {H : Type} {enc : TypeId × Value → H} {P : Program} {W W' : World} (hl : laidOutB P = true) (hb : Below W.heap.size W W') {sp : Nat → Bool} :
    ∀ (ts : List TypeId) (vs : List Value) (ds : List (DataW H)) (ps : List MemPlace), (∀ t ∈ ts, P.readableRec t = true ∧ t < P.types.size) →
      DataW.TrodAll enc P W 0 (fun _ => true) true ts vs ds ps → (∀ p ∈ ps, p.block < W.heap.size) → (∀ p ∈ ps, sp p.block = true) → DataW.TrodAll enc P W' 0 sp true ts vs ds ps
  | [], vs, ds, ps, _, h, _, _ => by
    cases vs <;> cases ds <;> simp [DataW.TrodAll] at h ⊢
    exact h
  | t :: ts, vs, ds, ps, hr, h, hlt, hsp => by
    obtain ⟨v, vs', d, ds', p, q, rfl, rfl, rfl, h0, r0⟩ := trodAll_cons h
    have h1 := WideElems.Trod_stays hl (hr t List.mem_cons_self).1 (hr t List.mem_cons_self).2 h0 (fun x hx => hb.same (hlt x (List.mem_append_left _ hx))) (fun x hx => hsp x (List.mem_append_left _ hx))
    exact trodAll_cons_mk h1 (trodAll_below hl hb ts vs' ds' q (fun t ht => hr t (List.mem_cons_of_mem _ ht)) r0 (fun x hx => hlt x (List.mem_append_right _ hx)) (fun x hx => hsp x (List.mem_append_right _ hx)))
theorem post_same {H : Type} {enc : TypeId × Value → H} {P : Program} {f : Func} {s : ChangeSpec} {apart fresh handsOn again : Bool} {W W' : World} {args : Array Value} {v : Value} {ds gs : List (DataW H)} {before pa pv : List MemPlace}
    (hW : DataW.Whole enc P f.params.toList s.vars apart W args.toList ds gs before)
    (hres : ∀ (b : Nat) (sp : Nat → Bool) (hd : Bool), DataW.TrodAll enc P W' b sp hd f.resultTypes.toList (v.resultList f.resultTypes.size) (s.fn H (ds ++ gs)).results [])
    (hargs : ∀ sp : Nat → Bool, (∀ p ∈ before, sp p.block = true) → DataW.TrodAll enc P W' 0 sp true f.params.toList args.toList (s.fn H (ds ++ gs)).args pa)
    (hvars : ∀ sp : Nat → Bool, (∀ p ∈ before, sp p.block = true) → DataW.TrodVars enc P W' sp s.vars (s.fn H (ds ++ gs)).vars pv)
    (hps : before = pa ++ pv) (hk : W.keptBut W' (· ∈ before)) (hfz : ∀ a : Addr, a.block < W.heap.size → W'.frozen? a = W.frozen? a)
    (hok : ∀ (j : Nat) (t : TypeId) (r : Value), f.resultTypes[j]? = some t → (v.resultList f.resultTypes.size)[j]? = some r → Value.okWide P W' .any 0 t r) :
    s.post enc P f apart fresh handsOn again W args v W' := by
  have hold : ∀ p ∈ before, (fun b => decide (b < W.heap.size)) p.block = true := fun p hp => by simpa using hW.lt p hp
  have hltb : ∀ p ∈ before, p.block < W.heap.size := fun p hp => hW.lt p hp
  refine ⟨ds, gs, before, [], pa, pv, hW, hres _ _ _, hargs _ hold, hvars _ hold, World.keptBut_mono (fun p hp => ⟨hp, ?_⟩) hk, fun _ => ?_⟩
  · rw [hps, List.mem_append] at hp
    exact Or.inr hp
  · obtain ⟨_, _, _, _, _, hz, hn⟩ := hW
    refine ⟨hok, _, _, ([] ++ pa) ++ pv, ⟨[] ++ pa, pv, trodAll_append (hargs _ (fun _ _ => rfl)) (hres _ _ _), hvars _ (fun _ _ => rfl), rfl, ?_, ?_⟩, ?_⟩
    · intro b off hp
      have hp' : MemPlace.cell b off ∈ before := by rw [hps]; simpa using hp
      rw [hfz _ (hltb _ hp')]
      exact hz b off hp'
    · intro ha
      have := hn ha
      rw [hps] at this
      simpa using this
    · intro p hp _
      rw [hps]
      simpa using hp
/-- what a law's row asks behind the call, once it has answered true and nothing that was there has turned -/
theorem lawPost {H : Type} {enc : TypeId × Value → H} {P : Program} {f : Func} {s : ChangeSpec} {b : TypeId} {W W' : World} {args : Array Value} {ds gs : List (DataW H)} {before : List MemPlace}
    (hW : DataW.Whole enc P f.params.toList s.vars false W args.toList ds gs before) (hv : s.vars = []) (hres : f.resultTypes = #[b]) (hb : P.underlying b = some .bool) (hl : laidOutB P = true)
    (hr : ∀ t ∈ f.params.toList, P.readableRec t = true ∧ t < P.types.size) (hfn : s.fn H (ds ++ gs) = { results := [.lit (.bool true)], args := ds }) (hbel : Below W.heap.size W W') :
    s.post enc P f false true false false W args (.bool true) W' := by
  have hW' := hW
  have hlt : ∀ p ∈ before, p.block < W.heap.size := fun p hp => hW'.lt p hp
  obtain ⟨p, q, hA, hV, rfl, hfz, hnd⟩ := hW
  rw [hv] at hV
  have hq : q = [] := by cases gs <;> simp [DataW.TrodVars] at hV; exact hV
  subst hq
  have hgs : gs = [] := by cases gs <;> simp [DataW.TrodVars] at hV ⊢
  subst hgs
  simp only [List.append_nil] at hW' hlt hfn
  refine post_same (pa := p) (pv := []) hW' ?_ ?_ ?_ (by simp) ?_ ?_ ?_
  · intro base sp hd
    simp only [List.append_nil, hfn, hres]
    exact trodAll_mk1 (shut_bool hb true)
  · intro sp hsp
    simp only [List.append_nil, hfn]
    exact trodAll_below hl hbel _ _ _ _ hr hA hlt hsp
  · intro sp _
    simp only [List.append_nil, hfn, hv]
    rfl
  · exact hbel.frame _
  · exact fun a ha => hbel.frozen ha
  · exact ok_one hres rfl (okWide_bool_mk hb true)
theorem st_nil (W : World) : St W (keys []) W [] :=
  ⟨by simp [keys], by simp, by simp [keys], fun _ _ _ => rfl, Nat.le_refl _, rfl, rfl, rfl⟩
/-- a law without memory of its own among its arguments -/
theorem law_calls {P : Program} {f : FuncId} {args : List Value} (h : CtQ P f args [] (.bool true)) (W : World) :
    Calls P f args.toArray W fun e W' => e = .returned (.bool true) ∧ Below W.heap.size W W' := by
  unfold CtQ Ct at h
  refine (h W (st_nil W)).mono fun e W' ⟨v, H', h1, ⟨h2, h3⟩, h4⟩ => ?_
  subst h2
  exact ⟨h1, below_of_st h4⟩
theorem cellInt {P : Program} {W : World} {base : Nat} {e : TypeId} {k : IntKind} {v : Value} (he : P.underlying e = some (.int k)) (h : Cell.okWide P W .any base e v) : ∃ n, v = .int k n ∧ k.has n = true := by
  simp only [Cell.okWide, he] at h
  cases v <;> simp_all [Cell.ok]
/-- an array of five ints -/
theorem open5 {P : Program} {W : World} {base : Nat} {T e : TypeId} {k : IntKind} {v : Value} (hu : P.underlying T = some (.array 5 e)) (hct : P.cellTypes P.depth T = some [e, e, e, e, e]) (hc : P.cellsOf T = 5)
    (he : P.underlying e = some (.int k)) (h : Value.okWide P W .any base T v) : ∃ a0 a1 a2 a3 a4, v = .agg #[.int k a0, .int k a1, .int k a2, .int k a3, .int k a4] := by
  simp only [Value.okWide, hu] at h
  obtain ⟨cs, rfl, hsz, ts, hts, _, hall⟩ := h
  rw [hct] at hts
  obtain rfl := Option.some.inj hts
  rw [hc] at hsz
  obtain ⟨l⟩ := cs
  match l, hsz with
  | [v0, v1, v2, v3, v4], _ =>
    have g : ∀ i v, ([v0, v1, v2, v3, v4] : List Value)[i]? = some v → i < 5 → ∃ n, v = .int k n := by
      intro i v hv hi
      obtain ⟨u, hu1, hu2⟩ := hall i v (by simpa using hv)
      have : u = e := by
        match i, hi with
        | 0, _ => exact (Option.some.inj hu1).symm
        | 1, _ => exact (Option.some.inj hu1).symm
        | 2, _ => exact (Option.some.inj hu1).symm
        | 3, _ => exact (Option.some.inj hu1).symm
        | 4, _ => exact (Option.some.inj hu1).symm
      subst this
      obtain ⟨n, hn, _⟩ := cellInt he hu2
      exact ⟨n, hn⟩
    obtain ⟨n0, rfl⟩ := g 0 v0 rfl (by omega)
    obtain ⟨n1, rfl⟩ := g 1 v1 rfl (by omega)
    obtain ⟨n2, rfl⟩ := g 2 v2 rfl (by omega)
    obtain ⟨n3, rfl⟩ := g 3 v3 rfl (by omega)
    obtain ⟨n4, rfl⟩ := g 4 v4 rfl (by omega)
    exact ⟨n0, n1, n2, n3, n4, rfl⟩
theorem uncons {α : Type} {l : List α} {n : Nat} (h : l.length = n + 1) : ∃ a t, l = a :: t ∧ t.length = n := by
  match l, h with
  | a :: t, h => exact ⟨a, t, rfl, by simpa using h⟩
/-- ints side by side -/
theorem openN {P : Program} {W : World} {base : Nat} {T e E : TypeId} {m n : Nat} {k : IntKind} {v : Value} (hu : P.underlying T = some (.array m E)) (hct : P.cellTypes P.depth T = some (List.replicate n e)) (hc : P.cellsOf T = n)
    (he : P.underlying e = some (.int k)) (h : Value.okWide P W .any base T v) : ∃ l : List Int, l.length = n ∧ v = .agg (l.map fun x => Value.int k x).toArray := by
  simp only [Value.okWide, hu] at h
  obtain ⟨cs, rfl, hsz, ts, hts, hm, hall⟩ := h
  rw [hct] at hts
  obtain rfl := Option.some.inj hts
  rw [hc] at hsz
  obtain ⟨l⟩ := cs
  have g : ∀ v ∈ l, ∃ x, v = Value.int k x := by
    intro v hv
    obtain ⟨i, hi, rfl⟩ := List.getElem_of_mem hv
    obtain ⟨u, hu1, hu2⟩ := hall i l[i] (by simp)
    obtain rfl := List.eq_of_mem_replicate (List.mem_of_getElem? hu1)
    obtain ⟨x, hx, _⟩ := cellInt he hu2
    exact ⟨x, hx⟩
  have : ∃ xs : List Int, l = xs.map fun x => Value.int k x := by
    clear hall hsz hm
    induction l with
    | nil => exact ⟨[], rfl⟩
    | cons v l ih =>
      obtain ⟨x, rfl⟩ := g v List.mem_cons_self
      obtain ⟨xs, rfl⟩ := ih fun v hv => g v (List.mem_cons_of_mem _ hv)
      exact ⟨x :: xs, rfl⟩
  obtain ⟨xs, rfl⟩ := this
  exact ⟨xs, by simpa using hsz, rfl⟩
end Go.Proofs.YtdkihpjnidhnmaaGreat
namespace Go.Proofs.YtdkihpjnidhnmaaGreat
open Go.ChangeShapes Go.WideShapes Go.ChangeAt Go.RowKit Go.SL Go.Tup
theorem below_of_st1 {W W' : World} {c : Chunk} (hc : ∀ q ∈ c, W.heap[q.1]? = some q.2) (h : St W (keys [c]) W' [c]) : Below W.heap.size W W' :=
  ⟨h.os, h.tape, h.output, h.size, fun k hk => by
    by_cases hm : k ∈ keys [c]
    · simp only [keys, List.flatten_cons, List.flatten_nil, List.append_nil, List.mem_map] at hm
      obtain ⟨q, hq, rfl⟩ := hm
      rw [hc q hq]
      exact h.sat q (by simpa using hq)
    · exact h.frame k hk hm⟩
theorem law_calls1 {P : Program} {f : FuncId} {args : List Value} {c : Chunk} {W : World} (hc : ∀ q ∈ c, W.heap[q.1]? = some q.2) (hnd : (c.map (·.1)).Nodup) (h : CtQ P f args [c] (.bool true)) :
    Calls P f args.toArray W fun e W' => e = .returned (.bool true) ∧ Below W.heap.size W W' := by
  unfold CtQ Ct at h
  have hst : St W (keys [c]) W [c] := by
    refine ⟨by simpa [keys] using hnd, by simpa using hc, fun k hk => .inl hk, fun _ _ _ => rfl, Nat.le_refl _, rfl, rfl, rfl⟩
  refine (h W hst).mono fun e W' ⟨v, H', h1, ⟨h2, h3⟩, h4⟩ => ?_
  subst h2 h3
  exact ⟨h1, below_of_st1 hc h4⟩
theorem flat_of (cs : List Value) : ∀ (len off : Nat), (∀ i, i < len → ∃ t : T5, ∀ j, j < 5 → cs[off + i * 5 + j]? = (tcells t)[j]?) → ∃ ts : List T5, ts.length = len ∧ (cs.drop off).take (len * 5) = flat ts
  | 0, off, _ => ⟨[], rfl, by simp [flat]⟩
  | len + 1, off, h => by
    obtain ⟨t, ht⟩ := h 0 (by omega)
    obtain ⟨ts, hl, he⟩ := flat_of cs len (off + 5) (fun i hi => by
      obtain ⟨t, ht⟩ := h (i + 1) (by omega)
      exact ⟨t, fun j hj => by rw [← ht j hj]; congr 1; omega⟩)
    refine ⟨t :: ts, by simp [hl], ?_⟩
    have hd : cs.drop off = tcells t ++ cs.drop (off + 5) := by
      apply List.ext_getElem?
      intro j
      rw [List.getElem?_drop]
      by_cases hj : j < 5
      · rw [List.getElem?_append_left (by simpa [tcells] using hj), ← ht j hj]; simp
      · rw [List.getElem?_append_right (by simp [tcells]; omega), List.getElem?_drop]
        congr 1
        simp [tcells]; omega
    rw [hd, flat, ← he, List.take_append]
    rw [List.take_of_length_le (by simp [tcells]; omega)]
    congr 2
    simp [tcells]; omega
theorem open_tuples {H : Type} {enc : TypeId × Value → H} {P : Program} {w : World} {base : Nat} {t E e : TypeId} {v : Value} {d : DataW H} {ps : List MemPlace} (ht : P.underlying t = some (.slice E)) (hE : P.underlying E = some (.array 5 e))
    (he : P.underlying e = some (.int .i64)) (hcE : P.cellsOf E = 5) (hce : P.cellsOf e = 1) (h : DataW.Trod enc P w 0 (fun _ => true) true t v d ps) (hok : Value.okWide P w .any base t v) :
    ∃ p n cap ts c, v = .slice p n cap ∧ RV p n ts c ∧ n ≤ maxLen ∧ (∀ q ∈ c, w.heap[q.1]? = some q.2) ∧ (c.map (·.1)).Nodup := by
  obtain ⟨a, len, cap, rfl⟩ := okWide_slice ht hok
  obtain ⟨fuel, h⟩ := h
  rcases Deep.open_slice ht h with ⟨h0, _⟩ | ⟨a', len', cap', m, n, D, Pl, h0, hb, hl, hm, hmm, _, hx⟩
  · simp [Value.cells] at h0
    obtain ⟨rfl, rfl, rfl⟩ := h0
    exact ⟨none, 0, 0, [], [], rfl, ⟨rfl, .inl ⟨rfl, rfl⟩⟩, by decide, by simp, by simp⟩
  · simp [Value.cells] at h0
    obtain ⟨rfl, rfl, rfl⟩ := h0
    by_cases hz : len = 0
    · subst hz
      exact ⟨some a', 0, cap, [], [], rfl, ⟨rfl, .inl ⟨rfl, rfl⟩⟩, by decide, by simp, by simp⟩
    · simp only [if_true] at hmm
      subst hmm
      have each : ∀ i, i < len → ∃ t : T5, ∀ j, j < 5 → w.cell? ((a'.add (i * 5)).add j) = (tcells t)[j]? := by
        intro i hi
        obtain ⟨cs', h1, h2⟩ := hx i (by omega)
        rw [hcE] at h1
        obtain ⟨xs, k, _, _, hlen, hxl, hxe⟩ := DataW.trod_array hE h2
        rw [hcE] at hlen
        have hcell : ∀ j, j < 5 → w.cell? ((a'.add (i * 5)).add j) = cs'[j]? := by
          intro j hj
          simp only [World.cells?, Nat.zero_le, if_true] at h1
          exact mapM_some_get h1 j j (by simp [hj])
        have hint : ∀ j, j < 5 → ∃ x, cs'[j]? = some (.int .i64 x) := by
          intro j hj
          have hj' := hxe j hj
          rw [hce, Nat.mul_one] at hj'
          rw [List.getElem?_eq_getElem (by omega)] at hj'
          obtain ⟨x, hx1, _⟩ := DataW.trod_int he hj'
          refine ⟨x, ?_⟩
          have := congrArg (·[0]?) hx1
          simpa [List.getElem?_take, List.getElem?_drop] using this
        obtain ⟨x0, h0⟩ := hint 0 (by omega)
        obtain ⟨x1, h1⟩ := hint 1 (by omega)
        obtain ⟨x2, h2⟩ := hint 2 (by omega)
        obtain ⟨x3, h3⟩ := hint 3 (by omega)
        obtain ⟨x4, h4⟩ := hint 4 (by omega)
        refine ⟨⟨x0, x1, x2, x3, x4⟩, fun j hj => ?_⟩
        rw [hcell j hj]
        match j, hj with
        | 0, _ => exact h0
        | 1, _ => exact h1
        | 2, _ => exact h2
        | 3, _ => exact h3
        | 4, _ => exact h4
      obtain ⟨b, off, spot⟩ := a'
      obtain ⟨t0, ht0⟩ := each 0 (by omega)
      have hc0 := ht0 0 (by omega)
      have hs : spot = none := by
        cases spot with
        | none => rfl
        | some s =>
          exfalso
          simp only [Addr.add, World.cell?, tcells, List.getElem?_cons_zero] at hc0
          revert hc0
          split <;> simp
      subst hs
      have hadd : ∀ i j, ((⟨b, off, none⟩ : Addr).add i).add j = ⟨b, off + i + j, none⟩ := fun i j => by rw [Addr.add_mk, Addr.add_mk]
      cases hbk : w.heap[b]? with
      | none => rw [hadd] at hc0; simp [World.cell?, hbk, tcells] at hc0
      | some ob =>
        cases ob with
        | cells arr T fz =>
          obtain ⟨ts, hts, hflat⟩ := flat_of arr.toList len off (fun i hi => by
            obtain ⟨t, ht⟩ := each i hi
            refine ⟨t, fun j hj => ?_⟩
            rw [← ht j hj, hadd, cell_of_row w b _ arr T fz hbk]
            simp)
          refine ⟨_, len, _, ts, [(b, rowf arr.toList T fz)], rfl, ⟨hts, .inr ⟨b, off, arr.toList, T, fz, rfl, rfl, hflat⟩⟩, by omega, ?_, by simp⟩
          intro q hq
          simp only [List.mem_singleton] at hq
          subst hq
          simpa [rowf] using hbk
        | _ => rw [hadd] at hc0; simp [World.cell?, hbk, tcells] at hc0
end Go.Proofs.YtdkihpjnidhnmaaGreat
namespace Go.Proofs.YtdkihpjnidhnmaaGreat
open Go.ChangeShapes Go.WideShapes Go.ChangeAt Go.RowKit Go.SL Go.Tup Go.Spc
/-- a law's tuples -/
def InT (ts : List T5) : Prop := ∀ t ∈ ts, ∀ c ∈ t.toList, inI64 c
theorem lit_i64 {x : Int} (h : (Lit.int .i64 x).wf = true) : inI64 x := by
  simp [Lit.wf, IntKind.min, IntKind.max, IntKind.bits, IntKind.signed] at h
  unfold inI64; omega
/-- bytes side by side, in a struct or an array -/
theorem openU8 {P : Program} {W : World} {base : Nat} {T e : TypeId} {n : Nat} {v : Value} (hu : (∃ fs, P.underlying T = some (.struct fs)) ∨ ∃ m E, P.underlying T = some (.array m E)) (hct : P.cellTypes P.depth T = some (List.replicate n e)) (hc : P.cellsOf T = n)
    (he : P.underlying e = some (.int .u8)) (h : Value.okWide P W .any base T v) : ∃ l : List Nat, l.length = n ∧ (∀ x ∈ l, x < 256) ∧ v = .agg (l.map fun (x : Nat) => Value.int .u8 (x : Int)).toArray := by
  have h' : ∃ cs, v = .agg cs ∧ cs.size = P.cellsOf T ∧ Row.okWide P W .any base T cs := by
    rcases hu with ⟨fs, hu⟩ | ⟨m, E, hu⟩ <;> simpa only [Value.okWide, hu] using h
  obtain ⟨cs, rfl, hsz, ts, hts, hm, hall⟩ := h'
  rw [hct] at hts
  obtain rfl := Option.some.inj hts
  rw [hc] at hsz
  obtain ⟨l⟩ := cs
  have g : ∀ v ∈ l, ∃ x : Nat, x < 256 ∧ v = Value.int .u8 (x : Int) := by
    intro v hv
    obtain ⟨i, hi, rfl⟩ := List.getElem_of_mem hv
    obtain ⟨u, hu1, hu2⟩ := hall i l[i] (by simp)
    obtain rfl := List.eq_of_mem_replicate (List.mem_of_getElem? hu1)
    obtain ⟨x, hx, hr⟩ := cellInt he hu2
    simp [IntKind.has, IntKind.min, IntKind.max, IntKind.bits, IntKind.signed] at hr
    exact ⟨x.toNat, by omega, by rw [hx, Int.toNat_of_nonneg (by omega)]⟩
  have : ∃ xs : List Nat, (∀ x ∈ xs, x < 256) ∧ l = xs.map fun (x : Nat) => Value.int .u8 (x : Int) := by
    clear hall hsz hm h
    induction l with
    | nil => exact ⟨[], by simp, rfl⟩
    | cons v l ih =>
      obtain ⟨x, hx, rfl⟩ := g v List.mem_cons_self
      obtain ⟨xs, hxs, rfl⟩ := ih fun v hv => g v (List.mem_cons_of_mem _ hv)
      exact ⟨x :: xs, by simpa using ⟨hx, hxs⟩, rfl⟩
  obtain ⟨xs, hxs, rfl⟩ := this
  exact ⟨xs, by simpa using hsz, hxs, rfl⟩
theorem openNat8 {P : Program} {W : World} {base : Nat} {e : TypeId} {v : Value} (he : P.underlying e = some (.int .u8)) (h : Value.okWide P W .any base e v) : ∃ x : Nat, x < 256 ∧ v = .int .u8 (x : Int) := by
  have h' : Cell.okWide P W .any base e v := by simpa only [Value.okWide, he] using h
  obtain ⟨x, hx, hr⟩ := cellInt he h'
  simp [IntKind.has, IntKind.min, IntKind.max, IntKind.bits, IntKind.signed] at hr
  exact ⟨x.toNat, by omega, by rw [hx, Int.toNat_of_nonneg (by omega)]⟩
theorem openNat16 {P : Program} {W : World} {base : Nat} {e : TypeId} {v : Value} (he : P.underlying e = some (.int .u16)) (h : Value.okWide P W .any base e v) : ∃ x : Nat, x < 65536 ∧ v = .int .u16 (x : Int) := by
  have h' : Cell.okWide P W .any base e v := by simpa only [Value.okWide, he] using h
  obtain ⟨x, hx, hr⟩ := cellInt he h'
  simp [IntKind.has, IntKind.min, IntKind.max, IntKind.bits, IntKind.signed] at hr
  exact ⟨x.toNat, by omega, by rw [hx, Int.toNat_of_nonneg (by omega)]⟩
theorem flat_ofR (cs : List Value) : ∀ (len off : Nat), (∀ i, i < len → ∃ t : T5, (∀ c ∈ t.toList, inI64 c) ∧ ∀ j, j < 5 → cs[off + i * 5 + j]? = (tcells t)[j]?) → ∃ ts : List T5, ts.length = len ∧ InT ts ∧ (cs.drop off).take (len * 5) = flat ts
  | 0, off, _ => ⟨[], rfl, fun t ht => by simp at ht, by simp [flat]⟩
  | len + 1, off, h => by
    obtain ⟨t, htr, ht⟩ := h 0 (by omega)
    obtain ⟨ts, hl, hin, he⟩ := flat_ofR cs len (off + 5) (fun i hi => by
      obtain ⟨t, htr, ht⟩ := h (i + 1) (by omega)
      exact ⟨t, htr, fun j hj => by rw [← ht j hj]; congr 1; omega⟩)
    refine ⟨t :: ts, by simp [hl], fun u hu => by
      rcases List.mem_cons.1 hu with rfl | hu
      · exact htr
      · exact hin u hu, ?_⟩
    have hd : cs.drop off = tcells t ++ cs.drop (off + 5) := by
      apply List.ext_getElem?
      intro j
      rw [List.getElem?_drop]
      by_cases hj : j < 5
      · rw [List.getElem?_append_left (by simpa [tcells] using hj), ← ht j hj]; simp
      · rw [List.getElem?_append_right (by simp [tcells]; omega), List.getElem?_drop]
        congr 1
        simp [tcells]; omega
    rw [hd, flat, ← he, List.take_append]
    rw [List.take_of_length_le (by simp [tcells]; omega)]
    congr 2
    simp [tcells]; omega
theorem open_tuplesR {H : Type} {enc : TypeId × Value → H} {P : Program} {w : World} {base : Nat} {t E e : TypeId} {v : Value} {d : DataW H} {ps : List MemPlace} (ht : P.underlying t = some (.slice E)) (hE : P.underlying E = some (.array 5 e))
    (he : P.underlying e = some (.int .i64)) (hcE : P.cellsOf E = 5) (hce : P.cellsOf e = 1) (h : DataW.Trod enc P w 0 (fun _ => true) true t v d ps) (hok : Value.okWide P w .any base t v) :
    ∃ p n cap ts c, v = .slice p n cap ∧ RV p n ts c ∧ InT ts ∧ n ≤ maxLen ∧ (∀ q ∈ c, w.heap[q.1]? = some q.2) ∧ (c.map (·.1)).Nodup := by
  obtain ⟨a, len, cap, rfl⟩ := okWide_slice ht hok
  obtain ⟨fuel, h⟩ := h
  rcases Deep.open_slice ht h with ⟨h0, _⟩ | ⟨a', len', cap', m, n, D, Pl, h0, hb, hl, hm, hmm, _, hx⟩
  · simp [Value.cells] at h0
    obtain ⟨rfl, rfl, rfl⟩ := h0
    exact ⟨none, 0, 0, [], [], rfl, ⟨rfl, .inl ⟨rfl, rfl⟩⟩, fun t ht => by simp at ht, by decide, by simp, by simp⟩
  · simp [Value.cells] at h0
    obtain ⟨rfl, rfl, rfl⟩ := h0
    by_cases hz : len = 0
    · subst hz
      exact ⟨some a', 0, cap, [], [], rfl, ⟨rfl, .inl ⟨rfl, rfl⟩⟩, fun t ht => by simp at ht, by decide, by simp, by simp⟩
    · simp only [if_true] at hmm
      subst hmm
      have each : ∀ i, i < len → ∃ t : T5, (∀ c ∈ t.toList, inI64 c) ∧ ∀ j, j < 5 → w.cell? ((a'.add (i * 5)).add j) = (tcells t)[j]? := by
        intro i hi
        obtain ⟨cs', h1, h2⟩ := hx i (by omega)
        rw [hcE] at h1
        obtain ⟨xs, k, _, _, hlen, hxl, hxe⟩ := DataW.trod_array hE h2
        rw [hcE] at hlen
        have hcell : ∀ j, j < 5 → w.cell? ((a'.add (i * 5)).add j) = cs'[j]? := by
          intro j hj
          simp only [World.cells?, Nat.zero_le, if_true] at h1
          exact mapM_some_get h1 j j (by simp [hj])
        have hint : ∀ j, j < 5 → ∃ x, inI64 x ∧ cs'[j]? = some (.int .i64 x) := by
          intro j hj
          have hj' := hxe j hj
          rw [hce, Nat.mul_one] at hj'
          rw [List.getElem?_eq_getElem (by omega)] at hj'
          obtain ⟨x, hx1, _, hx3⟩ := DataW.trod_int he hj'
          refine ⟨x, lit_i64 hx3, ?_⟩
          have := congrArg (·[0]?) hx1
          simpa [List.getElem?_take, List.getElem?_drop] using this
        obtain ⟨x0, r0, h0⟩ := hint 0 (by omega)
        obtain ⟨x1, r1, h1⟩ := hint 1 (by omega)
        obtain ⟨x2, r2, h2⟩ := hint 2 (by omega)
        obtain ⟨x3, r3, h3⟩ := hint 3 (by omega)
        obtain ⟨x4, r4, h4⟩ := hint 4 (by omega)
        refine ⟨⟨x0, x1, x2, x3, x4⟩, fun c hc => by
          simp only [T5.toList, List.mem_cons, List.not_mem_nil, or_false] at hc
          rcases hc with rfl | rfl | rfl | rfl | rfl <;> assumption, fun j hj => ?_⟩
        rw [hcell j hj]
        match j, hj with
        | 0, _ => exact h0
        | 1, _ => exact h1
        | 2, _ => exact h2
        | 3, _ => exact h3
        | 4, _ => exact h4
      obtain ⟨b, off, spot⟩ := a'
      obtain ⟨t0, _, ht0⟩ := each 0 (by omega)
      have hc0 := ht0 0 (by omega)
      have hs : spot = none := by
        cases spot with
        | none => rfl
        | some s =>
          exfalso
          simp only [Addr.add, World.cell?, tcells, List.getElem?_cons_zero] at hc0
          revert hc0
          split <;> simp
      subst hs
      have hadd : ∀ i j, ((⟨b, off, none⟩ : Addr).add i).add j = ⟨b, off + i + j, none⟩ := fun i j => by rw [Addr.add_mk, Addr.add_mk]
      cases hbk : w.heap[b]? with
      | none => rw [hadd] at hc0; simp [World.cell?, hbk, tcells] at hc0
      | some ob =>
        cases ob with
        | cells arr T fz =>
          obtain ⟨ts, hts, hin, hflat⟩ := flat_ofR arr.toList len off (fun i hi => by
            obtain ⟨t, htr, ht⟩ := each i hi
            refine ⟨t, htr, fun j hj => ?_⟩
            rw [← ht j hj, hadd, cell_of_row w b _ arr T fz hbk]
            simp)
          refine ⟨_, len, _, ts, [(b, rowf arr.toList T fz)], rfl, ⟨hts, .inr ⟨b, off, arr.toList, T, fz, rfl, rfl, hflat⟩⟩, hin, by omega, ?_, by simp⟩
          intro q hq
          simp only [List.mem_singleton] at hq
          subst hq
          simpa [rowf] using hbk
        | _ => rw [hadd] at hc0; simp [World.cell?, hbk, tcells] at hc0
end Go.Proofs.YtdkihpjnidhnmaaGreat
