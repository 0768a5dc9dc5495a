/-
  Parts of the proof, put together: Space, Hold, Take, Give, Give2, WorkPlain, Work, Wr, Wr2, WrPlain, Put, CloseW, Rd, Next, Next2, User, Lay. No condition.
-/
import Derived.Test.YtdkihpjnidhnmaaGreatB2
set_option linter.unusedVariables false
set_option linter.unusedSimpArgs false
set_option linter.unnecessarySimpa false
namespace Go.Proofs.YtdkihpjnidhnmaaGreat
open Go.SL Go.Spc
structure Sp where
  n : Nat
  free : List Ext
def spCells (n : Nat) (p : Option Addr) (m cap : Nat) : List Value := [.int .i64 0, .int .i64 (n : Int), .slice p m cap]
/-- a space in memory: all its blocks from 0 on -/
def IsSpace (bs : Nat) (σ : Sp) (c : Chunk) : Prop :=
  ∃ p cap vc, c = (bs, row (spCells σ.n p σ.free.length cap) 101) :: vc ∧ Vec 98 2 p σ.free.length cap (ecells σ.free) vc ∧ fok σ.n σ.free ∧ σ.n ≤ 1000000
theorem fok_len {n : Nat} : ∀ {l : List Ext} {k : Nat}, fok n l → (∀ e ∈ l, k ≤ e.1) → k ≤ n → l.length ≤ n - k
  | [], _, _, _, _ => by simp
  | e :: l, k, h, hk, hn => by
    obtain ⟨h1, h2, h3⟩ := fok_cons.1 h
    have := fok_len (k := e.1 + e.2) h2 (fun y hy => Nat.le_of_lt (h3 y hy)) h1.2
    have := hk e List.mem_cons_self
    simp only [List.length_cons]
    omega
theorem end_ct (f b : Nat) (h : f + b ≤ 1000000) : CtQ Tryz.prog 78 [.agg #[.int .i64 (f : Int), .int .i64 (b : Int)]] [] (.int .i64 ((f + b : Nat) : Int)) := by
  have e : (f : Int) + (b : Int) = ((f + b : Nat) : Int) := by omega
  have ew : IntKind.wrap .i64 ((f : Int) + (b : Int)) = ((f + b : Nat) : Int) := by rw [e]; exact wrap_i64 (by omega)
  refine Ct.intro Tryz.func78 rfl Tryz.ntmps78 (nle rfl) fun w0 => ?_; dsimp only [argSlots, Nat.reduceAdd]
  repeat (first | apply G.seq | refine G.plain (h := ?_) | apply G.ret | apply Dn.next | refine R.enter0 (h := ?_) | refine R.nil (h := ?_) | refine R.assign (h := ?_) | refine R.fieldAddr (h := ?_) | refine R.load1 (h := ?_) | (refine R.box (h := ?_); intro _) | refine R.addw (h := ?_))
  (refine Dn.post (Hr := []) Tryz.results78 (hR := ?_); exact ⟨rfl, rfl⟩)
theorem inside_ct (bs : Nat) (σ : Sp) (c : Chunk) (h : IsSpace bs σ c) (first n : Nat) (hn : 1 ≤ n) (hf : first + n ≤ σ.n) :
    CtQ Tryz.prog 76 [.pointer (some ⟨bs, 0, none⟩), .int .i64 (first : Int), .int .i64 (n : Int)] [c] (.bool true) := by
  obtain ⟨p, cap, vc, rfl, hV, hfo, hnn⟩ := h
  have hE := end_ct 0 σ.n (by omega)
  rw [Nat.zero_add] at hE
  refine CtQ.conv (H2 := [[(bs, row (spCells σ.n p σ.free.length cap) 101)], vc]) ?_ (by simp)
  unfold spCells
  refine Ct.intro Tryz.func76 rfl Tryz.ntmps76 (nle rfl) fun w0 => ?_; dsimp only [argSlots, Nat.reduceAdd]
  repeat (first | apply G.seq | refine G.plain (h := ?_) | apply G.ret | apply Dn.next | refine R.enter0 (h := ?_) | refine R.nil (h := ?_) | refine R.enterT (h := ?_) | refine R.splitT (ht := ?_) | refine R.move (h := ?_) | refine R.assign (h := ?_) | refine R.nilCheck (h := ?_) | refine R.fieldAddr (h := ?_) | refine R.load1 (h := ?_) | refine R.loadN (h := ?_) | refine R.pickT (h := ?_) | refine R.leq (h := ?_) | refine R.geq (h := ?_) | refine R.subw (h := ?_) | refine R.neqNil (h := ?_) | refine R.callP (hct := by apply hE <;> (first | omega | assumption)) (h := ?_))
  (refine Dn.post (Hr := [[(bs, row [.int .i64 0, .int .i64 (σ.n : Int), .slice p σ.free.length cap] 101)], vc]) Tryz.results76 (hR := ?_); refine ⟨?_, rfl⟩)
  first | rfl | (rw [dec_true (by omega)]; rfl)
/-- an extent's cells -/
theorem eget {A B : List Ext} {e : Ext} {rest : List Value} {i : Nat} (hi : A.length = i) : (((ecells (A ++ e :: B) ++ rest).drop (i * 2)).take 2 = [.int .i64 (e.1 : Int), .int .i64 (e.2 : Int)]) ∧
    (ecells (A ++ e :: B) ++ rest)[i * 2]? = some (.int .i64 (e.1 : Int)) ∧ (ecells (A ++ e :: B) ++ rest)[i * 2 + 1]? = some (.int .i64 (e.2 : Int)) := by
  have hA : (ecells A).length = i * 2 := by rw [ecells_length, hi]
  rw [ecells_app, List.append_assoc]
  refine ⟨?_, ?_, ?_⟩
  · rw [← hA]; simp [ecells]
  · rw [List.getElem?_append_right (by omega), hA, Nat.sub_self]; rfl
  · rw [List.getElem?_append_right (by omega), hA, show i * 2 + 1 - i * 2 = 1 by omega]; rfl
theorem split_at {l : List Ext} {i : Nat} (h : i < l.length) : ∃ A e B, l = A ++ e :: B ∧ A.length = i := by
  refine ⟨l.take i, l[i], l.drop (i + 1), ?_, by simp; omega⟩
  rw [← List.drop_eq_getElem_cons h, List.take_append_drop]
theorem behindF_ct (bs b1 b2 vb : Nat) (n cap first : Nat) (free : List Ext) (rest : List Value) (hfo : fok n free) (hn : n ≤ 1000000) (k : Nat) (hk : k < free.length) (A B : List Ext) (e : Ext) (hs : free = A ++ e :: B) (hi : A.length = k) :
    CtQ Tryz.prog 97 [.int .i64 (k : Int), .pointer (some ⟨b1, 0, none⟩), .pointer (some ⟨b2, 0, none⟩)]
      [[(bs, row (spCells n (some ⟨vb, 0, none⟩) free.length cap) 101)], [(vb, row (ecells free ++ rest) 98)], [(b1, row [.pointer (some ⟨bs, 0, none⟩)] 57)], [(b2, row [.int .i64 (first : Int)] 3)]] (.bool (dec ((first : Int) < ((e.1 + e.2 : Nat) : Int)))) := by
  subst hs
  have he := (fok_app.1 hfo).2.1
  have he2 := (fok_cons.1 he).1
  have hE := end_ct e.1 e.2 (by omega)
  obtain ⟨g1, g2, g3⟩ := eget (rest := rest) (B := B) (e := e) hi
  unfold spCells
  generalize ecells (A ++ e :: B) ++ rest = cells at *
  refine Ct.intro Tryz.func97 rfl Tryz.ntmps97 (nle rfl) fun w0 => ?_; dsimp only [argSlots, Nat.reduceAdd]
  repeat (first | apply G.seq | refine G.plain (h := ?_) | apply G.ret | apply Dn.next | refine G.draw (id := 1) [(7, .quiet)] (h := ?_) | refine R.enter0 (h := ?_) | refine R.nil (h := ?_) | refine R.move (h := ?_) | refine R.assign (h := ?_) | refine R.nilCheck (h := ?_) | refine R.fieldAddr (h := ?_) | refine R.load1 (h := ?_) | refine R.loadN (h := ?_) | refine R.gtr (h := ?_) | refine R.indexAddr (h := ?_) | refine R.callQ (hct := by apply hE <;> (first | omega | assumption)) (h := ?_))
  (refine Dn.post (Hr := [[(bs, row [.int .i64 0, .int .i64 (n : Int), .slice (some ⟨vb, 0, none⟩) (A ++ e :: B).length cap] 101)], [(vb, row cells 98)], [(b1, row [.pointer (some ⟨bs, 0, none⟩)] 57)], [(b2, row [.int .i64 (first : Int)] 3)]]) Tryz.results97 (hR := ?_); exact ⟨rfl, rfl⟩)
theorem Search_ct (bs b1 b2 : Nat) (n cap first : Nat) (p : Option Addr) (vc : Chunk) (A B : List Ext) (hfo : fok n (A ++ B)) (hn : n ≤ 1000000) (hV : Vec 98 2 p (A ++ B).length cap (ecells (A ++ B)) vc) (m : Nat) (hm : m = (A ++ B).length) (hA : ∀ e ∈ A, e.1 + e.2 ≤ first) (hB : ∀ e ∈ B, first < e.1 + e.2) :
    CtQ Tryz.prog 96 [.int .i64 (m : Int), .func (.func 97) #[] #[.pointer (some ⟨b1, 0, none⟩), .pointer (some ⟨b2, 0, none⟩)]]
      [[(bs, row (spCells n p (A ++ B).length cap) 101)], vc, [(b1, row [.pointer (some ⟨bs, 0, none⟩)] 57)], [(b2, row [.int .i64 (first : Int)] 3)]] (.int .i64 (A.length : Int)) := by
  have hlen := fok_len hfo (k := 0) (by omega) (by omega)
  have hml : m ≤ 1000000 := by omega
  subst hm
  refine Ct.intro Tryz.func96 rfl Tryz.ntmps96 (nle rfl) fun w0 => ?_; dsimp only [argSlots, Nat.reduceAdd]
  repeat (first | apply G.seq | refine G.plain (h := ?_) | apply G.block | apply Dn.next | refine R.enter0 (h := ?_) | refine R.nil (h := ?_) | refine R.move (h := ?_) | refine R.assign (h := ?_))
  refine G.loop (X := Nat × Nat) (fun x => x.1 ≤ A.length ∧ A.length ≤ x.2 ∧ x.2 ≤ (A ++ B).length) (fun x => [(6, .int .i64 (x.2 : Int)), (5, .int .i64 (x.1 : Int)), (1, .func (.func 97) #[] #[.pointer (some ⟨b1, 0, none⟩), .pointer (some ⟨b2, 0, none⟩)])])
    (fun _ => [[(bs, row (spCells n p (A ++ B).length cap) 101)], vc, [(b1, row [.pointer (some ⟨bs, 0, none⟩)] 57)], [(b2, row [.int .i64 (first : Int)] 3)]]) (fun x => x.2 - x.1) (0, (A ++ B).length) ⟨Nat.zero_le _, by simp, Nat.le_refl _⟩ (body := ?_)
  rintro ⟨i, j⟩ ⟨hi, hj, hjm⟩
  dsimp only at hi hj hjm ⊢
  by_cases hij : i < j
  · have hsh : ((i : Int) + (j : Int)).fdiv (2 ^ min (Int.toNat 1) IntKind.u64.bits) = (((i + j) / 2 : Nat) : Int) := by
      have e0 : (2 : Int) ^ min (Int.toNat 1) IntKind.u64.bits = 2 := by decide
      rw [e0, Int.fdiv_eq_ediv_of_nonneg _ (by decide)]
      omega
    generalize hh : (i + j) / 2 = h at hsh
    have hh1 : i ≤ h ∧ h < j := by omega
    obtain ⟨A', e, B', hs, hA'⟩ := split_at (l := A ++ B) (i := h) (by omega)
    obtain ⟨_, h0 | ⟨vb, rest, hp, hvc, _⟩⟩ := hV
    · omega
    have hF := behindF_ct bs b1 b2 vb n cap first (A ++ B) rest hfo hn h (by omega) A' B' e hs hA'
    rw [← hp, ← hvc] at hF
    by_cases hlt : h < A.length
    · have hm : e ∈ A := by
        have h1 : (A ++ B)[h]? = some e := by rw [hs, List.getElem?_append_right (by omega)]; simp [hA']
        rw [List.getElem?_append_left hlt] at h1
        exact List.mem_of_getElem? h1
      have hle := hA e hm
      repeat (first | apply G.seq | refine G.plain (h := ?_) | apply G.block | apply G.skip | apply Dn.next | apply Dn.blockEnd | refine G.condPT (ht := ?_) | refine R.enter0 (h := ?_) | refine R.nil (h := ?_) | refine R.move (h := ?_) | refine R.assign (h := ?_) | refine R.lss (h := ?_) | refine R.addw (h := ?_) | refine R.convert (h := ?_) | refine R.notP (h := ?_) | refine R.shr (h := ?_) | refine R.callVP (hct := by apply hF <;> (first | omega | assumption)) (h := ?_))
      exact Dn.round (h + 1, j) ⟨by omega, by omega, by omega⟩ (by dsimp only; omega)
    · have hm : e ∈ B := by
        have h1 : (A ++ B)[h]? = some e := by rw [hs, List.getElem?_append_right (by omega)]; simp [hA']
        rw [List.getElem?_append_right (by omega)] at h1
        exact List.mem_of_getElem? h1
      have hle := hB e hm
      repeat (first | apply G.seq | refine G.plain (h := ?_) | apply G.block | apply G.skip | apply Dn.next | apply Dn.blockEnd | refine G.condPT (ht := ?_) | refine G.condPF (ht := ?_) | refine R.enter0 (h := ?_) | refine R.nil (h := ?_) | refine R.move (h := ?_) | refine R.assign (h := ?_) | refine R.lss (h := ?_) | refine R.addw (h := ?_) | refine R.convert (h := ?_) | refine R.notP (h := ?_) | refine R.shr (h := ?_) | refine R.callVP (hct := by apply hF <;> (first | omega | assumption)) (h := ?_))
      exact Dn.round (i, h) ⟨by omega, by omega, by omega⟩ (by dsimp only; omega)
  · obtain rfl : i = A.length := by omega
    repeat (first | apply G.seq | refine G.plain (h := ?_) | apply G.exit | apply G.ret | apply Dn.next | apply Dn.exitHere | apply Dn.exitThen | refine G.condPF (ht := ?_) | refine R.enter0 (h := ?_) | refine R.nil (h := ?_) | refine R.move (h := ?_) | refine R.assign (h := ?_) | refine R.lss (h := ?_))
    (refine Dn.post (Hr := [[(bs, row (spCells n p (A ++ B).length cap) 101)], vc, [(b1, row [.pointer (some ⟨bs, 0, none⟩)] 57)], [(b2, row [.int .i64 (first : Int)] 3)]]) Tryz.results96 (hR := ?_); exact ⟨rfl, rfl⟩)
theorem behind_ct (bs : Nat) (n cap first : Nat) (p : Option Addr) (vc : Chunk) (A B : List Ext) (hfo : fok n (A ++ B)) (hn : n ≤ 1000000) (hV : Vec 98 2 p (A ++ B).length cap (ecells (A ++ B)) vc) (hA : ∀ e ∈ A, e.1 + e.2 ≤ first) (hB : ∀ e ∈ B, first < e.1 + e.2) :
    CtQ Tryz.prog 77 [.pointer (some ⟨bs, 0, none⟩), .int .i64 (first : Int)] [[(bs, row (spCells n p (A ++ B).length cap) 101)], vc] (.int .i64 (A.length : Int)) := by
  have hS := fun b1 b2 => Search_ct bs b1 b2 n cap first p vc A B hfo hn hV (A ++ B).length rfl hA hB
  unfold spCells at hS ⊢
  refine Ct.intro Tryz.func77 rfl Tryz.ntmps77 (nle rfl) fun w0 => ?_; dsimp only [argSlots, Nat.reduceAdd]
  repeat (first | apply G.seq | refine G.plain (h := ?_) | apply G.ret | apply Dn.next | refine R.enter0 (h := ?_) | refine R.nil (h := ?_) | refine R.assign (h := ?_) | refine R.nilCheck (h := ?_) | refine R.fieldAddr (h := ?_) | refine R.load1 (h := ?_) | (refine R.box (h := ?_); intro _) | refine R.len (h := ?_) | refine R.makeFunc (h := ?_) | refine R.callP (hct := by apply hS <;> (first | omega | assumption)) (h := ?_))
  (refine Dn.post (Hr := [[(bs, row [.int .i64 0, .int .i64 (n : Int), .slice p (A ++ B).length cap] 101)], vc]) Tryz.results77 (hR := ?_); exact ⟨rfl, rfl⟩)
set_option maxHeartbeats 1000000 in
theorem RepAny_ct (p : Option Addr) (cap : Nat) (A B Xs : List Ext) (e : Ext) (c : Chunk) (i n : Nat) (ii jj x1 x2 : Int) (hi : A.length = i) (hii : ii = (i : Int)) (hjj : jj = ((i + Xs.length : Nat) : Int)) (hx : Xs.length ≤ 2) (hn : n = i + Xs.length + B.length) (hm : n ≤ 1000000) (bv cv : Nat) (restv : List Value)
    (h1 : x1 = (e.1 : Int)) (h2 : x2 = (e.2 : Int)) (hV : Vec 98 2 p n cap (ecells (A ++ Xs ++ B)) c) :
    Ct Tryz.prog 79 [.slice p n cap, .int .i64 ii, .int .i64 jj, .slice (some ⟨bv, 0, none⟩) 1 cv] [c, [(bv, row ([.int .i64 x1, .int .i64 x2] ++ restv) 98)]] fun v H' =>
      ∃ p' cap' c', v = .slice p' (i + 1 + B.length) cap' ∧ Vec 98 2 p' (i + 1 + B.length) cap' (ecells (A ++ [e] ++ B)) c' ∧ H' = [c'] := by
  subst h1 h2
  by_cases hX : Xs = []
  · subst hX
    simp only [List.length_nil, Nat.add_zero, List.append_nil] at hjj hn hV
    subst hii hjj
    have hI := Ins_ct p cap A B e c i n hi hn hm bv cv restv hV
    have hb1 : n ≤ cap := by
      obtain ⟨_, h | ⟨b, rest, _, _, _, h, _⟩⟩ := hV
      · omega
      · exact h
    refine Ct.intro Tryz.func79 rfl Tryz.ntmps79 (nle rfl) fun w0 => ?_; dsimp only [argSlots, Nat.reduceAdd]
    repeat (first | apply G.seq | refine G.plain (h := ?_) | apply Dn.next | refine G.condPT (ht := ?_) | refine R.enter0 (h := ?_) | refine R.nil (h := ?_) | refine R.move (h := ?_) | refine R.assign (h := ?_) | refine R.eql (h := ?_) | refine R.sliceLHx (h := ?_))
    refine R.call (hct := hI) (h := ?_)
    rintro _ _ ⟨p', cap', c', rfl, hV', rfl⟩
    try dsimp only [List.cons_append, List.nil_append]
    repeat (first | apply G.ret | apply Dn.next | apply Dn.retThen | refine R.enter0 (h := ?_) | refine R.nil (h := ?_) | refine R.assign (h := ?_))
    (refine Dn.post (Hr := [c']) Tryz.results79 (hR := ?_); exact ⟨p', cap', c', rfl, hV', rfl⟩)
  · have hX1 : 1 ≤ Xs.length := List.length_pos_iff.2 hX
    subst hii
    exact RepY_ct p cap A B Xs e c i (i + Xs.length) n hi rfl hX1 hx hn hm bv cv restv jj hjj hV
end Go.Proofs.YtdkihpjnidhnmaaGreat
namespace Go.Proofs.YtdkihpjnidhnmaaGreat
open Go.SL Go.Spc
set_option maxHeartbeats 1000000 in
theorem Hold_ct (bs : Nat) (n cap : Nat) (p : Option Addr) (vc : Chunk) (A B : List Ext) (e : Ext) (hfo : fok n (A ++ e :: B)) (hn : n ≤ 1000000) (hV : Vec 98 2 p (A ++ e :: B).length cap (ecells (A ++ e :: B)) vc) (m : Nat) (hm1 : 1 ≤ m) (hm2 : m ≤ e.2) :
    Ct Tryz.prog 72 [.pointer (some ⟨bs, 0, none⟩), .int .i64 (e.1 : Int), .int .i64 (m : Int)] [[(bs, row (spCells n p (A ++ e :: B).length cap) 101)], vc] fun v H' =>
      v = .int .i64 0 ∧ ∃ p' cap' vc' free', H' = [[(bs, row (spCells n p' free'.length cap') 101)], vc'] ∧ Vec 98 2 p' free'.length cap' (ecells free') vc' ∧ free' = A ++ ((if m < e.2 then [(e.1 + m, e.2 - m)] else []) ++ B) := by
  have hlen := fok_len hfo (k := 0) (by omega) (by omega)
  obtain ⟨hfA, hfB, hAB⟩ := fok_app.1 hfo
  obtain ⟨he1, hfB2, heB⟩ := fok_cons.1 hfB
  have hI := inside_ct bs ⟨n, A ++ e :: B⟩ _ ⟨p, cap, vc, rfl, hV, hfo, hn⟩ e.1 m hm1 (by dsimp only; omega)
  have hI' : CtQ Tryz.prog 76 [.pointer (some ⟨bs, 0, none⟩), .int .i64 (e.1 : Int), .int .i64 (m : Int)] [[(bs, row (spCells n p (A ++ e :: B).length cap) 101)], vc] (.bool true) := CtQ.conv hI (by simp)
  clear hI
  have hI := hI'
  have hBe := behind_ct bs n cap e.1 p vc A (e :: B) hfo hn hV (fun a ha => Nat.le_of_lt (hAB a ha e List.mem_cons_self)) (by
    intro y hy
    rcases List.mem_cons.1 hy with rfl | hy
    · omega
    · have := heB y hy; omega)
  have hE := end_ct e.1 e.2 (by omega)
  have hl : (A ++ e :: B).length = A.length + 1 + B.length := by simp; omega
  have hVV := hV
  obtain ⟨_, h0 | ⟨vb, rest, rfl, rfl, hrl, hmc, hcm⟩⟩ := hV
  · omega
  obtain ⟨g1, g2, g3⟩ := eget (rest := rest) (B := B) (e := e) (rfl : A.length = A.length)
  unfold spCells at hI hBe ⊢
  rw [hl] at hI hBe hVV ⊢
  generalize hcell : ecells (A ++ e :: B) ++ rest = cells at *
  have hV3 : Vec 98 2 (some ⟨vb, 0, none⟩) (A.length + 1 + B.length) cap (ecells (A ++ [e] ++ B)) [(vb, row cells 98)] := by
    rw [List.append_assoc]; exact hVV
  by_cases hlt : m < e.2
  · have hR := fun bv cv restv x1 x2 h1 h2 => RepAny_ct (some ⟨vb, 0, none⟩) cap A B [e] (e.1 + m, e.2 - m) [(vb, row cells 98)] A.length (A.length + 1 + B.length) (A.length : Int) ((A.length : Int) + 1) x1 x2 rfl rfl (by simp) (by simp) (by simp) (by omega) bv cv restv h1 h2 hV3
    have hN := Vec.nil 98 2
    refine Ct.intro Tryz.func72 rfl Tryz.ntmps72 (nle rfl) fun w0 => ?_; dsimp only [argSlots, Nat.reduceAdd]
    repeat (first | apply G.seq | refine G.plain (h := ?_) | apply G.skip | refine G.condF (h := ?_) | apply Dn.next | refine G.condPT (ht := ?_) | refine G.condPF (ht := ?_) | refine R.enter0 (h := ?_) | refine R.nil (h := ?_) | refine R.enterT (h := ?_) | refine R.splitF (ht := ?_) | refine R.move (h := ?_) | refine R.assign (h := ?_) | refine R.nilCheck (h := ?_) | refine R.fieldAddr (h := ?_) | refine R.load1 (h := ?_) | refine R.loadN (h := ?_) | refine R.storeN (h := ?_) | (refine R.alloc (h := ?_); intro _) | refine R.pickF (h := ?_) | refine R.lss (h := ?_) | refine R.gtr (h := ?_) | refine R.eql (h := ?_) | refine R.addw (h := ?_) | refine R.subw (h := ?_) | refine R.not (h := ?_) | refine R.len (h := ?_) | refine R.indexAddr (h := ?_) | refine R.build (h := ?_) | (refine R.buildSlice (h := ?_); intro _) | (refine R.append (h := ?_); intro _ _ _ _) | refine R.callP (hct := by apply hI <;> (first | omega | assumption)) (h := ?_) | refine R.callP (hct := by apply hBe <;> (first | omega | assumption)) (h := ?_) | refine R.callP (hct := by apply hE <;> (first | omega | assumption)) (h := ?_))
    rename_i p' cap' c' hV'
    have hV2 : Vec 98 2 p' 1 cap' [.int .i64 ((e.1 : Int) + (m : Int)), .int .i64 (((e.1 + e.2 : Nat) : Int) - (e.1 : Int) - (m : Int))] c' := hV'
    clear hV'
    obtain ⟨_, h0 | ⟨bv, restv, rfl, rfl, hrlv, hmcv, hcmv⟩⟩ := hV2
    · omega
    skip
    refine R.call (hct := hR bv cap' restv ((e.1 : Int) + (m : Int)) (((e.1 + e.2 : Nat) : Int) - (e.1 : Int) - (m : Int)) (by dsimp only; omega) (by dsimp only; omega)) (h := ?_)
    rintro _ _ ⟨p2, cap2, c2, rfl, hV2, rfl⟩
    try dsimp only [List.cons_append, List.nil_append]
    repeat (first | apply G.seq | refine G.plain (h := ?_) | apply G.ret | apply Dn.next | refine R.enter0 (h := ?_) | refine R.nil (h := ?_) | refine R.assign (h := ?_) | refine R.nilCheck (h := ?_) | refine R.fieldAddr (h := ?_) | refine R.store1 (h := ?_))
    (refine Dn.post (Hr := [[(bs, row [.int .i64 0, .int .i64 (n : Int), .slice p2 (A.length + 1 + B.length) cap2] 101)], c2]) Tryz.results72 (hR := ?_); refine ⟨rfl, p2, cap2, c2, A ++ [(e.1 + m, e.2 - m)] ++ B, ?_, ?_, ?_⟩)
    · rw [show (A ++ [(e.1 + m, e.2 - m)] ++ B).length = A.length + 1 + B.length by simp; omega]
    · rw [show (A ++ [(e.1 + m, e.2 - m)] ++ B).length = A.length + 1 + B.length by simp; omega]; exact hV2
    · simp [hlt]
  · have hR := RepZ_ct (some ⟨vb, 0, none⟩) cap A B e [(vb, row cells 98)] A.length (A.length + 1 + B.length) rfl rfl (by omega) hV3
    refine Ct.intro Tryz.func72 rfl Tryz.ntmps72 (nle rfl) fun w0 => ?_; dsimp only [argSlots, Nat.reduceAdd]
    repeat (first | apply G.seq | refine G.plain (h := ?_) | apply G.skip | refine G.condF (h := ?_) | apply Dn.next | refine G.condPF (ht := ?_) | refine R.enter0 (h := ?_) | refine R.nil (h := ?_) | refine R.enterT (h := ?_) | refine R.splitF (ht := ?_) | refine R.move (h := ?_) | refine R.assign (h := ?_) | refine R.nilCheck (h := ?_) | refine R.fieldAddr (h := ?_) | refine R.load1 (h := ?_) | refine R.loadN (h := ?_) | refine R.storeN (h := ?_) | (refine R.alloc (h := ?_); intro _) | refine R.pickF (h := ?_) | refine R.lss (h := ?_) | refine R.gtr (h := ?_) | refine R.eql (h := ?_) | refine R.addw (h := ?_) | refine R.not (h := ?_) | refine R.len (h := ?_) | refine R.indexAddr (h := ?_) | refine R.callP (hct := by apply hI <;> (first | omega | assumption)) (h := ?_) | refine R.callP (hct := by apply hBe <;> (first | omega | assumption)) (h := ?_) | refine R.callP (hct := by apply hE <;> (first | omega | assumption)) (h := ?_))
    refine R.call (hct := hR) (h := ?_)
    rintro _ _ ⟨p2, cap2, c2, rfl, hV2, rfl⟩
    try dsimp only [List.cons_append, List.nil_append]
    repeat (first | apply G.seq | refine G.plain (h := ?_) | apply G.ret | apply Dn.next | refine R.enter0 (h := ?_) | refine R.nil (h := ?_) | refine R.assign (h := ?_) | refine R.nilCheck (h := ?_) | refine R.fieldAddr (h := ?_) | refine R.store1 (h := ?_))
    (refine Dn.post (Hr := [[(bs, row [.int .i64 0, .int .i64 (n : Int), .slice p2 (A.length + B.length) cap2] 101)], c2]) Tryz.results72 (hR := ?_); refine ⟨rfl, p2, cap2, c2, A ++ B, ?_, ?_, ?_⟩)
    · rw [List.length_append]
    · rw [List.length_append]; exact hV2
    · simp [hlt]
end Go.Proofs.YtdkihpjnidhnmaaGreat
namespace Go.Proofs.YtdkihpjnidhnmaaGreat
open Go.SL Go.Spc
theorem fok_held {n : Nat} {A B : List Ext} {e : Ext} {m : Nat} (h : fok n (A ++ e :: B)) (h1 : 1 ≤ m) (h2 : m ≤ e.2) : fok n (A ++ ((if m < e.2 then [(e.1 + m, e.2 - m)] else []) ++ B)) := by
  obtain ⟨hA, hB, hAB⟩ := fok_app.1 h
  obtain ⟨he, hB2, heB⟩ := fok_cons.1 hB
  split
  · refine fok_app.2 ⟨hA, fok_cons.2 ⟨⟨by dsimp only; omega, by dsimp only; omega⟩, hB2, fun y hy => ?_⟩, fun x hx y hy => ?_⟩
    · have := heB y hy; dsimp only; omega
    · rcases List.mem_cons.1 hy with rfl | hy
      · have := hAB x hx e List.mem_cons_self; dsimp only; omega
      · exact hAB x hx y (List.mem_cons_of_mem _ hy)
  · rw [List.nil_append]
    exact fok_app.2 ⟨hA, hB2, fun x hx y hy => hAB x hx y (List.mem_cons_of_mem _ hy)⟩
theorem inF_held {A B : List Ext} {e : Ext} {n m : Nat} (h : fok n (A ++ e :: B)) (h1 : 1 ≤ m) (h2 : m ≤ e.2) (x : Nat) :
    inF (A ++ ((if m < e.2 then [(e.1 + m, e.2 - m)] else []) ++ B)) x ↔ inF (A ++ e :: B) x ∧ ¬ (e.1 ≤ x ∧ x < e.1 + m) := by
  obtain ⟨hA, hB, hAB⟩ := fok_app.1 h
  obtain ⟨he, hB2, heB⟩ := fok_cons.1 hB
  have key1 : inF A x → x < e.1 := by
    rintro ⟨y, hy, h3, h4⟩
    have := hAB y hy e List.mem_cons_self
    omega
  have key2 : inF B x → e.1 + e.2 < x := by
    rintro ⟨y, hy, h3, h4⟩
    have := heB y hy
    omega
  by_cases hlt : m < e.2
  · simp only [hlt, if_true, inF_app, inF_cons, inF_nil, or_false]
    constructor
    · rintro (h | h | h)
      · have := key1 h; exact ⟨.inl h, by omega⟩
      · exact ⟨.inr (.inl (by omega)), by omega⟩
      · have := key2 h; exact ⟨.inr (.inr h), by omega⟩
    · rintro ⟨h | h | h, h5⟩
      · exact .inl h
      · exact .inr (.inl (by omega))
      · exact .inr (.inr h)
  · simp only [hlt, if_false, List.nil_append, inF_app, inF_cons]
    constructor
    · rintro (h | h)
      · have := key1 h; exact ⟨.inl h, by omega⟩
      · have := key2 h; exact ⟨.inr (.inr h), by omega⟩
    · rintro ⟨h | h | h, h5⟩
      · exact .inl h
      · omega
      · exact .inr h
theorem total_held {A B : List Ext} {e : Ext} {m : Nat} (h2 : m ≤ e.2) : total (A ++ ((if m < e.2 then [(e.1 + m, e.2 - m)] else []) ++ B)) + m = total (A ++ e :: B) := by
  split <;> simp <;> omega
theorem big_held {A B : List Ext} {e : Ext} {m : Nat} : big (A ++ e :: B) ≤ big (A ++ ((if m < e.2 then [(e.1 + m, e.2 - m)] else []) ++ B)) + m := by
  split <;> simp only [big_app, big, List.nil_append] <;> omega
set_option maxHeartbeats 1000000 in
/-- taken: at a place that was free -/
theorem Take_ok (bs : Nat) (σ : Sp) (c : Chunk) (h : IsSpace bs σ c) (m : Nat) (hm : 1 ≤ m) (hb : m ≤ big σ.free) :
    Ct Tryz.prog 58 [.pointer (some ⟨bs, 0, none⟩), .int .i64 (m : Int)] [c] fun v H' =>
      ∃ (f : Nat) (c' : Chunk) (σ' : Sp), v = .tuple #[.int .i64 (f : Int), .int .i64 0] ∧ IsSpace bs σ' c' ∧ σ'.n = σ.n ∧ (∀ x, f ≤ x → x < f + m → inF σ.free x) ∧ f + m ≤ σ.n ∧
        (∀ x, inF σ'.free x ↔ inF σ.free x ∧ ¬ (f ≤ x ∧ x < f + m)) ∧ total σ'.free + m = total σ.free ∧ big σ.free ≤ big σ'.free + m ∧ H' = [c'] := by
  obtain ⟨n, free⟩ := σ
  dsimp only at hb
  rcases first_fit m free with hno | ⟨A, e, B, rfl, hme, hA⟩
  · exfalso
    obtain ⟨e, he, h2⟩ := big_mem (l := free) (by omega)
    have := hno e he
    omega
  obtain ⟨p, cap, vc, rfl, hV, hfo, hn⟩ := h
  dsimp only at hV hfo hn
  have hH := Hold_ct bs n cap p vc A B e hfo hn hV m hm hme
  refine Ct.conv (H2 := [[(bs, row (spCells n p (A ++ e :: B).length cap) 101)], vc]) (R2 := fun v H' => v = .tuple #[.int .i64 (e.1 : Int), .int .i64 0] ∧ ∃ p' cap' vc' free', H' = [[(bs, row (spCells n p' free'.length cap') 101)], vc'] ∧
    Vec 98 2 p' free'.length cap' (ecells free') vc' ∧ free' = A ++ ((if m < e.2 then [(e.1 + m, e.2 - m)] else []) ++ B)) ?_ (by simp) ?_
  · have hlen := fok_len hfo (k := 0) (by omega) (by omega)
    have hl : (A ++ e :: B).length = A.length + 1 + B.length := by simp; omega
    have hfb := hfo.1
    obtain ⟨_, h0 | ⟨vb, rest, rfl, rfl, hrl, hmc, hcm⟩⟩ := hV
    · omega
    generalize hfr : A ++ e :: B = free at *
    unfold spCells at hH ⊢
    generalize hcl : ecells free ++ rest = cells at *
    refine Ct.intro Tryz.func58 rfl Tryz.ntmps58 (nle rfl) fun w0 => ?_; dsimp only [argSlots, Nat.reduceAdd]
    repeat (first | apply G.seq | refine G.plain (h := ?_) | apply G.block | apply G.skip | refine G.condF (h := ?_) | apply Dn.next | refine G.condPF (ht := ?_) | refine R.enter0 (h := ?_) | refine R.nil (h := ?_) | refine R.move (h := ?_) | refine R.assign (h := ?_) | refine R.nilCheck (h := ?_) | refine R.fieldAddr (h := ?_) | refine R.load1 (h := ?_) | refine R.lss (h := ?_) | refine R.len (h := ?_) | refine R.eqlNil (h := ?_))
    refine G.loop (X := Nat) (fun i => i ≤ A.length) (fun i => [(17, .int .i64 (i : Int)), (16, .int .i64 (free.length : Int)), (15, .slice (some ⟨vb, 0, none⟩) free.length cap), (0, .pointer (some ⟨bs, 0, none⟩)), (1, .int .i64 (m : Int))])
      (fun _ => [[(bs, row [.int .i64 0, .int .i64 (n : Int), .slice (some ⟨vb, 0, none⟩) free.length cap] 101)], [(vb, row cells 98)]]) (fun i => A.length - i) 0 (by omega) (body := ?_)
    intro i hi
    obtain ⟨A', x, B', hs, hA'⟩ := split_at (l := free) (i := i) (by omega)
    obtain ⟨g1, g2, g3⟩ := eget (rest := rest) (B := B') (e := x) hA'
    rw [← hs, hcl] at g1 g2 g3
    have hx1 : free[i]? = some x := by rw [hs, List.getElem?_append_right (by omega)]; simp [hA']
    have hxn := hfb x (List.mem_of_getElem? hx1)
    by_cases hiA : i < A.length
    · have hxm : x.2 < m := by
        rw [← hfr, List.getElem?_append_left hiA] at hx1
        exact hA x (List.mem_of_getElem? hx1)
      repeat (first | apply G.seq | refine G.plain (h := ?_) | apply G.block | apply G.skip | apply Dn.next | apply Dn.blockEnd | refine G.condPT (ht := ?_) | refine G.condPF (ht := ?_) | refine R.enter0 (h := ?_) | refine R.nil (h := ?_) | refine R.move (h := ?_) | refine R.fieldAddr (h := ?_) | refine R.load1 (h := ?_) | refine R.loadN (h := ?_) | refine R.storeN (h := ?_) | (refine R.alloc (h := ?_); intro _) | refine R.lss (h := ?_) | refine R.geq (h := ?_) | refine R.addw (h := ?_) | refine R.indexAddr (h := ?_))
      exact Dn.round (i + 1) (by omega) (by omega)
    · obtain rfl : i = A.length := by omega
      have hxe : x = e := by
        rw [← hfr] at hx1
        simpa using hx1.symm
      subst hxe
      repeat (first | apply G.seq | refine G.plain (h := ?_) | apply G.block | apply G.skip | apply Dn.next | refine G.condPT (ht := ?_) | refine G.draw (id := 9) [(6, .eff [1])] (h := ?_) | refine R.enter0 (h := ?_) | refine R.nil (h := ?_) | refine R.move (h := ?_) | refine R.fieldAddr (h := ?_) | refine R.load1 (h := ?_) | refine R.loadN (h := ?_) | refine R.storeN (h := ?_) | (refine R.alloc (h := ?_); intro _) | refine R.lss (h := ?_) | refine R.geq (h := ?_) | refine R.indexAddr (h := ?_))
      refine R.callX (hct := hH) (h := ?_)
      rintro _ _ ⟨rfl, p', cap', vc', free', rfl, hV', hf'⟩
      try dsimp only [List.cons_append, List.nil_append]
      constructor
      · (· (first | (intro _ _ h; cases h; done) | (repeat (first | exact qok_nil | (apply qok_cons; (· first | (intro hc; exact absurd hc (nmem rfl)) | (intro _; apply CellPr.mk; (· repeat (first | exact Has.here | apply Has.there)); (first | exact rfl | assumption)) | (intro _; apply CellsPr.mk; (· repeat (first | exact Has.here | apply Has.there)); (first | exact rfl | assumption))))))))
      repeat (first | apply G.ret | apply Dn.next | apply Dn.retThen | apply Dn.retBlock | refine R.enter0 (h := ?_) | refine R.nil (h := ?_) | refine R.assign (h := ?_))
      (refine Dn.post (Hr := [[(bs, row [.int .i64 0, .int .i64 (n : Int), .slice p' free'.length cap'] 101)], vc']) Tryz.results58 (hR := ?_); exact ⟨rfl, p', cap', vc', free', rfl, hV', hf'⟩)
  · rintro v H' ⟨rfl, p', cap', vc', free', rfl, hV', hf'⟩
    refine ⟨_, ⟨e.1, _, ⟨n, free'⟩, rfl, ⟨p', cap', vc', rfl, hV', ?_, hn⟩, rfl, ?_, ?_, ?_, ?_, ?_, rfl⟩, by simp⟩
    · rw [hf']; exact fok_held hfo hm hme
    · intro x h1 h2
      dsimp only
      rw [inF_app, inF_cons]
      exact .inr (.inl (by omega))
    · have := hfo.1 e (by simp); dsimp only; omega
    · intro x; rw [hf']; exact inF_held hfo hm hme x
    · rw [hf']; exact total_held hme
    · rw [hf']; exact big_held
theorem Take_full (bs : Nat) (σ : Sp) (c : Chunk) (h : IsSpace bs σ c) (m : Nat) (hm : 1 ≤ m) (hb : big σ.free < m) (hmm : m ≤ 1000000000) :
    CtQ Tryz.prog 58 [.pointer (some ⟨bs, 0, none⟩), .int .i64 (m : Int)] [c] (.tuple #[.int .i64 0, .int .i64 5]) := by
  obtain ⟨n, free⟩ := σ
  dsimp only at hb
  obtain ⟨p, cap, vc, rfl, hV, hfo, hn⟩ := h
  dsimp only at hV hfo hn
  have hlen := fok_len hfo (k := 0) (by omega) (by omega)
  refine CtQ.conv (H2 := [[(bs, row (spCells n p free.length cap) 101)], vc]) ?_ (by simp)
  unfold spCells
  refine Ct.intro Tryz.func58 rfl Tryz.ntmps58 (nle rfl) fun w0 => ?_; dsimp only [argSlots, Nat.reduceAdd]
  repeat (first | apply G.seq | refine G.plain (h := ?_) | apply G.block | apply G.skip | refine G.condF (h := ?_) | apply Dn.next | refine G.condPF (ht := ?_) | refine R.enter0 (h := ?_) | refine R.nil (h := ?_) | refine R.move (h := ?_) | refine R.assign (h := ?_) | refine R.nilCheck (h := ?_) | refine R.fieldAddr (h := ?_) | refine R.load1 (h := ?_) | refine R.lss (h := ?_) | refine R.len (h := ?_) | refine R.eqlNil (h := ?_))
  refine G.loop (X := Nat) (fun i => i ≤ free.length) (fun i => [(17, .int .i64 (i : Int)), (16, .int .i64 (free.length : Int)), (15, .slice p free.length cap), (0, .pointer (some ⟨bs, 0, none⟩)), (1, .int .i64 (m : Int))])
    (fun _ => [[(bs, row [.int .i64 0, .int .i64 (n : Int), .slice p free.length cap] 101)], vc]) (fun i => free.length - i) 0 (by omega) (body := ?_)
  intro i hi
  by_cases hif : i < free.length
  · obtain ⟨A', x, B', hs, hA'⟩ := split_at (l := free) (i := i) (by omega)
    obtain ⟨_, h0 | ⟨vb, rest, hp, hvc, hrl, hmc, hcm⟩⟩ := hV
    · omega
    obtain ⟨g1, g2, g3⟩ := eget (rest := rest) (B := B') (e := x) hA'
    rw [← hs] at g1 g2 g3
    have hx1 : free[i]? = some x := by rw [hs, List.getElem?_append_right (by omega)]; simp [hA']
    have hxn := hfo.1 x (List.mem_of_getElem? hx1)
    have hxm : x.2 < m := by
      have := le_big (List.mem_of_getElem? hx1)
      omega
    rw [hp, hvc]
    generalize ecells free ++ rest = cells at *
    repeat (first | apply G.seq | refine G.plain (h := ?_) | apply G.block | apply G.skip | apply Dn.next | apply Dn.blockEnd | refine G.condPT (ht := ?_) | refine G.condPF (ht := ?_) | refine R.enter0 (h := ?_) | refine R.nil (h := ?_) | refine R.move (h := ?_) | refine R.fieldAddr (h := ?_) | refine R.load1 (h := ?_) | refine R.loadN (h := ?_) | refine R.storeN (h := ?_) | (refine R.alloc (h := ?_); intro _) | refine R.lss (h := ?_) | refine R.geq (h := ?_) | refine R.addw (h := ?_) | refine R.indexAddr (h := ?_))
    exact Dn.round (i + 1) (by omega) (by omega)
  · obtain rfl : i = free.length := by omega
    repeat (first | apply G.seq | refine G.plain (h := ?_) | apply G.exit | apply G.ret | apply Dn.next | apply Dn.exitHere | apply Dn.exitThen | refine G.condPF (ht := ?_) | refine R.enter0 (h := ?_) | refine R.nil (h := ?_) | refine R.assign (h := ?_) | refine R.lss (h := ?_))
    (refine Dn.post (Hr := [[(bs, row [.int .i64 0, .int .i64 (n : Int), .slice p free.length cap] 101)], vc]) Tryz.results58 (hR := ?_); exact ⟨rfl, rfl⟩)
end Go.Proofs.YtdkihpjnidhnmaaGreat
namespace Go.Proofs.YtdkihpjnidhnmaaGreat
open Go.SL Go.Spc
/-- what is told of free blocks given back -/
def Gave (n : Nat) (free free' : List Ext) (first m : Nat) : Prop := fok n free' ∧ (∀ x, inF free' x ↔ inF free x ∨ (first ≤ x ∧ x < first + m)) ∧ total free' = total free + m ∧ big free ≤ big free'
section
variable (bs : Nat) (n cap : Nat) (p : Option Addr) (vc : Chunk) (first m : Nat) (hn : n ≤ 1000000) (hm : 1 ≤ m) (hfm : first + m ≤ n)
include hn hm hfm
set_option maxHeartbeats 1000000 in
theorem Give00w (hfo : fok n (([] : List Ext) ++ ([] : List Ext))) (hA : ∀ e ∈ (([] : List Ext) : List Ext), e.1 + e.2 ≤ first) (hB : ∀ e ∈ (([] : List Ext) : List Ext), first < e.1 + e.2) (hV : Vec 98 2 p (([] : List Ext) ++ ([] : List Ext)).length cap (ecells (([] : List Ext) ++ ([] : List Ext))) vc) :
    Ct Tryz.prog 63 [.pointer (some ⟨bs, 0, none⟩), .int .i64 (first : Int), .int .i64 (m : Int)] [[(bs, row (spCells n p (([] : List Ext) ++ ([] : List Ext)).length cap) 101)], vc] fun v H' =>
      v = .int .i64 0 ∧ ∃ p' cap' vc', H' = [[(bs, row (spCells n p' ([] ++ [(first, m)] ++ []).length cap') 101)], vc'] ∧ Vec 98 2 p' ([] ++ [(first, m)] ++ []).length cap' (ecells ([] ++ [(first, m)] ++ [])) vc' := by
  have hI : CtQ Tryz.prog 76 [.pointer (some ⟨bs, 0, none⟩), .int .i64 (first : Int), .int .i64 (m : Int)] [[(bs, row (spCells n p (([] : List Ext) ++ ([] : List Ext)).length cap) 101)], vc] (.bool true) := CtQ.conv (inside_ct bs ⟨n, (([] : List Ext) ++ ([] : List Ext))⟩ _ ⟨p, cap, vc, rfl, hV, hfo, hn⟩ first m hm hfm) (by simp)
  have hBe := behind_ct bs n cap first p vc ([] : List Ext) ([] : List Ext) hfo hn hV hA hB
  have hlen := fok_len hfo (k := 0) (by omega) (by omega)
  have hl : (([] : List Ext) ++ ([] : List Ext)).length = 0 + 0 := by simp <;> omega
  have hlA : (([] : List Ext) : List Ext).length = 0 := by simp
  have hl2 : ([] ++ [(first, m)] ++ []).length = 0 + 1 + 0 := by simp <;> omega
  have hfb := hfo.1
  have hE1 := end_ct first m (by omega)
  rw [hl] at hI hBe hlen ⊢
  rw [hlA] at hBe
  rw [hl] at hV
  rw [hl2]
  unfold spCells at hI hBe ⊢
  have hR := fun bv => RepAny_ct p cap [] [] [] (first, m) vc 0 (0 + 0) ((0 : Nat) : Int) ((0 : Nat) : Int) (first : Int) (m : Int) (by simp) (by omega) (by simp only [List.length_nil, List.length_cons] <;> omega) (by simp) (by simp only [List.length_nil, List.length_cons] <;> omega) (by omega) bv 1 [] (by first | rfl | omega) (by first | rfl | (dsimp only; omega)) hV
  simp only [List.append_nil] at hR
  refine Ct.intro Tryz.func63 rfl Tryz.ntmps63 (nle rfl) fun w0 => ?_; dsimp only [argSlots, Nat.reduceAdd]
  repeat (first | apply G.seq | refine G.plain (h := ?_) | apply G.skip | refine G.condF (h := ?_) | apply Dn.next | refine G.draw (id := 7) [(17, .quiet)] (h := ?_) | refine G.draw (id := 13) [] (h := ?_) | refine R.enter0 (h := ?_) | refine R.nil (h := ?_) | refine R.skip (h := ?_) | refine R.splitF (ht := ?_) | refine R.move (h := ?_) | refine R.assign (h := ?_) | refine R.nilCheck (h := ?_) | refine R.fieldAddr (h := ?_) | refine R.load1 (h := ?_) | refine R.loadN (h := ?_) | refine R.storeN (h := ?_) | (refine R.alloc (h := ?_); intro _) | refine R.pickF (h := ?_) | refine R.lss (h := ?_) | refine R.gtr (h := ?_) | refine R.not (h := ?_) | refine R.len (h := ?_) | refine R.build (h := ?_) | (refine R.buildSlice (h := ?_); intro _) | refine R.callP (hct := by apply hI <;> (first | omega | assumption)) (h := ?_) | refine R.callP (hct := by apply hBe <;> (first | omega | assumption)) (h := ?_))
  refine R.call (hct := hR _) (h := ?_)
  rintro _ _ ⟨p2, cap2, c2, rfl, hV2, rfl⟩
  try dsimp only [List.cons_append, List.nil_append]
  repeat (first | apply G.seq | refine G.plain (h := ?_) | apply G.ret | apply Dn.next | refine R.enter0 (h := ?_) | refine R.nil (h := ?_) | refine R.assign (h := ?_) | refine R.nilCheck (h := ?_) | refine R.fieldAddr (h := ?_) | refine R.store1 (h := ?_))
  (refine Dn.post (Hr := [[(bs, row [.int .i64 0, .int .i64 (n : Int), .slice p2 (0 + 1 + ([] : List Ext).length) cap2] 101)], c2]) Tryz.results63 (hR := ?_); refine ⟨rfl, p2, cap2, c2, ?_, ?_⟩)
  · first | rfl | (rw [show ([] : List Ext).length = 0 by simp])
  · first | exact hV2 | (simpa using hV2) | (rw [show 0 + 1 + 0 = 0 + 1 + ([] : List Ext).length by simp]; exact hV2)
set_option maxHeartbeats 1000000 in
theorem Give01w (B2 : List Ext) (e1 : Ext) (hb : first + m < e1.1) (hfo : fok n (([] : List Ext) ++ (e1 :: B2))) (hA : ∀ e ∈ (([] : List Ext) : List Ext), e.1 + e.2 ≤ first) (hB : ∀ e ∈ ((e1 :: B2) : List Ext), first < e.1 + e.2) (hV : Vec 98 2 p (([] : List Ext) ++ (e1 :: B2)).length cap (ecells (([] : List Ext) ++ (e1 :: B2))) vc) :
    Ct Tryz.prog 63 [.pointer (some ⟨bs, 0, none⟩), .int .i64 (first : Int), .int .i64 (m : Int)] [[(bs, row (spCells n p (([] : List Ext) ++ (e1 :: B2)).length cap) 101)], vc] fun v H' =>
      v = .int .i64 0 ∧ ∃ p' cap' vc', H' = [[(bs, row (spCells n p' ([] ++ [(first, m)] ++ (e1 :: B2)).length cap') 101)], vc'] ∧ Vec 98 2 p' ([] ++ [(first, m)] ++ (e1 :: B2)).length cap' (ecells ([] ++ [(first, m)] ++ (e1 :: B2))) vc' := by
  have hI : CtQ Tryz.prog 76 [.pointer (some ⟨bs, 0, none⟩), .int .i64 (first : Int), .int .i64 (m : Int)] [[(bs, row (spCells n p (([] : List Ext) ++ (e1 :: B2)).length cap) 101)], vc] (.bool true) := CtQ.conv (inside_ct bs ⟨n, (([] : List Ext) ++ (e1 :: B2))⟩ _ ⟨p, cap, vc, rfl, hV, hfo, hn⟩ first m hm hfm) (by simp)
  have hBe := behind_ct bs n cap first p vc ([] : List Ext) (e1 :: B2) hfo hn hV hA hB
  have hlen := fok_len hfo (k := 0) (by omega) (by omega)
  have hl : (([] : List Ext) ++ (e1 :: B2)).length = 0 + (B2.length + 1) := by simp <;> omega
  have hlA : (([] : List Ext) : List Ext).length = 0 := by simp
  have hl2 : ([] ++ [(first, m)] ++ (e1 :: B2)).length = 0 + 1 + (B2.length + 1) := by simp <;> omega
  have hfb := hfo.1
  have hE1 := end_ct first m (by omega)
  have hb1 := hfb e1 (by simp)
  rw [hl] at hI hBe hlen ⊢
  rw [hlA] at hBe
  rw [hl] at hV
  rw [hl2]
  unfold spCells at hI hBe ⊢
  have hVV := hV
  obtain ⟨_, h0 | ⟨vb, rest, rfl, rfl, hrl, hmc, hcm⟩⟩ := hV
  · omega
  obtain ⟨k1, k2, k3⟩ := eget (A := ([] : List Ext)) (rest := rest) (B := B2) (e := e1) (i := 0) (by simp)
  generalize hcl : ecells (([] : List Ext) ++ (e1 :: B2)) ++ rest = cells at *
  have hR := fun bv => RepAny_ct (some ⟨vb, 0, none⟩) cap [] (e1 :: B2) [] (first, m) [(vb, row cells 98)] 0 (0 + (B2.length + 1)) ((0 : Nat) : Int) ((0 : Nat) : Int) (first : Int) (m : Int) (by simp) (by omega) (by simp only [List.length_nil, List.length_cons] <;> omega) (by simp) (by simp only [List.length_nil, List.length_cons] <;> omega) (by omega) bv 1 [] (by first | rfl | omega) (by first | rfl | (dsimp only; omega))
    (by rw [show [] ++ [] ++ (e1 :: B2) = (([] : List Ext) ++ (e1 :: B2)) by simp]; exact hVV)
  simp only [List.append_nil] at hR
  refine Ct.intro Tryz.func63 rfl Tryz.ntmps63 (nle rfl) fun w0 => ?_; dsimp only [argSlots, Nat.reduceAdd]
  repeat (first | apply G.seq | refine G.plain (h := ?_) | apply G.skip | refine G.condF (h := ?_) | apply Dn.next | refine G.condPF (ht := ?_) | refine G.draw (id := 7) [(17, .quiet)] (h := ?_) | refine G.draw (id := 13) [] (h := ?_) | refine R.enter0 (h := ?_) | refine R.nil (h := ?_) | refine R.enterT (h := ?_) | refine R.skip (h := ?_) | refine R.splitT (ht := ?_) | refine R.splitF (ht := ?_) | refine R.move (h := ?_) | refine R.assign (h := ?_) | refine R.nilCheck (h := ?_) | refine R.fieldAddr (h := ?_) | refine R.load1 (h := ?_) | refine R.loadN (h := ?_) | refine R.storeN (h := ?_) | (refine R.alloc (h := ?_); intro _) | refine R.pickT (h := ?_) | refine R.pickF (h := ?_) | refine R.lss (h := ?_) | refine R.gtr (h := ?_) | refine R.eql (h := ?_) | refine R.addw (h := ?_) | refine R.not (h := ?_) | refine R.len (h := ?_) | refine R.indexAddr (h := ?_) | refine R.build (h := ?_) | (refine R.buildSlice (h := ?_); intro _) | refine R.callP (hct := by apply hI <;> (first | omega | assumption)) (h := ?_) | refine R.callP (hct := by apply hBe <;> (first | omega | assumption)) (h := ?_) | refine R.callQ (hct := by apply hE1 <;> (first | omega | assumption)) (h := ?_))
  refine R.call (hct := hR _) (h := ?_)
  rintro _ _ ⟨p2, cap2, c2, rfl, hV2, rfl⟩
  try dsimp only [List.cons_append, List.nil_append]
  repeat (first | apply G.seq | refine G.plain (h := ?_) | apply G.ret | apply Dn.next | refine R.enter0 (h := ?_) | refine R.nil (h := ?_) | refine R.assign (h := ?_) | refine R.nilCheck (h := ?_) | refine R.fieldAddr (h := ?_) | refine R.store1 (h := ?_))
  (refine Dn.post (Hr := [[(bs, row [.int .i64 0, .int .i64 (n : Int), .slice p2 (0 + 1 + ((e1 :: B2) : List Ext).length) cap2] 101)], c2]) Tryz.results63 (hR := ?_); refine ⟨rfl, p2, cap2, c2, ?_, ?_⟩)
  · first | rfl | (rw [show ((e1 :: B2) : List Ext).length = (B2.length + 1) by simp])
  · first | exact hV2 | (simpa using hV2) | (rw [show 0 + 1 + (B2.length + 1) = 0 + 1 + ((e1 :: B2) : List Ext).length by simp]; exact hV2)
set_option maxHeartbeats 1000000 in
theorem Give02w (B2 : List Ext) (e1 : Ext) (hb : e1.1 = first + m) (hfo : fok n (([] : List Ext) ++ (e1 :: B2))) (hA : ∀ e ∈ (([] : List Ext) : List Ext), e.1 + e.2 ≤ first) (hB : ∀ e ∈ ((e1 :: B2) : List Ext), first < e.1 + e.2) (hV : Vec 98 2 p (([] : List Ext) ++ (e1 :: B2)).length cap (ecells (([] : List Ext) ++ (e1 :: B2))) vc) :
    Ct Tryz.prog 63 [.pointer (some ⟨bs, 0, none⟩), .int .i64 (first : Int), .int .i64 (m : Int)] [[(bs, row (spCells n p (([] : List Ext) ++ (e1 :: B2)).length cap) 101)], vc] fun v H' =>
      v = .int .i64 0 ∧ ∃ p' cap' vc', H' = [[(bs, row (spCells n p' ([] ++ [(first, m + e1.2)] ++ B2).length cap') 101)], vc'] ∧ Vec 98 2 p' ([] ++ [(first, m + e1.2)] ++ B2).length cap' (ecells ([] ++ [(first, m + e1.2)] ++ B2)) vc' := by
  have hI : CtQ Tryz.prog 76 [.pointer (some ⟨bs, 0, none⟩), .int .i64 (first : Int), .int .i64 (m : Int)] [[(bs, row (spCells n p (([] : List Ext) ++ (e1 :: B2)).length cap) 101)], vc] (.bool true) := CtQ.conv (inside_ct bs ⟨n, (([] : List Ext) ++ (e1 :: B2))⟩ _ ⟨p, cap, vc, rfl, hV, hfo, hn⟩ first m hm hfm) (by simp)
  have hBe := behind_ct bs n cap first p vc ([] : List Ext) (e1 :: B2) hfo hn hV hA hB
  have hlen := fok_len hfo (k := 0) (by omega) (by omega)
  have hl : (([] : List Ext) ++ (e1 :: B2)).length = 0 + (B2.length + 1) := by simp <;> omega
  have hlA : (([] : List Ext) : List Ext).length = 0 := by simp
  have hl2 : ([] ++ [(first, m + e1.2)] ++ B2).length = 0 + 1 + B2.length := by simp <;> omega
  have hfb := hfo.1
  have hE1 := end_ct first m (by omega)
  have hb1 := hfb e1 (by simp)
  rw [hl] at hI hBe hlen ⊢
  rw [hlA] at hBe
  rw [hl] at hV
  rw [hl2]
  unfold spCells at hI hBe ⊢
  have hVV := hV
  obtain ⟨_, h0 | ⟨vb, rest, rfl, rfl, hrl, hmc, hcm⟩⟩ := hV
  · omega
  obtain ⟨k1, k2, k3⟩ := eget (A := ([] : List Ext)) (rest := rest) (B := B2) (e := e1) (i := 0) (by simp)
  generalize hcl : ecells (([] : List Ext) ++ (e1 :: B2)) ++ rest = cells at *
  have hR := fun bv => RepAny_ct (some ⟨vb, 0, none⟩) cap [] B2 [e1] (first, m + e1.2) [(vb, row cells 98)] 0 (0 + (B2.length + 1)) ((0 : Nat) : Int) (((0 : Nat) : Int) + 1) (first : Int) ((m : Int) + (e1.2 : Int)) (by simp) (by omega) (by simp only [List.length_nil, List.length_cons] <;> omega) (by simp) (by simp only [List.length_nil, List.length_cons] <;> omega) (by omega) bv 1 [] (by first | rfl | omega) (by first | rfl | (dsimp only; omega))
    (by rw [show [] ++ [e1] ++ B2 = (([] : List Ext) ++ (e1 :: B2)) by simp]; exact hVV)
  simp only [List.append_nil] at hR
  refine Ct.intro Tryz.func63 rfl Tryz.ntmps63 (nle rfl) fun w0 => ?_; dsimp only [argSlots, Nat.reduceAdd]
  repeat (first | apply G.seq | refine G.plain (h := ?_) | apply G.skip | refine G.condF (h := ?_) | apply Dn.next | refine G.condPT (ht := ?_) | refine G.condPF (ht := ?_) | refine G.draw (id := 7) [(17, .quiet)] (h := ?_) | refine G.draw (id := 8) [] (h := ?_) | refine G.draw (id := 13) [] (h := ?_) | refine R.enter0 (h := ?_) | refine R.nil (h := ?_) | refine R.enterT (h := ?_) | refine R.skip (h := ?_) | refine R.splitT (ht := ?_) | refine R.splitF (ht := ?_) | refine R.move (h := ?_) | refine R.assign (h := ?_) | refine R.nilCheck (h := ?_) | refine R.fieldAddr (h := ?_) | refine R.load1 (h := ?_) | refine R.loadN (h := ?_) | refine R.store1 (h := ?_) | refine R.storeN (h := ?_) | (refine R.alloc (h := ?_); intro _) | refine R.pickT (h := ?_) | refine R.pickF (h := ?_) | refine R.lss (h := ?_) | refine R.gtr (h := ?_) | refine R.eql (h := ?_) | refine R.addw (h := ?_) | refine R.not (h := ?_) | refine R.len (h := ?_) | refine R.indexAddr (h := ?_) | refine R.build (h := ?_) | (refine R.buildSlice (h := ?_); intro _) | refine R.callP (hct := by apply hI <;> (first | omega | assumption)) (h := ?_) | refine R.callP (hct := by apply hBe <;> (first | omega | assumption)) (h := ?_) | refine R.callQ (hct := by apply hE1 <;> (first | omega | assumption)) (h := ?_))
  refine R.call (hct := hR _) (h := ?_)
  rintro _ _ ⟨p2, cap2, c2, rfl, hV2, rfl⟩
  try dsimp only [List.cons_append, List.nil_append]
  repeat (first | apply G.seq | refine G.plain (h := ?_) | apply G.ret | apply Dn.next | refine R.enter0 (h := ?_) | refine R.nil (h := ?_) | refine R.assign (h := ?_) | refine R.nilCheck (h := ?_) | refine R.fieldAddr (h := ?_) | refine R.store1 (h := ?_))
  (refine Dn.post (Hr := [[(bs, row [.int .i64 0, .int .i64 (n : Int), .slice p2 (0 + 1 + (B2 : List Ext).length) cap2] 101)], c2]) Tryz.results63 (hR := ?_); refine ⟨rfl, p2, cap2, c2, ?_, ?_⟩)
  · first | rfl | (rw [show (B2 : List Ext).length = B2.length by simp])
  · first | exact hV2 | (simpa using hV2) | (rw [show 0 + 1 + B2.length = 0 + 1 + (B2 : List Ext).length by simp]; exact hV2)
set_option maxHeartbeats 1000000 in
theorem Give10w (A2 : List Ext) (e0 : Ext) (ha : e0.1 + e0.2 < first) (hfo : fok n ((A2 ++ [e0]) ++ ([] : List Ext))) (hA : ∀ e ∈ ((A2 ++ [e0]) : List Ext), e.1 + e.2 ≤ first) (hB : ∀ e ∈ (([] : List Ext) : List Ext), first < e.1 + e.2) (hV : Vec 98 2 p ((A2 ++ [e0]) ++ ([] : List Ext)).length cap (ecells ((A2 ++ [e0]) ++ ([] : List Ext))) vc) :
    Ct Tryz.prog 63 [.pointer (some ⟨bs, 0, none⟩), .int .i64 (first : Int), .int .i64 (m : Int)] [[(bs, row (spCells n p ((A2 ++ [e0]) ++ ([] : List Ext)).length cap) 101)], vc] fun v H' =>
      v = .int .i64 0 ∧ ∃ p' cap' vc', H' = [[(bs, row (spCells n p' ((A2 ++ [e0]) ++ [(first, m)] ++ []).length cap') 101)], vc'] ∧ Vec 98 2 p' ((A2 ++ [e0]) ++ [(first, m)] ++ []).length cap' (ecells ((A2 ++ [e0]) ++ [(first, m)] ++ [])) vc' := by
  have hI : CtQ Tryz.prog 76 [.pointer (some ⟨bs, 0, none⟩), .int .i64 (first : Int), .int .i64 (m : Int)] [[(bs, row (spCells n p ((A2 ++ [e0]) ++ ([] : List Ext)).length cap) 101)], vc] (.bool true) := CtQ.conv (inside_ct bs ⟨n, ((A2 ++ [e0]) ++ ([] : List Ext))⟩ _ ⟨p, cap, vc, rfl, hV, hfo, hn⟩ first m hm hfm) (by simp)
  have hBe := behind_ct bs n cap first p vc (A2 ++ [e0]) ([] : List Ext) hfo hn hV hA hB
  have hlen := fok_len hfo (k := 0) (by omega) (by omega)
  have hl : ((A2 ++ [e0]) ++ ([] : List Ext)).length = (A2.length + 1) + 0 := by simp <;> omega
  have hlA : ((A2 ++ [e0]) : List Ext).length = (A2.length + 1) := by simp
  have hl2 : ((A2 ++ [e0]) ++ [(first, m)] ++ []).length = (A2.length + 1) + 1 + 0 := by simp <;> omega
  have hfb := hfo.1
  have hE1 := end_ct first m (by omega)
  have hb0 := hfb e0 (by simp)
  have hE0 := end_ct e0.1 e0.2 (by omega)
  rw [hl] at hI hBe hlen ⊢
  rw [hlA] at hBe
  rw [hl] at hV
  rw [hl2]
  unfold spCells at hI hBe ⊢
  have hVV := hV
  obtain ⟨_, h0 | ⟨vb, rest, rfl, rfl, hrl, hmc, hcm⟩⟩ := hV
  · omega
  obtain ⟨g1, g2, g3⟩ := eget (A := A2) (rest := rest) (B := ([] : List Ext)) (e := e0) (rfl : A2.length = A2.length)
  rw [show A2 ++ e0 :: ([] : List Ext) = ((A2 ++ [e0]) ++ ([] : List Ext)) by simp] at g1 g2 g3
  have ei : (((A2.length + 1 : Nat) : Int) - 1).toNat = A2.length := by omega
  generalize hcl : ecells ((A2 ++ [e0]) ++ ([] : List Ext)) ++ rest = cells at *
  have hR := fun bv => RepAny_ct (some ⟨vb, 0, none⟩) cap (A2 ++ [e0]) [] [] (first, m) [(vb, row cells 98)] (A2.length + 1) ((A2.length + 1) + 0) (((A2.length + 1) : Nat) : Int) (((A2.length + 1) : Nat) : Int) (first : Int) (m : Int) (by simp) (by omega) (by simp only [List.length_nil, List.length_cons] <;> omega) (by simp) (by simp only [List.length_nil, List.length_cons] <;> omega) (by omega) bv 1 [] (by first | rfl | omega) (by first | rfl | (dsimp only; omega))
    (by rw [show (A2 ++ [e0]) ++ [] ++ [] = ((A2 ++ [e0]) ++ ([] : List Ext)) by simp]; exact hVV)
  simp only [List.append_nil] at hR
  refine Ct.intro Tryz.func63 rfl Tryz.ntmps63 (nle rfl) fun w0 => ?_; dsimp only [argSlots, Nat.reduceAdd]
  repeat (first | apply G.seq | refine G.plain (h := ?_) | apply G.skip | refine G.condF (h := ?_) | apply Dn.next | refine G.condPF (ht := ?_) | refine G.draw (id := 7) [(17, .quiet)] (h := ?_) | refine G.draw (id := 13) [] (h := ?_) | refine R.enter0 (h := ?_) | refine R.nil (h := ?_) | refine R.enterT (h := ?_) | refine R.skip (h := ?_) | refine R.splitT (ht := ?_) | refine R.splitF (ht := ?_) | refine R.move (h := ?_) | refine R.assign (h := ?_) | refine R.nilCheck (h := ?_) | refine R.fieldAddr (h := ?_) | refine R.load1 (h := ?_) | refine R.loadN (h := ?_) | refine R.storeN (h := ?_) | (refine R.alloc (h := ?_); intro _) | refine R.pickT (h := ?_) | refine R.pickF (h := ?_) | refine R.lss (h := ?_) | refine R.gtr (h := ?_) | refine R.eql (h := ?_) | refine R.subw (h := ?_) | refine R.not (h := ?_) | refine R.len (h := ?_) | refine R.indexAddr (h := ?_) | refine R.build (h := ?_) | (refine R.buildSlice (h := ?_); intro _) | refine R.callP (hct := by apply hI <;> (first | omega | assumption)) (h := ?_) | refine R.callP (hct := by apply hBe <;> (first | omega | assumption)) (h := ?_) | refine R.callP (hct := by apply hE0 <;> (first | omega | assumption)) (h := ?_))
  refine R.call (hct := hR _) (h := ?_)
  rintro _ _ ⟨p2, cap2, c2, rfl, hV2, rfl⟩
  try dsimp only [List.cons_append, List.nil_append]
  repeat (first | apply G.seq | refine G.plain (h := ?_) | apply G.ret | apply Dn.next | refine R.enter0 (h := ?_) | refine R.nil (h := ?_) | refine R.assign (h := ?_) | refine R.nilCheck (h := ?_) | refine R.fieldAddr (h := ?_) | refine R.store1 (h := ?_))
  (refine Dn.post (Hr := [[(bs, row [.int .i64 0, .int .i64 (n : Int), .slice p2 ((A2.length + 1) + 1 + ([] : List Ext).length) cap2] 101)], c2]) Tryz.results63 (hR := ?_); refine ⟨rfl, p2, cap2, c2, ?_, ?_⟩)
  · first | rfl | (rw [show ([] : List Ext).length = 0 by simp])
  · first | exact hV2 | (simpa using hV2) | (rw [show (A2.length + 1) + 1 + 0 = (A2.length + 1) + 1 + ([] : List Ext).length by simp]; exact hV2)
set_option maxHeartbeats 1000000 in
theorem Give11w (A2 : List Ext) (e0 : Ext) (B2 : List Ext) (e1 : Ext) (ha : e0.1 + e0.2 < first) (hb : first + m < e1.1) (hfo : fok n ((A2 ++ [e0]) ++ (e1 :: B2))) (hA : ∀ e ∈ ((A2 ++ [e0]) : List Ext), e.1 + e.2 ≤ first) (hB : ∀ e ∈ ((e1 :: B2) : List Ext), first < e.1 + e.2) (hV : Vec 98 2 p ((A2 ++ [e0]) ++ (e1 :: B2)).length cap (ecells ((A2 ++ [e0]) ++ (e1 :: B2))) vc) :
    Ct Tryz.prog 63 [.pointer (some ⟨bs, 0, none⟩), .int .i64 (first : Int), .int .i64 (m : Int)] [[(bs, row (spCells n p ((A2 ++ [e0]) ++ (e1 :: B2)).length cap) 101)], vc] fun v H' =>
      v = .int .i64 0 ∧ ∃ p' cap' vc', H' = [[(bs, row (spCells n p' ((A2 ++ [e0]) ++ [(first, m)] ++ (e1 :: B2)).length cap') 101)], vc'] ∧ Vec 98 2 p' ((A2 ++ [e0]) ++ [(first, m)] ++ (e1 :: B2)).length cap' (ecells ((A2 ++ [e0]) ++ [(first, m)] ++ (e1 :: B2))) vc' := by
  have hI : CtQ Tryz.prog 76 [.pointer (some ⟨bs, 0, none⟩), .int .i64 (first : Int), .int .i64 (m : Int)] [[(bs, row (spCells n p ((A2 ++ [e0]) ++ (e1 :: B2)).length cap) 101)], vc] (.bool true) := CtQ.conv (inside_ct bs ⟨n, ((A2 ++ [e0]) ++ (e1 :: B2))⟩ _ ⟨p, cap, vc, rfl, hV, hfo, hn⟩ first m hm hfm) (by simp)
  have hBe := behind_ct bs n cap first p vc (A2 ++ [e0]) (e1 :: B2) hfo hn hV hA hB
  have hlen := fok_len hfo (k := 0) (by omega) (by omega)
  have hl : ((A2 ++ [e0]) ++ (e1 :: B2)).length = (A2.length + 1) + (B2.length + 1) := by simp <;> omega
  have hlA : ((A2 ++ [e0]) : List Ext).length = (A2.length + 1) := by simp
  have hl2 : ((A2 ++ [e0]) ++ [(first, m)] ++ (e1 :: B2)).length = (A2.length + 1) + 1 + (B2.length + 1) := by simp <;> omega
  have hfb := hfo.1
  have hE1 := end_ct first m (by omega)
  have hb0 := hfb e0 (by simp)
  have hE0 := end_ct e0.1 e0.2 (by omega)
  have hb1 := hfb e1 (by simp)
  rw [hl] at hI hBe hlen ⊢
  rw [hlA] at hBe
  rw [hl] at hV
  rw [hl2]
  unfold spCells at hI hBe ⊢
  have hVV := hV
  obtain ⟨_, h0 | ⟨vb, rest, rfl, rfl, hrl, hmc, hcm⟩⟩ := hV
  · omega
  obtain ⟨g1, g2, g3⟩ := eget (A := A2) (rest := rest) (B := (e1 :: B2)) (e := e0) (rfl : A2.length = A2.length)
  rw [show A2 ++ e0 :: (e1 :: B2) = ((A2 ++ [e0]) ++ (e1 :: B2)) by simp] at g1 g2 g3
  have ei : (((A2.length + 1 : Nat) : Int) - 1).toNat = A2.length := by omega
  obtain ⟨k1, k2, k3⟩ := eget (A := (A2 ++ [e0])) (rest := rest) (B := B2) (e := e1) (i := (A2.length + 1)) (by simp)
  generalize hcl : ecells ((A2 ++ [e0]) ++ (e1 :: B2)) ++ rest = cells at *
  have hR := fun bv => RepAny_ct (some ⟨vb, 0, none⟩) cap (A2 ++ [e0]) (e1 :: B2) [] (first, m) [(vb, row cells 98)] (A2.length + 1) ((A2.length + 1) + (B2.length + 1)) (((A2.length + 1) : Nat) : Int) (((A2.length + 1) : Nat) : Int) (first : Int) (m : Int) (by simp) (by omega) (by simp only [List.length_nil, List.length_cons] <;> omega) (by simp) (by simp only [List.length_nil, List.length_cons] <;> omega) (by omega) bv 1 [] (by first | rfl | omega) (by first | rfl | (dsimp only; omega))
    (by rw [show (A2 ++ [e0]) ++ [] ++ (e1 :: B2) = ((A2 ++ [e0]) ++ (e1 :: B2)) by simp]; exact hVV)
  simp only [List.append_nil] at hR
  refine Ct.intro Tryz.func63 rfl Tryz.ntmps63 (nle rfl) fun w0 => ?_; dsimp only [argSlots, Nat.reduceAdd]
  repeat (first | apply G.seq | refine G.plain (h := ?_) | apply G.skip | refine G.condF (h := ?_) | apply Dn.next | refine G.condPF (ht := ?_) | refine G.draw (id := 7) [(17, .quiet)] (h := ?_) | refine G.draw (id := 13) [] (h := ?_) | refine R.enter0 (h := ?_) | refine R.nil (h := ?_) | refine R.enterT (h := ?_) | refine R.splitT (ht := ?_) | refine R.move (h := ?_) | refine R.assign (h := ?_) | refine R.nilCheck (h := ?_) | refine R.fieldAddr (h := ?_) | refine R.load1 (h := ?_) | refine R.loadN (h := ?_) | refine R.storeN (h := ?_) | (refine R.alloc (h := ?_); intro _) | refine R.pickT (h := ?_) | refine R.lss (h := ?_) | refine R.gtr (h := ?_) | refine R.eql (h := ?_) | refine R.addw (h := ?_) | refine R.subw (h := ?_) | refine R.not (h := ?_) | refine R.len (h := ?_) | refine R.indexAddr (h := ?_) | refine R.build (h := ?_) | (refine R.buildSlice (h := ?_); intro _) | refine R.callP (hct := by apply hI <;> (first | omega | assumption)) (h := ?_) | refine R.callP (hct := by apply hBe <;> (first | omega | assumption)) (h := ?_) | refine R.callP (hct := by apply hE0 <;> (first | omega | assumption)) (h := ?_) | refine R.callQ (hct := by apply hE1 <;> (first | omega | assumption)) (h := ?_))
  refine R.call (hct := hR _) (h := ?_)
  rintro _ _ ⟨p2, cap2, c2, rfl, hV2, rfl⟩
  try dsimp only [List.cons_append, List.nil_append]
  repeat (first | apply G.seq | refine G.plain (h := ?_) | apply G.ret | apply Dn.next | refine R.enter0 (h := ?_) | refine R.nil (h := ?_) | refine R.assign (h := ?_) | refine R.nilCheck (h := ?_) | refine R.fieldAddr (h := ?_) | refine R.store1 (h := ?_))
  (refine Dn.post (Hr := [[(bs, row [.int .i64 0, .int .i64 (n : Int), .slice p2 ((A2.length + 1) + 1 + ((e1 :: B2) : List Ext).length) cap2] 101)], c2]) Tryz.results63 (hR := ?_); refine ⟨rfl, p2, cap2, c2, ?_, ?_⟩)
  · first | rfl | (rw [show ((e1 :: B2) : List Ext).length = (B2.length + 1) by simp])
  · first | exact hV2 | (simpa using hV2) | (rw [show (A2.length + 1) + 1 + (B2.length + 1) = (A2.length + 1) + 1 + ((e1 :: B2) : List Ext).length by simp]; exact hV2)
set_option maxHeartbeats 1000000 in
theorem Give12w (A2 : List Ext) (e0 : Ext) (B2 : List Ext) (e1 : Ext) (ha : e0.1 + e0.2 < first) (hb : e1.1 = first + m) (hfo : fok n ((A2 ++ [e0]) ++ (e1 :: B2))) (hA : ∀ e ∈ ((A2 ++ [e0]) : List Ext), e.1 + e.2 ≤ first) (hB : ∀ e ∈ ((e1 :: B2) : List Ext), first < e.1 + e.2) (hV : Vec 98 2 p ((A2 ++ [e0]) ++ (e1 :: B2)).length cap (ecells ((A2 ++ [e0]) ++ (e1 :: B2))) vc) :
    Ct Tryz.prog 63 [.pointer (some ⟨bs, 0, none⟩), .int .i64 (first : Int), .int .i64 (m : Int)] [[(bs, row (spCells n p ((A2 ++ [e0]) ++ (e1 :: B2)).length cap) 101)], vc] fun v H' =>
      v = .int .i64 0 ∧ ∃ p' cap' vc', H' = [[(bs, row (spCells n p' ((A2 ++ [e0]) ++ [(first, m + e1.2)] ++ B2).length cap') 101)], vc'] ∧ Vec 98 2 p' ((A2 ++ [e0]) ++ [(first, m + e1.2)] ++ B2).length cap' (ecells ((A2 ++ [e0]) ++ [(first, m + e1.2)] ++ B2)) vc' := by
  have hI : CtQ Tryz.prog 76 [.pointer (some ⟨bs, 0, none⟩), .int .i64 (first : Int), .int .i64 (m : Int)] [[(bs, row (spCells n p ((A2 ++ [e0]) ++ (e1 :: B2)).length cap) 101)], vc] (.bool true) := CtQ.conv (inside_ct bs ⟨n, ((A2 ++ [e0]) ++ (e1 :: B2))⟩ _ ⟨p, cap, vc, rfl, hV, hfo, hn⟩ first m hm hfm) (by simp)
  have hBe := behind_ct bs n cap first p vc (A2 ++ [e0]) (e1 :: B2) hfo hn hV hA hB
  have hlen := fok_len hfo (k := 0) (by omega) (by omega)
  have hl : ((A2 ++ [e0]) ++ (e1 :: B2)).length = (A2.length + 1) + (B2.length + 1) := by simp <;> omega
  have hlA : ((A2 ++ [e0]) : List Ext).length = (A2.length + 1) := by simp
  have hl2 : ((A2 ++ [e0]) ++ [(first, m + e1.2)] ++ B2).length = (A2.length + 1) + 1 + B2.length := by simp <;> omega
  have hfb := hfo.1
  have hE1 := end_ct first m (by omega)
  have hb0 := hfb e0 (by simp)
  have hE0 := end_ct e0.1 e0.2 (by omega)
  have hb1 := hfb e1 (by simp)
  rw [hl] at hI hBe hlen ⊢
  rw [hlA] at hBe
  rw [hl] at hV
  rw [hl2]
  unfold spCells at hI hBe ⊢
  have hVV := hV
  obtain ⟨_, h0 | ⟨vb, rest, rfl, rfl, hrl, hmc, hcm⟩⟩ := hV
  · omega
  obtain ⟨g1, g2, g3⟩ := eget (A := A2) (rest := rest) (B := (e1 :: B2)) (e := e0) (rfl : A2.length = A2.length)
  rw [show A2 ++ e0 :: (e1 :: B2) = ((A2 ++ [e0]) ++ (e1 :: B2)) by simp] at g1 g2 g3
  have ei : (((A2.length + 1 : Nat) : Int) - 1).toNat = A2.length := by omega
  obtain ⟨k1, k2, k3⟩ := eget (A := (A2 ++ [e0])) (rest := rest) (B := B2) (e := e1) (i := (A2.length + 1)) (by simp)
  generalize hcl : ecells ((A2 ++ [e0]) ++ (e1 :: B2)) ++ rest = cells at *
  have hR := fun bv => RepAny_ct (some ⟨vb, 0, none⟩) cap (A2 ++ [e0]) B2 [e1] (first, m + e1.2) [(vb, row cells 98)] (A2.length + 1) ((A2.length + 1) + (B2.length + 1)) (((A2.length + 1) : Nat) : Int) ((((A2.length + 1) : Nat) : Int) + 1) (first : Int) ((m : Int) + (e1.2 : Int)) (by simp) (by omega) (by simp only [List.length_nil, List.length_cons] <;> omega) (by simp) (by simp only [List.length_nil, List.length_cons] <;> omega) (by omega) bv 1 [] (by first | rfl | omega) (by first | rfl | (dsimp only; omega))
    (by rw [show (A2 ++ [e0]) ++ [e1] ++ B2 = ((A2 ++ [e0]) ++ (e1 :: B2)) by simp]; exact hVV)
  simp only [List.append_nil] at hR
  refine Ct.intro Tryz.func63 rfl Tryz.ntmps63 (nle rfl) fun w0 => ?_; dsimp only [argSlots, Nat.reduceAdd]
  repeat (first | apply G.seq | refine G.plain (h := ?_) | apply G.skip | refine G.condF (h := ?_) | apply Dn.next | refine G.condPT (ht := ?_) | refine G.condPF (ht := ?_) | refine G.draw (id := 7) [(17, .quiet)] (h := ?_) | refine G.draw (id := 8) [] (h := ?_) | refine G.draw (id := 13) [] (h := ?_) | refine R.enter0 (h := ?_) | refine R.nil (h := ?_) | refine R.enterT (h := ?_) | refine R.splitT (ht := ?_) | refine R.move (h := ?_) | refine R.assign (h := ?_) | refine R.nilCheck (h := ?_) | refine R.fieldAddr (h := ?_) | refine R.load1 (h := ?_) | refine R.loadN (h := ?_) | refine R.store1 (h := ?_) | refine R.storeN (h := ?_) | (refine R.alloc (h := ?_); intro _) | refine R.pickT (h := ?_) | refine R.lss (h := ?_) | refine R.gtr (h := ?_) | refine R.eql (h := ?_) | refine R.addw (h := ?_) | refine R.subw (h := ?_) | refine R.not (h := ?_) | refine R.len (h := ?_) | refine R.indexAddr (h := ?_) | refine R.build (h := ?_) | (refine R.buildSlice (h := ?_); intro _) | refine R.callP (hct := by apply hI <;> (first | omega | assumption)) (h := ?_) | refine R.callP (hct := by apply hBe <;> (first | omega | assumption)) (h := ?_) | refine R.callP (hct := by apply hE0 <;> (first | omega | assumption)) (h := ?_) | refine R.callQ (hct := by apply hE1 <;> (first | omega | assumption)) (h := ?_))
  refine R.call (hct := hR _) (h := ?_)
  rintro _ _ ⟨p2, cap2, c2, rfl, hV2, rfl⟩
  try dsimp only [List.cons_append, List.nil_append]
  repeat (first | apply G.seq | refine G.plain (h := ?_) | apply G.ret | apply Dn.next | refine R.enter0 (h := ?_) | refine R.nil (h := ?_) | refine R.assign (h := ?_) | refine R.nilCheck (h := ?_) | refine R.fieldAddr (h := ?_) | refine R.store1 (h := ?_))
  (refine Dn.post (Hr := [[(bs, row [.int .i64 0, .int .i64 (n : Int), .slice p2 ((A2.length + 1) + 1 + (B2 : List Ext).length) cap2] 101)], c2]) Tryz.results63 (hR := ?_); refine ⟨rfl, p2, cap2, c2, ?_, ?_⟩)
  · first | rfl | (rw [show (B2 : List Ext).length = B2.length by simp])
  · first | exact hV2 | (simpa using hV2) | (rw [show (A2.length + 1) + 1 + B2.length = (A2.length + 1) + 1 + (B2 : List Ext).length by simp]; exact hV2)
set_option maxHeartbeats 1000000 in
theorem Give20w (A2 : List Ext) (e0 : Ext) (ha : e0.1 + e0.2 = first) (hfo : fok n ((A2 ++ [e0]) ++ ([] : List Ext))) (hA : ∀ e ∈ ((A2 ++ [e0]) : List Ext), e.1 + e.2 ≤ first) (hB : ∀ e ∈ (([] : List Ext) : List Ext), first < e.1 + e.2) (hV : Vec 98 2 p ((A2 ++ [e0]) ++ ([] : List Ext)).length cap (ecells ((A2 ++ [e0]) ++ ([] : List Ext))) vc) :
    Ct Tryz.prog 63 [.pointer (some ⟨bs, 0, none⟩), .int .i64 (first : Int), .int .i64 (m : Int)] [[(bs, row (spCells n p ((A2 ++ [e0]) ++ ([] : List Ext)).length cap) 101)], vc] fun v H' =>
      v = .int .i64 0 ∧ ∃ p' cap' vc', H' = [[(bs, row (spCells n p' (A2 ++ [(e0.1, m + e0.2)] ++ []).length cap') 101)], vc'] ∧ Vec 98 2 p' (A2 ++ [(e0.1, m + e0.2)] ++ []).length cap' (ecells (A2 ++ [(e0.1, m + e0.2)] ++ [])) vc' := by
  have hI : CtQ Tryz.prog 76 [.pointer (some ⟨bs, 0, none⟩), .int .i64 (first : Int), .int .i64 (m : Int)] [[(bs, row (spCells n p ((A2 ++ [e0]) ++ ([] : List Ext)).length cap) 101)], vc] (.bool true) := CtQ.conv (inside_ct bs ⟨n, ((A2 ++ [e0]) ++ ([] : List Ext))⟩ _ ⟨p, cap, vc, rfl, hV, hfo, hn⟩ first m hm hfm) (by simp)
  have hBe := behind_ct bs n cap first p vc (A2 ++ [e0]) ([] : List Ext) hfo hn hV hA hB
  have hlen := fok_len hfo (k := 0) (by omega) (by omega)
  have hl : ((A2 ++ [e0]) ++ ([] : List Ext)).length = (A2.length + 1) + 0 := by simp <;> omega
  have hlA : ((A2 ++ [e0]) : List Ext).length = (A2.length + 1) := by simp
  have hl2 : (A2 ++ [(e0.1, m + e0.2)] ++ []).length = A2.length + 1 + 0 := by simp <;> omega
  have hfb := hfo.1
  have hE1 := end_ct first m (by omega)
  have hb0 := hfb e0 (by simp)
  have hE0 := end_ct e0.1 e0.2 (by omega)
  rw [hl] at hI hBe hlen ⊢
  rw [hlA] at hBe
  rw [hl] at hV
  rw [hl2]
  unfold spCells at hI hBe ⊢
  have hVV := hV
  obtain ⟨_, h0 | ⟨vb, rest, rfl, rfl, hrl, hmc, hcm⟩⟩ := hV
  · omega
  obtain ⟨g1, g2, g3⟩ := eget (A := A2) (rest := rest) (B := ([] : List Ext)) (e := e0) (rfl : A2.length = A2.length)
  rw [show A2 ++ e0 :: ([] : List Ext) = ((A2 ++ [e0]) ++ ([] : List Ext)) by simp] at g1 g2 g3
  have ei : (((A2.length + 1 : Nat) : Int) - 1).toNat = A2.length := by omega
  generalize hcl : ecells ((A2 ++ [e0]) ++ ([] : List Ext)) ++ rest = cells at *
  have hR := fun bv => RepAny_ct (some ⟨vb, 0, none⟩) cap A2 [] [e0] (e0.1, m + e0.2) [(vb, row cells 98)] A2.length ((A2.length + 1) + 0) ((((A2.length + 1) : Nat) : Int) - 1) (((A2.length + 1) : Nat) : Int) (e0.1 : Int) ((m : Int) + (e0.2 : Int)) (by simp) (by omega) (by simp only [List.length_nil, List.length_cons] <;> omega) (by simp) (by simp only [List.length_nil, List.length_cons] <;> omega) (by omega) bv 1 [] (by first | rfl | omega) (by first | rfl | (dsimp only; omega))
    (by rw [show A2 ++ [e0] ++ [] = ((A2 ++ [e0]) ++ ([] : List Ext)) by simp]; exact hVV)
  simp only [List.append_nil] at hR
  refine Ct.intro Tryz.func63 rfl Tryz.ntmps63 (nle rfl) fun w0 => ?_; dsimp only [argSlots, Nat.reduceAdd]
  repeat (first | apply G.seq | refine G.plain (h := ?_) | apply G.skip | refine G.condF (h := ?_) | apply Dn.next | refine G.condPT (ht := ?_) | refine G.draw (id := 7) [(17, .quiet)] (h := ?_) | refine G.draw (id := 11) [] (h := ?_) | refine G.draw (id := 13) [] (h := ?_) | refine R.enter0 (h := ?_) | refine R.nil (h := ?_) | refine R.enterT (h := ?_) | refine R.skip (h := ?_) | refine R.splitT (ht := ?_) | refine R.splitF (ht := ?_) | refine R.move (h := ?_) | refine R.assign (h := ?_) | refine R.nilCheck (h := ?_) | refine R.fieldAddr (h := ?_) | refine R.load1 (h := ?_) | refine R.loadN (h := ?_) | refine R.storeN (h := ?_) | (refine R.alloc (h := ?_); intro _) | refine R.pickT (h := ?_) | refine R.pickF (h := ?_) | refine R.lss (h := ?_) | refine R.gtr (h := ?_) | refine R.eql (h := ?_) | refine R.addw (h := ?_) | refine R.subw (h := ?_) | refine R.not (h := ?_) | refine R.len (h := ?_) | refine R.indexAddr (h := ?_) | refine R.build (h := ?_) | (refine R.buildSlice (h := ?_); intro _) | refine R.callP (hct := by apply hI <;> (first | omega | assumption)) (h := ?_) | refine R.callP (hct := by apply hBe <;> (first | omega | assumption)) (h := ?_) | refine R.callP (hct := by apply hE0 <;> (first | omega | assumption)) (h := ?_))
  refine R.call (hct := hR _) (h := ?_)
  rintro _ _ ⟨p2, cap2, c2, rfl, hV2, rfl⟩
  try dsimp only [List.cons_append, List.nil_append]
  repeat (first | apply G.seq | refine G.plain (h := ?_) | apply G.ret | apply Dn.next | refine R.enter0 (h := ?_) | refine R.nil (h := ?_) | refine R.assign (h := ?_) | refine R.nilCheck (h := ?_) | refine R.fieldAddr (h := ?_) | refine R.store1 (h := ?_))
  (refine Dn.post (Hr := [[(bs, row [.int .i64 0, .int .i64 (n : Int), .slice p2 (A2.length + 1 + ([] : List Ext).length) cap2] 101)], c2]) Tryz.results63 (hR := ?_); refine ⟨rfl, p2, cap2, c2, ?_, ?_⟩)
  · first | rfl | (rw [show ([] : List Ext).length = 0 by simp])
  · first | exact hV2 | (simpa using hV2) | (rw [show A2.length + 1 + 0 = A2.length + 1 + ([] : List Ext).length by simp]; exact hV2)
set_option maxHeartbeats 1000000 in
theorem Give21w (A2 : List Ext) (e0 : Ext) (B2 : List Ext) (e1 : Ext) (ha : e0.1 + e0.2 = first) (hb : first + m < e1.1) (hfo : fok n ((A2 ++ [e0]) ++ (e1 :: B2))) (hA : ∀ e ∈ ((A2 ++ [e0]) : List Ext), e.1 + e.2 ≤ first) (hB : ∀ e ∈ ((e1 :: B2) : List Ext), first < e.1 + e.2) (hV : Vec 98 2 p ((A2 ++ [e0]) ++ (e1 :: B2)).length cap (ecells ((A2 ++ [e0]) ++ (e1 :: B2))) vc) :
    Ct Tryz.prog 63 [.pointer (some ⟨bs, 0, none⟩), .int .i64 (first : Int), .int .i64 (m : Int)] [[(bs, row (spCells n p ((A2 ++ [e0]) ++ (e1 :: B2)).length cap) 101)], vc] fun v H' =>
      v = .int .i64 0 ∧ ∃ p' cap' vc', H' = [[(bs, row (spCells n p' (A2 ++ [(e0.1, m + e0.2)] ++ (e1 :: B2)).length cap') 101)], vc'] ∧ Vec 98 2 p' (A2 ++ [(e0.1, m + e0.2)] ++ (e1 :: B2)).length cap' (ecells (A2 ++ [(e0.1, m + e0.2)] ++ (e1 :: B2))) vc' := by
  have hI : CtQ Tryz.prog 76 [.pointer (some ⟨bs, 0, none⟩), .int .i64 (first : Int), .int .i64 (m : Int)] [[(bs, row (spCells n p ((A2 ++ [e0]) ++ (e1 :: B2)).length cap) 101)], vc] (.bool true) := CtQ.conv (inside_ct bs ⟨n, ((A2 ++ [e0]) ++ (e1 :: B2))⟩ _ ⟨p, cap, vc, rfl, hV, hfo, hn⟩ first m hm hfm) (by simp)
  have hBe := behind_ct bs n cap first p vc (A2 ++ [e0]) (e1 :: B2) hfo hn hV hA hB
  have hlen := fok_len hfo (k := 0) (by omega) (by omega)
  have hl : ((A2 ++ [e0]) ++ (e1 :: B2)).length = (A2.length + 1) + (B2.length + 1) := by simp <;> omega
  have hlA : ((A2 ++ [e0]) : List Ext).length = (A2.length + 1) := by simp
  have hl2 : (A2 ++ [(e0.1, m + e0.2)] ++ (e1 :: B2)).length = A2.length + 1 + (B2.length + 1) := by simp <;> omega
  have hfb := hfo.1
  have hE1 := end_ct first m (by omega)
  have hb0 := hfb e0 (by simp)
  have hE0 := end_ct e0.1 e0.2 (by omega)
  have hb1 := hfb e1 (by simp)
  rw [hl] at hI hBe hlen ⊢
  rw [hlA] at hBe
  rw [hl] at hV
  rw [hl2]
  unfold spCells at hI hBe ⊢
  have hVV := hV
  obtain ⟨_, h0 | ⟨vb, rest, rfl, rfl, hrl, hmc, hcm⟩⟩ := hV
  · omega
  obtain ⟨g1, g2, g3⟩ := eget (A := A2) (rest := rest) (B := (e1 :: B2)) (e := e0) (rfl : A2.length = A2.length)
  rw [show A2 ++ e0 :: (e1 :: B2) = ((A2 ++ [e0]) ++ (e1 :: B2)) by simp] at g1 g2 g3
  have ei : (((A2.length + 1 : Nat) : Int) - 1).toNat = A2.length := by omega
  obtain ⟨k1, k2, k3⟩ := eget (A := (A2 ++ [e0])) (rest := rest) (B := B2) (e := e1) (i := (A2.length + 1)) (by simp)
  generalize hcl : ecells ((A2 ++ [e0]) ++ (e1 :: B2)) ++ rest = cells at *
  have hR := fun bv => RepAny_ct (some ⟨vb, 0, none⟩) cap A2 (e1 :: B2) [e0] (e0.1, m + e0.2) [(vb, row cells 98)] A2.length ((A2.length + 1) + (B2.length + 1)) ((((A2.length + 1) : Nat) : Int) - 1) (((A2.length + 1) : Nat) : Int) (e0.1 : Int) ((m : Int) + (e0.2 : Int)) (by simp) (by omega) (by simp only [List.length_nil, List.length_cons] <;> omega) (by simp) (by simp only [List.length_nil, List.length_cons] <;> omega) (by omega) bv 1 [] (by first | rfl | omega) (by first | rfl | (dsimp only; omega))
    (by rw [show A2 ++ [e0] ++ (e1 :: B2) = ((A2 ++ [e0]) ++ (e1 :: B2)) by simp]; exact hVV)
  simp only [List.append_nil] at hR
  refine Ct.intro Tryz.func63 rfl Tryz.ntmps63 (nle rfl) fun w0 => ?_; dsimp only [argSlots, Nat.reduceAdd]
  repeat (first | apply G.seq | refine G.plain (h := ?_) | apply G.skip | refine G.condF (h := ?_) | apply Dn.next | refine G.condPT (ht := ?_) | refine G.condPF (ht := ?_) | refine G.draw (id := 7) [(17, .quiet)] (h := ?_) | refine G.draw (id := 11) [] (h := ?_) | refine G.draw (id := 13) [] (h := ?_) | refine R.enter0 (h := ?_) | refine R.nil (h := ?_) | refine R.enterT (h := ?_) | refine R.splitT (ht := ?_) | refine R.move (h := ?_) | refine R.assign (h := ?_) | refine R.nilCheck (h := ?_) | refine R.fieldAddr (h := ?_) | refine R.load1 (h := ?_) | refine R.loadN (h := ?_) | refine R.storeN (h := ?_) | (refine R.alloc (h := ?_); intro _) | refine R.pickT (h := ?_) | refine R.lss (h := ?_) | refine R.gtr (h := ?_) | refine R.eql (h := ?_) | refine R.addw (h := ?_) | refine R.subw (h := ?_) | refine R.not (h := ?_) | refine R.len (h := ?_) | refine R.indexAddr (h := ?_) | refine R.build (h := ?_) | (refine R.buildSlice (h := ?_); intro _) | refine R.callP (hct := by apply hI <;> (first | omega | assumption)) (h := ?_) | refine R.callP (hct := by apply hBe <;> (first | omega | assumption)) (h := ?_) | refine R.callP (hct := by apply hE0 <;> (first | omega | assumption)) (h := ?_) | refine R.callQ (hct := by apply hE1 <;> (first | omega | assumption)) (h := ?_))
  refine R.call (hct := hR _) (h := ?_)
  rintro _ _ ⟨p2, cap2, c2, rfl, hV2, rfl⟩
  try dsimp only [List.cons_append, List.nil_append]
  repeat (first | apply G.seq | refine G.plain (h := ?_) | apply G.ret | apply Dn.next | refine R.enter0 (h := ?_) | refine R.nil (h := ?_) | refine R.assign (h := ?_) | refine R.nilCheck (h := ?_) | refine R.fieldAddr (h := ?_) | refine R.store1 (h := ?_))
  (refine Dn.post (Hr := [[(bs, row [.int .i64 0, .int .i64 (n : Int), .slice p2 (A2.length + 1 + ((e1 :: B2) : List Ext).length) cap2] 101)], c2]) Tryz.results63 (hR := ?_); refine ⟨rfl, p2, cap2, c2, ?_, ?_⟩)
  · first | rfl | (rw [show ((e1 :: B2) : List Ext).length = (B2.length + 1) by simp])
  · first | exact hV2 | (simpa using hV2) | (rw [show A2.length + 1 + (B2.length + 1) = A2.length + 1 + ((e1 :: B2) : List Ext).length by simp]; exact hV2)
set_option maxHeartbeats 1000000 in
theorem Give22w (A2 : List Ext) (e0 : Ext) (B2 : List Ext) (e1 : Ext) (ha : e0.1 + e0.2 = first) (hb : e1.1 = first + m) (hfo : fok n ((A2 ++ [e0]) ++ (e1 :: B2))) (hA : ∀ e ∈ ((A2 ++ [e0]) : List Ext), e.1 + e.2 ≤ first) (hB : ∀ e ∈ ((e1 :: B2) : List Ext), first < e.1 + e.2) (hV : Vec 98 2 p ((A2 ++ [e0]) ++ (e1 :: B2)).length cap (ecells ((A2 ++ [e0]) ++ (e1 :: B2))) vc) :
    Ct Tryz.prog 63 [.pointer (some ⟨bs, 0, none⟩), .int .i64 (first : Int), .int .i64 (m : Int)] [[(bs, row (spCells n p ((A2 ++ [e0]) ++ (e1 :: B2)).length cap) 101)], vc] fun v H' =>
      v = .int .i64 0 ∧ ∃ p' cap' vc', H' = [[(bs, row (spCells n p' (A2 ++ [(e0.1, m + e1.2 + e0.2)] ++ B2).length cap') 101)], vc'] ∧ Vec 98 2 p' (A2 ++ [(e0.1, m + e1.2 + e0.2)] ++ B2).length cap' (ecells (A2 ++ [(e0.1, m + e1.2 + e0.2)] ++ B2)) vc' := by
  have hI : CtQ Tryz.prog 76 [.pointer (some ⟨bs, 0, none⟩), .int .i64 (first : Int), .int .i64 (m : Int)] [[(bs, row (spCells n p ((A2 ++ [e0]) ++ (e1 :: B2)).length cap) 101)], vc] (.bool true) := CtQ.conv (inside_ct bs ⟨n, ((A2 ++ [e0]) ++ (e1 :: B2))⟩ _ ⟨p, cap, vc, rfl, hV, hfo, hn⟩ first m hm hfm) (by simp)
  have hBe := behind_ct bs n cap first p vc (A2 ++ [e0]) (e1 :: B2) hfo hn hV hA hB
  have hlen := fok_len hfo (k := 0) (by omega) (by omega)
  have hl : ((A2 ++ [e0]) ++ (e1 :: B2)).length = (A2.length + 1) + (B2.length + 1) := by simp <;> omega
  have hlA : ((A2 ++ [e0]) : List Ext).length = (A2.length + 1) := by simp
  have hl2 : (A2 ++ [(e0.1, m + e1.2 + e0.2)] ++ B2).length = A2.length + 1 + B2.length := by simp <;> omega
  have hfb := hfo.1
  have hE1 := end_ct first m (by omega)
  have hb0 := hfb e0 (by simp)
  have hE0 := end_ct e0.1 e0.2 (by omega)
  have hb1 := hfb e1 (by simp)
  rw [hl] at hI hBe hlen ⊢
  rw [hlA] at hBe
  rw [hl] at hV
  rw [hl2]
  unfold spCells at hI hBe ⊢
  have hVV := hV
  obtain ⟨_, h0 | ⟨vb, rest, rfl, rfl, hrl, hmc, hcm⟩⟩ := hV
  · omega
  obtain ⟨g1, g2, g3⟩ := eget (A := A2) (rest := rest) (B := (e1 :: B2)) (e := e0) (rfl : A2.length = A2.length)
  rw [show A2 ++ e0 :: (e1 :: B2) = ((A2 ++ [e0]) ++ (e1 :: B2)) by simp] at g1 g2 g3
  have ei : (((A2.length + 1 : Nat) : Int) - 1).toNat = A2.length := by omega
  obtain ⟨k1, k2, k3⟩ := eget (A := (A2 ++ [e0])) (rest := rest) (B := B2) (e := e1) (i := (A2.length + 1)) (by simp)
  generalize hcl : ecells ((A2 ++ [e0]) ++ (e1 :: B2)) ++ rest = cells at *
  have hR := fun bv => RepAny_ct (some ⟨vb, 0, none⟩) cap A2 B2 [e0, e1] (e0.1, m + e1.2 + e0.2) [(vb, row cells 98)] A2.length ((A2.length + 1) + (B2.length + 1)) ((((A2.length + 1) : Nat) : Int) - 1) ((((A2.length + 1) : Nat) : Int) + 1) (e0.1 : Int) (((m : Int) + (e1.2 : Int)) + (e0.2 : Int)) (by simp) (by omega) (by simp only [List.length_nil, List.length_cons] <;> omega) (by simp) (by simp only [List.length_nil, List.length_cons] <;> omega) (by omega) bv 1 [] (by first | rfl | omega) (by first | rfl | (dsimp only; omega))
    (by rw [show A2 ++ [e0, e1] ++ B2 = ((A2 ++ [e0]) ++ (e1 :: B2)) by simp]; exact hVV)
  simp only [List.append_nil] at hR
  refine Ct.intro Tryz.func63 rfl Tryz.ntmps63 (nle rfl) fun w0 => ?_; dsimp only [argSlots, Nat.reduceAdd]
  repeat (first | apply G.seq | refine G.plain (h := ?_) | apply G.skip | refine G.condF (h := ?_) | apply Dn.next | refine G.condPT (ht := ?_) | refine G.condPF (ht := ?_) | refine G.draw (id := 7) [(17, .quiet)] (h := ?_) | refine G.draw (id := 8) [] (h := ?_) | refine G.draw (id := 11) [] (h := ?_) | refine G.draw (id := 13) [] (h := ?_) | refine R.enter0 (h := ?_) | refine R.nil (h := ?_) | refine R.enterT (h := ?_) | refine R.splitT (ht := ?_) | refine R.move (h := ?_) | refine R.assign (h := ?_) | refine R.nilCheck (h := ?_) | refine R.fieldAddr (h := ?_) | refine R.load1 (h := ?_) | refine R.loadN (h := ?_) | refine R.store1 (h := ?_) | refine R.storeN (h := ?_) | (refine R.alloc (h := ?_); intro _) | refine R.pickT (h := ?_) | refine R.lss (h := ?_) | refine R.gtr (h := ?_) | refine R.eql (h := ?_) | refine R.addw (h := ?_) | refine R.subw (h := ?_) | refine R.not (h := ?_) | refine R.len (h := ?_) | refine R.indexAddr (h := ?_) | refine R.build (h := ?_) | (refine R.buildSlice (h := ?_); intro _) | refine R.callP (hct := by apply hI <;> (first | omega | assumption)) (h := ?_) | refine R.callP (hct := by apply hBe <;> (first | omega | assumption)) (h := ?_) | refine R.callP (hct := by apply hE0 <;> (first | omega | assumption)) (h := ?_) | refine R.callQ (hct := by apply hE1 <;> (first | omega | assumption)) (h := ?_))
  refine R.call (hct := hR _) (h := ?_)
  rintro _ _ ⟨p2, cap2, c2, rfl, hV2, rfl⟩
  try dsimp only [List.cons_append, List.nil_append]
  repeat (first | apply G.seq | refine G.plain (h := ?_) | apply G.ret | apply Dn.next | refine R.enter0 (h := ?_) | refine R.nil (h := ?_) | refine R.assign (h := ?_) | refine R.nilCheck (h := ?_) | refine R.fieldAddr (h := ?_) | refine R.store1 (h := ?_))
  (refine Dn.post (Hr := [[(bs, row [.int .i64 0, .int .i64 (n : Int), .slice p2 (A2.length + 1 + (B2 : List Ext).length) cap2] 101)], c2]) Tryz.results63 (hR := ?_); refine ⟨rfl, p2, cap2, c2, ?_, ?_⟩)
  · first | rfl | (rw [show (B2 : List Ext).length = B2.length by simp])
  · first | exact hV2 | (simpa using hV2) | (rw [show A2.length + 1 + B2.length = A2.length + 1 + (B2 : List Ext).length by simp]; exact hV2)
end
end Go.Proofs.YtdkihpjnidhnmaaGreat
namespace Go.Proofs.YtdkihpjnidhnmaaGreat
open Go.SL Go.Spc
theorem gave_of {n first m f bl : Nat} {A1 B1 L R : List Ext} (hfo : fok n (A1 ++ L ++ (R ++ B1))) (hm : 1 ≤ m) (hfm : first + m ≤ n)
    (hL : L = [] ∧ f = first ∨ ∃ e0 : Ext, L = [e0] ∧ e0.1 + e0.2 = first ∧ f = e0.1) (hR : R = [] ∧ f + bl = first + m ∨ ∃ e1 : Ext, R = [e1] ∧ e1.1 = first + m ∧ f + bl = e1.1 + e1.2)
    (hA : ∀ e ∈ A1, e.1 + e.2 < f) (hB : ∀ e ∈ B1, f + bl < e.1) : Gave n (A1 ++ L ++ (R ++ B1)) (A1 ++ [(f, bl)] ++ B1) first m := by
  obtain ⟨h1, h2, h3⟩ := fok_app.1 hfo
  obtain ⟨h4, h5, h6⟩ := fok_app.1 h1
  obtain ⟨h7, h8, h9⟩ := fok_app.1 h2
  have hf : f ≤ first ∧ first + m ≤ f + bl ∧ f + bl ≤ n := by
    rcases hL with ⟨rfl, e⟩ | ⟨e0, rfl, e, e'⟩ <;> rcases hR with ⟨rfl, g⟩ | ⟨e1, rfl, g, g'⟩
    · omega
    · have := h7.1 e1 (by simp); omega
    · omega
    · have := h7.1 e1 (by simp); omega
  refine ⟨fok_app.2 ⟨fok_app.2 ⟨h4, fok_cons.2 ⟨⟨by dsimp only; omega, by dsimp only; omega⟩, fok_nil n, by simp⟩, fun x hx y hy => ?_⟩, h8, fun x hx y hy => ?_⟩, fun x => ?_, ?_, ?_⟩
  · simp only [List.mem_singleton] at hy; subst hy; exact hA x hx
  · rcases List.mem_append.1 hx with hx | hx
    · have := hA x hx; have := hB y hy; omega
    · simp only [List.mem_singleton] at hx; subst hx; exact hB y hy
  · simp only [inF_app, inF_cons, inF_nil, or_false]
    clear h1 h2 h3 h4 h5 h6 h7 h8 h9 hA hB hfo
    rcases hL with ⟨rfl, e⟩ | ⟨e0, rfl, e, e'⟩ <;> rcases hR with ⟨rfl, g⟩ | ⟨e1, rfl, g, g'⟩ <;> simp only [inF_cons, inF_nil, or_false, false_or] <;>
      by_cases hP : inF A1 x <;> by_cases hQ : inF B1 x <;> simp only [hP, hQ, true_or, or_true, false_or, or_false] <;> omega
  · rcases hL with ⟨rfl, e⟩ | ⟨e0, rfl, e, e'⟩ <;> rcases hR with ⟨rfl, g⟩ | ⟨e1, rfl, g, g'⟩ <;> simp <;> omega
  · rcases hL with ⟨rfl, e⟩ | ⟨e0, rfl, e, e'⟩ <;> rcases hR with ⟨rfl, g⟩ | ⟨e1, rfl, g, g'⟩ <;> simp only [big_app, big, List.nil_append] <;> omega
set_option maxHeartbeats 1000000 in
theorem Give_ct (bs : Nat) (σ : Sp) (c : Chunk) (h : IsSpace bs σ c) (first m : Nat) (hm : 1 ≤ m) (hfm : first + m ≤ σ.n) (hd : ∀ x, first ≤ x → x < first + m → ¬ inF σ.free x) :
    Ct Tryz.prog 63 [.pointer (some ⟨bs, 0, none⟩), .int .i64 (first : Int), .int .i64 (m : Int)] [c] fun v H' =>
      ∃ (c' : Chunk) (σ' : Sp), v = .int .i64 0 ∧ IsSpace bs σ' c' ∧ σ'.n = σ.n ∧ (∀ x, inF σ'.free x ↔ inF σ.free x ∨ (first ≤ x ∧ x < first + m)) ∧ total σ'.free = total σ.free + m ∧ big σ.free ≤ big σ'.free ∧ H' = [c'] := by
  obtain ⟨n, free⟩ := σ
  obtain ⟨p, cap, vc, rfl, hV, hfo, hn⟩ := h
  dsimp only at hV hfo hn hfm hd
  obtain ⟨A, B, hAB, hA, hB⟩ := cut_at first free hfo
  have fin : ∀ free', Gave n free free' first m → Ct Tryz.prog 63 [.pointer (some ⟨bs, 0, none⟩), .int .i64 (first : Int), .int .i64 (m : Int)] [[(bs, row (spCells n p free.length cap) 101)], vc] (fun v H' =>
      v = .int .i64 0 ∧ ∃ p' cap' vc', H' = [[(bs, row (spCells n p' free'.length cap') 101)], vc'] ∧ Vec 98 2 p' free'.length cap' (ecells free') vc') → Ct Tryz.prog 63 [.pointer (some ⟨bs, 0, none⟩), .int .i64 (first : Int), .int .i64 (m : Int)] [(bs, row (spCells n p free.length cap) 101) :: vc] fun v H' =>
      ∃ (c' : Chunk) (σ' : Sp), v = .int .i64 0 ∧ IsSpace bs σ' c' ∧ σ'.n = n ∧ (∀ x, inF σ'.free x ↔ inF free x ∨ (first ≤ x ∧ x < first + m)) ∧ total σ'.free = total free + m ∧ big free ≤ big σ'.free ∧ H' = [c'] := by
    intro free' hg hc
    refine Ct.conv hc (by simp) ?_
    rintro v H' ⟨rfl, p', cap', vc', rfl, hV'⟩
    exact ⟨_, ⟨_, ⟨n, free'⟩, rfl, ⟨p', cap', vc', rfl, hV', hg.1, hn⟩, rfl, hg.2.1, hg.2.2.1, hg.2.2.2, rfl⟩, by simp⟩
  subst hAB
  obtain ⟨hfA, hfB, hcross⟩ := fok_app.1 hfo
  have hA2 : A = [] ∨ ∃ A2 e0, A = A2 ++ [e0] := by
    rcases List.eq_nil_or_concat A with h | ⟨A2, e0, h⟩
    · exact .inl h
    · exact .inr ⟨A2, e0, by simpa using h⟩
  have hB2 : ∀ e1 B2, B = e1 :: B2 → first + m ≤ e1.1 := by
    rintro e1 B2 rfl
    exact behind_free (hB e1 List.mem_cons_self) (hfB.1 e1 List.mem_cons_self).1 (fun x h1 h2 hh => hd x h1 h2 (by rw [inF_app]; exact .inr hh)) hm
  rcases hA2 with rfl | ⟨A2, e0, rfl⟩
  · rcases B with _ | ⟨e1, B2⟩
    · have hg := gave_of (n := n) (first := first) (m := m) (f := first) (bl := m) (A1 := []) (B1 := []) (L := []) (R := []) (by simpa using hfo) hm hfm (.inl ⟨rfl, rfl⟩) (.inl ⟨rfl, by omega⟩) (by simp)
          (by simp)
      refine fin _ (by simpa using hg) ?_
      simpa using Give00w bs n cap p vc first m hn hm hfm (by simpa using hfo) (by simpa using hA) (by simpa using hB) (by simpa using hV)
    · have hb := hB2 e1 B2 rfl
      by_cases hb : e1.1 = first + m
      · have hg := gave_of (n := n) (first := first) (m := m) (f := first) (bl := m + e1.2) (A1 := []) (B1 := B2) (L := []) (R := [e1]) (by simpa using hfo) hm hfm (.inl ⟨rfl, rfl⟩) (.inr ⟨e1, rfl, hb, by omega⟩) (by simp)
            (fun e he => by
              have := (fok_cons.1 hfB).2.2 e he; omega)
        refine fin _ (by simpa using hg) ?_
        simpa using Give02w bs n cap p vc first m hn hm hfm B2 e1 hb (by simpa using hfo) (by simpa using hA) (by simpa using hB) (by simpa using hV)
      · have hb : first + m < e1.1 := by omega
        have hg := gave_of (n := n) (first := first) (m := m) (f := first) (bl := m) (A1 := []) (B1 := (e1 :: B2)) (L := []) (R := []) (by simpa using hfo) hm hfm (.inl ⟨rfl, rfl⟩) (.inl ⟨rfl, by omega⟩) (by simp)
            (fun e he => by
              rcases List.mem_cons.1 he with rfl | he
              · omega
              · have := (fok_cons.1 hfB).2.2 e he; omega)
        refine fin _ (by simpa using hg) ?_
        simpa using Give01w bs n cap p vc first m hn hm hfm B2 e1 hb (by simpa using hfo) (by simpa using hA) (by simpa using hB) (by simpa using hV)
  · have ha := hA e0 (by simp)
    by_cases ha : e0.1 + e0.2 = first
    · rcases B with _ | ⟨e1, B2⟩
      · have hg := gave_of (n := n) (first := first) (m := m) (f := e0.1) (bl := m + e0.2) (A1 := A2) (B1 := []) (L := [e0]) (R := []) (by simpa using hfo) hm hfm (.inr ⟨e0, rfl, ha, rfl⟩) (.inl ⟨rfl, by omega⟩) (fun e he => (fok_app.1 hfA).2.2 e he e0 (by simp))
            (by simp)
        refine fin _ (by simpa using hg) ?_
        simpa using Give20w bs n cap p vc first m hn hm hfm A2 e0 ha (by simpa using hfo) (by simpa using hA) (by simpa using hB) (by simpa using hV)
      · have hb := hB2 e1 B2 rfl
        by_cases hb : e1.1 = first + m
        · have hg := gave_of (n := n) (first := first) (m := m) (f := e0.1) (bl := m + e1.2 + e0.2) (A1 := A2) (B1 := B2) (L := [e0]) (R := [e1]) (by simpa using hfo) hm hfm (.inr ⟨e0, rfl, ha, rfl⟩) (.inr ⟨e1, rfl, hb, by omega⟩) (fun e he => (fok_app.1 hfA).2.2 e he e0 (by simp))
              (fun e he => by
                have := (fok_cons.1 hfB).2.2 e he; omega)
          refine fin _ (by simpa using hg) ?_
          simpa using Give22w bs n cap p vc first m hn hm hfm A2 e0 B2 e1 ha hb (by simpa using hfo) (by simpa using hA) (by simpa using hB) (by simpa using hV)
        · have hb : first + m < e1.1 := by omega
          have hg := gave_of (n := n) (first := first) (m := m) (f := e0.1) (bl := m + e0.2) (A1 := A2) (B1 := (e1 :: B2)) (L := [e0]) (R := []) (by simpa using hfo) hm hfm (.inr ⟨e0, rfl, ha, rfl⟩) (.inl ⟨rfl, by omega⟩) (fun e he => (fok_app.1 hfA).2.2 e he e0 (by simp))
              (fun e he => by
                rcases List.mem_cons.1 he with rfl | he
                · omega
                · have := (fok_cons.1 hfB).2.2 e he; omega)
          refine fin _ (by simpa using hg) ?_
          simpa using Give21w bs n cap p vc first m hn hm hfm A2 e0 B2 e1 ha hb (by simpa using hfo) (by simpa using hA) (by simpa using hB) (by simpa using hV)
    · have ha : e0.1 + e0.2 < first := by omega
      rcases B with _ | ⟨e1, B2⟩
      · have hg := gave_of (n := n) (first := first) (m := m) (f := first) (bl := m) (A1 := (A2 ++ [e0])) (B1 := []) (L := []) (R := []) (by simpa using hfo) hm hfm (.inl ⟨rfl, rfl⟩) (.inl ⟨rfl, by omega⟩) (fun e he => by
              rcases List.mem_append.1 he with he | he
              · have := (fok_app.1 hfA).2.2 e he e0 (by simp); omega
              · simp only [List.mem_singleton] at he; subst he; exact ha)
            (by simp)
        refine fin _ (by simpa using hg) ?_
        simpa using Give10w bs n cap p vc first m hn hm hfm A2 e0 ha (by simpa using hfo) (by simpa using hA) (by simpa using hB) (by simpa using hV)
      · have hb := hB2 e1 B2 rfl
        by_cases hb : e1.1 = first + m
        · have hg := gave_of (n := n) (first := first) (m := m) (f := first) (bl := m + e1.2) (A1 := (A2 ++ [e0])) (B1 := B2) (L := []) (R := [e1]) (by simpa using hfo) hm hfm (.inl ⟨rfl, rfl⟩) (.inr ⟨e1, rfl, hb, by omega⟩) (fun e he => by
                rcases List.mem_append.1 he with he | he
                · have := (fok_app.1 hfA).2.2 e he e0 (by simp); omega
                · simp only [List.mem_singleton] at he; subst he; exact ha)
              (fun e he => by
                have := (fok_cons.1 hfB).2.2 e he; omega)
          refine fin _ (by simpa using hg) ?_
          simpa using Give12w bs n cap p vc first m hn hm hfm A2 e0 B2 e1 ha hb (by simpa using hfo) (by simpa using hA) (by simpa using hB) (by simpa using hV)
        · have hb : first + m < e1.1 := by omega
          have hg := gave_of (n := n) (first := first) (m := m) (f := first) (bl := m) (A1 := (A2 ++ [e0])) (B1 := (e1 :: B2)) (L := []) (R := []) (by simpa using hfo) hm hfm (.inl ⟨rfl, rfl⟩) (.inl ⟨rfl, by omega⟩) (fun e he => by
                rcases List.mem_append.1 he with he | he
                · have := (fok_app.1 hfA).2.2 e he e0 (by simp); omega
                · simp only [List.mem_singleton] at he; subst he; exact ha)
              (fun e he => by
                rcases List.mem_cons.1 he with rfl | he
                · omega
                · have := (fok_cons.1 hfB).2.2 e he; omega)
          refine fin _ (by simpa using hg) ?_
          simpa using Give11w bs n cap p vc first m hn hm hfm A2 e0 B2 e1 ha hb (by simpa using hfo) (by simpa using hA) (by simpa using hB) (by simpa using hV)
/-- a space whose blocks are free: made -/
theorem SpaceNew_ct (n : Nat) (h1 : 1 ≤ n) (h2 : n ≤ 1000000) : Ct Tryz.prog 27 [.int .i64 0, .int .i64 (n : Int)] [] fun v H' =>
    ∃ bs c', v = .pointer (some ⟨bs, 0, none⟩) ∧ IsSpace bs ⟨n, [(0, n)]⟩ c' ∧ H' = [c'] := by
  refine Ct.conv (H2 := []) (R2 := fun v H' => ∃ bs vb, v = .pointer (some ⟨bs, 0, none⟩) ∧ H' = [[(bs, row [.int .i64 0, .int .i64 (n : Int), .slice (some ⟨vb, 0, none⟩) 1 1] 101)], [(vb, row [.int .i64 0, .int .i64 (n : Int)] 98)]]) ?_ rfl ?_
  · refine Ct.intro Tryz.func27 rfl Tryz.ntmps27 (nle rfl) fun w0 => ?_; dsimp only [argSlots, Nat.reduceAdd]
    repeat (first | apply G.seq | refine G.plain (h := ?_) | apply G.skip | apply G.ret | apply Dn.next | refine G.condPT (ht := ?_) | refine G.condPF (ht := ?_) | refine R.enter0 (h := ?_) | refine R.nil (h := ?_) | refine R.enterT (h := ?_) | refine R.splitF (ht := ?_) | refine R.move (h := ?_) | refine R.assign (h := ?_) | refine R.nilCheck (h := ?_) | refine R.fieldAddr (h := ?_) | refine R.loadN (h := ?_) | refine R.store1 (h := ?_) | (refine R.box (h := ?_); intro _) | refine R.pickF (h := ?_) | refine R.lss (h := ?_) | refine R.gtr (h := ?_) | refine R.build (h := ?_) | (refine R.buildSlice (h := ?_); intro _))
    rename_i bs vb
    (refine Dn.post (Hr := [[(bs, row [.int .i64 0, .int .i64 (n : Int), .slice (some ⟨vb, 0, none⟩) 1 1] 101)], [(vb, row [.int .i64 0, .int .i64 (n : Int)] 98)]]) Tryz.results27 (hR := ?_); exact ⟨bs, vb, rfl, rfl⟩)
  · rintro v H' ⟨bs, vb, rfl, rfl⟩
    refine ⟨_, ⟨bs, _, rfl, ⟨some ⟨vb, 0, none⟩, 1, _, rfl, ⟨rfl, .inr ⟨vb, [], rfl, rfl, rfl, Nat.le_refl _, by decide⟩⟩, ?_, h2⟩, rfl⟩, by simp [spCells, ecells]⟩
    exact fok_cons.2 ⟨⟨h1, by dsimp only; omega⟩, fok_nil n, by simp⟩
theorem fok_total {n : Nat} : ∀ {l : List Ext} {k : Nat}, fok n l → (∀ e ∈ l, k ≤ e.1) → k ≤ n → total l ≤ n - k
  | [], _, _, _, _ => by simp
  | e :: l, k, h, hk, hn => by
    obtain ⟨h1, h2, h3⟩ := fok_cons.1 h
    have := fok_total (k := e.1 + e.2) h2 (fun y hy => Nat.le_of_lt (h3 y hy)) h1.2
    have := hk e List.mem_cons_self
    simp only [total_cons]
    omega
theorem CloneX_ct (p : Option Addr) (m cap : Nat) (xs : List Value) (c : Chunk) (hV : Vec 98 2 p m cap xs c) (hm : m ≤ 1000000) (h1 : xs.all Value.oneCell' = true) :
    Ct Tryz.prog 69 [.slice p m cap] [c] fun v H' =>
      ∃ p' cap' c', v = .slice p' m cap' ∧ Vec 98 2 p' m cap' xs c' ∧ H' = [c', c] := by
  obtain ⟨hxl, ⟨rfl, rfl, rfl, rfl⟩ | ⟨b, rest, rfl, rfl, hrl, hmc, hcm⟩⟩ := hV
  · obtain rfl : xs = [] := List.eq_nil_of_length_eq_zero (by simpa using hxl)
    refine Ct.intro Tryz.func69 rfl Tryz.ntmps69 (nle rfl) fun w0 => ?_; dsimp only [argSlots, Nat.reduceAdd]
    repeat (first | apply G.seq | refine G.plain (h := ?_) | apply G.ret | refine G.condT (h := ?_) | apply Dn.next | apply Dn.retThen | refine R.enter0 (h := ?_) | refine R.nil (h := ?_) | refine R.move (h := ?_) | refine R.assign (h := ?_) | refine R.eqlNilS (h := ?_))
    (refine Dn.post (Hr := [[], []]) Tryz.results69 (hR := ?_); exact ⟨none, 0, [], rfl, Vec.nil _ _, rfl⟩)
  · by_cases h0 : m = 0
    · subst h0
      obtain rfl : xs = [] := List.eq_nil_of_length_eq_zero (by simpa using hxl)
      have hz : (0 : Nat) ≤ 0 := Nat.le_refl _
      refine Ct.intro Tryz.func69 rfl Tryz.ntmps69 (nle rfl) fun w0 => ?_; dsimp only [argSlots, Nat.reduceAdd]
      repeat (first | apply G.seq | refine G.plain (h := ?_) | apply G.skip | apply G.ret | refine G.condF (h := ?_) | apply Dn.next | refine R.enter0 (h := ?_) | refine R.nil (h := ?_) | refine R.move (h := ?_) | refine R.assign (h := ?_) | refine R.appendRoom (h := ?_) | refine R.eqlNilS (h := ?_) | (refine R.buildSlice0 (h := ?_); intro _))
      rename_i b0
      (refine Dn.post (Hr := [[(b0, row [] 98)], [(b, row ([] ++ rest) 98)]]) Tryz.results69 (hR := ?_); exact ⟨some ⟨b0, 0, none⟩, 0, _, rfl, ⟨rfl, .inr ⟨b0, [], rfl, rfl, rfl, Nat.le_refl _, by decide⟩⟩, rfl⟩)
    · have hd : ((xs ++ rest).drop 0).take (m * 2) = xs := take_at0 hxl
      refine Ct.intro Tryz.func69 rfl Tryz.ntmps69 (nle rfl) fun w0 => ?_; dsimp only [argSlots, Nat.reduceAdd]
      repeat (first | apply G.seq | refine G.plain (h := ?_) | apply G.skip | refine G.condF (h := ?_) | apply Dn.next | refine R.enter0 (h := ?_) | refine R.nil (h := ?_) | refine R.move (h := ?_) | refine R.assign (h := ?_) | refine R.eqlNilS (h := ?_) | (refine R.buildSlice0 (h := ?_); intro _))
      rename_i b0
      have hN : Vec 98 2 (some ⟨b0, 0, none⟩) 0 0 [] [(b0, row [] 98)] := ⟨rfl, .inr ⟨b0, [], rfl, rfl, rfl, Nat.le_refl _, by decide⟩⟩
      repeat (first | apply G.ret | apply Dn.next | refine R.enter0 (h := ?_) | refine R.nil (h := ?_) | refine R.assign (h := ?_) | (refine R.append (h := ?_); intro _ _ _ _))
      rename_i p' cap' c' hV'
      (refine Dn.post (Hr := [c', [(b, row (xs ++ rest) 98)]]) Tryz.results69 (hR := ?_); refine ⟨p', cap', c', ?_, ?_, rfl⟩)
      · show Value.slice p' (0 + m) cap' = _
        rw [Nat.zero_add]
      · simpa using hV'
theorem Extents_ct (bs : Nat) (σ : Sp) (c : Chunk) (h : IsSpace bs σ c) : Ct Tryz.prog 51 [.pointer (some ⟨bs, 0, none⟩)] [c] fun v H' =>
    ∃ p' cap' c', v = .slice p' σ.free.length cap' ∧ Vec 98 2 p' σ.free.length cap' (ecells σ.free) c' ∧ H' = [c', c] := by
  obtain ⟨n, free⟩ := σ
  obtain ⟨p, cap, vc, rfl, hV, hfo, hn⟩ := h
  dsimp only at hV hfo hn ⊢
  have hlen := fok_len hfo (k := 0) (by omega) (by omega)
  have hC := CloneX_ct p free.length cap (ecells free) vc hV (by omega) (ecells_all free)
  refine Ct.conv (H2 := [[(bs, row (spCells n p free.length cap) 101)], vc]) (R2 := fun v H' => ∃ p' cap' c', v = .slice p' free.length cap' ∧ Vec 98 2 p' free.length cap' (ecells free) c' ∧ H' = [c', [(bs, row (spCells n p free.length cap) 101)], vc]) ?_ (by simp) ?_
  · unfold spCells
    refine Ct.intro Tryz.func51 rfl Tryz.ntmps51 (nle rfl) fun w0 => ?_; dsimp only [argSlots, Nat.reduceAdd]
    repeat (first | apply G.seq | refine G.plain (h := ?_) | apply G.skip | refine G.condF (h := ?_) | apply Dn.next | refine R.enter0 (h := ?_) | refine R.nil (h := ?_) | refine R.move (h := ?_) | refine R.assign (h := ?_) | refine R.nilCheck (h := ?_) | refine R.fieldAddr (h := ?_) | refine R.load1 (h := ?_) | refine R.eqlNil (h := ?_))
    refine R.call (hct := hC) (h := ?_)
    rintro _ _ ⟨p', cap', c', rfl, hV', rfl⟩
    try dsimp only [List.cons_append, List.nil_append]
    repeat (first | apply G.ret | apply Dn.next | refine R.enter0 (h := ?_) | refine R.nil (h := ?_) | refine R.assign (h := ?_))
    (refine Dn.post (Hr := [c', [(bs, row [.int .i64 0, .int .i64 (n : Int), .slice p free.length cap] 101)], vc]) Tryz.results51 (hR := ?_); exact ⟨p', cap', c', rfl, hV', rfl⟩)
  · rintro v H' ⟨p', cap', c', rfl, hV', rfl⟩
    exact ⟨_, ⟨p', cap', c', rfl, hV', rfl⟩, by simp⟩
theorem SFree_ct (bs : Nat) (σ : Sp) (c : Chunk) (h : IsSpace bs σ c) : CtQ Tryz.prog 30 [.pointer (some ⟨bs, 0, none⟩)] [c] (.int .i64 (total σ.free : Int)) := by
  have hX := Extents_ct bs σ c h
  obtain ⟨n, free⟩ := σ
  obtain ⟨p, cap, vc, _, _, hfo, hn⟩ := h
  dsimp only at hfo hn hX ⊢
  have hlen := fok_len hfo (k := 0) (by omega) (by omega)
  have htot := fok_total hfo (k := 0) (by omega) (by omega)
  refine Ct.intro Tryz.func30 rfl Tryz.ntmps30 (nle rfl) fun w0 => ?_; dsimp only [argSlots, Nat.reduceAdd]
  repeat (first | apply G.seq | refine G.plain (h := ?_) | apply Dn.next | refine R.enter0 (h := ?_) | refine R.nil (h := ?_) | refine R.move (h := ?_) | refine R.assign (h := ?_))
  refine R.call (hct := hX) (h := ?_)
  rintro _ _ ⟨p', cap', c', rfl, hV', rfl⟩
  try dsimp only [List.cons_append, List.nil_append]
  repeat (first | apply G.block | apply Dn.next | refine R.enter0 (h := ?_) | refine R.nil (h := ?_) | refine R.move (h := ?_) | refine R.len (h := ?_))
  refine G.loop (X := Nat) (fun i => i ≤ free.length) (fun i => [(9, .int .i64 (i : Int)), (8, .int .i64 (free.length : Int)), (7, .slice p' free.length cap'), (3, .int .i64 (total (free.take i) : Int))])
    (fun _ => [c', c]) (fun i => free.length - i) 0 (by omega) (body := ?_)
  intro i hi
  by_cases hif : i < free.length
  · obtain ⟨A, x, B, hs, hA⟩ := split_at (l := free) (i := i) hif
    obtain ⟨_, h0 | ⟨vb, rest, rfl, rfl, hrl, hmc, hcm⟩⟩ := hV'
    · omega
    obtain ⟨g1, g2, g3⟩ := eget (rest := rest) (B := B) (e := x) hA
    rw [← hs] at g1 g2 g3
    generalize ecells free ++ rest = cells at *
    have e1 : free.take i = A := by rw [hs, ← hA]; simp
    have e2 : free.take (i + 1) = A ++ [x] := by rw [hs, ← hA, List.take_length_add_append]; rfl
    have e3 : total free = total A + (x.2 + total B) := by rw [hs]; simp
    rw [e1]
    repeat (first | apply G.seq | refine G.plain (h := ?_) | apply G.block | apply G.skip | apply Dn.next | apply Dn.blockEnd | refine G.condPT (ht := ?_) | refine R.enter0 (h := ?_) | refine R.nil (h := ?_) | refine R.move (h := ?_) | refine R.assign (h := ?_) | refine R.fieldAddr (h := ?_) | refine R.load1 (h := ?_) | refine R.loadN (h := ?_) | refine R.storeN (h := ?_) | (refine R.alloc (h := ?_); intro _) | refine R.lss (h := ?_) | refine R.addw (h := ?_) | refine R.indexAddr (h := ?_))
    refine Dn.round (i + 1) (by omega) (by omega) ?_ (by repeat (first | exact Split.nil | (apply Split.cons; · (repeat (first | exact Take.here | apply Take.there | exact Take.nil)))))
    rw [e2, total_app, show total [x] = x.2 by simp]
    exact ⟨rfl, rfl, rfl, rfl, trivial⟩
  · obtain rfl : i = free.length := by omega
    rw [List.take_length]
    repeat (first | apply G.seq | refine G.plain (h := ?_) | apply G.exit | apply G.ret | apply Dn.next | apply Dn.exitHere | apply Dn.exitThen | refine G.condPF (ht := ?_) | refine R.enter0 (h := ?_) | refine R.nil (h := ?_) | refine R.move (h := ?_) | refine R.assign (h := ?_) | refine R.lss (h := ?_))
    (refine Dn.post (Hr := [c]) Tryz.results30 (hR := ?_); exact ⟨rfl, rfl⟩)
end Go.Proofs.YtdkihpjnidhnmaaGreat
namespace Go.Proofs.YtdkihpjnidhnmaaGreat
open Go.SL Go.Spc Go.Tup
abbrev pv (b : Nat) : Value := .pointer (some ⟨b, 0, none⟩)
abbrev wd (c : Int) : Int := IntKind.wrap .u64 c
def inI64 (c : Int) : Prop := -9223372036854775808 ≤ c ∧ c ≤ 9223372036854775807
/-- a tuple's columns are int64s, and those from a width on are 0 -/
def okT (k : Nat) (t : T5) : Prop := (∀ c ∈ t.toList, inI64 c) ∧ ∀ i, k ≤ i → t.col i = 0
theorem wrap_back {c : Int} (h : inI64 c) : IntKind.wrap .i64 (wd c) = c := by
  obtain ⟨h1, h2⟩ := h
  have h3 : (9223372036854775808 : Int) = 2 ^ (64 - 1) := by decide
  simp only [wd, IntKind.wrap, IntKind.bits, IntKind.signed, Bool.true_and, Bool.false_and, decide_eq_true_eq, ← h3]
  simp
  split <;> omega
/-- a tuple's words -/
def tw (k : Nat) (t : T5) : List Int := (t.toList.take k).map wd
def words (k : Nat) (ts : List T5) : List Int := ts.flatMap (tw k)
theorem tw_length {k : Nat} (t : T5) (hk : k ≤ 5) : (tw k t).length = k := by simp [tw, T5.toList]; omega
theorem words_length {k : Nat} (hk : k ≤ 5) (ts : List T5) : (words k ts).length = ts.length * k := by
  induction ts with
  | nil => simp [words]
  | cons t ts ih =>
    simp only [words, List.flatMap_cons, List.length_append, tw_length t hk, List.length_cons] at ih ⊢
    rw [ih, Nat.succ_mul]; omega
@[simp] theorem words_app (k : Nat) (a b : List T5) : words k (a ++ b) = words k a ++ words k b := by simp [words]
@[simp] theorem words_nil (k : Nat) : words k [] = [] := rfl
/-- the blocks from first on hold the tuples, h in each -/
def Onto (d : Nat → Option (List Int)) (size k h first : Nat) (ts : List T5) (nb : Nat) : Prop :=
  ∀ j, j < nb → d (first + j) = some (sealW size ((first + j : Nat) : Int) (k : Int) (words k ((ts.drop (j * h)).take h)))
structure Fl where
  first : Nat
  blocks : Nat
  width : Nat
  count : Nat
  deriving DecidableEq
def Fl.ext (f : Fl) : Ext := (f.first, f.blocks)
def flv (f : Fl) : Value := .agg #[.int .i64 (f.first : Int), .int .i64 (f.blocks : Int), .int .i64 (f.width : Int), .int .i64 (f.count : Int)]
abbrev holds (size k : Nat) : Nat := (size - 2) / k
abbrev nblocks (size k c : Nat) : Nat := (c + holds size k - 1) / holds size k
/-- a file of these tuples stands; its blocks are among these extents -/
structure FileOk (d : Nat → Option (List Int)) (size : Nat) (Lv : List Ext) (f : Fl) (ts : List T5) : Prop where
  w1 : 1 ≤ f.width
  w2 : f.width ≤ 5
  len : ts.length = f.count
  cnt : f.count ≤ 100000000
  blk : f.blocks = nblocks size f.width f.count
  fit : ∀ t ∈ ts, okT f.width t
  onto : Onto d size f.width (holds size f.width) f.first ts f.blocks
  live : f.blocks ≠ 0 → f.ext ∈ Lv
theorem FileOk.keep {d d' : Nat → Option (List Int)} {size : Nat} {Lv : List Ext} {f : Fl} {ts : List T5} (h : FileOk d size Lv f ts) (hd : ∀ x, inF Lv x → d' x = d x) : FileOk d' size Lv f ts := by
  have ho : Onto d' size f.width (holds size f.width) f.first ts f.blocks := by
    intro j hj
    rw [hd]
    · exact h.onto j hj
    · exact ⟨f.ext, h.live (by omega), by simp [Fl.ext], by simp [Fl.ext]; omega⟩
  exact { h with onto := ho }
theorem FileOk.sub {d : Nat → Option (List Int)} {size : Nat} {Lv Lv' : List Ext} {f : Fl} {ts : List T5} (h : FileOk d size Lv f ts) (hs : ∀ e ∈ Lv, e ∈ Lv') : FileOk d size Lv' f ts :=
  { h with live := fun hb => hs _ (h.live hb) }
/-- which extents are taken -/
structure Live (σ : Sp) (live : List Ext) : Prop where
  fit : ∀ e ∈ live, 1 ≤ e.2 ∧ e.1 + e.2 ≤ σ.n
  apart : live.Pairwise fun a b => a.1 + a.2 ≤ b.1 ∨ b.1 + b.2 ≤ a.1
  free : ∀ x, x < σ.n → (inF σ.free x ↔ ¬ inF live x)
  sum : total σ.free + total live = σ.n
theorem total_perm {a b : List Ext} (h : a.Perm b) : total a = total b := (h.map _).sum_nat
theorem inF_perm {a b : List Ext} (h : a.Perm b) (x : Nat) : inF a x ↔ inF b x := by
  unfold inF
  constructor
  · rintro ⟨e, he, h2⟩; exact ⟨e, h.mem_iff.1 he, h2⟩
  · rintro ⟨e, he, h2⟩; exact ⟨e, h.mem_iff.2 he, h2⟩
theorem Live.perm {σ : Sp} {l l' : List Ext} (h : Live σ l) (hp : l.Perm l') : Live σ l' where
  fit := fun e he => h.fit e (hp.mem_iff.2 he)
  apart := (hp.pairwise_iff (fun {a b} hab => hab.symm)).1 h.apart
  free := fun x hx => by rw [h.free x hx, inF_perm hp]
  sum := by rw [← total_perm hp]; exact h.sum
/-- a block of one extent is in no other -/
theorem Live.other {σ : Sp} {e : Ext} {l : List Ext} (h : Live σ (e :: l)) {x : Nat} (h1 : e.1 ≤ x) (h2 : x < e.1 + e.2) : ¬ inF l x := by
  rintro ⟨y, hy, h3, h4⟩
  have := List.rel_of_pairwise_cons h.apart hy
  omega
structure Wk where
  δ : Dv
  α : Ar
  σ : Sp
  live : List Ext
/-- an arena, its blocks in whatever order -/
def IsAr (ba : Nat) (α : Ar) (c : Chunk) : Prop := ∃ c0, IsArena ba α c0 ∧ c.Perm c0
theorem IsAr.perm {ba : Nat} {α : Ar} {c c' : Chunk} (h : IsAr ba α c) (hp : c'.Perm c) : IsAr ba α c' :=
  let ⟨c0, h1, h2⟩ := h; ⟨c0, h1, hp.trans h2⟩
theorem IsArena.ar {ba : Nat} {α : Ar} {c : Chunk} (h : IsArena ba α c) : IsAr ba α c := ⟨c, h, .refl _⟩
theorem IsAr.open_ {ba : Nat} {α : Ar} {c : Chunk} (h : IsAr ba α c) {g : Gr} (hg : g ∈ α.gs) : ∃ c1, c.Perm (c1 ++ [g.obj]) := by
  obtain ⟨c0, ⟨bm, ck, rfl, _⟩, hp⟩ := h
  have hm : g.obj ∈ ((ba, row (arCells α bm) 71) :: (bm, mrow pkey (α.gs.map Gr.ent) ck) :: α.gs.map Gr.obj) := by
    simp only [List.mem_cons, List.mem_map]
    exact .inr (.inr ⟨g, hg, rfl⟩)
  obtain ⟨l1, l2, he⟩ := List.append_of_mem hm
  refine ⟨l1 ++ l2, hp.trans ?_⟩
  rw [he]
  exact List.perm_middle.trans (List.perm_append_comm (l₁ := [g.obj]))
theorem IsAr.num {ba : Nat} {α : Ar} {c : Chunk} (h : IsAr ba α c) : α.used ≤ α.room ∧ α.room ≤ 1000000000 ∧ α.peak ≤ α.room ∧ α.used = (α.gs.map (·.n)).sum := by
  obtain ⟨c0, ⟨bm, ck, _, h1, h2, h3, _, h5⟩, _⟩ := h
  exact ⟨h1, h2, h3, h5⟩
def wrow (bw bd ba bs : Nat) : Chunk := [(bw, row [pv bd, pv ba, pv bs] 68)]
/-- a work in memory -/
structure Wc (bd ba bs : Nat) (W : Wk) (cd ca cs : Chunk) : Prop where
  dev : IsDev bd W.δ cd
  ar : IsAr ba W.α ca
  sp : IsSpace bs W.σ cs
  nn : W.δ.blocks = W.σ.n
  live : Live W.σ W.live
theorem IsDev.num {bd : Nat} {δ : Dv} {c : Chunk} (h : IsDev bd δ c) : (8 ≤ δ.size ∧ δ.size ≤ 256) ∧ δ.blocks ≤ 1000000 ∧ (-1 ≤ δ.fault ∧ δ.fault ≤ 1000000000) := by
  obtain ⟨bl, bn, pp, np, cp, xs, pc, es, ck, junk, _, _, _, _, _, h1, h2, h3⟩ := h
  exact ⟨h1, h2, h3⟩
/-- how a work may have gone on: k acts at most, m blocks taken at most -/
structure Ev (W W' : Wk) (k m : Nat) : Prop where
  size : W'.δ.size = W.δ.size
  n : W'.σ.n = W.σ.n
  acts : W.δ.acts ≤ W'.δ.acts ∧ W'.δ.acts ≤ W.δ.acts + k
  fault : W.δ.fault = -1 → W'.δ.fault = -1
  room : W'.α.room = W.α.room
  big : big W.σ.free ≤ big W'.σ.free + m
theorem Ev.refl (W : Wk) : Ev W W 0 0 := ⟨rfl, rfl, ⟨Nat.le_refl _, Nat.le_refl _⟩, id, rfl, Nat.le_refl _⟩
theorem Ev.trans {W W1 W2 : Wk} {k1 m1 k2 m2 : Nat} (h : Ev W W1 k1 m1) (h2 : Ev W1 W2 k2 m2) : Ev W W2 (k1 + k2) (m1 + m2) :=
  ⟨h2.size.trans h.size, h2.n.trans h.n, ⟨Nat.le_trans h.acts.1 h2.acts.1, by have := h.acts.2; have := h2.acts.2; omega⟩, fun e => h2.fault (h.fault e), h2.room.trans h.room, by have := h.big; have := h2.big; omega⟩
theorem Ev.weak {W W' : Wk} {k m k' m' : Nat} (h : Ev W W' k m) (hk : k ≤ k') (hm : m ≤ m') : Ev W W' k' m' :=
  { h with acts := ⟨h.acts.1, Nat.le_trans h.acts.2 (by omega)⟩, big := Nat.le_trans h.big (by omega) }
end Go.Proofs.YtdkihpjnidhnmaaGreat
namespace Go.Proofs.YtdkihpjnidhnmaaGreat
open Go.SL Go.Spc Go.Tup
theorem flat1 {c c0 : Chunk} (h : c.Perm c0) : (([c] : Hp).flatten).Perm (([c0] : Hp).flatten) := by simpa using h
theorem aRoom (ba : Nat) (α : Ar) (c : Chunk) (h : IsAr ba α c) : CtQ Tryz.prog 14 [pv ba] [c] (.int .i64 (α.room : Int)) := by
  obtain ⟨c0, h1, h2⟩ := h
  exact CtQ.convP (Room_ct ba α c0 h1) (flat1 h2)
theorem aUsed (ba : Nat) (α : Ar) (c : Chunk) (h : IsAr ba α c) : CtQ Tryz.prog 28 [pv ba] [c] (.int .i64 (α.used : Int)) := by
  obtain ⟨c0, h1, h2⟩ := h
  exact CtQ.convP (Used_ct ba α c0 h1) (flat1 h2)
theorem aPeak (ba : Nat) (α : Ar) (c : Chunk) (h : IsAr ba α c) : CtQ Tryz.prog 54 [pv ba] [c] (.int .i64 (α.peak : Int)) := by
  obtain ⟨c0, h1, h2⟩ := h
  exact CtQ.convP (Peak_ct ba α c0 h1) (flat1 h2)
theorem aLeft (ba : Nat) (α : Ar) (c : Chunk) (h : IsAr ba α c) : CtQ Tryz.prog 40 [pv ba] [c] (.int .i64 ((α.room : Int) - (α.used : Int))) := by
  obtain ⟨c0, h1, h2⟩ := h
  exact CtQ.convP (Left_ct ba α c0 h1) (flat1 h2)
theorem aFull (ba : Nat) (α : Ar) (c : Chunk) (h : IsAr ba α c) (n : Int) (hn : 0 ≤ n) (hr : (α.room : Int) - (α.used : Int) < n) : CtQ Tryz.prog 56 [pv ba, .int .i64 n] [c] (.tuple #[.pointer none, .int .i64 7]) := by
  obtain ⟨c0, h1, h2⟩ := h
  exact CtQ.convP (Grant_full ba α c0 h1 n hn hr) (flat1 h2)
theorem aGrant (ba : Nat) (α : Ar) (c : Chunk) (h : IsAr ba α c) (n : Nat) (hn : n ≤ α.room - α.used) : Ct Tryz.prog 56 [pv ba, .int .i64 (n : Int)] [c] fun v H' =>
    ∃ (g : Gr) (c' : Chunk) (α' : Ar), g.n = n ∧ v = .tuple #[pv g.bb, .int .i64 0] ∧ IsAr ba α' c' ∧ α'.gs.Perm (g :: α.gs) ∧ α'.room = α.room ∧ H' = [c', [(g.br, row (wcells (List.replicate n 0)) 117)]] := by
  obtain ⟨c0, h1, h2⟩ := h
  refine Ct.convP (Grant_ct ba α c0 h1 n hn) (flat1 h2) ?_
  rintro v H' ⟨g, c', e1, e2, e3, rfl⟩
  refine ⟨_, ⟨g, c', _, e1, e2, e3.ar, ?_, rfl, rfl⟩, ?_⟩
  · show (α.gs ++ [g]).Perm _
    exact List.perm_append_comm
  · rw [zrep_w]
theorem aRelease_cb (ba : Nat) (α : Ar) (c : Chunk) (h : IsAr ba α c) (g : Gr) (G : List Gr) (hg : α.gs.Perm (g :: G)) : Cb Tryz.prog 59 [pv ba, pv g.bb] [c] fun v H' =>
    ∃ (c' : Chunk) (α' : Ar), v = .bool true ∧ IsAr ba α' c' ∧ α'.gs.Perm G ∧ α'.room = α.room ∧ H' = [c'] := by
  obtain ⟨c0, h1, h2⟩ := h
  obtain ⟨l1, l2, he⟩ := List.append_of_mem (hg.mem_iff.2 List.mem_cons_self)
  refine Cb.conv (Release_cb ba α c0 h1 l1 l2 g he) (flat1 h2) ?_
  rintro v H' ⟨c', rfl, e3, rfl⟩
  refine ⟨_, ⟨c', _, rfl, e3.ar, ?_, rfl, rfl⟩, .refl _⟩
  show (l1 ++ l2).Perm G
  rw [he] at hg
  exact ((List.perm_middle.symm.trans hg)).cons_inv
theorem aRelease (ba : Nat) (α : Ar) (c : Chunk) (h : IsAr ba α c) (g : Gr) (G : List Gr) (hg : α.gs.Perm (g :: G)) : Ct Tryz.prog 59 [pv ba, pv g.bb] [c] fun v H' =>
    ∃ (c' : Chunk) (α' : Ar), v = .bool true ∧ IsAr ba α' c' ∧ α'.gs.Perm G ∧ α'.room = α.room ∧ H' = [c'] := (aRelease_cb ba α c h g G hg).1
theorem WDevice_ct (bw bd ba bs : Nat) : CtQ Tryz.prog 16 [pv bw] [wrow bw bd ba bs] (pv bd) := by
  unfold wrow
  refine Ct.intro Tryz.func16 rfl Tryz.ntmps16 (nle rfl) fun w0 => ?_; dsimp only [argSlots, Nat.reduceAdd]
  repeat (first | apply G.seq | refine G.plain (h := ?_) | apply G.skip | apply G.ret | refine G.condF (h := ?_) | apply Dn.next | refine R.enter0 (h := ?_) | refine R.nil (h := ?_) | refine R.move (h := ?_) | refine R.assign (h := ?_) | refine R.nilCheck (h := ?_) | refine R.fieldAddr (h := ?_) | refine R.load1 (h := ?_) | refine R.eqlNil (h := ?_))
  (refine Dn.post (Hr := [[(bw, row [pv bd, pv ba, pv bs] 68)]]) Tryz.results16 (hR := ?_); exact ⟨rfl, rfl⟩)
theorem WArena_ct (bw bd ba bs : Nat) : CtQ Tryz.prog 13 [pv bw] [wrow bw bd ba bs] (pv ba) := by
  unfold wrow
  refine Ct.intro Tryz.func13 rfl Tryz.ntmps13 (nle rfl) fun w0 => ?_; dsimp only [argSlots, Nat.reduceAdd]
  repeat (first | apply G.seq | refine G.plain (h := ?_) | apply G.skip | apply G.ret | refine G.condF (h := ?_) | apply Dn.next | refine R.enter0 (h := ?_) | refine R.nil (h := ?_) | refine R.move (h := ?_) | refine R.assign (h := ?_) | refine R.nilCheck (h := ?_) | refine R.fieldAddr (h := ?_) | refine R.load1 (h := ?_) | refine R.eqlNil (h := ?_))
  (refine Dn.post (Hr := [[(bw, row [pv bd, pv ba, pv bs] 68)]]) Tryz.results13 (hR := ?_); exact ⟨rfl, rfl⟩)
theorem WSpace_ct (bw bd ba bs : Nat) : CtQ Tryz.prog 29 [pv bw] [wrow bw bd ba bs] (pv bs) := by
  unfold wrow
  refine Ct.intro Tryz.func29 rfl Tryz.ntmps29 (nle rfl) fun w0 => ?_; dsimp only [argSlots, Nat.reduceAdd]
  repeat (first | apply G.seq | refine G.plain (h := ?_) | apply G.skip | apply G.ret | refine G.condF (h := ?_) | apply Dn.next | refine R.enter0 (h := ?_) | refine R.nil (h := ?_) | refine R.move (h := ?_) | refine R.assign (h := ?_) | refine R.nilCheck (h := ?_) | refine R.fieldAddr (h := ?_) | refine R.load1 (h := ?_) | refine R.eqlNil (h := ?_))
  (refine Dn.post (Hr := [[(bw, row [pv bd, pv ba, pv bs] 68)]]) Tryz.results29 (hR := ?_); exact ⟨rfl, rfl⟩)
theorem Holds_ct (bw bd ba bs : Nat) (δ : Dv) (cd : Chunk) (h : IsDev bd δ cd) (k : Nat) (h1 : 1 ≤ k) (h2 : k ≤ 5) : CtQ Tryz.prog 55 [pv bw, .int .i64 (k : Int)] [wrow bw bd ba bs, cd] (.int .i64 ((holds δ.size k : Nat) : Int)) := by
  have hS := Size_ct bd δ cd h
  obtain ⟨hs, _⟩ := h.num
  have hq : ((δ.size : Int) - 2).tdiv (k : Int) = ((holds δ.size k : Nat) : Int) := by
    rw [show (δ.size : Int) - 2 = ((δ.size - 2 : Nat) : Int) by omega, Int.tdiv_eq_ediv_of_nonneg (by omega)]
    simp [holds]
  have hle : holds δ.size k ≤ 256 := Nat.le_trans (Nat.div_le_self _ _) (by omega)
  have hw : IntKind.wrap .i64 (((δ.size : Int) - 2).tdiv (k : Int)) = ((holds δ.size k : Nat) : Int) := by rw [hq]; exact wrap_i64 (by omega)
  unfold wrow
  refine Ct.intro Tryz.func55 rfl Tryz.ntmps55 (nle rfl) fun w0 => ?_; dsimp only [argSlots, Nat.reduceAdd]
  repeat (first | apply G.seq | refine G.plain (h := ?_) | apply G.skip | apply G.ret | apply Dn.next | refine G.condPF (ht := ?_) | refine R.enter0 (h := ?_) | refine R.nil (h := ?_) | refine R.enterT (h := ?_) | refine R.splitF (ht := ?_) | refine R.move (h := ?_) | refine R.assign (h := ?_) | refine R.nilCheck (h := ?_) | refine R.fieldAddr (h := ?_) | refine R.load1 (h := ?_) | refine R.pickF (h := ?_) | refine R.lss (h := ?_) | refine R.gtr (h := ?_) | refine R.subw (h := ?_) | refine R.quow (h := ?_) | refine R.eqlNil (h := ?_) | refine R.callP (hct := by apply hS <;> (first | omega | assumption)) (h := ?_))
  (refine Dn.post (Hr := [[(bw, row [pv bd, pv ba, pv bs] 68)], cd]) Tryz.results55 (hR := ?_); exact ⟨rfl, rfl⟩)
theorem holds_pos {s k : Nat} (hs : 8 ≤ s) (h1 : 1 ≤ k) (h2 : k ≤ 5) : 1 ≤ holds s k := (Nat.le_div_iff_mul_le (by omega)).2 (by omega)
theorem holds_mul {s k : Nat} : holds s k * k ≤ s - 2 := Nat.div_mul_le_self _ _
theorem blocks_ct (bw bd ba bs : Nat) (δ : Dv) (cd : Chunk) (h : IsDev bd δ cd) (k c : Nat) (h1 : 1 ≤ k) (h2 : k ≤ 5) (hc : c ≤ 100000000) : CtQ Tryz.prog 57 [pv bw, .int .i64 (k : Int), .int .i64 (c : Int)] [wrow bw bd ba bs, cd] (.int .i64 ((nblocks δ.size k c : Nat) : Int)) := by
  have hS := Holds_ct bw bd ba bs δ cd h k h1 h2
  obtain ⟨hs, _⟩ := h.num
  have hp := holds_pos hs.1 h1 h2
  have hle : holds δ.size k ≤ 256 := Nat.le_trans (Nat.div_le_self _ _) (by omega)
  have hq : ((c : Int) + ((holds δ.size k : Nat) : Int) - 1).tdiv ((holds δ.size k : Nat) : Int) = ((nblocks δ.size k c : Nat) : Int) := by
    rw [show (c : Int) + ((holds δ.size k : Nat) : Int) - 1 = ((c + holds δ.size k - 1 : Nat) : Int) by omega, Int.tdiv_eq_ediv_of_nonneg (by omega)]
    simp [nblocks]
  have hle2 : nblocks δ.size k c ≤ 1000000000 := Nat.le_trans (Nat.div_le_self _ _) (by omega)
  have hw : IntKind.wrap .i64 (((c : Int) + ((holds δ.size k : Nat) : Int) - 1).tdiv ((holds δ.size k : Nat) : Int)) = ((nblocks δ.size k c : Nat) : Int) := by rw [hq]; exact wrap_i64 (by omega)
  generalize holds δ.size k = hk at *
  refine Ct.intro Tryz.func57 rfl Tryz.ntmps57 (nle rfl) fun w0 => ?_; dsimp only [argSlots, Nat.reduceAdd]
  repeat (first | apply G.seq | refine G.plain (h := ?_) | apply G.ret | apply Dn.next | refine R.enter0 (h := ?_) | refine R.nil (h := ?_) | refine R.move (h := ?_) | refine R.assign (h := ?_) | refine R.addw (h := ?_) | refine R.subw (h := ?_) | refine R.quow (h := ?_) | refine R.callP (hct := by apply hS <;> (first | omega | assumption)) (h := ?_))
  (refine Dn.post (Hr := [wrow bw bd ba bs, cd]) Tryz.results57 (hR := ?_); exact ⟨rfl, rfl⟩)
end Go.Proofs.YtdkihpjnidhnmaaGreat
namespace Go.Proofs.YtdkihpjnidhnmaaGreat
open Go.SL Go.Spc Go.Tup
/-- a writer's cells -/
def wrCells (bw first blocks k count bound bb n at_ : Nat) (closed : Bool) : List Value :=
  [pv bw, .int .i64 (first : Int), .int .i64 (blocks : Int), .int .i64 (k : Int), .int .i64 (count : Int), .int .i64 (bound : Int), pv bb, .int .i64 (n : Int), .int .i64 (at_ : Int), .bool closed]
theorem Write_room (bw bd ba bs : Nat) (W : Wk) (cd ca cs : Chunk) (h : Wc bd ba bs W cd ca cs) (k bound : Nat) (h1 : 1 ≤ k) (h2 : k ≤ 5) (hb : bound ≤ 100000000) (hr : W.α.room - W.α.used < W.δ.size) :
    CtQ Tryz.prog 34 [pv bw, .int .i64 (k : Int), .int .i64 (bound : Int)] [wrow bw bd ba bs, cd, ca, cs] (.tuple #[.pointer none, .int .i64 7]) := by
  have hH := Holds_ct bw bd ba bs W.δ cd h.dev k h1 h2
  obtain ⟨hs, _⟩ := h.dev.num
  have hp := holds_pos hs.1 h1 h2
  have hS := Size_ct bd W.δ cd h.dev
  have hn := h.ar.num
  have hF := aFull ba W.α ca h.ar (W.δ.size : Int) (by omega) (by omega)
  generalize holds W.δ.size k = hk at *
  unfold wrow at hH ⊢
  refine Ct.intro Tryz.func34 rfl Tryz.ntmps34 (nle rfl) fun w0 => ?_; dsimp only [argSlots, Nat.reduceAdd]
  repeat (first | apply G.seq | refine G.plain (h := ?_) | apply G.skip | apply G.ret | apply Dn.next | apply Dn.retThen | refine G.condPT (ht := ?_) | refine G.condPF (ht := ?_) | refine G.draw (id := 3) [(8, .quiet), (9, .quiet)] (h := ?_) | refine R.enter0 (h := ?_) | refine R.nil (h := ?_) | refine R.enterT (h := ?_) | refine R.splitF (ht := ?_) | refine R.move (h := ?_) | refine R.assign (h := ?_) | refine R.nilCheck (h := ?_) | refine R.fieldAddr (h := ?_) | refine R.load1 (h := ?_) | refine R.extract (h := ?_) | refine R.pickF (h := ?_) | refine R.lss (h := ?_) | refine R.gtr (h := ?_) | refine R.eql (h := ?_) | refine R.neq (h := ?_) | refine R.callP (hct := by apply hH <;> (first | omega | assumption)) (h := ?_) | refine R.callQ (hct := by apply hS <;> (first | omega | assumption)) (h := ?_) | refine R.callQ (hct := by apply hF <;> (first | omega | assumption)) (h := ?_))
  (refine Dn.post (Hr := [[(bw, row [pv bd, pv ba, pv bs] 68)], cd, ca, cs]) Tryz.results34 (hR := ?_); exact ⟨rfl, rfl⟩)
/-- what is left when a writer was made, or could not be -/
def WrMade (bw bd ba bs : Nat) (W : Wk) (k bound : Nat) (v : Value) (H' : Hp) : Prop :=
  (nblocks W.δ.size k bound ≤ big W.σ.free ∧ ∃ (bx first : Nat) (g : Gr) (cd ca cs : Chunk) (W' : Wk), v = .tuple #[pv bx, .int .i64 0] ∧
    H' = [wrow bw bd ba bs, cd, ca, cs, [(bx, row (wrCells bw first (nblocks W.δ.size k bound) k 0 bound g.bb 0 0 false) 110)], [(g.br, row (wcells (List.replicate W.δ.size 0)) 117)]] ∧
    Wc bd ba bs W' cd ca cs ∧ Ev W W' 0 (nblocks W.δ.size k bound) ∧ W'.δ = W.δ ∧ g.n = W.δ.size ∧ W'.α.gs.Perm (g :: W.α.gs) ∧
    (if nblocks W.δ.size k bound = 0 then W'.live = W.live ∧ W'.σ = W.σ else W'.live = (first, nblocks W.δ.size k bound) :: W.live)) ∨
  (big W.σ.free < nblocks W.δ.size k bound ∧ v = .tuple #[.pointer none, .int .i64 5] ∧ ∃ (cd ca cs : Chunk) (W' : Wk), H' = [wrow bw bd ba bs, cd, ca, cs] ∧ Wc bd ba bs W' cd ca cs ∧ Ev W W' 0 0 ∧ W'.δ = W.δ ∧ W'.σ = W.σ ∧ W'.live = W.live ∧ W'.α.gs.Perm W.α.gs)
theorem live_take {σ σ' : Sp} {live : List Ext} {f m : Nat} (h : Live σ live) (hm : 1 ≤ m) (hn : σ'.n = σ.n) (h1 : ∀ x, f ≤ x → x < f + m → inF σ.free x) (h2 : f + m ≤ σ.n)
    (h3 : ∀ x, inF σ'.free x ↔ inF σ.free x ∧ ¬ (f ≤ x ∧ x < f + m)) (h4 : total σ'.free + m = total σ.free) : Live σ' ((f, m) :: live) := by
  refine ⟨?_, ?_, ?_, ?_⟩
  · intro e he
    rw [hn]
    rcases List.mem_cons.1 he with rfl | he
    · exact ⟨hm, h2⟩
    · exact h.fit e he
  · refine List.pairwise_cons.2 ⟨fun e he => ?_, h.apart⟩
    dsimp only
    by_cases hh : f + m ≤ e.1 ∨ e.1 + e.2 ≤ f
    · exact hh
    · exfalso
      have hf := h.fit e he
      have hx : inF σ.free (max f e.1) := h1 _ (by omega) (by omega)
      exact (h.free _ (by omega)).1 hx ⟨e, he, by omega, by omega⟩
  · intro x hx
    rw [hn] at hx
    rw [h3, h.free x hx, inF_cons]
    dsimp only
    constructor
    · rintro ⟨a, b⟩ (c | c)
      · exact b c
      · exact a c
    · intro a
      exact ⟨fun c => a (.inr c), fun c => a (.inl c)⟩
  · rw [hn, total_cons]
    have := h.sum
    dsimp only
    omega
theorem live_give {σ σ' : Sp} {live : List Ext} {f m : Nat} (h : Live σ ((f, m) :: live)) (hn : σ'.n = σ.n)
    (h3 : ∀ x, inF σ'.free x ↔ inF σ.free x ∨ (f ≤ x ∧ x < f + m)) (h4 : total σ'.free = total σ.free + m) : Live σ' live := by
  refine ⟨fun e he => ?_, (List.pairwise_cons.1 h.apart).2, fun x hx => ?_, ?_⟩
  · rw [hn]; exact h.fit e (List.mem_cons_of_mem _ he)
  · rw [hn] at hx
    rw [h3, h.free x hx, inF_cons]
    dsimp only
    constructor
    · rintro (a | a) hb
      · exact a (.inr hb)
      · exact h.other (e := (f, m)) a.1 a.2 hb
    · intro a
      by_cases hf : f ≤ x ∧ x < f + m
      · exact .inr hf
      · left
        rintro (c | c)
        · exact hf c
        · exact a c
  · have := h.sum
    rw [total_cons] at this
    rw [hn]
    dsimp only at this
    omega
theorem live_free {σ : Sp} {live : List Ext} {f m : Nat} (h : Live σ ((f, m) :: live)) : (1 ≤ m ∧ f + m ≤ σ.n) ∧ ∀ x, f ≤ x → x < f + m → ¬ inF σ.free x := by
  refine ⟨h.fit _ List.mem_cons_self, fun x h1 h2 h3 => ?_⟩
  have := h.fit _ List.mem_cons_self
  dsimp only at this
  exact (h.free x (by omega)).1 h3 (by rw [inF_cons]; exact .inl ⟨h1, h2⟩)
set_option maxHeartbeats 2000000 in
theorem Write_ct (bw bd ba bs : Nat) (W : Wk) (cd ca cs : Chunk) (h : Wc bd ba bs W cd ca cs) (k bound : Nat) (h1 : 1 ≤ k) (h2 : k ≤ 5) (hb : bound ≤ 100000000) (hr : W.δ.size ≤ W.α.room - W.α.used) :
    Ct Tryz.prog 34 [pv bw, .int .i64 (k : Int), .int .i64 (bound : Int)] [wrow bw bd ba bs, cd, ca, cs] (WrMade bw bd ba bs W k bound) := by
  have hH := Holds_ct bw bd ba bs W.δ cd h.dev k h1 h2
  have hB := blocks_ct bw bd ba bs W.δ cd h.dev k bound h1 h2 hb
  obtain ⟨hs, _⟩ := h.dev.num
  have hp := holds_pos hs.1 h1 h2
  have hS := Size_ct bd W.δ cd h.dev
  have hn := h.ar.num
  have hG := aGrant ba W.α ca h.ar W.δ.size (by omega)
  unfold WrMade
  have hh6 : holds W.δ.size k ≤ 256 := Nat.le_trans (Nat.div_le_self _ _) (by omega)
  have hnb : nblocks W.δ.size k bound ≤ 1000000000 := Nat.le_trans (Nat.div_le_self _ _) (by omega)
  generalize hnbe : nblocks W.δ.size k bound = nb at *
  generalize holds W.δ.size k = hk at *
  unfold wrow at hH hB ⊢
  refine Ct.intro Tryz.func34 rfl Tryz.ntmps34 (nle rfl) fun w0 => ?_; dsimp only [argSlots, Nat.reduceAdd]
  repeat (first | apply G.seq | refine G.plain (h := ?_) | apply G.skip | apply Dn.next | refine G.condPF (ht := ?_) | refine G.draw (id := 3) [(8, .quiet)] (h := ?_) | refine R.enter0 (h := ?_) | refine R.nil (h := ?_) | refine R.enterT (h := ?_) | refine R.splitF (ht := ?_) | refine R.move (h := ?_) | refine R.assign (h := ?_) | refine R.nilCheck (h := ?_) | refine R.fieldAddr (h := ?_) | refine R.load1 (h := ?_) | refine R.pickF (h := ?_) | refine R.lss (h := ?_) | refine R.gtr (h := ?_) | refine R.eql (h := ?_) | refine R.callP (hct := by apply hH <;> (first | omega | assumption)) (h := ?_) | refine R.callQ (hct := by apply hS <;> (first | omega | assumption)) (h := ?_))
  refine R.call (hct := hG) (h := ?_)
  rintro _ _ ⟨g, ca', α', hgn, rfl, hA', hgs, hro, rfl⟩
  try dsimp only [List.cons_append, List.nil_append]
  repeat (first | apply G.seq | refine G.plain (h := ?_) | apply G.skip | apply Dn.next | refine G.condPF (ht := ?_) | refine R.enter0 (h := ?_) | refine R.nil (h := ?_) | refine R.move (h := ?_) | refine R.assign (h := ?_) | refine R.nilCheck (h := ?_) | refine R.fieldAddr (h := ?_) | refine R.load1 (h := ?_) | (refine R.box (h := ?_); intro _) | refine R.extract (h := ?_) | refine R.gtr (h := ?_) | refine R.neq (h := ?_) | refine R.build (h := ?_) | refine R.callP (hct := by apply hB <;> (first | omega | assumption)) (h := ?_))
  by_cases h0 : nb = 0
  · subst h0
    repeat (first | apply G.seq | refine G.plain (h := ?_) | apply G.skip | apply G.ret | apply Dn.next | refine G.condPF (ht := ?_) | refine R.enter0 (h := ?_) | refine R.nil (h := ?_) | refine R.move (h := ?_) | refine R.assign (h := ?_))
    rename_i bx
    (refine Dn.post (Hr := [[(bw, row [pv bd, pv ba, pv bs] 68)], cd, ca', cs, [(bx, row (wrCells bw 0 0 k 0 bound g.bb 0 0 false) 110)], [(g.br, row (wcells (List.replicate W.δ.size 0)) 117)]]) Tryz.results34 (hR := ?_); left)
    refine ⟨Nat.zero_le _, bx, 0, g, cd, ca', cs, { W with α := α' }, rfl, rfl, ⟨h.dev, hA', h.sp, h.nn, h.live⟩, ⟨rfl, rfl, ⟨Nat.le_refl _, Nat.le_refl _⟩, id, hro, Nat.le_refl _⟩, rfl, hgn, hgs, ?_⟩
    simp
  · by_cases hfit : nb ≤ big W.σ.free
    · have hT := Take_ok bs W.σ cs h.sp nb (by omega) hfit
      repeat (first | apply G.seq | refine G.condPT (ht := ?_) | refine G.draw (id := 8) [] (h := ?_) | refine R.enter0 (h := ?_) | refine R.move (h := ?_) | refine R.nilCheck (h := ?_) | refine R.fieldAddr (h := ?_) | refine R.load1 (h := ?_))
      refine R.call (hct := hT) (h := ?_)
      rintro _ _ ⟨f, cs', σ', rfl, hS', e1, e2, e3, e4, e5, e6, rfl⟩
      try dsimp only [List.cons_append, List.nil_append]
      repeat (first | apply G.seq | refine G.plain (h := ?_) | apply G.skip | apply G.ret | apply Dn.next | refine G.condPF (ht := ?_) | refine R.enter0 (h := ?_) | refine R.nil (h := ?_) | refine R.move (h := ?_) | refine R.assign (h := ?_) | refine R.nilCheck (h := ?_) | refine R.fieldAddr (h := ?_) | refine R.store1 (h := ?_) | refine R.extract (h := ?_) | refine R.neq (h := ?_))
      rename_i bx
      (refine Dn.post (Hr := [[(bw, row [pv bd, pv ba, pv bs] 68)], cd, ca', cs', [(bx, row (wrCells bw f nb k 0 bound g.bb 0 0 false) 110)], [(g.br, row (wcells (List.replicate W.δ.size 0)) 117)]]) Tryz.results34 (hR := ?_); left)
      refine ⟨hfit, bx, f, g, cd, ca', cs', { W with α := α', σ := σ', live := (f, nb) :: W.live }, rfl, rfl, ⟨h.dev, hA', hS', h.nn.trans e1.symm, live_take h.live (by omega) e1 e2 e3 e4 e5⟩, ⟨rfl, e1, ⟨Nat.le_refl _, Nat.le_refl _⟩, id, hro, e6⟩, rfl, hgn, hgs, ?_⟩
      rw [if_neg h0]
    · have hT := Take_full bs W.σ cs h.sp nb (by omega) (by omega) hnb
      have hR := aRelease ba α' ca' hA' g W.α.gs hgs
      repeat (first | apply G.seq | refine G.condPT (ht := ?_) | refine G.draw (id := 8) [] (h := ?_) | refine R.enter0 (h := ?_) | refine R.move (h := ?_) | refine R.nilCheck (h := ?_) | refine R.fieldAddr (h := ?_) | refine R.load1 (h := ?_))
      refine R.call (hct := hT) (h := ?_)
      rintro _ _ ⟨rfl, rfl⟩
      try dsimp only [List.cons_append, List.nil_append]
      repeat (first | apply G.seq | refine G.plain (h := ?_) | apply Dn.next | refine G.condPT (ht := ?_) | refine R.enter0 (h := ?_) | refine R.nil (h := ?_) | refine R.move (h := ?_) | refine R.assign (h := ?_) | refine R.nilCheck (h := ?_) | refine R.fieldAddr (h := ?_) | refine R.load1 (h := ?_) | refine R.store1 (h := ?_) | refine R.extract (h := ?_) | refine R.neq (h := ?_))
      refine R.call (hct := hR) (h := ?_)
      rintro _ _ ⟨ca2, α2, rfl, hA2, hg2, hr2, rfl⟩
      try dsimp only [List.cons_append, List.nil_append]
      repeat (first | apply G.seq | refine G.plain (h := ?_) | apply G.ret | apply Dn.next | apply Dn.retThen | refine R.enter0 (h := ?_) | refine R.nil (h := ?_) | refine R.move (h := ?_) | refine R.assign (h := ?_))
      (refine Dn.post (Hr := [[(bw, row [pv bd, pv ba, pv bs] 68)], cd, ca2, cs]) Tryz.results34 (hR := ?_); right)
      exact ⟨by omega, rfl, cd, ca2, cs, { W with α := α2 }, rfl, ⟨h.dev, hA2, h.sp, h.nn, h.live⟩, ⟨rfl, rfl, ⟨Nat.le_refl _, Nat.le_refl _⟩, id, hr2.trans hro, Nat.le_refl _⟩, rfl, rfl, rfl, hg2⟩
end Go.Proofs.YtdkihpjnidhnmaaGreat
namespace Go.Proofs.YtdkihpjnidhnmaaGreat
open Go.SL Go.Spc Go.Tup
/-- which extents stand beside a writer's -/
def LvOf (first nb : Nat) (Lv live : List Ext) : Prop := if nb = 0 then live.Perm Lv else live.Perm ((first, nb) :: Lv)
/-- the writer's blocks and its grant went back -/
def WrGone (bw bd ba bs bx : Nat) (W : Wk) (Gs : List Gr) (Lv : List Ext) (first nb k bound bb : Nat) (cb : Chunk) (kk : Nat) (δ' : Dv) (H' : Hp) : Prop :=
  ∃ (cd ca cs : Chunk) (W' : Wk) (cnt n a : Nat), H' = [wrow bw bd ba bs, cd, ca, cs, [(bx, row (wrCells bw first nb k cnt bound bb n a true) 110)], cb] ∧
    Wc bd ba bs W' cd ca cs ∧ Ev W W' kk 0 ∧ W'.δ = δ' ∧ W'.α.gs.Perm Gs ∧ W'.live.Perm Lv
theorem Drop_closedB (bw first nb k cnt bound bb n a bx : Nat) : Cb Tryz.prog 36 [pv bx] [[(bx, row (wrCells bw first nb k cnt bound bb n a true) 110)]] (fun v' H' => v' = .tuple #[] ∧ H' = [[(bx, row (wrCells bw first nb k cnt bound bb n a true) 110)]]) := by
  unfold wrCells
  refine Cb.intro Tryz.func36 rfl Tryz.ntmps36 (nle rfl) fun w0 => ?_; dsimp only [argSlots, Nat.reduceAdd]
  repeat (first | apply G.seq | refine G.plain (h := ?_) | apply G.ret | refine G.condT (h := ?_) | apply Dn.next | apply Dn.retThen | refine R.enter0 (h := ?_) | refine R.nil (h := ?_) | refine R.enterT (h := ?_) | refine R.move (h := ?_) | refine R.nilCheck (h := ?_) | refine R.fieldAddr (h := ?_) | refine R.load1 (h := ?_) | refine R.pickF (h := ?_) | refine R.eqlNil (h := ?_))
  (refine Dn.post (Hr := [[(bx, row [pv bw, .int .i64 (first : Int), .int .i64 (nb : Int), .int .i64 (k : Int), .int .i64 (cnt : Int), .int .i64 (bound : Int), pv bb, .int .i64 (n : Int), .int .i64 (a : Int), .bool true] 110)]]) Tryz.results36 (hR := ?_); exact ⟨rfl, rfl⟩)
theorem Drop_closed (bw first nb k cnt bound bb n a bx : Nat) : CtQ Tryz.prog 36 [pv bx] [[(bx, row (wrCells bw first nb k cnt bound bb n a true) 110)]] (.tuple #[]) := (Drop_closedB bw first nb k cnt bound bb n a bx).1
set_option maxHeartbeats 1000000 in
theorem Drop_cb (bw bd ba bs : Nat) (W : Wk) (cd ca cs : Chunk) (h : Wc bd ba bs W cd ca cs) (bx first nb k cnt bound n a : Nat) (g : Gr) (Gs : List Gr) (hg : W.α.gs.Perm (g :: Gs)) (Lv : List Ext) (hl : LvOf first nb Lv W.live) (cb : Chunk) :
    Cb Tryz.prog 36 [pv bx] [wrow bw bd ba bs, cd, ca, cs, [(bx, row (wrCells bw first nb k cnt bound g.bb n a false) 110)], cb] fun v H' =>
      v = .tuple #[] ∧ WrGone bw bd ba bs bx W Gs Lv first nb k bound g.bb cb 0 W.δ H' := by
  have hR := aRelease ba W.α ca h.ar g Gs hg
  unfold wrow wrCells
  by_cases h0 : nb = 0
  · subst h0
    refine Cb.intro Tryz.func36 rfl Tryz.ntmps36 (nle rfl) fun w0 => ?_; dsimp only [argSlots, Nat.reduceAdd]
    repeat (first | apply G.seq | refine G.plain (h := ?_) | apply G.skip | refine G.condF (h := ?_) | apply Dn.next | refine G.draw (id := 2) [] (h := ?_) | refine R.enter0 (h := ?_) | refine R.nil (h := ?_) | refine R.enterT (h := ?_) | refine R.move (h := ?_) | refine R.nilCheck (h := ?_) | refine R.fieldAddr (h := ?_) | refine R.load1 (h := ?_) | refine R.store1 (h := ?_) | refine R.pickF (h := ?_) | refine R.eqlNil (h := ?_))
    refine R.call (hct := hR) (h := ?_)
    rintro _ _ ⟨ca', α', rfl, hA', hgs, hro, rfl⟩
    try dsimp only [List.cons_append, List.nil_append]
    repeat (first | apply G.seq | refine G.plain (h := ?_) | apply G.skip | apply Dn.next | refine G.condPF (ht := ?_) | refine R.enter0 (h := ?_) | refine R.nil (h := ?_) | refine R.move (h := ?_) | refine R.nilCheck (h := ?_) | refine R.fieldAddr (h := ?_) | refine R.load1 (h := ?_) | refine R.gtr (h := ?_))
    (refine Dn.postEnd (Hr := [[(bw, row [pv bd, pv ba, pv bs] 68)], cd, ca', cs, [(bx, row [pv bw, .int .i64 (first : Int), .int .i64 ((0 : Nat) : Int), .int .i64 (k : Int), .int .i64 (cnt : Int), .int .i64 (bound : Int), pv g.bb, .int .i64 (n : Int), .int .i64 (a : Int), .bool true] 110)], cb]) Tryz.results36 (hR := ?_); refine ⟨rfl, ?_⟩)
    refine ⟨cd, ca', cs, { W with α := α' }, cnt, n, a, rfl, ⟨h.dev, hA', h.sp, h.nn, h.live⟩, ⟨rfl, rfl, ⟨Nat.le_refl _, Nat.le_refl _⟩, id, hro, Nat.le_refl _⟩, rfl, hgs, ?_⟩
    simpa [LvOf] using hl
  · unfold LvOf at hl
    rw [if_neg h0] at hl
    have hlv := h.live.perm hl
    obtain ⟨⟨f1, f2⟩, f3⟩ := live_free hlv
    have hGv := Give_ct bs W.σ cs h.sp first nb f1 f2 f3
    refine Cb.intro Tryz.func36 rfl Tryz.ntmps36 (nle rfl) fun w0 => ?_; dsimp only [argSlots, Nat.reduceAdd]
    repeat (first | apply G.seq | refine G.plain (h := ?_) | apply G.skip | refine G.condF (h := ?_) | apply Dn.next | refine G.draw (id := 2) [] (h := ?_) | refine R.enter0 (h := ?_) | refine R.nil (h := ?_) | refine R.enterT (h := ?_) | refine R.move (h := ?_) | refine R.nilCheck (h := ?_) | refine R.fieldAddr (h := ?_) | refine R.load1 (h := ?_) | refine R.store1 (h := ?_) | refine R.pickF (h := ?_) | refine R.eqlNil (h := ?_))
    refine R.call (hct := hR) (h := ?_)
    rintro _ _ ⟨ca', α', rfl, hA', hgs, hro, rfl⟩
    try dsimp only [List.cons_append, List.nil_append]
    repeat (first | apply G.seq | refine G.plain (h := ?_) | apply Dn.next | refine G.condPT (ht := ?_) | refine G.draw (id := 4) [] (h := ?_) | refine R.enter0 (h := ?_) | refine R.nil (h := ?_) | refine R.move (h := ?_) | refine R.nilCheck (h := ?_) | refine R.fieldAddr (h := ?_) | refine R.load1 (h := ?_) | refine R.gtr (h := ?_))
    refine R.call (hct := hGv) (h := ?_)
    rintro _ _ ⟨cs', σ', rfl, hS', e1, e3, e4, e5, rfl⟩
    try dsimp only [List.cons_append, List.nil_append]
    repeat (first | refine R.nil (h := ?_))
    (refine Dn.postEnd (Hr := [[(bw, row [pv bd, pv ba, pv bs] 68)], cd, ca', cs', [(bx, row [pv bw, .int .i64 (first : Int), .int .i64 (nb : Int), .int .i64 (k : Int), .int .i64 (cnt : Int), .int .i64 (bound : Int), pv g.bb, .int .i64 (n : Int), .int .i64 (a : Int), .bool true] 110)], cb]) Tryz.results36 (hR := ?_); refine ⟨rfl, ?_⟩)
    exact ⟨cd, ca', cs', { W with α := α', σ := σ', live := Lv }, cnt, n, a, rfl, ⟨h.dev, hA', hS', h.nn.trans e1.symm, live_give hlv e1 e3 e4⟩, ⟨rfl, e1, ⟨Nat.le_refl _, Nat.le_refl _⟩, id, hro, by show _ ≤ big σ'.free + 0; omega⟩, rfl, hgs, .refl _⟩
theorem Drop_ct (bw bd ba bs : Nat) (W : Wk) (cd ca cs : Chunk) (h : Wc bd ba bs W cd ca cs) (bx first nb k cnt bound n a : Nat) (g : Gr) (Gs : List Gr) (hg : W.α.gs.Perm (g :: Gs)) (Lv : List Ext) (hl : LvOf first nb Lv W.live) (cb : Chunk) :
    Ct Tryz.prog 36 [pv bx] [wrow bw bd ba bs, cd, ca, cs, [(bx, row (wrCells bw first nb k cnt bound g.bb n a false) 110)], cb] fun v H' =>
      v = .tuple #[] ∧ WrGone bw bd ba bs bx W Gs Lv first nb k bound g.bb cb 0 W.δ H' := (Drop_cb bw bd ba bs W cd ca cs h bx first nb k cnt bound n a g Gs hg Lv hl cb).1
/-- a block was written -/
def WrFlushed (bw bd ba bs bx : Nat) (W : Wk) (ca cs : Chunk) (first nb k cnt bound : Nat) (g : Gr) (a : Nat) (pw : List Int) (cb : Chunk) (H' : Hp) : Prop :=
  ∃ cd ca', H' = [wrow bw bd ba bs, cd, ca', cs, [(bx, row (wrCells bw first nb k cnt bound g.bb 0 (a + 1) false) 110)], cb] ∧ ca'.Perm ca ∧
    IsDev bd (W.δ.wrote (first + a) (sealW W.δ.size ((first + a : Nat) : Int) (k : Int) pw)) cd
set_option maxHeartbeats 2000000 in
theorem flush_ok (bw bd ba bs : Nat) (W : Wk) (cd ca cs : Chunk) (h : Wc bd ba bs W cd ca cs) (bx first nb k cnt bound n a : Nat) (g : Gr) (hg : g ∈ W.α.gs) (hgn : g.n = W.δ.size) (buf pw : List Int) (hbl : buf.length = W.δ.size) (hpw : buf.take n = pw) (hpl : pw.length = n)
    (hn : n ≤ W.δ.size - 2) (ha : first + a < W.δ.blocks) (hk : k ≤ 5) (hf : W.δ.fault ≠ 0) (hac : W.δ.acts ≤ 1000000000000) :
    Ct Tryz.prog 62 [pv bx] [wrow bw bd ba bs, cd, ca, cs, [(bx, row (wrCells bw first nb k cnt bound g.bb n a false) 110)], [(g.br, row (wcells buf) 117)]] fun v H' =>
      v = .int .i64 0 ∧ WrFlushed bw bd ba bs bx W ca cs first nb k cnt bound g a pw [(g.br, row (wcells buf) 117)] H' := by
  obtain ⟨⟨hs1, hs2⟩, hbk, hfr⟩ := h.dev.num
  have hS := Size_ct bd W.δ cd h.dev
  obtain ⟨c1, hc1⟩ := h.ar.open_ hg
  have hadd : IntKind.wrap .i64 ((first : Int) + (a : Int)) = ((first + a : Nat) : Int) := by rw [← Int.natCast_add]; exact wrap_i64 (by omega)
  have hP := fun cap => Put_ct W.δ.size ((first + a : Nat) : Int) (k : Int) g.br 0 n cap (wcells buf) 117 (0, 0) pw ⟨hs1, hs2⟩ (by omega) hn (by rw [List.drop_zero]; rw [← hpw]; simp [wcells]) hpl
  have hsl : (sealW W.δ.size ((first + a : Nat) : Int) (k : Int) pw).length = W.δ.size := sealW_length _ _ _ _ (by omega)
  have hW := fun bl => Write_ok bd W.δ cd h.dev (first + a) ha hf hac bl 0 W.δ.size (wcells (sealW W.δ.size ((first + a : Nat) : Int) (k : Int) pw)) 117 (0, 0) (sealW W.δ.size ((first + a : Nat) : Int) (k : Int) pw) (by rw [List.drop_zero, List.take_of_length_le (by rw [wcells_length, hsl]; exact Nat.le_refl _)]) hsl
  refine Ct.convP (H2 := [wrow bw bd ba bs, cd, c1, [g.obj], cs, [(bx, row (wrCells bw first nb k cnt bound g.bb n a false) 110)], [(g.br, row (wcells buf) 117)]])
    (R2 := fun v H' => v = .int .i64 0 ∧ ∃ cd', H' = [wrow bw bd ba bs, cd', c1, [g.obj], cs, [(bx, row (wrCells bw first nb k cnt bound g.bb 0 (a + 1) false) 110)], [(g.br, row (wcells buf) 117)]] ∧ IsDev bd (W.δ.wrote (first + a) (sealW W.δ.size ((first + a : Nat) : Int) (k : Int) pw)) cd') ?_ ?_ ?_
  · generalize sealW W.δ.size ((first + a : Nat) : Int) (k : Int) pw = sw at *
    unfold wrow wrCells Gr.obj
    rw [hgn]
    refine Ct.intro Tryz.func62 rfl Tryz.ntmps62 (nle rfl) fun w0 => ?_; dsimp only [argSlots, Nat.reduceAdd]
    repeat (first | apply G.seq | refine G.plain (h := ?_) | apply Dn.next | refine G.draw (id := 1) [(7, .quiet)] (h := ?_) | refine R.enter0 (h := ?_) | refine R.nil (h := ?_) | refine R.move (h := ?_) | refine R.assign (h := ?_) | refine R.nilCheck (h := ?_) | refine R.fieldAddr (h := ?_) | refine R.load1 (h := ?_) | refine R.addw (h := ?_) | refine R.convert (h := ?_) | refine R.sliceH (h := ?_) | refine R.callQ (hct := by apply hS <;> (first | omega | assumption)) (h := ?_))
    refine R.call (hct := hP W.δ.size) (h := ?_)
    rintro _ _ ⟨bl, rfl, rfl⟩
    try dsimp only [List.cons_append, List.nil_append]
    repeat (first | apply G.seq | refine G.plain (h := ?_) | apply Dn.next | refine G.condPT (ht := ?_) | refine G.draw (id := 3) [] (h := ?_) | refine R.enter0 (h := ?_) | refine R.nil (h := ?_) | refine R.move (h := ?_) | refine R.assign (h := ?_) | refine R.nilCheck (h := ?_) | refine R.fieldAddr (h := ?_) | refine R.load1 (h := ?_) | refine R.extract (h := ?_) | refine R.eql (h := ?_) | refine R.addw (h := ?_))
    refine R.call (hct := hW bl) (h := ?_)
    rintro _ _ ⟨cd', rfl, hD', rfl⟩
    try dsimp only [List.cons_append, List.nil_append]
    repeat (first | apply G.seq | refine G.plain (h := ?_) | apply G.skip | apply G.ret | apply Dn.next | refine G.condPF (ht := ?_) | refine R.enter0 (h := ?_) | refine R.nil (h := ?_) | refine R.move (h := ?_) | refine R.assign (h := ?_) | refine R.nilCheck (h := ?_) | refine R.fieldAddr (h := ?_) | refine R.load1 (h := ?_) | refine R.store1 (h := ?_) | refine R.neq (h := ?_) | refine R.addw (h := ?_))
    (refine Dn.post (Hr := [[(bw, row [pv bd, pv ba, pv bs] 68)], cd', c1, [(g.bb, row [.slice (some ⟨g.br, 0, none⟩) W.δ.size W.δ.size] 120)], cs, [(bx, row [pv bw, .int .i64 (first : Int), .int .i64 (nb : Int), .int .i64 (k : Int), .int .i64 (cnt : Int), .int .i64 (bound : Int), pv g.bb, .int .i64 0, .int .i64 ((a : Int) + 1), .bool false] 110)], [(g.br, row (wcells buf) 117)]]) Tryz.results62 (hR := ?_);
      exact ⟨rfl, cd', rfl, hD'⟩)
  · simp only [List.flatten_cons, List.flatten_nil, List.append_nil, List.append_assoc]
    refine List.Perm.append_left _ (List.Perm.append_left _ ?_)
    rw [← List.append_assoc c1]
    exact List.Perm.append_right _ hc1
  · rintro v H' ⟨rfl, cd', rfl, hD'⟩
    refine ⟨_, ⟨rfl, cd', c1 ++ [g.obj], rfl, hc1.symm, hD'⟩, ?_⟩
    simp
set_option maxHeartbeats 2000000 in
theorem flush_fault (bw bd ba bs : Nat) (W : Wk) (cd ca cs : Chunk) (h : Wc bd ba bs W cd ca cs) (bx first nb k cnt bound n a : Nat) (g : Gr) (Gs : List Gr) (hg : W.α.gs.Perm (g :: Gs)) (Lv : List Ext) (hl : LvOf first nb Lv W.live) (hgn : g.n = W.δ.size) (buf pw : List Int) (hbl : buf.length = W.δ.size) (hpw : buf.take n = pw) (hpl : pw.length = n)
    (hn : n ≤ W.δ.size - 2) (ha : first + a < W.δ.blocks) (hk : k ≤ 5) (hf : W.δ.fault = 0) :
    Ct Tryz.prog 62 [pv bx] [wrow bw bd ba bs, cd, ca, cs, [(bx, row (wrCells bw first nb k cnt bound g.bb n a false) 110)], [(g.br, row (wcells buf) 117)]] fun v H' =>
      v = .int .i64 6 ∧ WrGone bw bd ba bs bx W Gs Lv first nb k bound g.bb [(g.br, row (wcells buf) 117)] 0 W.δ.failed H' := by
  obtain ⟨⟨hs1, hs2⟩, hbk, hfr⟩ := h.dev.num
  have hS := Size_ct bd W.δ cd h.dev
  obtain ⟨c1, hc1⟩ := h.ar.open_ (hg.mem_iff.2 List.mem_cons_self)
  have hadd : IntKind.wrap .i64 ((first : Int) + (a : Int)) = ((first + a : Nat) : Int) := by rw [← Int.natCast_add]; exact wrap_i64 (by omega)
  have hP := fun cap => Put_ct W.δ.size ((first + a : Nat) : Int) (k : Int) g.br 0 n cap (wcells buf) 117 (0, 0) pw ⟨hs1, hs2⟩ (by omega) hn (by rw [List.drop_zero]; rw [← hpw]; simp [wcells]) hpl
  have hW := fun bl => Write_fault bd W.δ cd h.dev (first + a) ha hf bl 0 W.δ.size (wcells (sealW W.δ.size ((first + a : Nat) : Int) (k : Int) pw)) 117 (0, 0)
  have hD := fun cd' (hd : IsDev bd W.δ.failed cd') => Drop_ct bw bd ba bs { W with δ := W.δ.failed } cd' (c1 ++ [g.obj]) cs ⟨hd, h.ar.perm hc1.symm, h.sp, h.nn, h.live⟩ bx first nb k cnt bound n a g Gs hg Lv hl [(g.br, row (wcells buf) 117)]
  refine Ct.convP (H2 := [wrow bw bd ba bs, cd, c1, [g.obj], cs, [(bx, row (wrCells bw first nb k cnt bound g.bb n a false) 110)], [(g.br, row (wcells buf) 117)]])
    (R2 := fun v H' => v = .int .i64 6 ∧ WrGone bw bd ba bs bx W Gs Lv first nb k bound g.bb [(g.br, row (wcells buf) 117)] 0 W.δ.failed H') ?_ ?_ ?_
  · generalize sealW W.δ.size ((first + a : Nat) : Int) (k : Int) pw = sw at *
    have hobj : ([g.obj] : Chunk) = [(g.bb, row [.slice (some ⟨g.br, 0, none⟩) W.δ.size W.δ.size] 120)] := by unfold Gr.obj; rw [hgn]
    rw [hobj] at hD ⊢
    unfold wrow wrCells at hD ⊢
    refine Ct.intro Tryz.func62 rfl Tryz.ntmps62 (nle rfl) fun w0 => ?_; dsimp only [argSlots, Nat.reduceAdd]
    repeat (first | apply G.seq | refine G.plain (h := ?_) | apply Dn.next | refine G.draw (id := 1) [(7, .quiet)] (h := ?_) | refine R.enter0 (h := ?_) | refine R.nil (h := ?_) | refine R.move (h := ?_) | refine R.assign (h := ?_) | refine R.nilCheck (h := ?_) | refine R.fieldAddr (h := ?_) | refine R.load1 (h := ?_) | refine R.addw (h := ?_) | refine R.convert (h := ?_) | refine R.sliceH (h := ?_) | refine R.callQ (hct := by apply hS <;> (first | omega | assumption)) (h := ?_))
    refine R.call (hct := hP W.δ.size) (h := ?_)
    rintro _ _ ⟨bl, rfl, rfl⟩
    try dsimp only [List.cons_append, List.nil_append]
    repeat (first | apply G.seq | refine G.plain (h := ?_) | apply Dn.next | refine G.condPT (ht := ?_) | refine G.draw (id := 3) [] (h := ?_) | refine R.enter0 (h := ?_) | refine R.nil (h := ?_) | refine R.move (h := ?_) | refine R.assign (h := ?_) | refine R.nilCheck (h := ?_) | refine R.fieldAddr (h := ?_) | refine R.load1 (h := ?_) | refine R.extract (h := ?_) | refine R.eql (h := ?_) | refine R.addw (h := ?_))
    refine R.call (hct := hW bl) (h := ?_)
    rintro _ _ ⟨cd', rfl, hD', rfl⟩
    try dsimp only [List.cons_append, List.nil_append]
    repeat (first | apply G.seq | refine G.plain (h := ?_) | apply Dn.next | refine G.condPT (ht := ?_) | refine R.enter0 (h := ?_) | refine R.nil (h := ?_) | refine R.move (h := ?_) | refine R.assign (h := ?_) | refine R.neq (h := ?_))
    apply R1.join (c1 := c1) (c2 := [(g.bb, row [.slice (some ⟨g.br, 0, none⟩) W.δ.size W.δ.size] 120)])
    · (repeat (first | exact Take.here | apply Take.there))
    · (repeat (first | exact Take.here | apply Take.there))
    refine R.call (hct := hD cd' hD') (h := ?_)
    rintro _ _ ⟨rfl, cd2, ca2, cs2, W', cnt', n', a', rfl, hgone⟩
    try dsimp only [List.cons_append, List.nil_append]
    unfold wrow wrCells
    repeat (first | apply G.seq | refine G.plain (h := ?_) | apply G.ret | apply Dn.next | apply Dn.retThen | refine R.enter0 (h := ?_) | refine R.nil (h := ?_) | refine R.move (h := ?_) | refine R.assign (h := ?_))
    (refine Dn.post (Hr := [[(bw, row [pv bd, pv ba, pv bs] 68)], cd2, ca2, cs2, [(bx, row [pv bw, .int .i64 (first : Int), .int .i64 (nb : Int), .int .i64 (k : Int), .int .i64 (cnt' : Int), .int .i64 (bound : Int), pv g.bb, .int .i64 (n' : Int), .int .i64 (a' : Int), .bool true] 110)], [(g.br, row (wcells buf) 117)]]) Tryz.results62 (hR := ?_); refine ⟨rfl, cd2, ca2, cs2, W', cnt', n', a', rfl, hgone.1, ?_, hgone.2.2⟩)
    have he := hgone.2.1
    exact ⟨he.size, he.n, he.acts, fun e => by omega, he.room, he.big⟩
  · simp only [List.flatten_cons, List.flatten_nil, List.append_nil, List.append_assoc]
    refine List.Perm.append_left _ (List.Perm.append_left _ ?_)
    rw [← List.append_assoc c1]
    exact List.Perm.append_right _ hc1
  · rintro v H' ⟨rfl, h2⟩
    exact ⟨_, ⟨rfl, h2⟩, .refl _⟩
end Go.Proofs.YtdkihpjnidhnmaaGreat
namespace Go.Proofs.YtdkihpjnidhnmaaGreat
open Go.SL Go.Spc Go.Tup
/-- a writer that has put ps -/
structure WrOk (d : Nat → Option (List Int)) (size k nb bound first : Nat) (ps : List T5) (buf : List Int) : Prop where
  w1 : 1 ≤ k
  w2 : k ≤ 5
  hb : bound ≤ 100000000
  nbe : nb = nblocks size k bound
  cnt : ps.length ≤ bound
  blen : buf.length = size
  bufw : buf.take ((ps.length % holds size k) * k) = words k (ps.drop ((ps.length / holds size k) * holds size k))
  onto : Onto d size k (holds size k) first ps (ps.length / holds size k)
  fit : ∀ t ∈ ps, okT k t
theorem succ_dm {h p : Nat} (hh : 1 ≤ h) : (p % h + 1 = h → (p + 1) / h = p / h + 1 ∧ (p + 1) % h = 0) ∧ (p % h + 1 ≠ h → (p + 1) / h = p / h ∧ (p + 1) % h = p % h + 1) := by
  have h1 := Nat.div_add_mod p h
  have h2 := Nat.mod_lt p (show 0 < h by omega)
  constructor
  · intro e
    have e2 : p + 1 = h * (p / h + 1) := by rw [Nat.mul_succ]; omega
    constructor
    · rw [e2, Nat.mul_div_cancel_left _ (by omega)]
    · rw [e2, Nat.mul_mod_right]
  · intro e
    have e2 : p + 1 = p % h + 1 + h * (p / h) := by omega
    constructor
    · rw [e2, Nat.add_mul_div_left _ _ (by omega), Nat.div_eq_of_lt (by omega), Nat.zero_add]
    · rw [e2, Nat.add_mul_mod_self_left, Nat.mod_eq_of_lt (by omega)]
/-- words laid over a buffer from a place on -/
def bput (buf : List Int) (n : Nat) (ws : List Int) : List Int := buf.take n ++ (ws ++ buf.drop (n + ws.length))
theorem bput_length {buf ws : List Int} {n : Nat} (h : n + ws.length ≤ buf.length) : (bput buf n ws).length = buf.length := by simp [bput]; omega
theorem bput_nil (buf : List Int) (n : Nat) : bput buf n [] = buf := by simp [bput]
theorem bput_step {buf ws : List Int} {n i : Nat} {w : Int} (hw : ws[i]? = some w) (h : n + ws.length ≤ buf.length) : (bput buf n (ws.take i)).set (n + i) w = bput buf n (ws.take (i + 1)) := by
  have hi : i < ws.length := (List.getElem?_eq_some_iff.1 hw).1
  have hwi : ws[i] = w := (List.getElem?_eq_some_iff.1 hw).2
  have e1 : (ws.take i).length = i := by simp; omega
  have e2 : (ws.take (i + 1)).length = i + 1 := by simp; omega
  unfold bput
  rw [e1, e2]
  have e3 : (buf.take n).length = n := by simp; omega
  rw [List.set_append_right _ _ (by omega), e3, show n + i - n = i by omega, List.set_append_right _ _ (by omega), e1, Nat.sub_self]
  have e4 : buf.drop (n + i) = buf[n + i]'(by omega) :: buf.drop (n + i + 1) := List.drop_eq_getElem_cons (by omega)
  rw [e4, List.set_cons_zero, List.take_add_one, hw, Nat.add_assoc]
  simp
theorem bput_take {buf ws : List Int} {n : Nat} (h : n + ws.length ≤ buf.length) : (bput buf n ws).take (n + ws.length) = buf.take n ++ ws := by
  unfold bput
  rw [← List.append_assoc, List.take_append_of_le_length (by simp; omega), List.take_of_length_le (by simp; omega)]
theorem onto_more {d : Nat → Option (List Int)} {size k h first : Nat} {ps : List T5} {t : T5} {nb : Nat} (ho : Onto d size k h first ps nb) (hn : nb * h ≤ ps.length) : Onto d size k h first (ps ++ [t]) nb := by
  intro j hj
  rw [ho j hj]
  have : (j + 1) * h ≤ nb * h := Nat.mul_le_mul_right _ hj
  rw [Nat.succ_mul] at this
  rw [List.drop_append_of_le_length (by omega), List.take_append_of_le_length (by rw [List.length_drop]; omega)]
theorem WrOk.room {d : Nat → Option (List Int)} {size k nb bound first : Nat} {ps : List T5} {buf : List Int} (h : WrOk d size k nb bound first ps buf) (hs : 8 ≤ size) : (ps.length % holds size k) * k + k ≤ size - 2 := by
  have hp := holds_pos hs h.w1 h.w2
  have h1 := Nat.mod_lt ps.length (show 0 < holds size k by omega)
  have h2 := holds_mul (s := size) (k := k)
  have h3 : (ps.length % holds size k + 1) * k ≤ holds size k * k := Nat.mul_le_mul_right _ h1
  rw [Nat.succ_mul] at h3
  omega
theorem WrOk.at_lt {d : Nat → Option (List Int)} {size k nb bound first : Nat} {ps : List T5} {buf : List Int} (h : WrOk d size k nb bound first ps buf) (hs : 8 ≤ size) (hl : ps.length < bound) : ps.length / holds size k < nb := by
  have hp := holds_pos hs h.w1 h.w2
  rw [h.nbe]
  have e := Nat.div_add_mod ps.length (holds size k)
  have h1 : holds size k * (ps.length / holds size k) ≤ bound - 1 := by omega
  have : ps.length / holds size k + 1 ≤ (bound + holds size k - 1) / holds size k := by
    rw [Nat.le_div_iff_mul_le (by omega), Nat.succ_mul, Nat.mul_comm]
    omega
  exact this
/-- one more, the block not full yet -/
theorem WrOk.put {d : Nat → Option (List Int)} {size k nb bound first : Nat} {ps : List T5} {buf : List Int} (h : WrOk d size k nb bound first ps buf) (hs : 8 ≤ size) (hl : ps.length < bound) {t : T5} (ht : okT k t) (hne : ps.length % holds size k + 1 ≠ holds size k) :
    WrOk d size k nb bound first (ps ++ [t]) (bput buf ((ps.length % holds size k) * k) (tw k t)) := by
  have hp := holds_pos hs h.w1 h.w2
  have hr := h.room hs
  obtain ⟨e1, e2⟩ := (succ_dm (p := ps.length) hp).2 hne
  have htl := tw_length t h.w2
  have hfit : (ps.length % holds size k) * k + (tw k t).length ≤ buf.length := by rw [h.blen, htl]; omega
  have em := Nat.div_mul_le_self ps.length (holds size k)
  refine ⟨h.w1, h.w2, h.hb, h.nbe, by simp; omega, by rw [bput_length hfit, h.blen], ?_, ?_, ?_⟩
  · simp only [List.length_append, List.length_cons, List.length_nil, Nat.zero_add, e1, e2]
    have := bput_take hfit
    rw [htl, ← Nat.succ_mul] at this
    rw [this, h.bufw, List.drop_append_of_le_length em, words_app]
    simp [words]
  · simp only [List.length_append, List.length_cons, List.length_nil, Nat.zero_add, e1]
    exact onto_more h.onto em
  · intro x hx
    rcases List.mem_append.1 hx with hx | hx
    · exact h.fit x hx
    · simp only [List.mem_singleton] at hx; subst hx; exact ht
/-- one more, and the block was written -/
theorem WrOk.flushed {d : Nat → Option (List Int)} {size k nb bound first : Nat} {ps : List T5} {buf : List Int} (h : WrOk d size k nb bound first ps buf) (hs : 8 ≤ size) (hl : ps.length < bound) {t : T5} (ht : okT k t) (he : ps.length % holds size k + 1 = holds size k) :
    WrOk (dkSet d (first + ps.length / holds size k) (sealW size ((first + ps.length / holds size k : Nat) : Int) (k : Int) ((bput buf ((ps.length % holds size k) * k) (tw k t)).take ((ps.length % holds size k) * k + k)))) size k nb bound first (ps ++ [t])
      (bput buf ((ps.length % holds size k) * k) (tw k t)) := by
  have hp := holds_pos hs h.w1 h.w2
  have hr := h.room hs
  obtain ⟨e1, e2⟩ := (succ_dm (p := ps.length) hp).1 he
  have htl := tw_length t h.w2
  have hfit : (ps.length % holds size k) * k + (tw k t).length ≤ buf.length := by rw [h.blen, htl]; omega
  have em := Nat.div_mul_le_self ps.length (holds size k)
  have edm := Nat.div_add_mod ps.length (holds size k)
  refine ⟨h.w1, h.w2, h.hb, h.nbe, by simp; omega, by rw [bput_length hfit, h.blen], ?_, ?_, ?_⟩
  · simp only [List.length_append, List.length_cons, List.length_nil, Nat.zero_add, e1, e2, Nat.zero_mul, List.take_zero]
    rw [List.drop_of_length_le]
    · rfl
    · simp only [List.length_append, List.length_cons, List.length_nil, Nat.succ_mul]
      rw [Nat.mul_comm] at edm
      omega
  · simp only [List.length_append, List.length_cons, List.length_nil, Nat.zero_add, e1]
    intro j hj
    by_cases hj2 : j = ps.length / holds size k
    · subst hj2
      have := bput_take hfit
      rw [htl] at this
      simp only [dkSet, if_true]
      rw [this, h.bufw, List.drop_append_of_le_length em, List.take_of_length_le, words_app]
      · simp [words]
      · simp only [List.length_append, List.length_cons, List.length_nil, List.length_drop]
        rw [Nat.mul_comm] at edm
        omega
    · have : ¬ (first + j = first + ps.length / holds size k) := by omega
      simp only [dkSet, this, if_false]
      exact onto_more h.onto em j (by omega)
  · intro x hx
    rcases List.mem_append.1 hx with hx | hx
    · exact h.fit x hx
    · simp only [List.mem_singleton] at hx; subst hx; exact ht
end Go.Proofs.YtdkihpjnidhnmaaGreat
namespace Go.Proofs.YtdkihpjnidhnmaaGreat
open Go.SL Go.Spc Go.Tup
def icells (ws : List Int) : List Value := ws.map (Value.int .i64)
theorem PutF_ct (x : Int) : CtQ Tryz.prog 61 [.int .i64 x] [] (.bool (dec (x ≠ 0))) := by
  refine Ct.intro Tryz.func61 rfl Tryz.ntmps61 (nle rfl) fun w0 => ?_; dsimp only [argSlots, Nat.reduceAdd]
  repeat (first | apply G.seq | refine G.plain (h := ?_) | apply G.ret | apply Dn.next | refine R.enter0 (h := ?_) | refine R.nil (h := ?_) | refine R.move (h := ?_) | refine R.assign (h := ?_) | refine R.neq (h := ?_))
  (refine Dn.post (Hr := []) Tryz.results61 (hR := ?_); exact ⟨rfl, rfl⟩)
theorem IndexI_ct (b off n cap : Nat) (cs : List Value) (E : Nat) (fz : Nat × Nat) (hm : n ≤ 1000) (hz : ∀ i, i < n → cs[off + i]? = some (.int .i64 0)) :
    CtQ Tryz.prog 73 [.slice (some ⟨b, off, none⟩) n cap, .func (.func 61) #[] #[]] [[(b, rowf cs E fz)]] (.int .i64 (-1)) := by
  refine Ct.intro Tryz.func73 rfl Tryz.ntmps73 (nle rfl) fun w0 => ?_; dsimp only [argSlots, Nat.reduceAdd]
  repeat (first | apply G.seq | refine G.plain (h := ?_) | apply G.block | apply Dn.next | refine R.enter0 (h := ?_) | refine R.nil (h := ?_) | refine R.move (h := ?_) | refine R.assign (h := ?_) | refine R.len (h := ?_))
  refine G.loop (X := Nat) (fun i => i ≤ n) (fun i => [(8, .int .i64 (i : Int)), (7, .int .i64 (n : Int)), (0, .slice (some ⟨b, off, none⟩) n cap), (1, .func (.func 61) #[] #[])]) (fun _ => [[(b, rowf cs E fz)]]) (fun i => n - i) 0 (by omega) (body := ?_)
  intro i hi
  by_cases h9 : i < n
  · have hg := hz i h9
    repeat (first | apply G.seq | refine G.plain (h := ?_) | apply G.block | apply G.skip | apply Dn.next | apply Dn.blockEnd | refine G.condPT (ht := ?_) | refine G.condPF (ht := ?_) | refine R.enter0 (h := ?_) | refine R.nil (h := ?_) | refine R.move (h := ?_) | refine R.assign (h := ?_) | refine R.load1 (h := ?_) | refine R.lss (h := ?_) | refine R.addw (h := ?_) | refine R.indexAddr (h := ?_) | refine R.callVP (hct := by apply PutF_ct <;> (first | omega | assumption)) (h := ?_))
    exact Dn.round (i + 1) (by omega) (by omega)
  · repeat (first | apply G.seq | refine G.plain (h := ?_) | apply G.exit | apply G.ret | apply Dn.next | apply Dn.exitHere | apply Dn.exitThen | refine G.condPF (ht := ?_) | refine R.enter0 (h := ?_) | refine R.nil (h := ?_) | refine R.assign (h := ?_) | refine R.lss (h := ?_))
    (refine Dn.post (Hr := [[(b, rowf cs E fz)]]) Tryz.results73 (hR := ?_); exact ⟨rfl, rfl⟩)
theorem ContainsI_ct (b off n cap : Nat) (cs : List Value) (E : Nat) (fz : Nat × Nat) (hm : n ≤ 1000) (hz : ∀ i, i < n → cs[off + i]? = some (.int .i64 0)) :
    CtQ Tryz.prog 60 [.slice (some ⟨b, off, none⟩) n cap, .func (.func 61) #[] #[]] [[(b, rowf cs E fz)]] (.bool false) := by
  have hI := IndexI_ct b off n cap cs E fz hm hz
  refine Ct.intro Tryz.func60 rfl Tryz.ntmps60 (nle rfl) fun w0 => ?_; dsimp only [argSlots, Nat.reduceAdd]
  repeat (first | apply G.seq | refine G.plain (h := ?_) | apply G.ret | apply Dn.next | refine R.enter0 (h := ?_) | refine R.nil (h := ?_) | refine R.move (h := ?_) | refine R.assign (h := ?_) | refine R.geq (h := ?_) | refine R.callP (hct := by apply hI <;> (first | omega | assumption)) (h := ?_))
  (refine Dn.post (Hr := [[(b, rowf cs E fz)]]) Tryz.results60 (hR := ?_); exact ⟨by rw [dec_false (by decide)]; rfl, rfl⟩)
theorem tcells_get (t : T5) (i : Nat) (h : i < 5) : (tcells t)[i]? = some (.int .i64 (t.col i)) := by
  match i, h with
  | 0, _ => rfl
  | 1, _ => rfl
  | 2, _ => rfl
  | 3, _ => rfl
  | 4, _ => rfl
theorem tw_get (t : T5) (k i : Nat) (h : i < k) (hk : k ≤ 5) : (tw k t)[i]? = some (wd (t.col i)) := by
  unfold tw
  rw [List.getElem?_map, List.getElem?_take, if_pos h]
  have h5 : i < 5 := by omega
  match i, h5 with
  | 0, _ => rfl
  | 1, _ => rfl
  | 2, _ => rfl
  | 3, _ => rfl
  | 4, _ => rfl
/-- what is left when a tuple was put -/
def PutOk (bw bd ba bs bx : Nat) (W : Wk) (ca cs : Chunk) (first nb k bound : Nat) (g : Gr) (ps : List T5) (buf : List Int) (t : T5) (H' : Hp) : Prop :=
  ∃ (cd ca' : Chunk) (δ' : Dv) (buf' : List Int), H' = [wrow bw bd ba bs, cd, ca', cs, [(bx, row (wrCells bw first nb k (ps.length + 1) bound g.bb (((ps.length + 1) % holds W.δ.size k) * k) ((ps.length + 1) / holds W.δ.size k) false) 110)], [(g.br, row (wcells buf') 117)]] ∧
    ca'.Perm ca ∧ IsDev bd δ' cd ∧ δ'.size = W.δ.size ∧ δ'.blocks = W.δ.blocks ∧ (W.δ.fault = -1 → δ'.fault = -1) ∧ δ'.acts = W.δ.acts + ((ps.length + 1) / holds W.δ.size k - ps.length / holds W.δ.size k) ∧
    (∀ x, ¬ (first ≤ x ∧ x < first + nb) → δ'.disk x = W.δ.disk x) ∧ WrOk δ'.disk W.δ.size k nb bound first (ps ++ [t]) buf'
set_option maxHeartbeats 4000000 in
theorem Put_walk (bw bd ba bs : Nat) (W : Wk) (cd ca cs : Chunk) (h : Wc bd ba bs W cd ca cs) (bx first nb k bound : Nat) (g : Gr) (Gs : List Gr) (hg : W.α.gs.Perm (g :: Gs)) (hgn : g.n = W.δ.size) (Lv : List Ext) (hl : LvOf first nb Lv W.live) (ps : List T5) (buf : List Int)
    (ho : WrOk W.δ.disk W.δ.size k nb bound first ps buf) (hlt : ps.length < bound) (t : T5) (ht : okT k t) (hac : W.δ.acts ≤ 1000000000000) :
    Ct Tryz.prog 35 [pv bx, tv t] [wrow bw bd ba bs, cd, ca, cs, [(bx, row (wrCells bw first nb k ps.length bound g.bb ((ps.length % holds W.δ.size k) * k) (ps.length / holds W.δ.size k) false) 110)], [(g.br, row (wcells buf) 117)]] fun v H' =>
      (v = .int .i64 0 ∧ PutOk bw bd ba bs bx W ca cs first nb k bound g ps buf t H') ∨
      (v = .int .i64 6 ∧ W.δ.fault = 0 ∧ ∃ cb, WrGone bw bd ba bs bx W Gs Lv first nb k bound g.bb cb 0 W.δ.failed H') := by
  obtain ⟨⟨hs1, hs2⟩, hbk, hfr⟩ := h.dev.num
  obtain ⟨c1, hc1⟩ := h.ar.open_ (hg.mem_iff.2 List.mem_cons_self)
  have hH := Holds_ct bw bd ba bs W.δ cd h.dev k ho.w1 ho.w2
  have hroom := ho.room hs1
  have hk1 := ho.w1
  have hk5 := ho.w2
  have hp := holds_pos hs1 hk1 hk5
  have hbl := ho.blen
  have hbb := ho.hb
  have hatlt := ho.at_lt hs1 hlt
  have hh256 : holds W.δ.size k ≤ 256 := Nat.le_trans (Nat.div_le_self _ _) (by omega)
  generalize hn0 : (ps.length % holds W.δ.size k) * k = n0 at *
  have htl := tw_length t hk5
  have hCI := fun b3 => ContainsI_ct b3 k (5 - k) (5 - k) (tcells t) 47 (0, 0) (by omega) (fun i hi => by rw [tcells_get t _ (by omega), ht.2 _ (by omega)])
  have hCI5 := fun b3 => ContainsI_ct b3 0 0 0 (tcells t) 47 (0, 0) (by omega) (fun i hi => by omega)
  have hdiv : IntKind.wrap .i64 (((n0 + k : Nat) : Int).tdiv (k : Int)) = ((ps.length % holds W.δ.size k + 1 : Nat) : Int) := by
    have e1 : ((n0 + k : Nat) : Int).tdiv (k : Int) = (((n0 + k) / k : Nat) : Int) := by
      rw [Int.tdiv_eq_ediv_of_nonneg (by omega)]; simp
    have e2 : (n0 + k) / k = ps.length % holds W.δ.size k + 1 := by
      rw [← hn0, ← Nat.succ_mul, Nat.mul_div_cancel _ (by omega)]
    rw [e1, e2]
    have hml := Nat.mod_lt ps.length (show 0 < holds W.δ.size k by omega)
    have hw : ∀ r : Nat, r < 1000 → IntKind.wrap .i64 ((r : Nat) : Int) = (r : Int) := fun r hr => wrap_i64 (by omega)
    exact hw _ (by omega)
  have hobj : ([g.obj] : Chunk) = [(g.bb, row [.slice (some ⟨g.br, 0, none⟩) W.δ.size W.δ.size] 120)] := by unfold Gr.obj; rw [hgn]
  have hc2 : (c1 ++ [(g.bb, row [.slice (some ⟨g.br, 0, none⟩) W.δ.size W.δ.size] 120)]).Perm ca := by rw [← hobj]; exact hc1.symm
  have h' : Wc bd ba bs W cd (c1 ++ [(g.bb, row [.slice (some ⟨g.br, 0, none⟩) W.δ.size W.δ.size] 120)]) cs := ⟨h.dev, h.ar.perm hc2, h.sp, h.nn, h.live⟩
  have hnb0 : nb ≠ 0 := Nat.ne_of_gt (Nat.lt_of_le_of_lt (Nat.zero_le _) hatlt)
  have hin : first + nb ≤ W.δ.blocks := by
    unfold LvOf at hl
    rw [if_neg hnb0] at hl
    rw [h.nn]
    exact (live_free (h.live.perm hl)).1.2
  obtain ⟨B, hB⟩ : ∃ B : Nat → List Int, ∀ i, B i = bput buf n0 ((tw k t).take i) := ⟨_, fun _ => rfl⟩
  have hB0 : B 0 = buf := by rw [hB, List.take_zero, bput_nil]
  have hBk : B k = bput buf n0 (tw k t) := by rw [hB, List.take_of_length_le (by omega)]
  have hBl : ∀ i, (B i).length = W.δ.size := fun i => by rw [hB, bput_length (by rw [List.length_take, htl, hbl]; omega), hbl]
  have hcnt : IntKind.wrap .i64 ((ps.length : Int) + 1) = ((ps.length + 1 : Nat) : Int) := by rw [wrap_i64 (by omega)]; rfl
  have hFo := fun hf => flush_ok bw bd ba bs W cd _ cs h' bx first nb k (ps.length + 1) bound (n0 + k) (ps.length / holds W.δ.size k) g (hg.mem_iff.2 List.mem_cons_self) hgn (B k) ((B k).take (n0 + k)) (hBl k) rfl (by rw [List.length_take, hBl]; omega) (by omega) (by omega) hk5 hf hac
  have hFf := fun hf => flush_fault bw bd ba bs W cd _ cs h' bx first nb k (ps.length + 1) bound (n0 + k) (ps.length / holds W.δ.size k) g Gs hg Lv hl hgn (B k) ((B k).take (n0 + k)) (hBl k) rfl (by rw [List.length_take, hBl]; omega) (by omega) (by omega) hk5 hf
  refine Ct.convP (H2 := [wrow bw bd ba bs, cd, c1, [(g.bb, row [.slice (some ⟨g.br, 0, none⟩) W.δ.size W.δ.size] 120)], cs, [(bx, row (wrCells bw first nb k ps.length bound g.bb n0 (ps.length / holds W.δ.size k) false) 110)], [(g.br, row (wcells (B 0)) 117)]])
    (R2 := fun v H' => (v = .int .i64 0 ∧ ps.length % holds W.δ.size k + 1 ≠ holds W.δ.size k ∧ H' = [wrow bw bd ba bs, cd, c1, [(g.bb, row [.slice (some ⟨g.br, 0, none⟩) W.δ.size W.δ.size] 120)], cs, [(bx, row (wrCells bw first nb k (ps.length + 1) bound g.bb (n0 + k) (ps.length / holds W.δ.size k) false) 110)], [(g.br, row (wcells (B k)) 117)]]) ∨
      (v = .int .i64 0 ∧ ps.length % holds W.δ.size k + 1 = holds W.δ.size k ∧ W.δ.fault ≠ 0 ∧ WrFlushed bw bd ba bs bx W (c1 ++ [(g.bb, row [.slice (some ⟨g.br, 0, none⟩) W.δ.size W.δ.size] 120)]) cs first nb k (ps.length + 1) bound g (ps.length / holds W.δ.size k) ((B k).take (n0 + k)) [(g.br, row (wcells (B k)) 117)] H') ∨
      (v = .int .i64 6 ∧ W.δ.fault = 0 ∧ ∃ cb, WrGone bw bd ba bs bx W Gs Lv first nb k bound g.bb cb 0 W.δ.failed H')) ?_ ?_ ?_
  · have htc : tv t = .agg (tcells t).toArray := rfl
    rw [htc]
    have hget := tcells_get t
    have h5 : k = 5 ∨ k < 5 := by omega
    have htw := tw_get t k
    unfold wrCells wrow at *
    generalize hcl : tcells t = tc at *
    rcases h5 with h5 | h5
    all_goals
      refine Ct.intro Tryz.func35 rfl Tryz.ntmps35 (nle rfl) fun w0 => ?_; dsimp only [argSlots, Nat.reduceAdd]
      repeat (first | apply G.seq | refine G.plain (h := ?_) | apply G.block | apply G.skip | refine G.condF (h := ?_) | apply Dn.next | apply Dn.blockEnd | refine G.condPF (ht := ?_) | refine G.draw (id := 3) [] (h := ?_) | refine R.enter0 (h := ?_) | refine R.nil (h := ?_) | refine R.enterT (h := ?_) | refine R.move (h := ?_) | refine R.assign (h := ?_) | refine R.nilCheck (h := ?_) | refine R.fieldAddr (h := ?_) | refine R.load1 (h := ?_) | (refine R.box (h := ?_); intro _) | refine R.pickF (h := ?_) | refine R.eql (h := ?_) | refine R.len (h := ?_) | refine R.eqlNil (h := ?_) | refine R.sliceAL (h := ?_) | refine R.sliceALx (h := ?_) | refine R.sliceAH (h := ?_) | refine R.callP (hct := by apply hCI <;> (first | omega | assumption)) (h := ?_) | refine R.callP (hct := by apply hCI5 <;> (first | omega | assumption)) (h := ?_))
      rename_i b3
      refine G.loop (X := Nat) (fun i => i ≤ k) (fun i => [(43, .int .i64 (i : Int)), (42, .int .i64 (k : Int)), (41, .slice (some ⟨b3, 0, none⟩) k 5), (0, pv bx)])
        (fun i => [[(b3, row tc 47)], [(bw, row [pv bd, pv ba, pv bs] 68)], cd, c1, [(g.bb, row [.slice (some ⟨g.br, 0, none⟩) W.δ.size W.δ.size] 120)], cs, [(bx, row [pv bw, .int .i64 (first : Int), .int .i64 (nb : Int), .int .i64 (k : Int), .int .i64 (ps.length : Int), .int .i64 (bound : Int), pv g.bb, .int .i64 ((n0 + i : Nat) : Int), .int .i64 ((ps.length / holds W.δ.size k : Nat) : Int), .bool false] 110)], [(g.br, row (wcells (B i)) 117)]])
        (fun i => k - i) 0 (by omega) (body := ?_)
      intro i hi
      by_cases hik : i < k
      · have hgi := hget i (by omega)
        have hset : (wcells (B i)).set (n0 + i) (.int .u64 (wd (t.col i))) = wcells (B (i + 1)) := by
          rw [wcells_set, hB, hB, bput_step (htw i hik hk5) (by rw [htl, hbl]; omega)]
        have hlen : (wcells (B i)).length = W.δ.size := by rw [wcells_length, hBl]
        have hni : IntKind.wrap .i64 (((n0 + i : Nat) : Int) + 1) = ((n0 + (i + 1) : Nat) : Int) := by rw [wrap_i64 (by omega)]; rfl
        repeat (first | apply G.seq | refine G.plain (h := ?_) | apply G.block | apply G.skip | apply Dn.next | apply Dn.blockEnd | refine G.condPT (ht := ?_) | refine G.draw (id := 8) [] (h := ?_) | refine R.enter0 (h := ?_) | refine R.nil (h := ?_) | refine R.move (h := ?_) | refine R.assign (h := ?_) | refine R.nilCheck (h := ?_) | refine R.fieldAddr (h := ?_) | refine R.load1 (h := ?_) | refine R.store1 (h := ?_) | refine R.lss (h := ?_) | refine R.addw (h := ?_) | refine R.convert (h := ?_) | refine R.indexAddr (h := ?_))
        exact Dn.round (i + 1) (by omega) (by omega)
      · have hki : k = i := by omega
        subst hki
        by_cases he : ps.length % holds W.δ.size k + 1 = holds W.δ.size k
        · repeat (first | apply G.seq | refine G.plain (h := ?_) | apply G.exit | apply Dn.next | apply Dn.exitHere | apply Dn.exitThen | refine G.condPT (ht := ?_) | refine G.condPF (ht := ?_) | refine G.draw (id := 12) [(19, .quiet)] (h := ?_) | refine R.enter0 (h := ?_) | refine R.nil (h := ?_) | refine R.move (h := ?_) | refine R.nilCheck (h := ?_) | refine R.fieldAddr (h := ?_) | refine R.load1 (h := ?_) | refine R.store1 (h := ?_) | refine R.lss (h := ?_) | refine R.eql (h := ?_) | refine R.addw (h := ?_) | refine R.quow (h := ?_) | refine R.callQ (hct := by apply hH <;> (first | omega | assumption)) (h := ?_))
          apply R1.join (c1 := c1) (c2 := [(g.bb, row [.slice (some ⟨g.br, 0, none⟩) W.δ.size W.δ.size] 120)])
          · (repeat (first | exact Take.here | apply Take.there))
          · (repeat (first | exact Take.here | apply Take.there))
          by_cases hf : W.δ.fault = 0
          · have hFf := hFf hf
            refine R.call (hct := hFf) (h := ?_)
            rintro _ _ ⟨rfl, cd2, ca2, cs2, W', cnt', n', a', rfl, hgone⟩
            try dsimp only [List.cons_append, List.nil_append]
            unfold wrow wrCells
            repeat (first | apply G.ret | apply Dn.next | apply Dn.retThen | refine R.enter0 (h := ?_) | refine R.nil (h := ?_) | refine R.assign (h := ?_))
            (refine Dn.post (Hr := [[(bw, row [pv bd, pv ba, pv bs] 68)], cd2, ca2, cs2, [(bx, row [pv bw, .int .i64 (first : Int), .int .i64 (nb : Int), .int .i64 (k : Int), .int .i64 (cnt' : Int), .int .i64 (bound : Int), pv g.bb, .int .i64 (n' : Int), .int .i64 (a' : Int), .bool true] 110)], [(g.br, row (wcells (B k)) 117)]]) Tryz.results35 (hR := ?_);
              exact .inr (.inr ⟨rfl, hf, _, cd2, ca2, cs2, W', cnt', n', a', rfl, hgone⟩))
          · have hFo := hFo hf
            refine R.call (hct := hFo) (h := ?_)
            rintro _ _ ⟨rfl, cd2, ca2, rfl, hgone⟩
            try dsimp only [List.cons_append, List.nil_append]
            unfold wrow wrCells
            repeat (first | apply G.ret | apply Dn.next | apply Dn.retThen | refine R.enter0 (h := ?_) | refine R.nil (h := ?_) | refine R.assign (h := ?_))
            (refine Dn.post (Hr := [[(bw, row [pv bd, pv ba, pv bs] 68)], cd2, ca2, cs, [(bx, row [pv bw, .int .i64 (first : Int), .int .i64 (nb : Int), .int .i64 (k : Int), .int .i64 ((ps.length + 1 : Nat) : Int), .int .i64 (bound : Int), pv g.bb, .int .i64 ((0 : Nat) : Int), .int .i64 ((ps.length / holds W.δ.size k + 1 : Nat) : Int), .bool false] 110)], [(g.br, row (wcells (B k)) 117)]]) Tryz.results35 (hR := ?_);
              exact .inr (.inl ⟨rfl, he, hf, cd2, ca2, rfl, hgone⟩))
        · repeat (first | apply G.seq | refine G.plain (h := ?_) | apply G.skip | apply G.exit | apply G.ret | apply Dn.next | apply Dn.exitHere | apply Dn.exitThen | refine G.condPF (ht := ?_) | refine G.draw (id := 12) [(19, .quiet)] (h := ?_) | refine R.enter0 (h := ?_) | refine R.nil (h := ?_) | refine R.move (h := ?_) | refine R.assign (h := ?_) | refine R.nilCheck (h := ?_) | refine R.fieldAddr (h := ?_) | refine R.load1 (h := ?_) | refine R.store1 (h := ?_) | refine R.lss (h := ?_) | refine R.eql (h := ?_) | refine R.addw (h := ?_) | refine R.quow (h := ?_) | refine R.callQ (hct := by apply hH <;> (first | omega | assumption)) (h := ?_))
          (refine Dn.post (Hr := [[(bw, row [pv bd, pv ba, pv bs] 68)], cd, c1, [(g.bb, row [.slice (some ⟨g.br, 0, none⟩) W.δ.size W.δ.size] 120)], cs, [(bx, row [pv bw, .int .i64 (first : Int), .int .i64 (nb : Int), .int .i64 (k : Int), .int .i64 ((ps.length + 1 : Nat) : Int), .int .i64 (bound : Int), pv g.bb, .int .i64 ((n0 + k : Nat) : Int), .int .i64 ((ps.length / holds W.δ.size k : Nat) : Int), .bool false] 110)], [(g.br, row (wcells (B k)) 117)]]) Tryz.results35 (hR := ?_);
            exact .inl ⟨rfl, he, rfl⟩)
  · rw [hB0, ← hobj]
    simp only [List.flatten_cons, List.flatten_nil, List.append_nil, List.append_assoc]
    refine List.Perm.append_left _ (List.Perm.append_left _ ?_)
    rw [← List.append_assoc c1]
    exact List.Perm.append_right _ hc1
  · have hless : W.δ.fault = -1 → less W.δ.fault = -1 := fun e => by unfold less; rw [e]; rfl
    rintro v H' (⟨rfl, hne, rfl⟩ | ⟨rfl, he, hf, cd2, ca2, rfl, hp2, hd2⟩ | ⟨rfl, hf, hgo⟩)
    · obtain ⟨e1, e2⟩ := (succ_dm (p := ps.length) hp).2 hne
      have e3 : (ps.length % holds W.δ.size k + 1) * k = n0 + k := by rw [Nat.succ_mul, hn0]
      refine ⟨_, .inl ⟨rfl, cd, c1 ++ [(g.bb, row [.slice (some ⟨g.br, 0, none⟩) W.δ.size W.δ.size] 120)], W.δ, B k, rfl, hc2, h.dev, rfl, rfl, id, by rw [e1]; omega, fun _ _ => rfl, ?_⟩, ?_⟩
      · rw [hBk, ← hn0]
        exact ho.put hs1 hlt ht hne
      · rw [e1, e2, e3]; simp
    · obtain ⟨e1, e2⟩ := (succ_dm (p := ps.length) hp).1 he
      refine ⟨_, .inl ⟨rfl, cd2, ca2, _, B k, rfl, hp2.trans hc2, hd2, rfl, rfl, hless, by rw [e1, Nat.add_sub_cancel_left]; rfl, fun x hx => ?_, ?_⟩, ?_⟩
      · simp only [Dv.wrote, dkSet]
        rw [if_neg]
        rintro rfl
        exact hx ⟨Nat.le_add_right _ _, Nat.add_lt_add_left hatlt _⟩
      · have := ho.flushed hs1 hlt ht he
        rw [hn0, ← hBk] at this
        exact this
      · rw [e1, e2, Nat.zero_mul]
    · exact ⟨_, .inr ⟨rfl, hf, hgo⟩, .refl _⟩
end Go.Proofs.YtdkihpjnidhnmaaGreat
namespace Go.Proofs.YtdkihpjnidhnmaaGreat
open Go.SL Go.Spc Go.Tup
theorem nblocks_mono {s k a b : Nat} (h : a ≤ b) : nblocks s k a ≤ nblocks s k b := Nat.div_le_div_right (by omega)
theorem nblocks_dm {s k p : Nat} (hh : 1 ≤ holds s k) : (p % holds s k = 0 → nblocks s k p = p / holds s k) ∧ (p % holds s k ≠ 0 → nblocks s k p = p / holds s k + 1) := by
  unfold nblocks
  generalize holds s k = h at *
  have e := Nat.div_add_mod p h
  have h2 := Nat.mod_lt p (show 0 < h by omega)
  generalize p / h = q at *
  generalize p % h = r at *
  constructor
  · intro h0
    have : p + h - 1 = (h - 1) + h * q := by omega
    rw [this, Nat.add_mul_div_left _ _ (by omega), Nat.div_eq_of_lt (by omega), Nat.zero_add]
  · intro h0
    have : p + h - 1 = (r - 1) + h * (q + 1) := by rw [Nat.mul_succ]; omega
    rw [this, Nat.add_mul_div_left _ _ (by omega), Nat.div_eq_of_lt (by omega), Nat.zero_add]
theorem WrOk.last {d : Nat → Option (List Int)} {size k nb bound first : Nat} {ps : List T5} {buf : List Int} (h : WrOk d size k nb bound first ps buf) (hh : 1 ≤ holds size k) :
    Onto (dkSet d (first + ps.length / holds size k) (sealW size ((first + ps.length / holds size k : Nat) : Int) (k : Int) (buf.take ((ps.length % holds size k) * k)))) size k (holds size k) first ps (ps.length / holds size k + 1) := by
  have em := Nat.div_mul_le_self ps.length (holds size k)
  have edm := Nat.div_add_mod ps.length (holds size k)
  intro j hj
  by_cases hj2 : j = ps.length / holds size k
  · subst hj2
    simp only [dkSet, if_true]
    rw [h.bufw, List.take_of_length_le]
    rw [List.length_drop, Nat.mul_comm]
    have := Nat.mod_lt ps.length (show 0 < holds size k by omega)
    omega
  · have : ¬ (first + j = first + ps.length / holds size k) := by omega
    simp only [dkSet, this, if_false]
    exact h.onto j (by omega)
theorem live_split {σ : Sp} {l : List Ext} {f m a : Nat} (h : Live σ ((f, m) :: l)) (h0 : 0 < a) (h1 : a < m) : Live σ ((f + a, m - a) :: (f, a) :: l) := by
  obtain ⟨hf, ha⟩ := List.pairwise_cons.1 h.apart
  have hm := h.fit _ List.mem_cons_self
  dsimp only at hm hf
  refine ⟨?_, ?_, ?_, ?_⟩
  · intro e he
    simp only [List.mem_cons] at he
    rcases he with rfl | rfl | he
    · dsimp only; omega
    · dsimp only; omega
    · exact h.fit e (List.mem_cons_of_mem _ he)
  · refine List.pairwise_cons.2 ⟨fun e he => ?_, List.pairwise_cons.2 ⟨fun e he => ?_, ha⟩⟩
    · rcases List.mem_cons.1 he with rfl | he
      · dsimp only; omega
      · have := hf e he; dsimp only; omega
    · have := hf e he; dsimp only; omega
  · intro x hx
    rw [h.free x hx, inF_cons, inF_cons, inF_cons]
    dsimp only
    constructor
    · rintro hh (c | c | c)
      · exact hh (.inl (by omega))
      · exact hh (.inl (by omega))
      · exact hh (.inr c)
    · rintro hh (c | c)
      · by_cases hxa : x < f + a
        · exact hh (.inr (.inl (by omega)))
        · exact hh (.inl (by omega))
      · exact hh (.inr (.inr c))
  · have := h.sum
    simp only [total_cons] at this ⊢
    omega
/-- what is left when a writer was closed -/
def CloseOk (bw bd ba bs bx : Nat) (W : Wk) (Gs : List Gr) (Lv : List Ext) (first nb k bound : Nat) (g : Gr) (ps : List T5) (cb : Chunk) (v : Value) (H' : Hp) : Prop :=
  ∃ (cd ca cs : Chunk) (W' : Wk) (f : Fl) (n : Nat), v = .tuple #[flv f, .int .i64 0] ∧ H' = [wrow bw bd ba bs, cd, ca, cs, [(bx, row (wrCells bw f.first f.blocks k ps.length bound g.bb n f.blocks true) 110)], cb] ∧
    Wc bd ba bs W' cd ca cs ∧ Ev W W' 1 0 ∧ W'.δ.acts = W.δ.acts + (nblocks W.δ.size k ps.length - ps.length / holds W.δ.size k) ∧ W'.α.gs.Perm Gs ∧ W'.live = (if f.blocks = 0 then Lv else f.ext :: Lv) ∧
    f.width = k ∧ f.count = ps.length ∧ f.blocks = nblocks W.δ.size k ps.length ∧ Onto W'.δ.disk W.δ.size k (holds W.δ.size k) f.first ps f.blocks ∧ ∀ x, ¬ (first ≤ x ∧ x < first + nb) → W'.δ.disk x = W.δ.disk x
set_option maxHeartbeats 4000000 in
theorem Close_walk (bw bd ba bs : Nat) (W : Wk) (cd ca cs : Chunk) (h : Wc bd ba bs W cd ca cs) (bx first nb k bound : Nat) (g : Gr) (Gs : List Gr) (hg : W.α.gs.Perm (g :: Gs)) (hgn : g.n = W.δ.size) (Lv : List Ext) (hl : LvOf first nb Lv W.live) (ps : List T5) (buf : List Int)
    (ho : WrOk W.δ.disk W.δ.size k nb bound first ps buf) (hac : W.δ.acts ≤ 1000000000000) :
    Ct Tryz.prog 37 [pv bx] [wrow bw bd ba bs, cd, ca, cs, [(bx, row (wrCells bw first nb k ps.length bound g.bb ((ps.length % holds W.δ.size k) * k) (ps.length / holds W.δ.size k) false) 110)], [(g.br, row (wcells buf) 117)]] fun v H' =>
      CloseOk bw bd ba bs bx W Gs Lv first nb k bound g ps [(g.br, row (wcells buf) 117)] v H' ∨
      (v = .tuple #[flv ⟨0, 0, 0, 0⟩, .int .i64 6] ∧ W.δ.fault = 0 ∧ WrGone bw bd ba bs bx W Gs Lv first nb k bound g.bb [(g.br, row (wcells buf) 117)] 0 W.δ.failed H') := by
  obtain ⟨⟨hs1, hs2⟩, hbk, hfr⟩ := h.dev.num
  have hk1 := ho.w1
  have hk5 := ho.w2
  have hp := holds_pos hs1 hk1 hk5
  have hroom := ho.room hs1
  have hbl := ho.blen
  obtain ⟨nd0, nd1⟩ := nblocks_dm (p := ps.length) hp
  have hmono := nblocks_mono (s := W.δ.size) (k := k) ho.cnt
  rw [← ho.nbe] at hmono
  have honto := ho.onto
  have hlast := ho.last hp
  have hless : W.δ.fault = -1 → less W.δ.fault = -1 := fun e => by unfold less; rw [e]; rfl
  have hin : nb ≠ 0 → first + nb ≤ W.δ.blocks := by
    intro hnb0
    unfold LvOf at hl
    rw [if_neg hnb0] at hl
    rw [h.nn]
    exact (live_free (h.live.perm hl)).1.2
  have hFo := fun (hn : (ps.length % holds W.δ.size k) * k ≤ W.δ.size - 2) ha hf => flush_ok bw bd ba bs W cd ca cs h bx first nb k ps.length bound ((ps.length % holds W.δ.size k) * k) (ps.length / holds W.δ.size k) g (hg.mem_iff.2 List.mem_cons_self) hgn buf _ hbl rfl (by rw [List.length_take, hbl]; omega) hn ha hk5 hf hac
  have hFf := fun (hn : (ps.length % holds W.δ.size k) * k ≤ W.δ.size - 2) ha hf => flush_fault bw bd ba bs W cd ca cs h bx first nb k ps.length bound ((ps.length % holds W.δ.size k) * k) (ps.length / holds W.δ.size k) g Gs hg Lv hl hgn buf _ hbl rfl (by rw [List.length_take, hbl]; omega) hn ha hk5 hf
  have hnk : ps.length % holds W.δ.size k ≠ 0 → 0 < (ps.length % holds W.δ.size k) * k := fun hne => Nat.mul_pos (Nat.pos_of_ne_zero hne) (by omega)
  have hnk0 : ps.length % holds W.δ.size k = 0 → (ps.length % holds W.δ.size k) * k = 0 := fun e => by rw [e, Nat.zero_mul]
  have hflv : ∀ f : Fl, flv f = .agg #[.int .i64 (f.first : Int), .int .i64 (f.blocks : Int), .int .i64 (f.width : Int), .int .i64 (f.count : Int)] := fun _ => rfl
  generalize hn0 : (ps.length % holds W.δ.size k) * k = n0 at *
  generalize hq0 : ps.length / holds W.δ.size k = q0 at *
  by_cases hr0 : ps.length % holds W.δ.size k = 0
  · have hn00 := hnk0 hr0
    have hnb := nd0 hr0
    subst hn00
    rw [hnb] at hmono
    have hcase : (q0 = 0 ∧ nb = 0) ∨ (q0 = 0 ∧ 0 < nb) ∨ (0 < q0 ∧ q0 < nb) ∨ (0 < q0 ∧ q0 = nb) := by omega
    rcases hcase with ⟨c1, c2⟩ | ⟨c1, c2⟩ | ⟨c1, c2⟩ | ⟨c1, c2⟩
    · have hl1 := hl
      unfold LvOf at hl1
      rw [if_pos c2] at hl1
      unfold wrCells wrow
      refine Ct.intro Tryz.func37 rfl Tryz.ntmps37 (nle rfl) fun w0 => ?_; dsimp only [argSlots, Nat.reduceAdd]
      repeat (first | apply G.seq | refine G.plain (h := ?_) | apply G.skip | refine G.condF (h := ?_) | apply Dn.next | refine G.condPF (ht := ?_) | refine G.draw (id := 8) [] (h := ?_) | refine R.enter0 (h := ?_) | refine R.nil (h := ?_) | refine R.enterT (h := ?_) | refine R.move (h := ?_) | refine R.assign (h := ?_) | refine R.nilCheck (h := ?_) | refine R.fieldAddr (h := ?_) | refine R.load1 (h := ?_) | refine R.store1 (h := ?_) | (refine R.alloc (h := ?_); intro _) | refine R.pickF (h := ?_) | refine R.gtr (h := ?_) | refine R.eqlNil (h := ?_))
      have hR := aRelease ba W.α ca (h.ar.perm (.refl _)) g Gs hg
      refine R.call (hct := hR) (h := ?_)
      rintro _ _ ⟨ca', α', rfl, hA', hgs, hro, rfl⟩
      try dsimp only [List.cons_append, List.nil_append]
      repeat (first | apply G.seq | refine G.plain (h := ?_) | apply G.skip | apply G.ret | apply Dn.next | refine G.condPT (ht := ?_) | refine G.condPF (ht := ?_) | refine G.draw (id := 9) [] (h := ?_) | refine R.enter0 (h := ?_) | refine R.nil (h := ?_) | refine R.move (h := ?_) | refine R.assign (h := ?_) | refine R.nilCheck (h := ?_) | refine R.fieldAddr (h := ?_) | refine R.load1 (h := ?_) | refine R.loadN (h := ?_) | refine R.store1 (h := ?_) | refine R.storeN (h := ?_) | refine R.lss (h := ?_) | refine R.eql (h := ?_))
      (refine Dn.post (Hr := [[(bw, row [pv bd, pv ba, pv bs] 68)], cd, ca', cs, [(bx, row [pv bw, .int .i64 ((0 : Nat) : Int), .int .i64 ((q0 : Nat) : Int), .int .i64 (k : Int), .int .i64 (ps.length : Int), .int .i64 (bound : Int), pv g.bb, .int .i64 ((0 : Nat) : Int), .int .i64 ((q0 : Nat) : Int), .bool true] 110)], [(g.br, row (wcells buf) 117)]]) Tryz.results37 (hR := ?_); left)
      exact ⟨cd, ca', cs, ⟨W.δ, α', W.σ, Lv⟩, ⟨0, q0, k, ps.length⟩, 0, rfl, rfl, ⟨h.dev, hA', h.sp, h.nn, h.live.perm hl1⟩, ⟨rfl, rfl, ⟨Nat.le_refl _, Nat.le_succ _⟩, id, hro, Nat.le_refl _⟩, (by rw [hnb, hq0, Nat.sub_self]; rfl), hgs, (by rw [if_pos (by dsimp only; omega)]), rfl, rfl, hnb.symm, (fun j hj => by dsimp only at hj; omega), (fun _ _ => rfl)⟩
    · have hl1 := hl
      unfold LvOf at hl1
      rw [if_neg (by omega)] at hl1
      have hinn := hin (by omega)
      unfold wrCells wrow
      refine Ct.intro Tryz.func37 rfl Tryz.ntmps37 (nle rfl) fun w0 => ?_; dsimp only [argSlots, Nat.reduceAdd]
      repeat (first | apply G.seq | refine G.plain (h := ?_) | apply G.skip | refine G.condF (h := ?_) | apply Dn.next | refine G.condPF (ht := ?_) | refine G.draw (id := 8) [] (h := ?_) | refine R.enter0 (h := ?_) | refine R.nil (h := ?_) | refine R.enterT (h := ?_) | refine R.move (h := ?_) | refine R.assign (h := ?_) | refine R.nilCheck (h := ?_) | refine R.fieldAddr (h := ?_) | refine R.load1 (h := ?_) | refine R.store1 (h := ?_) | (refine R.alloc (h := ?_); intro _) | refine R.pickF (h := ?_) | refine R.gtr (h := ?_) | refine R.eqlNil (h := ?_))
      have hR := aRelease ba W.α ca (h.ar.perm (.refl _)) g Gs hg
      have hadd : IntKind.wrap .i64 ((first : Int) + ((q0 : Nat) : Int)) = ((first + q0 : Nat) : Int) := by rw [wrap_i64 (by omega)]; rfl
      have hsub : IntKind.wrap .i64 ((nb : Int) - ((q0 : Nat) : Int)) = ((nb - q0 : Nat) : Int) := by rw [wrap_i64 (by omega)]; omega
      have hlv := h.live.perm hl1
      obtain ⟨⟨f1, f2⟩, f3⟩ := live_free hlv
      have hGv := Give_ct bs W.σ cs h.sp (first + q0) (nb - q0) (by omega) (by omega) (fun x x1 x2 => f3 x (by omega) (by omega))
      refine R.call (hct := hR) (h := ?_)
      rintro _ _ ⟨ca', α', rfl, hA', hgs, hro, rfl⟩
      try dsimp only [List.cons_append, List.nil_append]
      repeat (first | apply G.seq | apply Dn.next | refine G.condPT (ht := ?_) | refine G.draw (id := 9) [] (h := ?_) | refine G.draw (id := 10) [] (h := ?_) | refine R.enter0 (h := ?_) | refine R.nil (h := ?_) | refine R.move (h := ?_) | refine R.nilCheck (h := ?_) | refine R.fieldAddr (h := ?_) | refine R.load1 (h := ?_) | refine R.lss (h := ?_) | refine R.addw (h := ?_) | refine R.subw (h := ?_))
      refine R.call (hct := hGv) (h := ?_)
      rintro _ _ ⟨cs', σ', rfl, hS', e1, e3, e4, e5, rfl⟩
      try dsimp only [List.cons_append, List.nil_append]
      repeat (first | apply G.seq | refine G.plain (h := ?_) | apply G.ret | apply Dn.next | refine G.condPT (ht := ?_) | refine R.enter0 (h := ?_) | refine R.nil (h := ?_) | refine R.move (h := ?_) | refine R.assign (h := ?_) | refine R.nilCheck (h := ?_) | refine R.fieldAddr (h := ?_) | refine R.load1 (h := ?_) | refine R.loadN (h := ?_) | refine R.store1 (h := ?_) | refine R.storeN (h := ?_) | refine R.eql (h := ?_))
      (refine Dn.post (Hr := [[(bw, row [pv bd, pv ba, pv bs] 68)], cd, ca', cs', [(bx, row [pv bw, .int .i64 ((0 : Nat) : Int), .int .i64 ((q0 : Nat) : Int), .int .i64 (k : Int), .int .i64 (ps.length : Int), .int .i64 (bound : Int), pv g.bb, .int .i64 ((0 : Nat) : Int), .int .i64 ((q0 : Nat) : Int), .bool true] 110)], [(g.br, row (wcells buf) 117)]]) Tryz.results37 (hR := ?_); left)
      exact ⟨cd, ca', cs', ⟨W.δ, α', σ', Lv⟩, ⟨0, q0, k, ps.length⟩, 0, rfl, rfl, ⟨h.dev, hA', hS', h.nn.trans e1.symm, live_give (f := first + q0) (m := nb - q0) (by rw [show first + q0 = first by omega, show nb - q0 = nb by omega]; exact hlv) e1 e3 e4⟩, ⟨rfl, e1, ⟨Nat.le_refl _, Nat.le_succ _⟩, id, hro, (by show _ ≤ big σ'.free + 0; omega)⟩, (by rw [hnb, hq0, Nat.sub_self]; rfl), hgs, (by rw [if_pos (by dsimp only; omega)]), rfl, rfl, hnb.symm, (fun j hj => by dsimp only at hj; omega), (fun _ _ => rfl)⟩
    · have hl1 := hl
      unfold LvOf at hl1
      rw [if_neg (by omega)] at hl1
      have hinn := hin (by omega)
      unfold wrCells wrow
      refine Ct.intro Tryz.func37 rfl Tryz.ntmps37 (nle rfl) fun w0 => ?_; dsimp only [argSlots, Nat.reduceAdd]
      repeat (first | apply G.seq | refine G.plain (h := ?_) | apply G.skip | refine G.condF (h := ?_) | apply Dn.next | refine G.condPF (ht := ?_) | refine G.draw (id := 8) [] (h := ?_) | refine R.enter0 (h := ?_) | refine R.nil (h := ?_) | refine R.enterT (h := ?_) | refine R.move (h := ?_) | refine R.assign (h := ?_) | refine R.nilCheck (h := ?_) | refine R.fieldAddr (h := ?_) | refine R.load1 (h := ?_) | refine R.store1 (h := ?_) | (refine R.alloc (h := ?_); intro _) | refine R.pickF (h := ?_) | refine R.gtr (h := ?_) | refine R.eqlNil (h := ?_))
      have hR := aRelease ba W.α ca (h.ar.perm (.refl _)) g Gs hg
      have hadd : IntKind.wrap .i64 ((first : Int) + ((q0 : Nat) : Int)) = ((first + q0 : Nat) : Int) := by rw [wrap_i64 (by omega)]; rfl
      have hsub : IntKind.wrap .i64 ((nb : Int) - ((q0 : Nat) : Int)) = ((nb - q0 : Nat) : Int) := by rw [wrap_i64 (by omega)]; omega
      have hlv := live_split (h.live.perm hl1) (a := q0) (by omega) (by omega)
      obtain ⟨⟨f1, f2⟩, f3⟩ := live_free hlv
      have hGv := Give_ct bs W.σ cs h.sp (first + q0) (nb - q0) f1 f2 f3
      refine R.call (hct := hR) (h := ?_)
      rintro _ _ ⟨ca', α', rfl, hA', hgs, hro, rfl⟩
      try dsimp only [List.cons_append, List.nil_append]
      repeat (first | apply G.seq | apply Dn.next | refine G.condPT (ht := ?_) | refine G.draw (id := 9) [] (h := ?_) | refine G.draw (id := 10) [] (h := ?_) | refine R.enter0 (h := ?_) | refine R.nil (h := ?_) | refine R.move (h := ?_) | refine R.nilCheck (h := ?_) | refine R.fieldAddr (h := ?_) | refine R.load1 (h := ?_) | refine R.lss (h := ?_) | refine R.addw (h := ?_) | refine R.subw (h := ?_))
      refine R.call (hct := hGv) (h := ?_)
      rintro _ _ ⟨cs', σ', rfl, hS', e1, e3, e4, e5, rfl⟩
      try dsimp only [List.cons_append, List.nil_append]
      repeat (first | apply G.seq | refine G.plain (h := ?_) | apply G.skip | apply G.ret | apply Dn.next | refine G.condPF (ht := ?_) | refine R.enter0 (h := ?_) | refine R.nil (h := ?_) | refine R.move (h := ?_) | refine R.assign (h := ?_) | refine R.nilCheck (h := ?_) | refine R.fieldAddr (h := ?_) | refine R.load1 (h := ?_) | refine R.loadN (h := ?_) | refine R.store1 (h := ?_) | refine R.storeN (h := ?_) | refine R.eql (h := ?_))
      (refine Dn.post (Hr := [[(bw, row [pv bd, pv ba, pv bs] 68)], cd, ca', cs', [(bx, row [pv bw, .int .i64 ((first : Nat) : Int), .int .i64 ((q0 : Nat) : Int), .int .i64 (k : Int), .int .i64 (ps.length : Int), .int .i64 (bound : Int), pv g.bb, .int .i64 ((0 : Nat) : Int), .int .i64 ((q0 : Nat) : Int), .bool true] 110)], [(g.br, row (wcells buf) 117)]]) Tryz.results37 (hR := ?_); left)
      exact ⟨cd, ca', cs', ⟨W.δ, α', σ', ((first, q0) :: Lv)⟩, ⟨first, q0, k, ps.length⟩, 0, rfl, rfl, ⟨h.dev, hA', hS', h.nn.trans e1.symm, live_give hlv e1 e3 e4⟩, ⟨rfl, e1, ⟨Nat.le_refl _, Nat.le_succ _⟩, id, hro, (by show _ ≤ big σ'.free + 0; omega)⟩, (by rw [hnb, hq0, Nat.sub_self]; rfl), hgs, (by rw [if_neg (by dsimp only; omega)]; rfl), rfl, rfl, hnb.symm, honto, (fun _ _ => rfl)⟩
    · have hl1 := hl
      unfold LvOf at hl1
      rw [if_neg (by omega)] at hl1
      have hinn := hin (by omega)
      unfold wrCells wrow
      refine Ct.intro Tryz.func37 rfl Tryz.ntmps37 (nle rfl) fun w0 => ?_; dsimp only [argSlots, Nat.reduceAdd]
      repeat (first | apply G.seq | refine G.plain (h := ?_) | apply G.skip | refine G.condF (h := ?_) | apply Dn.next | refine G.condPF (ht := ?_) | refine G.draw (id := 8) [] (h := ?_) | refine R.enter0 (h := ?_) | refine R.nil (h := ?_) | refine R.enterT (h := ?_) | refine R.move (h := ?_) | refine R.assign (h := ?_) | refine R.nilCheck (h := ?_) | refine R.fieldAddr (h := ?_) | refine R.load1 (h := ?_) | refine R.store1 (h := ?_) | (refine R.alloc (h := ?_); intro _) | refine R.pickF (h := ?_) | refine R.gtr (h := ?_) | refine R.eqlNil (h := ?_))
      have hR := aRelease ba W.α ca (h.ar.perm (.refl _)) g Gs hg
      refine R.call (hct := hR) (h := ?_)
      rintro _ _ ⟨ca', α', rfl, hA', hgs, hro, rfl⟩
      try dsimp only [List.cons_append, List.nil_append]
      repeat (first | apply G.seq | refine G.plain (h := ?_) | apply G.skip | apply G.ret | apply Dn.next | refine G.condPF (ht := ?_) | refine G.draw (id := 9) [] (h := ?_) | refine R.enter0 (h := ?_) | refine R.nil (h := ?_) | refine R.move (h := ?_) | refine R.assign (h := ?_) | refine R.nilCheck (h := ?_) | refine R.fieldAddr (h := ?_) | refine R.load1 (h := ?_) | refine R.loadN (h := ?_) | refine R.store1 (h := ?_) | refine R.storeN (h := ?_) | refine R.lss (h := ?_) | refine R.eql (h := ?_))
      (refine Dn.post (Hr := [[(bw, row [pv bd, pv ba, pv bs] 68)], cd, ca', cs, [(bx, row [pv bw, .int .i64 ((first : Nat) : Int), .int .i64 ((q0 : Nat) : Int), .int .i64 (k : Int), .int .i64 (ps.length : Int), .int .i64 (bound : Int), pv g.bb, .int .i64 ((0 : Nat) : Int), .int .i64 ((q0 : Nat) : Int), .bool true] 110)], [(g.br, row (wcells buf) 117)]]) Tryz.results37 (hR := ?_); left)
      exact ⟨cd, ca', cs, ⟨W.δ, α', W.σ, ((first, q0) :: Lv)⟩, ⟨first, q0, k, ps.length⟩, 0, rfl, rfl, ⟨h.dev, hA', h.sp, h.nn, (by rw [show q0 = nb by omega]; exact h.live.perm hl1)⟩, ⟨rfl, rfl, ⟨Nat.le_refl _, Nat.le_succ _⟩, id, hro, Nat.le_refl _⟩, (by rw [hnb, hq0, Nat.sub_self]; rfl), hgs, (by rw [if_neg (by dsimp only; omega)]; rfl), rfl, rfl, hnb.symm, honto, (fun _ _ => rfl)⟩
  · have hn01 := hnk hr0
    have hnb := nd1 hr0
    rw [hnb] at hmono
    have hinn := hin (by omega)
    by_cases hf : W.δ.fault = 0
    · have hFf := hFf (by omega) (by omega) hf
      unfold wrCells wrow at *
      refine Ct.intro Tryz.func37 rfl Tryz.ntmps37 (nle rfl) fun w0 => ?_; dsimp only [argSlots, Nat.reduceAdd]
      repeat (first | apply G.seq | refine G.plain (h := ?_) | apply G.skip | refine G.condF (h := ?_) | apply Dn.next | refine G.condPT (ht := ?_) | refine R.enter0 (h := ?_) | refine R.nil (h := ?_) | refine R.enterT (h := ?_) | refine R.move (h := ?_) | refine R.assign (h := ?_) | refine R.nilCheck (h := ?_) | refine R.fieldAddr (h := ?_) | refine R.load1 (h := ?_) | (refine R.alloc (h := ?_); intro _) | refine R.pickF (h := ?_) | refine R.gtr (h := ?_) | refine R.eqlNil (h := ?_))
      refine R.call (hct := hFf) (h := ?_)
      rintro _ _ ⟨rfl, cd2, ca2, cs2, W', cnt', n', a', rfl, hgone⟩
      try dsimp only [List.cons_append, List.nil_append]
      unfold wrow wrCells
      repeat (first | apply G.seq | refine G.plain (h := ?_) | apply G.ret | apply Dn.next | apply Dn.retThen | refine G.condPT (ht := ?_) | refine R.enter0 (h := ?_) | refine R.nil (h := ?_) | refine R.move (h := ?_) | refine R.assign (h := ?_) | refine R.storeN (h := ?_) | refine R.neq (h := ?_) | refine R.build (h := ?_))
      (refine Dn.post (Hr := [[(bw, row [pv bd, pv ba, pv bs] 68)], cd2, ca2, cs2, [(bx, row [pv bw, .int .i64 (first : Int), .int .i64 (nb : Int), .int .i64 (k : Int), .int .i64 (cnt' : Int), .int .i64 (bound : Int), pv g.bb, .int .i64 (n' : Int), .int .i64 (a' : Int), .bool true] 110)], [(g.br, row (wcells buf) 117)]]) Tryz.results37 (hR := ?_);
        exact .inr ⟨rfl, hf, cd2, ca2, cs2, W', cnt', n', a', rfl, hgone⟩)
    · have hFo := hFo (by omega) (by omega) hf
      have hl1 := hl
      unfold LvOf at hl1
      rw [if_neg (by omega)] at hl1
      have hcase : q0 + 1 < nb ∨ q0 + 1 = nb := by omega
      rcases hcase with c2 | c2
      · unfold wrCells wrow at *
        refine Ct.intro Tryz.func37 rfl Tryz.ntmps37 (nle rfl) fun w0 => ?_; dsimp only [argSlots, Nat.reduceAdd]
        repeat (first | apply G.seq | refine G.plain (h := ?_) | apply G.skip | refine G.condF (h := ?_) | apply Dn.next | refine G.condPT (ht := ?_) | refine R.enter0 (h := ?_) | refine R.nil (h := ?_) | refine R.enterT (h := ?_) | refine R.move (h := ?_) | refine R.assign (h := ?_) | refine R.nilCheck (h := ?_) | refine R.fieldAddr (h := ?_) | refine R.load1 (h := ?_) | (refine R.alloc (h := ?_); intro _) | refine R.pickF (h := ?_) | refine R.gtr (h := ?_) | refine R.eqlNil (h := ?_))
        refine R.call (hct := hFo) (h := ?_)
        rintro _ _ ⟨rfl, cd2, ca2, rfl, hp2, hd2⟩
        try dsimp only [List.cons_append, List.nil_append]
        unfold wrow wrCells
        repeat (first | apply G.seq | refine G.plain (h := ?_) | apply G.skip | apply Dn.next | refine G.condPF (ht := ?_) | refine G.draw (id := 8) [] (h := ?_) | refine R.enter0 (h := ?_) | refine R.nil (h := ?_) | refine R.move (h := ?_) | refine R.assign (h := ?_) | refine R.nilCheck (h := ?_) | refine R.fieldAddr (h := ?_) | refine R.load1 (h := ?_) | refine R.store1 (h := ?_) | refine R.neq (h := ?_))
        have hR := aRelease ba W.α ca2 (h.ar.perm hp2) g Gs hg
        have hadd : IntKind.wrap .i64 ((first : Int) + (((q0 + 1) : Nat) : Int)) = ((first + (q0 + 1) : Nat) : Int) := by rw [wrap_i64 (by omega)]; rfl
        have hsub : IntKind.wrap .i64 ((nb : Int) - (((q0 + 1) : Nat) : Int)) = ((nb - (q0 + 1) : Nat) : Int) := by rw [wrap_i64 (by omega)]; omega
        have hlv := live_split (h.live.perm hl1) (a := (q0 + 1)) (by omega) (by omega)
        obtain ⟨⟨f1, f2⟩, f3⟩ := live_free hlv
        have hGv := Give_ct bs W.σ cs h.sp (first + (q0 + 1)) (nb - (q0 + 1)) f1 f2 f3
        refine R.call (hct := hR) (h := ?_)
        rintro _ _ ⟨ca', α', rfl, hA', hgs, hro, rfl⟩
        try dsimp only [List.cons_append, List.nil_append]
        repeat (first | apply G.seq | apply Dn.next | refine G.condPT (ht := ?_) | refine G.draw (id := 9) [] (h := ?_) | refine G.draw (id := 10) [] (h := ?_) | refine R.enter0 (h := ?_) | refine R.nil (h := ?_) | refine R.move (h := ?_) | refine R.nilCheck (h := ?_) | refine R.fieldAddr (h := ?_) | refine R.load1 (h := ?_) | refine R.lss (h := ?_) | refine R.addw (h := ?_) | refine R.subw (h := ?_))
        refine R.call (hct := hGv) (h := ?_)
        rintro _ _ ⟨cs', σ', rfl, hS', e1, e3, e4, e5, rfl⟩
        try dsimp only [List.cons_append, List.nil_append]
        repeat (first | apply G.seq | refine G.plain (h := ?_) | apply G.skip | apply G.ret | apply Dn.next | refine G.condPF (ht := ?_) | refine R.enter0 (h := ?_) | refine R.nil (h := ?_) | refine R.move (h := ?_) | refine R.assign (h := ?_) | refine R.nilCheck (h := ?_) | refine R.fieldAddr (h := ?_) | refine R.load1 (h := ?_) | refine R.loadN (h := ?_) | refine R.store1 (h := ?_) | refine R.storeN (h := ?_) | refine R.eql (h := ?_))
        (refine Dn.post (Hr := [[(bw, row [pv bd, pv ba, pv bs] 68)], cd2, ca', cs', [(bx, row [pv bw, .int .i64 ((first : Nat) : Int), .int .i64 (((q0 + 1) : Nat) : Int), .int .i64 (k : Int), .int .i64 (ps.length : Int), .int .i64 (bound : Int), pv g.bb, .int .i64 ((0 : Nat) : Int), .int .i64 (((q0 + 1) : Nat) : Int), .bool true] 110)], [(g.br, row (wcells buf) 117)]]) Tryz.results37 (hR := ?_); left)
        exact ⟨cd2, ca', cs', ⟨(W.δ.wrote (first + q0) (sealW W.δ.size ((first + q0 : Nat) : Int) (k : Int) (buf.take n0))), α', σ', ((first, (q0 + 1)) :: Lv)⟩, ⟨first, (q0 + 1), k, ps.length⟩, 0, rfl, rfl, ⟨hd2, hA', hS', h.nn.trans e1.symm, live_give hlv e1 e3 e4⟩, ⟨rfl, e1, ⟨Nat.le_succ _, Nat.le_refl _⟩, hless, hro, (by show _ ≤ big σ'.free + 0; omega)⟩, (by rw [hnb, hq0, Nat.add_sub_cancel_left]; rfl), hgs, (by rw [if_neg (by dsimp only; omega)]; rfl), rfl, rfl, hnb.symm, hlast, (fun x hx => by simp only [Dv.wrote, dkSet]; rw [if_neg (by omega)])⟩
      · unfold wrCells wrow at *
        refine Ct.intro Tryz.func37 rfl Tryz.ntmps37 (nle rfl) fun w0 => ?_; dsimp only [argSlots, Nat.reduceAdd]
        repeat (first | apply G.seq | refine G.plain (h := ?_) | apply G.skip | refine G.condF (h := ?_) | apply Dn.next | refine G.condPT (ht := ?_) | refine R.enter0 (h := ?_) | refine R.nil (h := ?_) | refine R.enterT (h := ?_) | refine R.move (h := ?_) | refine R.assign (h := ?_) | refine R.nilCheck (h := ?_) | refine R.fieldAddr (h := ?_) | refine R.load1 (h := ?_) | (refine R.alloc (h := ?_); intro _) | refine R.pickF (h := ?_) | refine R.gtr (h := ?_) | refine R.eqlNil (h := ?_))
        refine R.call (hct := hFo) (h := ?_)
        rintro _ _ ⟨rfl, cd2, ca2, rfl, hp2, hd2⟩
        try dsimp only [List.cons_append, List.nil_append]
        unfold wrow wrCells
        repeat (first | apply G.seq | refine G.plain (h := ?_) | apply G.skip | apply Dn.next | refine G.condPF (ht := ?_) | refine G.draw (id := 8) [] (h := ?_) | refine R.enter0 (h := ?_) | refine R.nil (h := ?_) | refine R.move (h := ?_) | refine R.assign (h := ?_) | refine R.nilCheck (h := ?_) | refine R.fieldAddr (h := ?_) | refine R.load1 (h := ?_) | refine R.store1 (h := ?_) | refine R.neq (h := ?_))
        have hR := aRelease ba W.α ca2 (h.ar.perm hp2) g Gs hg
        refine R.call (hct := hR) (h := ?_)
        rintro _ _ ⟨ca', α', rfl, hA', hgs, hro, rfl⟩
        try dsimp only [List.cons_append, List.nil_append]
        repeat (first | apply G.seq | refine G.plain (h := ?_) | apply G.skip | apply G.ret | apply Dn.next | refine G.condPF (ht := ?_) | refine G.draw (id := 9) [] (h := ?_) | refine R.enter0 (h := ?_) | refine R.nil (h := ?_) | refine R.move (h := ?_) | refine R.assign (h := ?_) | refine R.nilCheck (h := ?_) | refine R.fieldAddr (h := ?_) | refine R.load1 (h := ?_) | refine R.loadN (h := ?_) | refine R.store1 (h := ?_) | refine R.storeN (h := ?_) | refine R.lss (h := ?_) | refine R.eql (h := ?_))
        (refine Dn.post (Hr := [[(bw, row [pv bd, pv ba, pv bs] 68)], cd2, ca', cs, [(bx, row [pv bw, .int .i64 ((first : Nat) : Int), .int .i64 (((q0 + 1) : Nat) : Int), .int .i64 (k : Int), .int .i64 (ps.length : Int), .int .i64 (bound : Int), pv g.bb, .int .i64 ((0 : Nat) : Int), .int .i64 (((q0 + 1) : Nat) : Int), .bool true] 110)], [(g.br, row (wcells buf) 117)]]) Tryz.results37 (hR := ?_); left)
        exact ⟨cd2, ca', cs, ⟨(W.δ.wrote (first + q0) (sealW W.δ.size ((first + q0 : Nat) : Int) (k : Int) (buf.take n0))), α', W.σ, ((first, (q0 + 1)) :: Lv)⟩, ⟨first, (q0 + 1), k, ps.length⟩, 0, rfl, rfl, ⟨hd2, hA', h.sp, h.nn, (by rw [show (q0 + 1) = nb by omega]; exact h.live.perm hl1)⟩, ⟨rfl, rfl, ⟨Nat.le_succ _, Nat.le_refl _⟩, hless, hro, Nat.le_refl _⟩, (by rw [hnb, hq0, Nat.add_sub_cancel_left]; rfl), hgs, (by rw [if_neg (by dsimp only; omega)]; rfl), rfl, rfl, hnb.symm, hlast, (fun x hx => by simp only [Dv.wrote, dkSet]; rw [if_neg (by omega)])⟩
end Go.Proofs.YtdkihpjnidhnmaaGreat
namespace Go.Proofs.YtdkihpjnidhnmaaGreat
open Go.SL Go.Spc Go.Tup
/-- a reader's cells -/
def rdCells (bw : Nat) (f : Fl) (bb n at_ block count : Nat) (closed : Bool) : List Value :=
  [pv bw, .int .i64 (f.first : Int), .int .i64 (f.blocks : Int), .int .i64 (f.width : Int), .int .i64 (f.count : Int), pv bb, .int .i64 (n : Int), .int .i64 (at_ : Int), .int .i64 (block : Int), .int .i64 (count : Int), .bool closed]
theorem Read_room (bw bd ba bs : Nat) (W : Wk) (cd ca cs : Chunk) (h : Wc bd ba bs W cd ca cs) (f : Fl) (h1 : 1 ≤ f.width) (h2 : f.width ≤ 5) (hc : f.count ≤ 100000000) (hb : f.blocks = nblocks W.δ.size f.width f.count) (hr : W.α.room - W.α.used < W.δ.size) :
    CtQ Tryz.prog 38 [pv bw, flv f] [wrow bw bd ba bs, cd, ca, cs] (.tuple #[.pointer none, .int .i64 7]) := by
  have hH := Holds_ct bw bd ba bs W.δ cd h.dev f.width h1 h2
  have hB := blocks_ct bw bd ba bs W.δ cd h.dev f.width f.count h1 h2 hc
  obtain ⟨hs, _⟩ := h.dev.num
  have hp := holds_pos hs.1 h1 h2
  have hS := Size_ct bd W.δ cd h.dev
  have hn := h.ar.num
  have hF := aFull ba W.α ca h.ar (W.δ.size : Int) (by omega) (by omega)
  rw [← hb] at hB
  generalize holds W.δ.size f.width = hk at *
  unfold wrow at hH hB ⊢
  unfold flv
  refine Ct.intro Tryz.func38 rfl Tryz.ntmps38 (nle rfl) fun w0 => ?_; dsimp only [argSlots, Nat.reduceAdd]
  repeat (first | apply G.seq | refine G.plain (h := ?_) | apply G.skip | apply G.ret | apply Dn.next | apply Dn.retThen | refine G.condPT (ht := ?_) | refine G.condPF (ht := ?_) | refine G.draw (id := 1) [(3, .quiet), (23, .quiet)] (h := ?_) | refine G.draw (id := 3) [(8, .quiet), (9, .quiet)] (h := ?_) | refine R.enter0 (h := ?_) | refine R.nil (h := ?_) | refine R.enterT (h := ?_) | refine R.splitF (ht := ?_) | refine R.move (h := ?_) | refine R.assign (h := ?_) | refine R.nilCheck (h := ?_) | refine R.fieldAddr (h := ?_) | refine R.load1 (h := ?_) | (refine R.box (h := ?_); intro _) | refine R.extract (h := ?_) | refine R.pickF (h := ?_) | refine R.lss (h := ?_) | refine R.gtr (h := ?_) | refine R.eql (h := ?_) | refine R.neq (h := ?_) | refine R.callQ (hct := by apply hH <;> (first | omega | assumption)) (h := ?_) | refine R.callQ (hct := by apply hS <;> (first | omega | assumption)) (h := ?_) | refine R.callQ (hct := by apply hB <;> (first | omega | assumption)) (h := ?_) | refine R.callQ (hct := by apply hF <;> (first | omega | assumption)) (h := ?_))
  (refine Dn.post (Hr := [[(bw, row [pv bd, pv ba, pv bs] 68)], cd, ca, cs]) Tryz.results38 (hR := ?_); exact ⟨rfl, rfl⟩)
theorem Read_arg (bw bd ba bs : Nat) (W : Wk) (cd ca cs : Chunk) (h : Wc bd ba bs W cd ca cs) (f : Fl) (h1 : 1 ≤ f.width) (h2 : f.width ≤ 5) (hc : f.count ≤ 100000000) (hb : f.blocks ≠ nblocks W.δ.size f.width f.count) :
    CtQ Tryz.prog 38 [pv bw, flv f] [wrow bw bd ba bs, cd, ca, cs] (.tuple #[.pointer none, .int .i64 1]) := by
  have hH := Holds_ct bw bd ba bs W.δ cd h.dev f.width h1 h2
  have hB := blocks_ct bw bd ba bs W.δ cd h.dev f.width f.count h1 h2 hc
  obtain ⟨hs, _⟩ := h.dev.num
  have hp := holds_pos hs.1 h1 h2
  generalize nblocks W.δ.size f.width f.count = nb at *
  generalize holds W.δ.size f.width = hk at *
  unfold wrow at hH hB ⊢
  unfold flv
  refine Ct.intro Tryz.func38 rfl Tryz.ntmps38 (nle rfl) fun w0 => ?_; dsimp only [argSlots, Nat.reduceAdd]
  repeat (first | apply G.seq | refine G.plain (h := ?_) | apply G.ret | apply Dn.next | apply Dn.retThen | refine G.condPT (ht := ?_) | refine G.draw (id := 1) [(3, .quiet), (23, .quiet)] (h := ?_) | refine R.enter0 (h := ?_) | refine R.nil (h := ?_) | refine R.enterT (h := ?_) | refine R.splitF (ht := ?_) | refine R.move (h := ?_) | refine R.assign (h := ?_) | refine R.fieldAddr (h := ?_) | refine R.load1 (h := ?_) | (refine R.box (h := ?_); intro _) | refine R.pickF (h := ?_) | refine R.lss (h := ?_) | refine R.gtr (h := ?_) | refine R.eql (h := ?_) | refine R.neq (h := ?_) | refine R.callQ (hct := by apply hH <;> (first | omega | assumption)) (h := ?_) | refine R.callQ (hct := by apply hB <;> (first | omega | assumption)) (h := ?_))
  (refine Dn.post (Hr := [[(bw, row [pv bd, pv ba, pv bs] 68)], cd, ca, cs]) Tryz.results38 (hR := ?_); exact ⟨rfl, rfl⟩)
/-- what is left when a reader was made -/
def RdMade (bw bd ba bs : Nat) (W : Wk) (f : Fl) (cd cs : Chunk) (v : Value) (H' : Hp) : Prop :=
  ∃ (bx : Nat) (g : Gr) (ca : Chunk) (α' : Ar), v = .tuple #[pv bx, .int .i64 0] ∧
    H' = [wrow bw bd ba bs, cd, ca, cs, [(bx, row (rdCells bw f g.bb 0 0 0 0 false) 123)], [(g.br, row (wcells (List.replicate W.δ.size 0)) 117)]] ∧
    IsAr ba α' ca ∧ g.n = W.δ.size ∧ α'.gs.Perm (g :: W.α.gs) ∧ α'.room = W.α.room
theorem Read_make (bw bd ba bs : Nat) (W : Wk) (cd ca cs : Chunk) (h : Wc bd ba bs W cd ca cs) (f : Fl) (h1 : 1 ≤ f.width) (h2 : f.width ≤ 5) (hc : f.count ≤ 100000000) (hb : f.blocks = nblocks W.δ.size f.width f.count) (hr : W.δ.size ≤ W.α.room - W.α.used) :
    Ct Tryz.prog 38 [pv bw, flv f] [wrow bw bd ba bs, cd, ca, cs] (RdMade bw bd ba bs W f cd cs) := by
  have hH := Holds_ct bw bd ba bs W.δ cd h.dev f.width h1 h2
  have hB := blocks_ct bw bd ba bs W.δ cd h.dev f.width f.count h1 h2 hc
  obtain ⟨hs, _⟩ := h.dev.num
  have hp := holds_pos hs.1 h1 h2
  have hS := Size_ct bd W.δ cd h.dev
  have hn := h.ar.num
  have hG := aGrant ba W.α ca h.ar W.δ.size (by omega)
  rw [← hb] at hB
  generalize holds W.δ.size f.width = hk at *
  unfold wrow at hH hB ⊢
  unfold flv
  refine Ct.intro Tryz.func38 rfl Tryz.ntmps38 (nle rfl) fun w0 => ?_; dsimp only [argSlots, Nat.reduceAdd]
  repeat (first | apply G.seq | refine G.plain (h := ?_) | apply G.skip | apply Dn.next | refine G.condPF (ht := ?_) | refine G.draw (id := 1) [(3, .quiet), (23, .quiet)] (h := ?_) | refine G.draw (id := 3) [(8, .quiet)] (h := ?_) | refine R.enter0 (h := ?_) | refine R.nil (h := ?_) | refine R.enterT (h := ?_) | refine R.splitF (ht := ?_) | refine R.move (h := ?_) | refine R.assign (h := ?_) | refine R.nilCheck (h := ?_) | refine R.fieldAddr (h := ?_) | refine R.load1 (h := ?_) | (refine R.box (h := ?_); intro _) | refine R.pickF (h := ?_) | refine R.lss (h := ?_) | refine R.gtr (h := ?_) | refine R.eql (h := ?_) | refine R.neq (h := ?_) | refine R.callQ (hct := by apply hH <;> (first | omega | assumption)) (h := ?_) | refine R.callQ (hct := by apply hS <;> (first | omega | assumption)) (h := ?_) | refine R.callQ (hct := by apply hB <;> (first | omega | assumption)) (h := ?_))
  refine R.call (hct := hG) (h := ?_)
  rintro _ _ ⟨g, ca', α', hgn, rfl, hA', hgs, hro, rfl⟩
  try dsimp only [List.cons_append, List.nil_append]
  repeat (first | apply G.seq | refine G.plain (h := ?_) | apply G.skip | apply G.ret | apply Dn.next | refine G.condPF (ht := ?_) | refine R.enter0 (h := ?_) | refine R.nil (h := ?_) | refine R.move (h := ?_) | refine R.assign (h := ?_) | refine R.loadN (h := ?_) | (refine R.box (h := ?_); intro _) | refine R.extract (h := ?_) | refine R.neq (h := ?_) | refine R.build (h := ?_))
  rename_i bx
  (refine Dn.post (Hr := [[(bw, row [pv bd, pv ba, pv bs] 68)], cd, ca', cs, [(bx, row (rdCells bw f g.bb 0 0 0 0 false) 123)], [(g.br, row (wcells (List.replicate W.δ.size 0)) 117)]]) Tryz.results38 (hR := ?_);
    exact ⟨bx, g, ca', α', rfl, rfl, hA', hgn, hgs, hro⟩)
theorem RClose_nil : CtQ Tryz.prog 39 [.pointer none] [] (.tuple #[]) := by
  refine Ct.intro Tryz.func39 rfl Tryz.ntmps39 (nle rfl) fun w0 => ?_; dsimp only [argSlots, Nat.reduceAdd]
  repeat (first | apply G.seq | refine G.plain (h := ?_) | apply G.skip | refine G.condF (h := ?_) | apply Dn.next | refine R.enter0 (h := ?_) | refine R.nil (h := ?_) | refine R.skip (h := ?_) | refine R.move (h := ?_) | refine R.pickF (h := ?_) | refine R.neqNil (h := ?_))
  (refine Dn.postEnd (Hr := []) Tryz.results39 (hR := ?_); exact ⟨rfl, rfl⟩)
theorem RClose_closedB (bw : Nat) (f : Fl) (bb n a kb pos bx : Nat) : Cb Tryz.prog 39 [pv bx] [[(bx, row (rdCells bw f bb n a kb pos true) 123)]] (fun v' H' => v' = .tuple #[] ∧ H' = [[(bx, row (rdCells bw f bb n a kb pos true) 123)]]) := by
  unfold rdCells
  refine Cb.intro Tryz.func39 rfl Tryz.ntmps39 (nle rfl) fun w0 => ?_; dsimp only [argSlots, Nat.reduceAdd]
  repeat (first | apply G.seq | refine G.plain (h := ?_) | apply G.skip | refine G.condF (h := ?_) | apply Dn.next | refine R.enter0 (h := ?_) | refine R.nil (h := ?_) | refine R.enterT (h := ?_) | refine R.move (h := ?_) | refine R.nilCheck (h := ?_) | refine R.fieldAddr (h := ?_) | refine R.load1 (h := ?_) | refine R.pickT (h := ?_) | refine R.not (h := ?_) | refine R.neqNil (h := ?_))
  (refine Dn.postEnd (Hr := [[(bx, row [pv bw, .int .i64 (f.first : Int), .int .i64 (f.blocks : Int), .int .i64 (f.width : Int), .int .i64 (f.count : Int), pv bb, .int .i64 (n : Int), .int .i64 (a : Int), .int .i64 (kb : Int), .int .i64 (pos : Int), .bool true] 123)]]) Tryz.results39 (hR := ?_); exact ⟨rfl, rfl⟩)
theorem RClose_closed (bw : Nat) (f : Fl) (bb n a kb pos bx : Nat) : CtQ Tryz.prog 39 [pv bx] [[(bx, row (rdCells bw f bb n a kb pos true) 123)]] (.tuple #[]) := (RClose_closedB bw f bb n a kb pos bx).1
theorem RClose_cb (bw bd ba bs : Nat) (α : Ar) (ca : Chunk) (h : IsAr ba α ca) (f : Fl) (n a kb pos bx : Nat) (g : Gr) (Gs : List Gr) (hg : α.gs.Perm (g :: Gs)) :
    Cb Tryz.prog 39 [pv bx] [wrow bw bd ba bs, ca, [(bx, row (rdCells bw f g.bb n a kb pos false) 123)]] fun v H' =>
      ∃ (ca' : Chunk) (α' : Ar), v = .tuple #[] ∧ IsAr ba α' ca' ∧ α'.gs.Perm Gs ∧ α'.room = α.room ∧ H' = [wrow bw bd ba bs, ca', [(bx, row (rdCells bw f g.bb n a kb pos true) 123)]] := by
  have hR := aRelease ba α ca h g Gs hg
  unfold rdCells wrow
  refine Cb.intro Tryz.func39 rfl Tryz.ntmps39 (nle rfl) fun w0 => ?_; dsimp only [argSlots, Nat.reduceAdd]
  repeat (first | apply G.seq | refine G.plain (h := ?_) | refine G.condT (h := ?_) | apply Dn.next | refine G.draw (id := 2) [] (h := ?_) | refine R.enter0 (h := ?_) | refine R.nil (h := ?_) | refine R.enterT (h := ?_) | refine R.move (h := ?_) | refine R.nilCheck (h := ?_) | refine R.fieldAddr (h := ?_) | refine R.load1 (h := ?_) | refine R.store1 (h := ?_) | refine R.pickT (h := ?_) | refine R.not (h := ?_) | refine R.neqNil (h := ?_))
  refine R.call (hct := hR) (h := ?_)
  rintro _ _ ⟨ca', α', rfl, hA', hgs, hro, rfl⟩
  try dsimp only [List.cons_append, List.nil_append]
  repeat (first | refine R.nil (h := ?_))
  (refine Dn.postEnd (Hr := [[(bw, row [pv bd, pv ba, pv bs] 68)], ca', [(bx, row [pv bw, .int .i64 (f.first : Int), .int .i64 (f.blocks : Int), .int .i64 (f.width : Int), .int .i64 (f.count : Int), pv g.bb, .int .i64 (n : Int), .int .i64 (a : Int), .int .i64 (kb : Int), .int .i64 (pos : Int), .bool true] 123)]]) Tryz.results39 (hR := ?_);
    exact ⟨ca', α', rfl, hA', hgs, hro, rfl⟩)
theorem RClose_ct (bw bd ba bs : Nat) (α : Ar) (ca : Chunk) (h : IsAr ba α ca) (f : Fl) (n a kb pos bx : Nat) (g : Gr) (Gs : List Gr) (hg : α.gs.Perm (g :: Gs)) :
    Ct Tryz.prog 39 [pv bx] [wrow bw bd ba bs, ca, [(bx, row (rdCells bw f g.bb n a kb pos false) 123)]] fun v H' =>
      ∃ (ca' : Chunk) (α' : Ar), v = .tuple #[] ∧ IsAr ba α' ca' ∧ α'.gs.Perm Gs ∧ α'.room = α.room ∧ H' = [wrow bw bd ba bs, ca', [(bx, row (rdCells bw f g.bb n a kb pos true) 123)]] := (RClose_cb bw bd ba bs α ca h f n a kb pos bx g Gs hg).1
set_option maxHeartbeats 2000000 in
theorem load_ok (bw bd ba bs : Nat) (δ : Dv) (cd c1 : Chunk) (h : IsDev bd δ cd) (bx : Nat) (f : Fl) (n a kb pos : Nat) (g : Gr) (hgn : g.n = δ.size) (buf pw : List Int) (hbl : buf.length = δ.size) (m : Nat) (hm : m = min (f.count - pos) (holds δ.size f.width)) (hm1 : 1 ≤ m)
    (hw1 : 1 ≤ f.width) (hw5 : f.width ≤ 5) (hpos : pos ≤ f.count) (hcnt : f.count ≤ 100000000) (hpl : pw.length = m * f.width) (hb : f.first + kb < δ.blocks) (hdk : δ.disk (f.first + kb) = some (sealW δ.size ((f.first + kb : Nat) : Int) (f.width : Int) pw)) (hf : δ.fault ≠ 0) (hac : δ.acts ≤ 1000000000000) :
    Ct Tryz.prog 67 [pv bx] [wrow bw bd ba bs, cd, c1, [g.obj], [(bx, row (rdCells bw f g.bb n a kb pos false) 123)], [(g.br, row (wcells buf) 117)]] fun v H' =>
      ∃ cd', v = .int .i64 0 ∧ IsDev bd δ.acted cd' ∧ H' = [wrow bw bd ba bs, cd', c1, [g.obj], [(bx, row (rdCells bw f g.bb (m * f.width) 0 (kb + 1) pos false) 123)], [(g.br, row (wcells (bput buf 0 pw)) 117)]] := by
  obtain ⟨⟨hs1, hs2⟩, hbk, hfr⟩ := h.num
  have hp := holds_pos hs1 hw1 hw5
  have hmul : m * f.width ≤ δ.size - 2 := by
    have h1 : m * f.width ≤ holds δ.size f.width * f.width := Nat.mul_le_mul_right _ (by omega)
    exact Nat.le_trans h1 holds_mul
  have hmw : 1 ≤ m * f.width := Nat.mul_pos hm1 hw1
  have hRd := Read_ok bd δ cd h (f.first + kb) hb hf hac _ hdk
  have hGet := fun bl cap rest hcap => Get_ct δ.size (f.first + kb) f.width pw bl cap rest 117 ⟨hs1, hs2⟩ hcap (by omega) (m * f.width) hpl.symm hmw hmul
  have hsl : (sealW δ.size ((f.first + kb : Nat) : Int) (f.width : Int) pw).length = δ.size := sealW_length _ _ _ _ (by omega)
  have hadd : IntKind.wrap .i64 ((f.first : Int) + (kb : Int)) = ((f.first + kb : Nat) : Int) := by rw [← Int.natCast_add]; exact wrap_i64 (by omega)
  have hh256 : holds δ.size f.width ≤ 256 := Nat.le_trans (Nat.div_le_self _ _) (by omega)
  have hmin : (min ((f.count : Int) - (pos : Int)) ((holds δ.size f.width : Nat) : Int)) = (m : Int) := by omega
  have hwant : IntKind.wrap .i64 ((min ((f.count : Int) - (pos : Int)) ((holds δ.size f.width : Nat) : Int)) * (f.width : Int)) = ((m * f.width : Nat) : Int) := by
    rw [hmin, ← Int.natCast_mul]; exact wrap_i64 (by omega)
  have hcp : Nat.min (m * f.width) δ.size = m * f.width := Nat.min_eq_left (by omega)
  have hsetL : setL (wcells buf) 0 (wcells pw) = wcells (bput buf 0 pw) := by
    rw [setL_eq _ _ _ (by simp [hbl]; omega)]
    simp [bput, wcells, List.map_drop]
  have hpa := wcells_all pw
  have hpwl : (wcells pw).length = m * f.width := by rw [wcells_length, hpl]
  have hlt : 0 + m * f.width ≤ (wcells buf).length := by rw [wcells_length, hbl]; omega
  have hobj : ([g.obj] : Chunk) = [(g.bb, row [.slice (some ⟨g.br, 0, none⟩) δ.size δ.size] 120)] := by unfold Gr.obj; rw [hgn]
  rw [hobj]
  generalize sealW δ.size ((f.first + kb : Nat) : Int) (f.width : Int) pw = sw at *
  unfold rdCells wrow
  refine Ct.intro Tryz.func67 rfl Tryz.ntmps67 (nle rfl) fun w0 => ?_; dsimp only [argSlots, Nat.reduceAdd]
  repeat (first | apply G.seq | refine G.plain (h := ?_) | apply Dn.next | refine G.draw (id := 1) [] (h := ?_) | refine R.enter0 (h := ?_) | refine R.nil (h := ?_) | refine R.move (h := ?_) | refine R.assign (h := ?_) | refine R.nilCheck (h := ?_) | refine R.fieldAddr (h := ?_) | refine R.load1 (h := ?_) | refine R.addw (h := ?_))
  refine R.call (hct := hRd) (h := ?_)
  rintro _ _ ⟨cd', p, cap', c2, rfl, hV, hD', rfl⟩
  try dsimp only [List.cons_append, List.nil_append]
  obtain ⟨_, h0 | ⟨bl, rest, rfl, rfl, hrl, hmc, hcm⟩⟩ := hV
  · omega
  have hH : CtQ Tryz.prog 55 [pv bw, .int .i64 (f.width : Int)] [[(bw, row [pv bd, pv ba, pv bs] 68)], cd'] (.int .i64 ((holds δ.size f.width : Nat) : Int)) := Holds_ct bw bd ba bs δ.acted cd' hD' f.width hw1 hw5
  repeat (first | apply G.seq | refine G.plain (h := ?_) | apply G.skip | apply Dn.next | refine G.condPF (ht := ?_) | refine G.draw (id := 4) [] (h := ?_) | refine R.enter0 (h := ?_) | refine R.nil (h := ?_) | refine R.move (h := ?_) | refine R.assign (h := ?_) | refine R.nilCheck (h := ?_) | refine R.fieldAddr (h := ?_) | refine R.load1 (h := ?_) | refine R.extract (h := ?_) | refine R.neq (h := ?_) | refine R.addw (h := ?_))
  refine R.call (hct := hGet bl cap' rest (by omega)) (h := ?_)
  rintro _ _ ⟨p2, cap2, c3, rfl, hV2, rfl⟩
  try dsimp only [List.cons_append, List.nil_append]
  obtain ⟨_, h0 | ⟨b2, rest2, rfl, rfl, hrl2, hmc2, hcm2⟩⟩ := hV2
  · omega
  have hdp : ((wcells pw ++ rest2).drop 0).take (m * f.width) = wcells pw := take_at0 hpwl
  repeat (first | apply G.seq | refine G.plain (h := ?_) | apply G.skip | apply G.ret | apply Dn.next | refine G.condPF (ht := ?_) | refine G.draw (id := 5) [(19, .quiet)] (h := ?_) | refine R.enter0 (h := ?_) | refine R.nil (h := ?_) | refine R.enterT (h := ?_) | refine R.splitF (ht := ?_) | refine R.move (h := ?_) | refine R.assign (h := ?_) | refine R.nilCheck (h := ?_) | refine R.fieldAddr (h := ?_) | refine R.load1 (h := ?_) | refine R.store1 (h := ?_) | refine R.extract (h := ?_) | refine R.pickF (h := ?_) | refine R.neq (h := ?_) | refine R.min (h := ?_) | refine R.addw (h := ?_) | refine R.subw (h := ?_) | refine R.mulw (h := ?_) | refine R.convert (h := ?_) | refine R.len (h := ?_) | refine R.copy (h := ?_) | refine R.callQ (hct := by apply hH <;> (first | omega | assumption)) (h := ?_))
  (refine Dn.post (Hr := [[(bw, row [pv bd, pv ba, pv bs] 68)], cd', c1, [(g.bb, row [.slice (some ⟨g.br, 0, none⟩) δ.size δ.size] 120)], [(bx, row [pv bw, .int .i64 (f.first : Int), .int .i64 (f.blocks : Int), .int .i64 (f.width : Int), .int .i64 (f.count : Int), pv g.bb, .int .i64 ((m * f.width : Nat) : Int), .int .i64 ((0 : Nat) : Int), .int .i64 ((kb + 1 : Nat) : Int), .int .i64 (pos : Int), .bool false] 123)], [(g.br, row (wcells (bput buf 0 pw)) 117)]]) Tryz.results67 (hR := ?_);
    exact ⟨cd', rfl, hD', rfl⟩)
end Go.Proofs.YtdkihpjnidhnmaaGreat
namespace Go.Proofs.YtdkihpjnidhnmaaGreat
open Go.SL Go.Spc Go.Tup
/-- a reader that has told pos tuples, kb blocks loaded, a words gone of the n in its buffer -/
structure RdB (size k count kb : Nat) (ts : List T5) (pos : Nat) (buf : List Int) (n a : Nat) : Prop where
  posc : pos ≤ count
  tsl : ts.length = count
  na : a + (min count (kb * holds size k) - pos) * k = n
  ns : n ≤ size - 2
  bl : buf.length = size
  bw : (buf.drop a).take ((min count (kb * holds size k) - pos) * k) = words k ((ts.drop pos).take (min count (kb * holds size k) - pos))
/-- between two calls -/
def RdOk (size k count : Nat) (ts : List T5) (pos : Nat) (buf : List Int) (n a : Nat) : Prop := RdB size k count (nblocks size k pos) ts pos buf n a
theorem nblocks_zero {s k : Nat} (h : 1 ≤ holds s k) : nblocks s k 0 = 0 := by
  unfold nblocks; rw [Nat.zero_add, Nat.div_eq_of_lt (by omega)]
theorem RdOk.start {size k count : Nat} {ts : List T5} (hs : 1 ≤ holds size k) (ht : ts.length = count) : RdOk size k count ts 0 (List.replicate size 0) 0 0 := by
  unfold RdOk
  rw [nblocks_zero hs]
  exact ⟨Nat.zero_le _, ht, by simp, Nat.zero_le _, by simp, by simp⟩
theorem nblocks_in {s k pos : Nat} (hh : 1 ≤ holds s k) (hlt : pos < nblocks s k pos * holds s k) : nblocks s k (pos + 1) = nblocks s k pos := by
  have h1 : nblocks s k pos ≤ nblocks s k (pos + 1) := nblocks_mono (by omega)
  refine Nat.le_antisymm ?_ h1
  generalize nblocks s k pos = q at hlt
  unfold nblocks
  generalize holds s k = h at *
  have h2 : pos + 1 + h - 1 < (q + 1) * h := by rw [Nat.succ_mul]; omega
  have := (Nat.div_lt_iff_lt_mul (by omega)).2 h2
  omega
theorem nblocks_at {s k pos q : Nat} (hh : 1 ≤ holds s k) (he : pos = q * holds s k) : nblocks s k (pos + 1) = q + 1 := by
  unfold nblocks
  generalize holds s k = h at *
  have : pos + 1 + h - 1 = (q + 1) * h := by rw [Nat.succ_mul]; omega
  rw [this, Nat.mul_div_cancel _ (by omega)]
theorem nblocks_ge {s k pos : Nat} (hh : 1 ≤ holds s k) : pos ≤ nblocks s k pos * holds s k := by
  unfold nblocks
  generalize holds s k = h at *
  have e := Nat.div_add_mod (pos + h - 1) h
  have h2 := Nat.mod_lt (pos + h - 1) (show 0 < h by omega)
  rw [Nat.mul_comm] at e
  omega
theorem RdB.get {size k count kb : Nat} {ts : List T5} {pos : Nat} {buf : List Int} {n a : Nat} (h : RdB size k count kb ts pos buf n a) (hk : k ≤ 5) (hlt : pos < min count (kb * holds size k)) {t : T5} (ht : ts[pos]? = some t) (i : Nat) (hi : i < k) : buf[a + i]? = some (wd (t.col i)) := by
  have hm : i < (min count (kb * holds size k) - pos) * k := Nat.lt_of_lt_of_le hi (Nat.le_mul_of_pos_left k (by omega))
  have h1 := congrArg (·[i]?) h.bw
  simp only [List.getElem?_take, hm, if_true, List.getElem?_drop] at h1
  rw [h1]
  have hlen : pos < ts.length := (List.getElem?_eq_some_iff.1 ht).1
  have e : ts.drop pos = t :: ts.drop (pos + 1) := by rw [List.drop_eq_getElem_cons hlen, (List.getElem?_eq_some_iff.1 ht).2]
  obtain ⟨q, hq⟩ : ∃ q, min count (kb * holds size k) - pos = q + 1 := ⟨min count (kb * holds size k) - pos - 1, by omega⟩
  rw [e, hq, List.take_succ_cons]
  simp only [words, List.flatMap_cons]
  rw [List.getElem?_append_left (by rw [tw_length t hk]; exact hi)]
  exact tw_get t k i hi hk
theorem RdB.step {size k count kb : Nat} {ts : List T5} {pos : Nat} {buf : List Int} {n a : Nat} (h : RdB size k count kb ts pos buf n a) (hk : k ≤ 5) (hlt : pos < min count (kb * holds size k)) : RdB size k count kb ts (pos + 1) buf n (a + k) := by
  obtain ⟨q, hq⟩ : ∃ q, min count (kb * holds size k) - pos = q + 1 := ⟨min count (kb * holds size k) - pos - 1, by omega⟩
  have hq2 : min count (kb * holds size k) - (pos + 1) = q := by omega
  refine ⟨by omega, h.tsl, ?_, h.ns, h.bl, ?_⟩
  · rw [hq2]; have := h.na; rw [hq, Nat.succ_mul] at this; omega
  · rw [hq2]
    have h1 := h.bw
    rw [hq] at h1
    have hlen : pos < ts.length := by have := h.tsl; omega
    have e : ts.drop pos = ts[pos] :: ts.drop (pos + 1) := List.drop_eq_getElem_cons hlen
    rw [e, List.take_succ_cons] at h1
    simp only [words, List.flatMap_cons] at h1 ⊢
    have h2 := congrArg (List.drop k) h1
    rw [List.drop_left' (tw_length _ hk), List.drop_take, List.drop_drop] at h2
    rw [← h2, Nat.succ_mul, Nat.add_sub_cancel]
theorem RdB.load {size k count kb : Nat} {ts : List T5} {pos : Nat} {buf : List Int} {n a m : Nat} (h : RdB size k count kb ts pos buf n a) (hk : k ≤ 5) (he : pos = kb * holds size k) (hm : m = min (count - pos) (holds size k)) :
    RdB size k count (kb + 1) ts pos (bput buf 0 (words k ((ts.drop (kb * holds size k)).take (holds size k)))) (m * k) 0 ∧ (words k ((ts.drop (kb * holds size k)).take (holds size k))).length = m * k := by
  have hl : ((ts.drop (kb * holds size k)).take (holds size k)).length = m := by rw [List.length_take, List.length_drop, h.tsl, ← he, hm, Nat.min_comm]
  have hwl : (words k ((ts.drop (kb * holds size k)).take (holds size k))).length = m * k := by rw [words_length hk, hl]
  have hmk : m * k ≤ size - 2 := Nat.le_trans (Nat.mul_le_mul_right _ (by omega)) holds_mul
  have hmm : min count ((kb + 1) * holds size k) - pos = m := by rw [Nat.succ_mul]; have := h.posc; omega
  refine ⟨⟨h.posc, h.tsl, by rw [hmm]; omega, hmk, by rw [bput_length (by rw [hwl, h.bl]; omega), h.bl], ?_⟩, hwl⟩
  rw [hmm]
  unfold bput
  rw [List.take_zero, List.nil_append, List.drop_zero, List.take_append_of_le_length (by omega), List.take_of_length_le (by omega), he]
  congr 1
  rw [List.take_eq_take_iff]
  simp only [List.length_drop, h.tsl]
  omega
theorem load_fault (bw bd ba bs : Nat) (δ : Dv) (cd : Chunk) (h : IsDev bd δ cd) (bx : Nat) (f : Fl) (n a kb pos bb : Nat) (hb : f.first + kb < δ.blocks) (hf : δ.fault = 0) :
    Ct Tryz.prog 67 [pv bx] [wrow bw bd ba bs, cd, [(bx, row (rdCells bw f bb n a kb pos false) 123)]] fun v H' =>
      ∃ cd', v = .int .i64 6 ∧ IsDev bd δ.failed cd' ∧ H' = [wrow bw bd ba bs, cd', [(bx, row (rdCells bw f bb n a kb pos false) 123)]] := by
  obtain ⟨⟨hs1, hs2⟩, hbk, hfr⟩ := h.num
  have hRd := Read_fault bd δ cd h (f.first + kb) hb hf
  have hadd : IntKind.wrap .i64 ((f.first : Int) + (kb : Int)) = ((f.first + kb : Nat) : Int) := by rw [← Int.natCast_add]; exact wrap_i64 (by omega)
  unfold rdCells wrow
  refine Ct.intro Tryz.func67 rfl Tryz.ntmps67 (nle rfl) fun w0 => ?_; dsimp only [argSlots, Nat.reduceAdd]
  repeat (first | apply G.seq | refine G.plain (h := ?_) | apply Dn.next | refine G.draw (id := 1) [] (h := ?_) | refine R.enter0 (h := ?_) | refine R.nil (h := ?_) | refine R.move (h := ?_) | refine R.assign (h := ?_) | refine R.nilCheck (h := ?_) | refine R.fieldAddr (h := ?_) | refine R.load1 (h := ?_) | refine R.addw (h := ?_))
  refine R.call (hct := hRd) (h := ?_)
  rintro _ _ ⟨cd', rfl, hD', rfl⟩
  try dsimp only [List.cons_append, List.nil_append]
  repeat (first | apply G.seq | refine G.plain (h := ?_) | apply G.ret | apply Dn.next | apply Dn.retThen | refine G.condPT (ht := ?_) | refine R.enter0 (h := ?_) | refine R.nil (h := ?_) | refine R.move (h := ?_) | refine R.assign (h := ?_) | refine R.extract (h := ?_) | refine R.neq (h := ?_))
  (refine Dn.post (Hr := [[(bw, row [pv bd, pv ba, pv bs] 68)], cd', [(bx, row [pv bw, .int .i64 (f.first : Int), .int .i64 (f.blocks : Int), .int .i64 (f.width : Int), .int .i64 (f.count : Int), pv bb, .int .i64 (n : Int), .int .i64 (a : Int), .int .i64 (kb : Int), .int .i64 (pos : Int), .bool false] 123)]]) Tryz.results67 (hR := ?_);
    exact ⟨cd', rfl, hD', rfl⟩)
def T5.zero : T5 := ⟨0, 0, 0, 0, 0⟩
theorem Next_end (bw bx : Nat) (f : Fl) (bb n a kb : Nat) : CtQ Tryz.prog 46 [pv bx] [[(bx, row (rdCells bw f bb n a kb f.count false) 123)]] (.tuple #[tv T5.zero, .bool false, .int .i64 0]) := by
  unfold rdCells
  refine Ct.intro Tryz.func46 rfl Tryz.ntmps46 (nle rfl) fun w0 => ?_; dsimp only [argSlots, Nat.reduceAdd]
  repeat (first | apply G.seq | refine G.plain (h := ?_) | apply G.block | apply G.ret | refine G.condF (h := ?_) | apply Dn.next | apply Dn.retThen | apply Dn.retBlock | refine G.condPT (ht := ?_) | refine G.draw (id := 4) [] (h := ?_) | refine R.enter0 (h := ?_) | refine R.nil (h := ?_) | refine R.enterT (h := ?_) | refine R.move (h := ?_) | refine R.assign (h := ?_) | refine R.nilCheck (h := ?_) | refine R.fieldAddr (h := ?_) | refine R.load1 (h := ?_) | refine R.loadN (h := ?_) | refine R.storeN (h := ?_) | (refine R.alloc (h := ?_); intro _) | refine R.pickF (h := ?_) | refine R.eql (h := ?_) | refine R.eqlNil (h := ?_))
  (refine Dn.post (Hr := [[(bx, row [pv bw, .int .i64 (f.first : Int), .int .i64 (f.blocks : Int), .int .i64 (f.width : Int), .int .i64 (f.count : Int), pv bb, .int .i64 (n : Int), .int .i64 (a : Int), .int .i64 (kb : Int), .int .i64 (f.count : Int), .bool false] 123)]]) Tryz.results46 (hR := ?_); exact ⟨rfl, rfl⟩)
/-- a tuple of which i columns are there -/
def tpart (t : T5) (i : Nat) : List Value := (tcells t).take i ++ List.replicate (5 - i) (.int .i64 0)
theorem tpart_set (t : T5) (i : Nat) (h : i < 5) : (tpart t i).set i (.int .i64 (t.col i)) = tpart t (i + 1) := by
  match i, h with
  | 0, _ => rfl
  | 1, _ => rfl
  | 2, _ => rfl
  | 3, _ => rfl
  | 4, _ => rfl
theorem tpart_all (t : T5) (k : Nat) (h : k ≤ 5) (ht : okT k t) : tpart t k = tcells t := by
  obtain ⟨_, h2⟩ := ht
  match k, h, h2 with
  | 0, _, h2 =>
    have := h2 0 (by omega); have := h2 1 (by omega); have := h2 2 (by omega); have := h2 3 (by omega); have := h2 4 (by omega)
    simp_all [tpart, tcells, T5.col]
  | 1, _, h2 =>
    have := h2 1 (by omega); have := h2 2 (by omega); have := h2 3 (by omega); have := h2 4 (by omega)
    simp_all [tpart, tcells, T5.col]
  | 2, _, h2 =>
    have := h2 2 (by omega); have := h2 3 (by omega); have := h2 4 (by omega)
    simp_all [tpart, tcells, T5.col]
  | 3, _, h2 =>
    have := h2 3 (by omega); have := h2 4 (by omega)
    simp_all [tpart, tcells, T5.col]
  | 4, _, h2 =>
    have := h2 4 (by omega)
    simp_all [tpart, tcells, T5.col]
  | 5, _, _ => rfl
theorem tpart_zero (t : T5) : tpart t 0 = [.int .i64 0, .int .i64 0, .int .i64 0, .int .i64 0, .int .i64 0] := rfl
theorem tpart_length (t : T5) (i : Nat) (h : i ≤ 5) : (tpart t i).length = 5 := by simp [tpart, tcells]; omega
end Go.Proofs.YtdkihpjnidhnmaaGreat
namespace Go.Proofs.YtdkihpjnidhnmaaGreat
open Go.SL Go.Spc Go.Tup
theorem okT_col {k : Nat} {t : T5} (h : okT k t) (i : Nat) (hi : i < 5) : inI64 (t.col i) := by
  obtain ⟨h1, _⟩ := h
  apply h1
  match i, hi with
  | 0, _ => simp [T5.toList, T5.col]
  | 1, _ => simp [T5.toList, T5.col]
  | 2, _ => simp [T5.toList, T5.col]
  | 3, _ => simp [T5.toList, T5.col]
  | 4, _ => simp [T5.toList, T5.col]
/-- what is left when a tuple was told -/
def NextOk (bw bd ba bs bx : Nat) (W : Wk) (ca cs : Chunk) (f : Fl) (ts : List T5) (g : Gr) (pos : Nat) (t : T5) (v : Value) (H' : Hp) : Prop :=
  ∃ (cd ca' : Chunk) (δ' : Dv) (buf' : List Int) (n a : Nat), v = .tuple #[tv t, .bool true, .int .i64 0] ∧
    H' = [wrow bw bd ba bs, cd, ca', cs, [(bx, row (rdCells bw f g.bb n a (nblocks W.δ.size f.width (pos + 1)) (pos + 1) false) 123)], [(g.br, row (wcells buf') 117)]] ∧ ca'.Perm ca ∧
    IsDev bd δ' cd ∧ δ'.size = W.δ.size ∧ δ'.blocks = W.δ.blocks ∧ (W.δ.fault = -1 → δ'.fault = -1) ∧ δ'.acts = W.δ.acts + (nblocks W.δ.size f.width (pos + 1) - nblocks W.δ.size f.width pos) ∧ δ'.disk = W.δ.disk ∧
    RdOk W.δ.size f.width f.count ts (pos + 1) buf' n a
/-- what is left when it failed -/
def NextNo (bw bd ba bs bx : Nat) (W : Wk) (Gs : List Gr) (cs : Chunk) (f : Fl) (g : Gr) (cb : Chunk) (v : Value) (H' : Hp) : Prop :=
  v = .tuple #[tv T5.zero, .bool false, .int .i64 6] ∧ W.δ.fault = 0 ∧ ∃ (cd ca : Chunk) (α' : Ar) (n a kb pos : Nat), H' = [wrow bw bd ba bs, cd, ca, cs, [(bx, row (rdCells bw f g.bb n a kb pos true) 123)], cb] ∧
    IsDev bd W.δ.failed cd ∧ IsAr ba α' ca ∧ α'.gs.Perm Gs ∧ α'.room = W.α.room
set_option maxHeartbeats 4000000 in
theorem Next_walk (bw bd ba bs : Nat) (W : Wk) (cd ca cs : Chunk) (h : Wc bd ba bs W cd ca cs) (bx : Nat) (f : Fl) (ts : List T5) (Lv : List Ext) (hfo : FileOk W.δ.disk W.δ.size Lv f ts) (hsub : ∀ e ∈ Lv, e ∈ W.live) (g : Gr) (Gs : List Gr) (hg : W.α.gs.Perm (g :: Gs)) (hgn : g.n = W.δ.size)
    (pos n a : Nat) (buf : List Int) (ho : RdOk W.δ.size f.width f.count ts pos buf n a) (hlt : pos < f.count) (t : T5) (ht : ts[pos]? = some t) (hac : W.δ.acts ≤ 1000000000000) :
    Ct Tryz.prog 46 [pv bx] [wrow bw bd ba bs, cd, ca, cs, [(bx, row (rdCells bw f g.bb n a (nblocks W.δ.size f.width pos) pos false) 123)], [(g.br, row (wcells buf) 117)]] fun v H' =>
      NextOk bw bd ba bs bx W ca cs f ts g pos t v H' ∨ NextNo bw bd ba bs bx W Gs cs f g [(g.br, row (wcells buf) 117)] v H' := by
  obtain ⟨⟨hs1, hs2⟩, hbk, hfr⟩ := h.dev.num
  obtain ⟨c1, hc1⟩ := h.ar.open_ (hg.mem_iff.2 List.mem_cons_self)
  have hk1 := hfo.w1
  have hk5 := hfo.w2
  have hcnt := hfo.cnt
  have hp := holds_pos hs1 hk1 hk5
  have hobj : ([g.obj] : Chunk) = [(g.bb, row [.slice (some ⟨g.br, 0, none⟩) W.δ.size W.δ.size] 120)] := by unfold Gr.obj; rw [hgn]
  have hokt : okT f.width t := hfo.fit t (List.mem_of_getElem? ht)
  have hge := nblocks_ge (s := W.δ.size) (k := f.width) (pos := pos) hp
  have hless : W.δ.fault = -1 → less W.δ.fault = -1 := fun e => by unfold less; rw [e]; rfl
  have hblk : f.first + nblocks W.δ.size f.width pos < W.δ.blocks ∨ f.blocks ≤ nblocks W.δ.size f.width pos := by
    by_cases hb : f.blocks ≤ nblocks W.δ.size f.width pos
    · exact .inr hb
    · have := h.live.fit _ (hsub _ (hfo.live (by omega)))
      simp only [Fl.ext] at this
      left; rw [h.nn]; omega
  -- the walk from a full buffer on
  have hback : ∀ i, i < f.width → IntKind.wrap .i64 (wd (t.col i)) = t.col i := fun i hi => wrap_back (okT_col hokt i (by omega))
  generalize hkb : nblocks W.δ.size f.width pos = kb at *
  have hpres : (([wrow bw bd ba bs, cd, ca, cs, [(bx, row (rdCells bw f g.bb n a kb pos false) 123)], [(g.br, row (wcells buf) 117)]] : Hp).flatten).Perm
      (([wrow bw bd ba bs, cd, c1, [g.obj], cs, [(bx, row (rdCells bw f g.bb n a kb pos false) 123)], [(g.br, row (wcells buf) 117)]] : Hp).flatten) := by
    simp only [List.flatten_cons, List.flatten_nil, List.append_nil, List.append_assoc]
    refine List.Perm.append_left _ (List.Perm.append_left _ ?_)
    rw [← List.append_assoc c1]
    exact List.Perm.append_right _ hc1
  unfold RdOk at ho
  rw [hkb] at ho
  have htz := tpart_zero t
  have htp := tpart_length t
  have htset := tpart_set t
  have htall := tpart_all t f.width hk5 hokt
  by_cases hfull : pos < min f.count (kb * holds W.δ.size f.width)
  · -- there are tuples in the buffer
    have hstep := ho.step hk5 hfull
    have hget := ho.get hk5 hfull ht
    have hna := ho.na
    have hns := ho.ns
    have hbl := ho.bl
    have hmk : f.width ≤ (min f.count (kb * holds W.δ.size f.width) - pos) * f.width := Nat.le_mul_of_pos_left _ (by omega)
    have hnb1 : nblocks W.δ.size f.width (pos + 1) = kb := by rw [← hkb]; exact nblocks_in hp (by rw [hkb]; omega)
    refine Ct.convP (H2 := [wrow bw bd ba bs, cd, c1, [g.obj], cs, [(bx, row (rdCells bw f g.bb n a kb pos false) 123)], [(g.br, row (wcells buf) 117)]])
      (R2 := fun v H' => v = .tuple #[tv t, .bool true, .int .i64 0] ∧ H' = [wrow bw bd ba bs, cd, c1, [g.obj], cs, [(bx, row (rdCells bw f g.bb n (a + f.width) kb (pos + 1) false) 123)], [(g.br, row (wcells buf) 117)]]) ?_ hpres ?_
    · rw [hobj]
      unfold rdCells wrow
      have hne : ¬ ((a : Int) = (n : Int)) := by omega
      refine Ct.intro Tryz.func46 rfl Tryz.ntmps46 (nle rfl) fun w0 => ?_; dsimp only [argSlots, Nat.reduceAdd]
      repeat (first | apply G.seq | refine G.plain (h := ?_) | apply G.block | apply G.skip | refine G.condF (h := ?_) | apply Dn.next | apply Dn.blockEnd | refine G.condPF (ht := ?_) | refine G.draw (id := 4) [] (h := ?_) | refine G.draw (id := 6) [] (h := ?_) | refine R.enter0 (h := ?_) | refine R.nil (h := ?_) | refine R.enterT (h := ?_) | refine R.move (h := ?_) | refine R.assign (h := ?_) | refine R.nilCheck (h := ?_) | refine R.fieldAddr (h := ?_) | refine R.load1 (h := ?_) | (refine R.alloc (h := ?_); intro _) | refine R.pickF (h := ?_) | refine R.eql (h := ?_) | refine R.eqlNil (h := ?_))
      rename_i b2 b5
      refine G.loop (X := Nat) (fun i => i ≤ f.width) (fun i => [(52, .int .i64 (i : Int)), (51, .int .i64 (f.width : Int)), (0, pv bx), (5, .pointer (some ⟨b5, 0, none⟩)), (2, .pointer (some ⟨b2, 0, none⟩))])
        (fun i => [[(b2, row (tpart t 0) 47)], [(b5, row (tpart t i) 47)], [(bw, row [pv bd, pv ba, pv bs] 68)], cd, c1, [(g.bb, row [.slice (some ⟨g.br, 0, none⟩) W.δ.size W.δ.size] 120)], cs,
          [(bx, row [pv bw, .int .i64 (f.first : Int), .int .i64 (f.blocks : Int), .int .i64 (f.width : Int), .int .i64 (f.count : Int), pv g.bb, .int .i64 ((n : Nat) : Int), .int .i64 ((a : Nat) : Int), .int .i64 ((kb : Nat) : Int), .int .i64 (pos : Int), .bool false] 123)], [(g.br, row (wcells buf) 117)]])
        (fun i => f.width - i) 0 (by omega) (body := ?_)
      intro i hi
      by_cases hik : i < f.width
      · have hgi : (wcells buf)[a + i]? = some (.int .u64 (wd (t.col i))) := by
          unfold wcells; rw [List.getElem?_map, hget i hik]; rfl
        have hbi := hback i hik
        have hti := htset i (by omega)
        have htl := htp i (by omega)
        have hai : (((a : Nat) : Int) + (i : Int)).toNat = a + i := by omega
        repeat (first | apply G.seq | refine G.plain (h := ?_) | apply G.block | apply G.skip | apply Dn.next | apply Dn.blockEnd | refine G.condPT (ht := ?_) | refine G.draw (id := 14) [] (h := ?_) | refine R.enter0 (h := ?_) | refine R.nil (h := ?_) | refine R.move (h := ?_) | refine R.assign (h := ?_) | refine R.nilCheck (h := ?_) | refine R.fieldAddr (h := ?_) | refine R.load1 (h := ?_) | refine R.store1 (h := ?_) | refine R.lss (h := ?_) | refine R.addw (h := ?_) | refine R.convert (h := ?_) | refine R.indexAddr (h := ?_) | refine R.indexAddrA (h := ?_))
        exact Dn.round (i + 1) (by omega) (by omega)
      · have hki : f.width = i := by omega
        subst hki
        rw [htall, htz]
        unfold tcells
        repeat (first | apply G.seq | refine G.plain (h := ?_) | apply G.exit | apply G.ret | apply Dn.next | apply Dn.exitHere | apply Dn.exitThen | refine G.condPF (ht := ?_) | refine G.draw (id := 16) [] (h := ?_) | refine R.enter0 (h := ?_) | refine R.nil (h := ?_) | refine R.move (h := ?_) | refine R.assign (h := ?_) | refine R.nilCheck (h := ?_) | refine R.fieldAddr (h := ?_) | refine R.load1 (h := ?_) | refine R.loadN (h := ?_) | refine R.store1 (h := ?_) | refine R.storeN (h := ?_) | refine R.lss (h := ?_) | refine R.addw (h := ?_))
        (refine Dn.post (Hr := [[(bw, row [pv bd, pv ba, pv bs] 68)], cd, c1, [(g.bb, row [.slice (some ⟨g.br, 0, none⟩) W.δ.size W.δ.size] 120)], cs, [(bx, row [pv bw, .int .i64 (f.first : Int), .int .i64 (f.blocks : Int), .int .i64 (f.width : Int), .int .i64 (f.count : Int), pv g.bb, .int .i64 ((n : Nat) : Int), .int .i64 ((a + f.width : Nat) : Int), .int .i64 ((kb : Nat) : Int), .int .i64 ((pos + 1 : Nat) : Int), .bool false] 123)], [(g.br, row (wcells buf) 117)]]) Tryz.results46 (hR := ?_);
          exact ⟨rfl, rfl⟩)
    · rintro v H' ⟨rfl, rfl⟩
      refine ⟨_, .inl ⟨cd, c1 ++ [g.obj], W.δ, buf, n, a + f.width, rfl, rfl, hc1.symm, h.dev, rfl, rfl, id, ?_, rfl, ?_⟩, ?_⟩
      · rw [hnb1, hkb]; omega
      · unfold RdOk; rw [hnb1]; exact hstep
      · rw [hnb1]; simp
  · have hposk : pos = kb * holds W.δ.size f.width := by omega
    have hkbb : kb < f.blocks := by
      have h1 : nblocks W.δ.size f.width (pos + 1) = kb + 1 := nblocks_at hp hposk
      have h2 := nblocks_mono (s := W.δ.size) (k := f.width) (show pos + 1 ≤ f.count by omega)
      rw [hfo.blk]; omega
    have hbx : f.first + kb < W.δ.blocks := by omega
    have hdk := hfo.onto kb hkbb
    have hnb1 : nblocks W.δ.size f.width (pos + 1) = kb + 1 := nblocks_at hp hposk
    have hna : a = n := by
      have := ho.na
      rw [show min f.count (kb * holds W.δ.size f.width) - pos = 0 by omega] at this
      omega
    subst hna
    obtain ⟨m, hm⟩ : ∃ m, m = min (f.count - pos) (holds W.δ.size f.width) := ⟨_, rfl⟩
    obtain ⟨hmid, hpl⟩ := ho.load hk5 hposk hm
    by_cases hf : W.δ.fault = 0
    · have hLf := load_fault bw bd ba bs W.δ cd h.dev bx f a a kb pos g.bb hbx hf
      have hRc := RClose_ct bw bd ba bs W.α ca h.ar f a a kb pos bx g Gs hg
      refine Ct.mono (R := fun v H' => NextNo bw bd ba bs bx W Gs cs f g [(g.br, row (wcells buf) 117)] v H') ?_ (fun _ _ h => .inr h)
      unfold rdCells wrow at *
      refine Ct.intro Tryz.func46 rfl Tryz.ntmps46 (nle rfl) fun w0 => ?_; dsimp only [argSlots, Nat.reduceAdd]
      repeat (first | apply G.seq | refine G.plain (h := ?_) | apply G.block | apply G.skip | refine G.condF (h := ?_) | apply Dn.next | apply Dn.blockEnd | refine G.condPT (ht := ?_) | refine G.condPF (ht := ?_) | refine G.draw (id := 4) [] (h := ?_) | refine G.draw (id := 6) [] (h := ?_) | refine R.enter0 (h := ?_) | refine R.nil (h := ?_) | refine R.enterT (h := ?_) | refine R.move (h := ?_) | refine R.assign (h := ?_) | refine R.nilCheck (h := ?_) | refine R.fieldAddr (h := ?_) | refine R.load1 (h := ?_) | (refine R.alloc (h := ?_); intro _) | refine R.pickF (h := ?_) | refine R.eql (h := ?_) | refine R.eqlNil (h := ?_))
      refine R.call (hct := hLf) (h := ?_)
      rintro _ _ ⟨cd', rfl, hD', rfl⟩
      try dsimp only [List.cons_append, List.nil_append]
      repeat (first | apply G.seq | refine G.plain (h := ?_) | apply Dn.next | refine G.condPT (ht := ?_) | refine R.enter0 (h := ?_) | refine R.nil (h := ?_) | refine R.move (h := ?_) | refine R.assign (h := ?_) | refine R.neq (h := ?_))
      refine R.call (hct := hRc) (h := ?_)
      rintro _ _ ⟨ca', α', rfl, hA', hgs, hro, rfl⟩
      try dsimp only [List.cons_append, List.nil_append]
      repeat (first | apply G.seq | refine G.plain (h := ?_) | apply G.ret | apply Dn.next | apply Dn.retThen | refine R.enter0 (h := ?_) | refine R.nil (h := ?_) | refine R.move (h := ?_) | refine R.assign (h := ?_) | refine R.loadN (h := ?_) | refine R.storeN (h := ?_))
      (refine Dn.post (Hr := [[(bw, row [pv bd, pv ba, pv bs] 68)], cd', ca', cs, [(bx, row [pv bw, .int .i64 (f.first : Int), .int .i64 (f.blocks : Int), .int .i64 (f.width : Int), .int .i64 (f.count : Int), pv g.bb, .int .i64 (a : Int), .int .i64 (a : Int), .int .i64 (kb : Int), .int .i64 (pos : Int), .bool true] 123)], [(g.br, row (wcells buf) 117)]]) Tryz.results46 (hR := ?_);
        exact ⟨rfl, hf, cd', ca', α', a, a, kb, pos, rfl, hD', hA', hgs, hro⟩)
    · have hLo := load_ok bw bd ba bs W.δ cd c1 h.dev bx f a a kb pos g hgn buf _ ho.bl m hm (by omega) hk1 hk5 ho.posc hcnt hpl hbx hdk hf hac
      have hlt2 : pos < min f.count ((kb + 1) * holds W.δ.size f.width) := by rw [Nat.succ_mul]; omega
      generalize hbuf : bput buf 0 (words f.width ((ts.drop (kb * holds W.δ.size f.width)).take (holds W.δ.size f.width))) = buf' at *
      have hstep := hmid.step hk5 hlt2
      have hget := hmid.get hk5 hlt2 ht
      have hns := hmid.ns
      have hbl := hmid.bl
      have hmk : f.width ≤ m * f.width := Nat.le_mul_of_pos_left _ (by omega)
      refine Ct.convP (H2 := [wrow bw bd ba bs, cd, c1, [g.obj], cs, [(bx, row (rdCells bw f g.bb a a kb pos false) 123)], [(g.br, row (wcells buf) 117)]])
        (R2 := fun v H' => v = .tuple #[tv t, .bool true, .int .i64 0] ∧ ∃ cd', IsDev bd W.δ.acted cd' ∧ H' = [wrow bw bd ba bs, cd', c1, [g.obj], cs, [(bx, row (rdCells bw f g.bb (m * f.width) (0 + f.width) (kb + 1) (pos + 1) false) 123)], [(g.br, row (wcells buf') 117)]]) ?_ hpres ?_
      · rw [hobj] at *
        unfold rdCells wrow at *
        refine Ct.intro Tryz.func46 rfl Tryz.ntmps46 (nle rfl) fun w0 => ?_; dsimp only [argSlots, Nat.reduceAdd]
        repeat (first | apply G.seq | refine G.plain (h := ?_) | apply G.block | apply G.skip | refine G.condF (h := ?_) | apply Dn.next | apply Dn.blockEnd | refine G.condPT (ht := ?_) | refine G.condPF (ht := ?_) | refine G.draw (id := 4) [] (h := ?_) | refine G.draw (id := 6) [] (h := ?_) | refine R.enter0 (h := ?_) | refine R.nil (h := ?_) | refine R.enterT (h := ?_) | refine R.move (h := ?_) | refine R.assign (h := ?_) | refine R.nilCheck (h := ?_) | refine R.fieldAddr (h := ?_) | refine R.load1 (h := ?_) | (refine R.alloc (h := ?_); intro _) | refine R.pickF (h := ?_) | refine R.eql (h := ?_) | refine R.eqlNil (h := ?_))
        refine R.call (hct := hLo) (h := ?_)
        rintro _ _ ⟨cd', rfl, hD', rfl⟩
        try dsimp only [List.cons_append, List.nil_append]
        repeat (first | apply G.seq | refine G.plain (h := ?_) | apply G.block | apply G.skip | apply Dn.next | refine G.condPF (ht := ?_) | refine R.enter0 (h := ?_) | refine R.nil (h := ?_) | refine R.move (h := ?_) | refine R.assign (h := ?_) | refine R.nilCheck (h := ?_) | refine R.fieldAddr (h := ?_) | refine R.load1 (h := ?_) | refine R.neq (h := ?_))
        rename_i b2 b5
        refine G.loop (X := Nat) (fun i => i ≤ f.width) (fun i => [(52, .int .i64 (i : Int)), (51, .int .i64 (f.width : Int)), (0, pv bx), (5, .pointer (some ⟨b5, 0, none⟩)), (2, .pointer (some ⟨b2, 0, none⟩))])
          (fun i => [[(b2, row (tpart t 0) 47)], [(b5, row (tpart t i) 47)], [(bw, row [pv bd, pv ba, pv bs] 68)], cd', c1, [(g.bb, row [.slice (some ⟨g.br, 0, none⟩) W.δ.size W.δ.size] 120)], cs,
            [(bx, row [pv bw, .int .i64 (f.first : Int), .int .i64 (f.blocks : Int), .int .i64 (f.width : Int), .int .i64 (f.count : Int), pv g.bb, .int .i64 ((m * f.width : Nat) : Int), .int .i64 ((0 : Nat) : Int), .int .i64 ((kb + 1 : Nat) : Int), .int .i64 (pos : Int), .bool false] 123)], [(g.br, row (wcells buf') 117)]])
          (fun i => f.width - i) 0 (by omega) (body := ?_)
        intro i hi
        by_cases hik : i < f.width
        · have hgi : (wcells buf')[0 + i]? = some (.int .u64 (wd (t.col i))) := by
            unfold wcells; rw [List.getElem?_map, hget i hik]; rfl
          have hbi := hback i hik
          have hti := htset i (by omega)
          have htl := htp i (by omega)
          have hai : (((0 : Nat) : Int) + (i : Int)).toNat = 0 + i := by omega
          repeat (first | apply G.seq | refine G.plain (h := ?_) | apply G.block | apply G.skip | apply Dn.next | apply Dn.blockEnd | refine G.condPT (ht := ?_) | refine G.draw (id := 14) [] (h := ?_) | refine R.enter0 (h := ?_) | refine R.nil (h := ?_) | refine R.move (h := ?_) | refine R.assign (h := ?_) | refine R.nilCheck (h := ?_) | refine R.fieldAddr (h := ?_) | refine R.load1 (h := ?_) | refine R.store1 (h := ?_) | refine R.lss (h := ?_) | refine R.addw (h := ?_) | refine R.convert (h := ?_) | refine R.indexAddr (h := ?_) | refine R.indexAddrA (h := ?_))
          exact Dn.round (i + 1) (by omega) (by omega)
        · have hki : f.width = i := by omega
          subst hki
          rw [htall, htz]
          unfold tcells
          repeat (first | apply G.seq | refine G.plain (h := ?_) | apply G.exit | apply G.ret | apply Dn.next | apply Dn.exitHere | apply Dn.exitThen | refine G.condPF (ht := ?_) | refine G.draw (id := 16) [] (h := ?_) | refine R.enter0 (h := ?_) | refine R.nil (h := ?_) | refine R.move (h := ?_) | refine R.assign (h := ?_) | refine R.nilCheck (h := ?_) | refine R.fieldAddr (h := ?_) | refine R.load1 (h := ?_) | refine R.loadN (h := ?_) | refine R.store1 (h := ?_) | refine R.storeN (h := ?_) | refine R.lss (h := ?_) | refine R.addw (h := ?_))
          (refine Dn.post (Hr := [[(bw, row [pv bd, pv ba, pv bs] 68)], cd', c1, [(g.bb, row [.slice (some ⟨g.br, 0, none⟩) W.δ.size W.δ.size] 120)], cs, [(bx, row [pv bw, .int .i64 (f.first : Int), .int .i64 (f.blocks : Int), .int .i64 (f.width : Int), .int .i64 (f.count : Int), pv g.bb, .int .i64 ((m * f.width : Nat) : Int), .int .i64 ((0 + f.width : Nat) : Int), .int .i64 ((kb + 1 : Nat) : Int), .int .i64 ((pos + 1 : Nat) : Int), .bool false] 123)], [(g.br, row (wcells buf') 117)]]) Tryz.results46 (hR := ?_);
            exact ⟨rfl, cd', hD', rfl⟩)
      · rintro v H' ⟨rfl, cd', hD', rfl⟩
        refine ⟨_, .inl ⟨cd', c1 ++ [g.obj], W.δ.acted, buf', m * f.width, 0 + f.width, rfl, rfl, hc1.symm, hD', rfl, rfl, hless, ?_, rfl, ?_⟩, ?_⟩
        · rw [hnb1, hkb, Nat.add_sub_cancel_left]; rfl
        · unfold RdOk; rw [hnb1]; exact hstep
        · rw [hnb1]; simp
end Go.Proofs.YtdkihpjnidhnmaaGreat
namespace Go.Proofs.YtdkihpjnidhnmaaGreat
open Go.SL Go.Spc Go.Tup
def IsWr (bw bx : Nat) (W : Wk) (first nb k bound : Nat) (g : Gr) (ps : List T5) (cx cb : Chunk) : Prop :=
  g.n = W.δ.size ∧ ∃ buf, cx = [(bx, row (wrCells bw first nb k ps.length bound g.bb ((ps.length % holds W.δ.size k) * k) (ps.length / holds W.δ.size k) false) 110)] ∧ cb = [(g.br, row (wcells buf) 117)] ∧
    WrOk W.δ.disk W.δ.size k nb bound first ps buf
def ClosedWr (bx : Nat) (cx : Chunk) : Prop := ∃ bw first nb k cnt bound bb n a, cx = [(bx, row (wrCells bw first nb k cnt bound bb n a true) 110)]
def IsRd (bw bx : Nat) (W : Wk) (f : Fl) (ts : List T5) (g : Gr) (pos : Nat) (cx cb : Chunk) : Prop :=
  g.n = W.δ.size ∧ ∃ buf n a, cx = [(bx, row (rdCells bw f g.bb n a (nblocks W.δ.size f.width pos) pos false) 123)] ∧ cb = [(g.br, row (wcells buf) 117)] ∧ RdOk W.δ.size f.width f.count ts pos buf n a
def ClosedRd (bx : Nat) (cx : Chunk) : Prop := ∃ bw f bb n a kb pos, cx = [(bx, row (rdCells bw f bb n a kb pos true) 123)]
/-- blocks that stay -/
def Keep (Lv : List Ext) (W W' : Wk) : Prop := ∀ x, inF Lv x → W'.δ.disk x = W.δ.disk x
theorem Keep.refl (Lv : List Ext) (W : Wk) : Keep Lv W W := fun _ _ => rfl
theorem Keep.trans {Lv : List Ext} {W W1 W2 : Wk} (h : Keep Lv W W1) (h2 : Keep Lv W1 W2) : Keep Lv W W2 := fun x hx => (h2 x hx).trans (h x hx)
theorem Keep.sub {Lv Lv' : List Ext} {W W1 : Wk} (h : Keep Lv W W1) (hs : ∀ e ∈ Lv', e ∈ Lv) : Keep Lv' W W1 := fun x ⟨e, he, h2⟩ => h x ⟨e, hs e he, h2⟩
theorem keep_out {σ : Sp} {live Lv : List Ext} {first nb : Nat} (hv : Live σ live) (hl : LvOf first nb Lv live) {d d' : Nat → Option (List Int)} (h : ∀ x, ¬ (first ≤ x ∧ x < first + nb) → d' x = d x) : ∀ x, inF Lv x → d' x = d x := by
  intro x hx
  apply h
  rintro ⟨h1, h2⟩
  unfold LvOf at hl
  by_cases h0 : nb = 0
  · omega
  · rw [if_neg h0] at hl
    exact (hv.perm hl).other (e := (first, nb)) h1 h2 hx
theorem IsRd.move {bw bx : Nat} {W W' : Wk} {f : Fl} {ts : List T5} {g : Gr} {pos : Nat} {cx cb : Chunk} (h : IsRd bw bx W f ts g pos cx cb) (hs : W'.δ.size = W.δ.size) : IsRd bw bx W' f ts g pos cx cb := by
  unfold IsRd at *
  rw [hs]; exact h
theorem IsWr.move {bw bx : Nat} {W W' : Wk} {first nb k bound : Nat} {g : Gr} {ps : List T5} {cx cb : Chunk} (h : IsWr bw bx W first nb k bound g ps cx cb) (hs : W'.δ.size = W.δ.size) (hd : ∀ x, first ≤ x → x < first + nb → W'.δ.disk x = W.δ.disk x) : IsWr bw bx W' first nb k bound g ps cx cb := by
  unfold IsWr at *
  rw [hs]
  obtain ⟨h1, buf, h2, h3, h4⟩ := h
  refine ⟨h1, buf, h2, h3, { h4 with onto := fun j hj => ?_ }⟩
  rw [← h4.onto j hj, hd]
  · omega
  · have hq : ps.length / holds W.δ.size k ≤ nb := by
      rw [h4.nbe]
      refine Nat.le_trans ?_ (nblocks_mono h4.cnt)
      unfold nblocks
      by_cases hh : holds W.δ.size k = 0
      · rw [hh]; simp
      · exact Nat.div_le_div_right (by omega)
    omega
/-- how a work stands beside what a call left -/
def Wst (bw bd ba bs : Nat) (W : Wk) (k m : Nat) (W' : Wk) (cd ca cs : Chunk) : Prop := Wc bd ba bs W' cd ca cs ∧ Ev W W' k m
theorem Put_u (bw bd ba bs : Nat) (W : Wk) (cd ca cs : Chunk) (h : Wc bd ba bs W cd ca cs) (bx first nb k bound : Nat) (g : Gr) (ps : List T5) (cx cb : Chunk) (hw : IsWr bw bx W first nb k bound g ps cx cb) (Gs : List Gr) (hg : W.α.gs.Perm (g :: Gs))
    (Lv : List Ext) (hl : LvOf first nb Lv W.live) (hlt : ps.length < bound) (t : T5) (ht : okT k t) (hac : W.δ.acts ≤ 1000000000000) :
    Ct Tryz.prog 35 [pv bx, tv t] [wrow bw bd ba bs, cd, ca, cs, cx, cb] fun v H' =>
      ∃ cd' ca' cs' W' cx' cb', H' = [wrow bw bd ba bs, cd', ca', cs', cx', cb'] ∧ Wc bd ba bs W' cd' ca' cs' ∧ Ev W W' ((ps.length + 1) / holds W.δ.size k - ps.length / holds W.δ.size k) 0 ∧ Keep Lv W W' ∧
        ((v = .int .i64 0 ∧ W'.α = W.α ∧ W'.σ = W.σ ∧ W'.live = W.live ∧ IsWr bw bx W' first nb k bound g (ps ++ [t]) cx' cb') ∨
         (v = .int .i64 6 ∧ W.δ.fault = 0 ∧ W'.δ = W.δ.failed ∧ W'.α.gs.Perm Gs ∧ W'.live.Perm Lv ∧ ClosedWr bx cx')) := by
  obtain ⟨hgn, buf, rfl, rfl, ho⟩ := hw
  refine (Put_walk bw bd ba bs W cd ca cs h bx first nb k bound g Gs hg hgn Lv hl ps buf ho hlt t ht hac).mono ?_
  rintro v H' (⟨rfl, cd', ca', δ', buf', rfl, hp, hd, e1, e2, e3, e4, e5, e6⟩ | ⟨rfl, hf, cb', cd', ca', cs', W', cnt, n, a, rfl, hW, hE, e1, e2, e3⟩)
  · refine ⟨cd', ca', cs, { W with δ := δ' }, _, _, rfl, ⟨hd, h.ar.perm hp, h.sp, e2.trans h.nn, h.live⟩, ⟨e1, rfl, ⟨by rw [e4]; exact Nat.le_add_right _ _, by rw [e4]; exact Nat.le_refl _⟩, e3, rfl, Nat.le_refl _⟩, keep_out h.live hl e5, .inl ⟨rfl, rfl, rfl, rfl, ?_⟩⟩
    unfold IsWr
    dsimp only
    rw [e1]
    refine ⟨hgn, buf', by simp, rfl, e6⟩
  · exact ⟨cd', ca', cs', W', _, _, rfl, hW, hE.weak (Nat.zero_le _) (Nat.le_refl _), fun x _ => by rw [e1]; rfl, .inr ⟨rfl, hf, e1, e2, e3, _, _, _, _, _, _, _, _, _, rfl⟩⟩
theorem Close_u (bw bd ba bs : Nat) (W : Wk) (cd ca cs : Chunk) (h : Wc bd ba bs W cd ca cs) (bx first nb k bound : Nat) (g : Gr) (ps : List T5) (cx cb : Chunk) (hw : IsWr bw bx W first nb k bound g ps cx cb) (Gs : List Gr) (hg : W.α.gs.Perm (g :: Gs))
    (Lv : List Ext) (hl : LvOf first nb Lv W.live) (hac : W.δ.acts ≤ 1000000000000) :
    Ct Tryz.prog 37 [pv bx] [wrow bw bd ba bs, cd, ca, cs, cx, cb] fun v H' =>
      ∃ cd' ca' cs' W' cx' cb', H' = [wrow bw bd ba bs, cd', ca', cs', cx', cb'] ∧ Wc bd ba bs W' cd' ca' cs' ∧ Ev W W' (nblocks W.δ.size k ps.length - ps.length / holds W.δ.size k) 0 ∧ Keep Lv W W' ∧ W'.α.gs.Perm Gs ∧ ClosedWr bx cx' ∧
        ((∃ f, v = .tuple #[flv f, .int .i64 0] ∧ W'.live = (if f.blocks = 0 then Lv else f.ext :: Lv) ∧ f.width = k ∧ f.count = ps.length ∧ FileOk W'.δ.disk W.δ.size [f.ext] f ps) ∨
         (v = .tuple #[flv ⟨0, 0, 0, 0⟩, .int .i64 6] ∧ W.δ.fault = 0 ∧ W'.δ = W.δ.failed ∧ W'.live.Perm Lv)) := by
  obtain ⟨hgn, buf, rfl, rfl, ho⟩ := hw
  refine (Close_walk bw bd ba bs W cd ca cs h bx first nb k bound g Gs hg hgn Lv hl ps buf ho hac).mono ?_
  rintro v H' (⟨cd', ca', cs', W', f, n, rfl, rfl, hW, hE, e1, e2, e3, e4, e5, e6, e7, e8⟩ | ⟨rfl, hf, cd', ca', cs', W', cnt, n, a, rfl, hW, hE, e1, e2, e3⟩)
  · refine ⟨cd', ca', cs', W', _, _, rfl, hW, { hE with acts := ⟨hE.acts.1, Nat.le_of_eq e1⟩ }, keep_out h.live hl e8, e2, ⟨_, _, _, _, _, _, _, _, _, rfl⟩, .inl ⟨f, rfl, e3, e4, e5, ?_⟩⟩
    refine ⟨by rw [e4]; exact ho.w1, by rw [e4]; exact ho.w2, e5.symm, ?_, by rw [e6, e4, e5], ?_, ?_, fun _ => List.mem_singleton.2 rfl⟩
    · rw [e5]; exact Nat.le_trans ho.cnt ho.hb
    · rw [e4]; exact ho.fit
    · rw [e4]; exact e7
  · exact ⟨cd', ca', cs', W', _, _, rfl, hW, hE.weak (Nat.zero_le _) (Nat.le_refl _), fun x _ => by rw [e1]; rfl, e2, ⟨_, _, _, _, _, _, _, _, _, rfl⟩, .inr ⟨rfl, hf, e1, e3⟩⟩
theorem Drop_uB (bw bd ba bs : Nat) (W : Wk) (cd ca cs : Chunk) (h : Wc bd ba bs W cd ca cs) (bx first nb k bound : Nat) (g : Gr) (ps : List T5) (cx cb : Chunk) (hw : IsWr bw bx W first nb k bound g ps cx cb) (Gs : List Gr) (hg : W.α.gs.Perm (g :: Gs))
    (Lv : List Ext) (hl : LvOf first nb Lv W.live) :
    Cb Tryz.prog 36 [pv bx] [wrow bw bd ba bs, cd, ca, cs, cx, cb] fun v H' =>
      ∃ cd' ca' cs' W' cx' cb', v = .tuple #[] ∧ H' = [wrow bw bd ba bs, cd', ca', cs', cx', cb'] ∧ Wc bd ba bs W' cd' ca' cs' ∧ Ev W W' 0 0 ∧ W'.δ = W.δ ∧ W'.α.gs.Perm Gs ∧ W'.live.Perm Lv ∧ ClosedWr bx cx' := by
  obtain ⟨hgn, buf, rfl, rfl, ho⟩ := hw
  refine (Drop_cb bw bd ba bs W cd ca cs h bx first nb k ps.length bound _ _ g Gs hg Lv hl [(g.br, row (wcells buf) 117)]).mono ?_
  rintro v H' ⟨rfl, cd', ca', cs', W', cnt, n, a, rfl, hW, hE, e1, e2, e3⟩
  exact ⟨cd', ca', cs', W', _, _, rfl, rfl, hW, hE, e1, e2, e3, _, _, _, _, _, _, _, _, _, rfl⟩
theorem Drop_u (bw bd ba bs : Nat) (W : Wk) (cd ca cs : Chunk) (h : Wc bd ba bs W cd ca cs) (bx first nb k bound : Nat) (g : Gr) (ps : List T5) (cx cb : Chunk) (hw : IsWr bw bx W first nb k bound g ps cx cb) (Gs : List Gr) (hg : W.α.gs.Perm (g :: Gs))
    (Lv : List Ext) (hl : LvOf first nb Lv W.live) :
    Ct Tryz.prog 36 [pv bx] [wrow bw bd ba bs, cd, ca, cs, cx, cb] fun v H' =>
      ∃ cd' ca' cs' W' cx' cb', v = .tuple #[] ∧ H' = [wrow bw bd ba bs, cd', ca', cs', cx', cb'] ∧ Wc bd ba bs W' cd' ca' cs' ∧ Ev W W' 0 0 ∧ W'.δ = W.δ ∧ W'.α.gs.Perm Gs ∧ W'.live.Perm Lv ∧ ClosedWr bx cx' := (Drop_uB bw bd ba bs W cd ca cs h bx first nb k bound g ps cx cb hw Gs hg Lv hl).1
theorem Dropped_uB (bx : Nat) (cx : Chunk) (h : ClosedWr bx cx) : Cb Tryz.prog 36 [pv bx] [cx] (fun v' H' => v' = .tuple #[] ∧ H' = [cx]) := by
  obtain ⟨bw, first, nb, k, cnt, bound, bb, n, a, rfl⟩ := h
  exact Drop_closedB bw first nb k cnt bound bb n a bx
theorem Dropped_u (bx : Nat) (cx : Chunk) (h : ClosedWr bx cx) : CtQ Tryz.prog 36 [pv bx] [cx] (.tuple #[]) := (Dropped_uB bx cx h).1
theorem Next_u (bw bd ba bs : Nat) (W : Wk) (cd ca cs : Chunk) (h : Wc bd ba bs W cd ca cs) (bx : Nat) (f : Fl) (ts : List T5) (Lv : List Ext) (hfo : FileOk W.δ.disk W.δ.size Lv f ts) (hsub : ∀ e ∈ Lv, e ∈ W.live) (g : Gr) (Gs : List Gr) (hg : W.α.gs.Perm (g :: Gs))
    (pos : Nat) (cx cb : Chunk) (hr : IsRd bw bx W f ts g pos cx cb) (t : T5) (ht : ts[pos]? = some t) (hac : W.δ.acts ≤ 1000000000000) :
    Ct Tryz.prog 46 [pv bx] [wrow bw bd ba bs, cd, ca, cs, cx, cb] fun v H' =>
      ∃ cd' ca' W' cx' cb', H' = [wrow bw bd ba bs, cd', ca', cs, cx', cb'] ∧ Wc bd ba bs W' cd' ca' cs ∧ Ev W W' (nblocks W.δ.size f.width (pos + 1) - nblocks W.δ.size f.width pos) 0 ∧ W'.δ.disk = W.δ.disk ∧ W'.σ = W.σ ∧ W'.live = W.live ∧
        ((v = .tuple #[tv t, .bool true, .int .i64 0] ∧ W'.α = W.α ∧ IsRd bw bx W' f ts g (pos + 1) cx' cb') ∨
         (v = .tuple #[tv T5.zero, .bool false, .int .i64 6] ∧ W.δ.fault = 0 ∧ W'.δ = W.δ.failed ∧ W'.α.gs.Perm Gs ∧ ClosedRd bx cx')) := by
  obtain ⟨hgn, buf, n, a, rfl, rfl, ho⟩ := hr
  have hlt : pos < f.count := by have := (List.getElem?_eq_some_iff.1 ht).1; have := hfo.len; omega
  refine (Next_walk bw bd ba bs W cd ca cs h bx f ts Lv hfo hsub g Gs hg hgn pos n a buf ho hlt t ht hac).mono ?_
  rintro v H' (⟨cd', ca', δ', buf', n', a', rfl, rfl, hp, hd, e1, e2, e3, e4, e5, e6⟩ | ⟨rfl, hf, cd', ca', α', n', a', kb, pos', rfl, hd, hA, e1, e2⟩)
  · refine ⟨cd', ca', { W with δ := δ' }, _, _, rfl, ⟨hd, h.ar.perm hp, h.sp, e2.trans h.nn, h.live⟩, ⟨e1, rfl, ⟨by rw [e4]; exact Nat.le_add_right _ _, by rw [e4]; exact Nat.le_refl _⟩, e3, rfl, Nat.le_refl _⟩, e5, rfl, rfl, .inl ⟨rfl, rfl, ?_⟩⟩
    unfold IsRd
    dsimp only
    rw [e1]
    exact ⟨hgn, buf', n', a', rfl, rfl, e6⟩
  · exact ⟨cd', ca', { W with δ := W.δ.failed, α := α' }, _, _, rfl, ⟨hd, hA, h.sp, h.nn, h.live⟩, ⟨rfl, rfl, ⟨Nat.le_refl _, Nat.le_add_right _ _⟩, fun _ => rfl, e2, Nat.le_refl _⟩, rfl, rfl, rfl, .inr ⟨rfl, hf, rfl, e1, _, _, _, _, _, _, _, rfl⟩⟩
theorem NextEnd_u (bw bx : Nat) (W : Wk) (f : Fl) (ts : List T5) (g : Gr) (cx cb : Chunk) (hr : IsRd bw bx W f ts g f.count cx cb) :
    CtQ Tryz.prog 46 [pv bx] [cx] (.tuple #[tv T5.zero, .bool false, .int .i64 0]) := by
  obtain ⟨hgn, buf, n, a, rfl, rfl, ho⟩ := hr
  exact Next_end bw bx f g.bb n a _
theorem RClose_uB (bw bd ba bs : Nat) (W : Wk) (cd ca cs : Chunk) (h : Wc bd ba bs W cd ca cs) (bx : Nat) (f : Fl) (ts : List T5) (g : Gr) (Gs : List Gr) (hg : W.α.gs.Perm (g :: Gs)) (pos : Nat) (cx cb : Chunk) (hr : IsRd bw bx W f ts g pos cx cb) :
    Cb Tryz.prog 39 [pv bx] [wrow bw bd ba bs, ca, cx] fun v H' =>
      ∃ ca' α' cx', v = .tuple #[] ∧ H' = [wrow bw bd ba bs, ca', cx'] ∧ Wc bd ba bs { W with α := α' } cd ca' cs ∧ Ev W { W with α := α' } 0 0 ∧ α'.gs.Perm Gs ∧ ClosedRd bx cx' := by
  obtain ⟨hgn, buf, n, a, rfl, rfl, ho⟩ := hr
  refine (RClose_cb bw bd ba bs W.α ca h.ar f n a _ pos bx g Gs hg).mono ?_
  rintro v H' ⟨ca', α', rfl, hA, e1, e2, rfl⟩
  exact ⟨ca', α', _, rfl, rfl, ⟨h.dev, hA, h.sp, h.nn, h.live⟩, ⟨rfl, rfl, ⟨Nat.le_refl _, Nat.le_refl _⟩, id, e2, Nat.le_refl _⟩, e1, _, _, _, _, _, _, _, rfl⟩
theorem RClose_u (bw bd ba bs : Nat) (W : Wk) (cd ca cs : Chunk) (h : Wc bd ba bs W cd ca cs) (bx : Nat) (f : Fl) (ts : List T5) (g : Gr) (Gs : List Gr) (hg : W.α.gs.Perm (g :: Gs)) (pos : Nat) (cx cb : Chunk) (hr : IsRd bw bx W f ts g pos cx cb) :
    Ct Tryz.prog 39 [pv bx] [wrow bw bd ba bs, ca, cx] fun v H' =>
      ∃ ca' α' cx', v = .tuple #[] ∧ H' = [wrow bw bd ba bs, ca', cx'] ∧ Wc bd ba bs { W with α := α' } cd ca' cs ∧ Ev W { W with α := α' } 0 0 ∧ α'.gs.Perm Gs ∧ ClosedRd bx cx' := (RClose_uB bw bd ba bs W cd ca cs h bx f ts g Gs hg pos cx cb hr).1
theorem RClosed_uB (bx : Nat) (cx : Chunk) (h : ClosedRd bx cx) : Cb Tryz.prog 39 [pv bx] [cx] (fun v' H' => v' = .tuple #[] ∧ H' = [cx]) := by
  obtain ⟨bw, f, bb, n, a, kb, pos, rfl⟩ := h
  exact RClose_closedB bw f bb n a kb pos bx
theorem RClosed_u (bx : Nat) (cx : Chunk) (h : ClosedRd bx cx) : CtQ Tryz.prog 39 [pv bx] [cx] (.tuple #[]) := (RClosed_uB bx cx h).1
theorem Read_u (bw bd ba bs : Nat) (W : Wk) (cd ca cs : Chunk) (h : Wc bd ba bs W cd ca cs) (f : Fl) (ts : List T5) (Lv : List Ext) (hfo : FileOk W.δ.disk W.δ.size Lv f ts) (hr : W.δ.size ≤ W.α.room - W.α.used) :
    Ct Tryz.prog 38 [pv bw, flv f] [wrow bw bd ba bs, cd, ca, cs] fun v H' =>
      ∃ bx g ca' α' cx cb, v = .tuple #[pv bx, .int .i64 0] ∧ H' = [wrow bw bd ba bs, cd, ca', cs, cx, cb] ∧ Wc bd ba bs { W with α := α' } cd ca' cs ∧ Ev W { W with α := α' } 0 0 ∧ α'.gs.Perm (g :: W.α.gs) ∧ g.n = W.δ.size ∧ IsRd bw bx { W with α := α' } f ts g 0 cx cb := by
  refine (Read_make bw bd ba bs W cd ca cs h f hfo.w1 hfo.w2 hfo.cnt hfo.blk hr).mono ?_
  rintro v H' ⟨bx, g, ca', α', rfl, rfl, hA, hgn, e1, e2⟩
  obtain ⟨hs, _⟩ := h.dev.num
  have hp := holds_pos hs.1 hfo.w1 hfo.w2
  refine ⟨bx, g, ca', α', _, _, rfl, rfl, ⟨h.dev, hA, h.sp, h.nn, h.live⟩, ⟨rfl, rfl, ⟨Nat.le_refl _, Nat.le_refl _⟩, id, e2, Nat.le_refl _⟩, e1, hgn, hgn, List.replicate W.δ.size 0, 0, 0, ?_, rfl, RdOk.start hp hfo.len⟩
  show _ = [(bx, row (rdCells bw f g.bb 0 0 (nblocks W.δ.size f.width 0) 0 false) 123)]
  rw [nblocks_zero hp]
theorem Write_u (bw bd ba bs : Nat) (W : Wk) (cd ca cs : Chunk) (h : Wc bd ba bs W cd ca cs) (k bound : Nat) (h1 : 1 ≤ k) (h2 : k ≤ 5) (hb : bound ≤ 100000000) (hr : W.δ.size ≤ W.α.room - W.α.used) :
    Ct Tryz.prog 34 [pv bw, .int .i64 (k : Int), .int .i64 (bound : Int)] [wrow bw bd ba bs, cd, ca, cs] fun v H' =>
      (nblocks W.δ.size k bound ≤ big W.σ.free ∧ ∃ bx first g cd' ca' cs' W' cx cb, v = .tuple #[pv bx, .int .i64 0] ∧ H' = [wrow bw bd ba bs, cd', ca', cs', cx, cb] ∧ Wc bd ba bs W' cd' ca' cs' ∧ Ev W W' 0 (nblocks W.δ.size k bound) ∧ W'.δ = W.δ ∧
        W'.α.gs.Perm (g :: W.α.gs) ∧ g.n = W.δ.size ∧ LvOf first (nblocks W.δ.size k bound) W.live W'.live ∧ IsWr bw bx W' first (nblocks W.δ.size k bound) k bound g [] cx cb) ∨
      (big W.σ.free < nblocks W.δ.size k bound ∧ v = .tuple #[.pointer none, .int .i64 5] ∧ ∃ cd' ca' cs' W', H' = [wrow bw bd ba bs, cd', ca', cs'] ∧ Wc bd ba bs W' cd' ca' cs' ∧ Ev W W' 0 0 ∧ W'.δ = W.δ ∧ W'.live = W.live ∧ W'.α.gs.Perm W.α.gs) := by
  refine (Write_ct bw bd ba bs W cd ca cs h k bound h1 h2 hb hr).mono ?_
  obtain ⟨hs, _⟩ := h.dev.num
  have hp := holds_pos hs.1 h1 h2
  rintro v H' (⟨hfit, bx, first, g, cd', ca', cs', W', rfl, rfl, hW, hE, e1, e2, e3, e4⟩ | ⟨hf, rfl, cd', ca', cs', W', rfl, hW, hE, e1, e2, e3, e4⟩)
  · left
    refine ⟨hfit, bx, first, g, cd', ca', cs', W', _, _, rfl, rfl, hW, hE, e1, e3, e2, ?_, by rw [e1]; exact e2, List.replicate W.δ.size 0, ?_, rfl, ?_⟩
    · unfold LvOf
      split at e4
      · rename_i h0; rw [if_pos h0, e4.1]
      · rename_i h0; rw [if_neg h0, e4]
    · rw [e1]; simp
    · rw [e1]
      exact ⟨h1, h2, hb, rfl, Nat.zero_le _, by simp, by simp, fun j hj => by simp at hj, by simp⟩
  · exact .inr ⟨hf, rfl, cd', ca', cs', W', rfl, hW, hE, e1, e3, e4⟩
end Go.Proofs.YtdkihpjnidhnmaaGreat
namespace Go.Proofs.YtdkihpjnidhnmaaGreat
open Go.SL Go.Spc Go.Tup
theorem Free_u (bw bd ba bs : Nat) (W : Wk) (cd ca cs : Chunk) (h : Wc bd ba bs W cd ca cs) (f : Fl) (Lv : List Ext) (hl : LvOf f.first f.blocks Lv W.live) :
    Ct Tryz.prog 44 [pv bw, flv f] [wrow bw bd ba bs, cs] fun v H' =>
      ∃ cs' W', v = .int .i64 0 ∧ H' = [wrow bw bd ba bs, cs'] ∧ Wc bd ba bs W' cd ca cs' ∧ Ev W W' 0 0 ∧ W'.δ = W.δ ∧ W'.α = W.α ∧ W'.live = Lv := by
  unfold LvOf at hl
  unfold flv wrow
  by_cases h0 : f.blocks = 0
  · rw [if_pos h0] at hl
    rw [h0]
    refine Ct.intro Tryz.func44 rfl Tryz.ntmps44 (nle rfl) fun w0 => ?_; dsimp only [argSlots, Nat.reduceAdd]
    repeat (first | apply G.seq | refine G.plain (h := ?_) | apply G.block | apply G.ret | refine G.condF (h := ?_) | apply Dn.next | apply Dn.retThen | apply Dn.retBlock | refine G.condPT (ht := ?_) | refine R.enter0 (h := ?_) | refine R.nil (h := ?_) | refine R.move (h := ?_) | refine R.assign (h := ?_) | refine R.fieldAddr (h := ?_) | refine R.load1 (h := ?_) | (refine R.box (h := ?_); intro _) | refine R.eql (h := ?_) | refine R.eqlNil (h := ?_))
    (refine Dn.post (Hr := [[(bw, row [pv bd, pv ba, pv bs] 68)], cs]) Tryz.results44 (hR := ?_); exact ⟨cs, { W with live := Lv }, rfl, rfl, ⟨h.dev, h.ar, h.sp, h.nn, h.live.perm hl⟩, ⟨rfl, rfl, ⟨Nat.le_refl _, Nat.le_refl _⟩, id, rfl, Nat.le_refl _⟩, rfl, rfl, rfl⟩)
  · rw [if_neg h0] at hl
    have hlv := h.live.perm hl
    obtain ⟨⟨f1, f2⟩, f3⟩ := live_free hlv
    have hGv := Give_ct bs W.σ cs h.sp f.first f.blocks f1 f2 f3
    refine Ct.intro Tryz.func44 rfl Tryz.ntmps44 (nle rfl) fun w0 => ?_; dsimp only [argSlots, Nat.reduceAdd]
    repeat (first | apply G.seq | refine G.plain (h := ?_) | apply G.block | apply G.skip | refine G.condF (h := ?_) | apply Dn.next | apply Dn.blockEnd | refine G.condPF (ht := ?_) | refine G.draw (id := 5) [] (h := ?_) | refine R.enter0 (h := ?_) | refine R.nil (h := ?_) | refine R.move (h := ?_) | refine R.assign (h := ?_) | refine R.nilCheck (h := ?_) | refine R.fieldAddr (h := ?_) | refine R.load1 (h := ?_) | (refine R.box (h := ?_); intro _) | refine R.eql (h := ?_) | refine R.eqlNil (h := ?_))
    refine R.call (hct := hGv) (h := ?_)
    rintro _ _ ⟨cs', σ', rfl, hS', e1, e3, e4, e5, rfl⟩
    try dsimp only [List.cons_append, List.nil_append]
    repeat (first | apply G.ret | apply Dn.next | refine R.enter0 (h := ?_) | refine R.nil (h := ?_) | refine R.assign (h := ?_))
    (refine Dn.post (Hr := [[(bw, row [pv bd, pv ba, pv bs] 68)], cs']) Tryz.results44 (hR := ?_); exact ⟨cs', { W with σ := σ', live := Lv }, rfl, rfl, ⟨h.dev, h.ar, hS', h.nn.trans e1.symm, live_give hlv e1 e3 e4⟩, ⟨rfl, e1, ⟨Nat.le_refl _, Nat.le_refl _⟩, id, rfl, by show _ ≤ big σ'.free + 0; omega⟩, rfl, rfl, rfl⟩)
/-- where a writer of a loop stands -/
structure LayX where
  i : Nat
  cd : Chunk
  ca : Chunk
  cs : Chunk
  cx : Chunk
  cb : Chunk
  W : Wk
set_option maxHeartbeats 2000000 in
theorem Lay_ct (bw bd ba bs : Nat) (W : Wk) (cd ca cs : Chunk) (h : Wc bd ba bs W cd ca cs) (k : Nat) (h1 : 1 ≤ k) (h2 : k ≤ 5) (p : Option Addr) (n cap : Nat) (ts : List T5) (c : Chunk) (hv : RV p n ts c) (hn : n ≤ 100000000) (hok : ∀ t ∈ ts, okT k t)
    (hr : W.δ.size ≤ W.α.room - W.α.used) (hf : W.δ.fault = -1) (hac : W.δ.acts ≤ 100000000000) :
    Ct Tryz.prog 15 [pv bw, .int .i64 (k : Int), .slice p n cap] [wrow bw bd ba bs, cd, ca, cs, c] fun v H' =>
      ∃ cd' ca' cs' W', H' = [wrow bw bd ba bs, cd', ca', cs', c] ∧ Wc bd ba bs W' cd' ca' cs' ∧ Ev W W' (nblocks W.δ.size k n) (nblocks W.δ.size k n) ∧ Keep W.live W W' ∧ W'.α.gs.Perm W.α.gs ∧
        ((nblocks W.δ.size k n ≤ big W.σ.free ∧ ∃ f, v = .tuple #[flv f, .int .i64 0] ∧ W'.live = (if f.blocks = 0 then W.live else f.ext :: W.live) ∧ f.width = k ∧ f.count = n ∧ FileOk W'.δ.disk W.δ.size [f.ext] f ts) ∨
         (big W.σ.free < nblocks W.δ.size k n ∧ v = .tuple #[flv ⟨0, 0, 0, 0⟩, .int .i64 5] ∧ W'.live = W.live ∧ W'.δ = W.δ)) := by
  have hWr := Write_u bw bd ba bs W cd ca cs h k n h1 h2 hn hr
  have htl := hv.1
  obtain ⟨⟨hs1, hs2⟩, _⟩ := h.dev.num
  have hp := holds_pos hs1 h1 h2
  refine Ct.intro Tryz.func15 rfl Tryz.ntmps15 (nle rfl) fun w0 => ?_; dsimp only [argSlots, Nat.reduceAdd]
  repeat (first | apply G.seq | refine G.plain (h := ?_) | apply Dn.next | refine R.enter0 (h := ?_) | refine R.nil (h := ?_) | refine R.move (h := ?_) | refine R.assign (h := ?_) | (refine R.alloc (h := ?_); intro _) | refine R.len (h := ?_))
  apply R.call
  · exact rfl
  · exact hWr
  · exact (by repeat (first | exact Split.nil | (apply Split.cons; · (repeat (first | exact Take.here | apply Take.there | exact Take.nil)))))
  · exact rfl
  · exact nle rfl
  rintro _ _ (⟨hfit, bx, first, g, cd', ca', cs', W1, cx, cb, rfl, rfl, hW1, hE1, e1, e2, e3, e4, e5⟩ | ⟨hfull, rfl, cd', ca', cs', W1, rfl, hW1, hE1, e1, e2, e3⟩)
  · repeat (first | apply G.seq | refine G.plain (h := ?_) | apply G.block | apply G.skip | apply Dn.next | refine G.condPF (ht := ?_) | refine R.enter0 (h := ?_) | refine R.nil (h := ?_) | refine R.move (h := ?_) | refine R.assign (h := ?_) | refine R.extract (h := ?_) | refine R.neq (h := ?_) | refine R.len (h := ?_))
    rename_i b6
    refine G.loop (X := LayX) (fun x => x.i ≤ n ∧ Wc bd ba bs x.W x.cd x.ca x.cs ∧ Ev W x.W (x.i / holds W.δ.size k) (nblocks W.δ.size k n) ∧ Keep W.live W x.W ∧ x.W.α.gs.Perm (g :: W.α.gs) ∧ LvOf first (nblocks W.δ.size k n) W.live x.W.live ∧ IsWr bw bx x.W first (nblocks W.δ.size k n) k n g (ts.take x.i) x.cx x.cb)
      (fun x => [(27, .int .i64 (x.i : Int)), (26, .int .i64 (n : Int)), (25, .slice p n cap), (8, pv bx), (6, .pointer (some ⟨b6, 0, none⟩))])
      (fun x => [[(b6, row [.int .i64 0, .int .i64 0, .int .i64 0, .int .i64 0] 37)], wrow bw bd ba bs, x.cd, x.ca, x.cs, x.cx, x.cb, c]) (fun x => n - x.i) ⟨0, cd', ca', cs', cx, cb, W1⟩
      ⟨Nat.zero_le _, hW1, by simpa using hE1, fun x _ => by rw [e1], e2, e4, e5⟩ (body := ?_)
    rintro ⟨i, cd1, ca1, cs1, cx1, cb1, W2⟩ ⟨hi, hW2, hE2, hK2, hg2, hl2, hw2⟩
    dsimp only at hi hW2 hE2 hK2 hg2 hl2 hw2 ⊢
    have hacts := hE2.acts
    have hsz := hE2.size
    have hfl := hE2.fault hf
    have hdl : i / holds W.δ.size k ≤ n := Nat.le_trans (Nat.div_le_self _ _) hi
    by_cases hin : i < n
    · obtain ⟨b, off, cs0, T, fz, rfl, rfl, hread⟩ := hv.pos (by omega)
      have hti := hread i hin
      have hlt : i < ts.length := by omega
      have hgd : ts.getD i ⟨0, 0, 0, 0, 0⟩ = ts[i] := by simp [List.getD_eq_getElem?_getD, hlt]
      rw [hgd] at hti
      have htk : ts.take (i + 1) = ts.take i ++ [ts[i]] := by rw [List.take_add_one]; simp [hlt]
      have hlen : (ts.take i).length = i := by simp; omega
      have hPt := Put_u bw bd ba bs W2 cd1 ca1 cs1 hW2 bx first _ k n g (ts.take i) cx1 cb1 hw2 W.α.gs hg2 W.live hl2 (by omega) ts[i] (hok _ (List.getElem_mem hlt)) (by omega)
      have htv : tv ts[i] = .agg (tcells ts[i]).toArray := rfl
      rw [htv] at hPt
      have htcl : (tcells ts[i]).length = 5 := rfl
      have hall : (tcells ts[i]).all Value.oneCell' = true := rfl
      have hset5 : setL [.int .i64 0, .int .i64 0, .int .i64 0, .int .i64 0, .int .i64 0] 0 (tcells ts[i]) = tcells ts[i] := rfl
      have hd5 : ((tcells ts[i]).drop 0).take 5 = tcells ts[i] := rfl
      generalize tcells ts[i] = tc at *
      repeat (first | apply G.seq | refine G.plain (h := ?_) | apply G.block | apply G.skip | apply Dn.next | refine G.condPT (ht := ?_) | refine R.enter0 (h := ?_) | refine R.nil (h := ?_) | refine R.move (h := ?_) | refine R.loadN (h := ?_) | refine R.storeN (h := ?_) | (refine R.alloc (h := ?_); intro _) | refine R.lss (h := ?_) | refine R.indexAddr (h := ?_))
      refine R.call (hct := hPt) (h := ?_)
      rintro _ _ ⟨cd3, ca3, cs3, W3, cx3, cb3, rfl, hW3, hE3, hK3, ⟨rfl, e6, e7, e8, e9⟩ | ⟨rfl, e6, _⟩⟩
      try dsimp only [List.cons_append, List.nil_append]
      · repeat (first | apply G.seq | refine G.plain (h := ?_) | apply G.skip | apply Dn.next | apply Dn.blockEnd | refine G.condPF (ht := ?_) | refine R.enter0 (h := ?_) | refine R.nil (h := ?_) | refine R.move (h := ?_) | refine R.assign (h := ?_) | refine R.neq (h := ?_) | refine R.addw (h := ?_))
        refine Dn.round ⟨i + 1, cd3, ca3, cs3, cx3, cb3, W3⟩ ⟨hin, hW3, ?_, hK2.trans hK3, by rw [e6]; exact hg2, by rw [e8]; exact hl2, by rw [htk]; exact e9⟩ (by dsimp only; omega)
        have := hE2.trans hE3
        rw [hlen, hsz] at this
        refine this.weak ?_ (Nat.le_refl _)
        have hm : i / holds W.δ.size k ≤ (i + 1) / holds W.δ.size k := Nat.div_le_div_right (by omega)
        dsimp only
        omega
      · omega
    · obtain rfl : i = n := by omega
      have htk : ts.take i = ts := by rw [← htl]; exact List.take_length
      rw [htk] at hw2
      have hCl := Close_u bw bd ba bs W2 cd1 ca1 cs1 hW2 bx first _ k i g ts cx1 cb1 hw2 W.α.gs hg2 W.live hl2 (by omega)
      rw [hsz, htl] at hCl
      repeat (first | apply G.seq | refine G.plain (h := ?_) | apply G.exit | apply Dn.next | apply Dn.exitHere | apply Dn.exitThen | refine G.condPF (ht := ?_) | refine R.enter0 (h := ?_) | refine R.nil (h := ?_) | refine R.move (h := ?_) | refine R.lss (h := ?_))
      refine R.call (hct := hCl) (h := ?_)
      rintro _ _ ⟨cd3, ca3, cs3, W3, cx3, cb3, rfl, hW3, hE3, hK3, hg3, hx3, ⟨f, rfl, e6, e7, e8, e9⟩ | ⟨rfl, e6, _⟩⟩
      try dsimp only [List.cons_append, List.nil_append]
      · repeat (first | apply G.ret | apply Dn.next | refine R.enter0 (h := ?_) | refine R.nil (h := ?_) | refine R.assign (h := ?_) | refine R.storeN (h := ?_) | refine R.extract (h := ?_))
        (refine Dn.post (Hr := [wrow bw bd ba bs, cd3, ca3, cs3, c]) Tryz.results15 (hR := ?_); refine ⟨cd3, ca3, cs3, W3, rfl, hW3, ?_, hK2.trans hK3, hg3, .inl ⟨hfit, f, rfl, e6, e7, e8, e9⟩⟩)
        have := hE2.trans hE3
        refine this.weak ?_ (Nat.le_refl _)
        have hm : i / holds W.δ.size k ≤ nblocks W.δ.size k i := by
          unfold nblocks; exact Nat.div_le_div_right (by omega)
        omega
      · omega
  · repeat (first | apply G.seq | refine G.plain (h := ?_) | apply G.ret | apply Dn.next | apply Dn.retThen | refine G.condPT (ht := ?_) | refine R.enter0 (h := ?_) | refine R.nil (h := ?_) | refine R.move (h := ?_) | refine R.assign (h := ?_) | refine R.storeN (h := ?_) | refine R.extract (h := ?_) | refine R.neq (h := ?_) | refine R.build (h := ?_))
    (refine Dn.post (Hr := [wrow bw bd ba bs, cd', ca', cs', c]) Tryz.results15 (hR := ?_); exact ⟨cd', ca', cs', W1, rfl, hW1, hE1.weak (Nat.zero_le _) (Nat.zero_le _), fun x _ => by rw [e1], e3, .inr ⟨hfull, rfl, e2, e1⟩⟩)
/-- where a reader of a loop stands -/
structure ListX where
  i : Nat
  cd : Chunk
  ca : Chunk
  cx : Chunk
  cb : Chunk
  W : Wk
  p : Option Addr
  cap : Nat
  co : Chunk
theorem flat_take_succ {ts : List T5} {i : Nat} (hi : i < ts.length) : flat (ts.take (i + 1)) = flat (ts.take i) ++ tcells ts[i] := by
  rw [List.take_add_one, flat_append]
  simp [hi, flat]
set_option maxHeartbeats 2000000 in
theorem List_ct (bw bd ba bs : Nat) (W : Wk) (cd ca cs : Chunk) (h : Wc bd ba bs W cd ca cs) (f : Fl) (ts : List T5) (Lv : List Ext) (hfo : FileOk W.δ.disk W.δ.size Lv f ts) (hsub : ∀ e ∈ Lv, e ∈ W.live)
    (hr : W.δ.size ≤ W.α.room - W.α.used) (hf : W.δ.fault = -1) (hac : W.δ.acts ≤ 100000000000) (hcnt : f.count ≤ 1000000) :
    Ct Tryz.prog 20 [pv bw, flv f] [wrow bw bd ba bs, cd, ca, cs] fun v H' =>
      ∃ cd' ca' W' p cap co, v = .tuple #[.slice p f.count cap, .int .i64 0] ∧ H' = [wrow bw bd ba bs, cd', ca', cs, co] ∧ Wc bd ba bs W' cd' ca' cs ∧ Ev W W' (nblocks W.δ.size f.width f.count) 0 ∧ W'.δ.disk = W.δ.disk ∧ W'.live = W.live ∧ W'.α.gs.Perm W.α.gs ∧
        Vec 47 5 p f.count cap (flat ts) co := by
  have hRd := Read_u bw bd ba bs W cd ca cs h f ts Lv hfo hr
  have htl := hfo.len
  obtain ⟨⟨hs1, hs2⟩, _⟩ := h.dev.num
  have hp := holds_pos hs1 hfo.w1 hfo.w2
  have hfl : flv f = .agg #[.int .i64 (f.first : Int), .int .i64 (f.blocks : Int), .int .i64 (f.width : Int), .int .i64 (f.count : Int)] := rfl
  rw [hfl] at hRd ⊢
  refine Ct.introD Tryz.func20 rfl Tryz.ntmps20 (nle rfl) fun w0 => ?_; dsimp only [argSlots, Nat.reduceAdd]
  repeat (first | apply G.seq | refine G.plain (h := ?_) | apply Dn.next | refine R.enter0 (h := ?_) | refine R.nil (h := ?_) | refine R.move (h := ?_) | refine R.assign (h := ?_) | refine R.loadN (h := ?_) | (refine R.box (h := ?_); intro _))
  refine R.call (hct := hRd) (h := ?_)
  rintro _ _ ⟨bx, g, ca1, α1, cx, cb, rfl, rfl, hW1, hE1, hg1, hgn, hr1⟩
  try dsimp only [List.cons_append, List.nil_append]
  repeat (first | apply G.seq | refine G.plain (h := ?_) | apply G.block | apply G.skip | apply Dn.next | refine G.condPF (ht := ?_) | refine R.enter0 (h := ?_) | refine R.nil (h := ?_) | refine R.move (h := ?_) | refine R.assign (h := ?_) | refine R.extract (h := ?_) | refine R.neq (h := ?_) | refine R.defer (h := ?_))
  refine G.loop (X := ListX) (fun x => x.i ≤ f.count ∧ Wc bd ba bs x.W x.cd x.ca cs ∧ Ev W x.W (nblocks W.δ.size f.width x.i) 0 ∧ x.W.δ.disk = W.δ.disk ∧ x.W.live = W.live ∧ x.W.α.gs.Perm (g :: W.α.gs) ∧ IsRd bw bx x.W f ts g x.i x.cx x.cb ∧ Vec 47 5 x.p x.i x.cap (flat (ts.take x.i)) x.co)
    (fun x => [(6, pv bx), (8, .slice x.p x.i x.cap)])
    (fun x => [wrow bw bd ba bs, x.cd, x.ca, cs, x.cx, x.cb, x.co]) (fun x => f.count - x.i) ⟨0, cd, ca1, cx, cb, { W with α := α1 }, none, 0, []⟩
    ⟨Nat.zero_le _, hW1, by rw [nblocks_zero hp]; exact hE1, rfl, rfl, hg1, hr1, Vec.nil _ _⟩ (by repeat (first | exact trivial | refine ⟨rfl, ?_⟩)) (by repeat (first | exact Split.nil | (apply Split.cons; · (first | exact Take.nil | (repeat (first | exact Take.here | apply Take.there)))))) ?_
  rintro ⟨i, cd1, ca1, cx1, cb1, W2, p, cap, co⟩ ⟨hi, hW2, hE2, hd2, hl2, hg2, hr2, hV⟩
  dsimp only at hi hW2 hE2 hd2 hl2 hg2 hr2 hV ⊢
  have hacts := hE2.acts
  have hsz := hE2.size
  have hflt := hE2.fault hf
  have hdl : nblocks W.δ.size f.width i ≤ i := by
    unfold nblocks
    rw [Nat.div_le_iff_le_mul_add_pred (by omega)]
    have := Nat.le_mul_of_pos_left i (show 0 < holds W.δ.size f.width by omega)
    omega
  by_cases hin : i < f.count
  · have hlt : i < ts.length := by omega
    have hNx := Next_u bw bd ba bs W2 cd1 ca1 cs hW2 bx f ts Lv (by rw [hd2, hsz]; exact hfo) (by rw [hl2]; exact hsub) g W.α.gs hg2 i cx1 cb1 hr2 ts[i] (List.getElem?_eq_getElem hlt) (by omega)
    have htv : tv ts[i] = .agg (tcells ts[i]).toArray := rfl
    rw [htv] at hNx
    have htcl : (tcells ts[i]).length = 5 := rfl
    have htcl2 : (tcells ts[i]).length = 1 * 5 := rfl
    have hall : (tcells ts[i]).all Value.oneCell' = true := rfl
    have hset5 : setL [.int .i64 0, .int .i64 0, .int .i64 0, .int .i64 0, .int .i64 0] 0 (tcells ts[i]) = tcells ts[i] := rfl
    have hd5 : ((tcells ts[i]).drop 0).take 5 = tcells ts[i] := rfl
    have hd51 : ((tcells ts[i]).drop 0).take (1 * 5) = tcells ts[i] := rfl
    have hft := flat_take_succ hlt
    generalize ts[i] = t at *
    repeat (first | apply G.seq | refine G.plain (h := ?_) | apply G.block | refine R.enter0 (h := ?_) | refine R.move (h := ?_))
    refine R.call (hct := hNx) (h := ?_)
    rintro _ _ ⟨cd3, ca3, W3, cx3, cb3, rfl, hW3, hE3, hd3, hs3, hl3, ⟨rfl, e6, e9⟩ | ⟨rfl, e6, _⟩⟩
    try dsimp only [List.cons_append, List.nil_append]
    · repeat (first | apply G.seq | refine G.plain (h := ?_) | apply G.skip | refine G.condF (h := ?_) | apply Dn.next | apply Dn.blockEnd | refine G.condPF (ht := ?_) | refine R.enter0 (h := ?_) | refine R.nil (h := ?_) | refine R.move (h := ?_) | refine R.assign (h := ?_) | refine R.loadN (h := ?_) | refine R.storeN (h := ?_) | (refine R.alloc (h := ?_); intro _) | refine R.extract (h := ?_) | refine R.neq (h := ?_) | refine R.not (h := ?_) | (refine R.buildSlice (h := ?_); intro _) | (refine R.append (h := ?_); intro _ _ _ _))
      rename_i p' cap' c' hV'
      have hV3 : Vec 47 5 p' (i + 1) cap' (flat (ts.take i) ++ tcells t) c' := hV'
      rw [← hft] at hV3
      refine Dn.round ⟨i + 1, cd3, ca3, cx3, cb3, W3, p', cap', c'⟩ ⟨hin, hW3, ?_, hd3.trans hd2, hl3.trans hl2, by rw [e6]; exact hg2, e9, hV3⟩ (by dsimp only; omega)
      have := hE2.trans hE3
      rw [hsz] at this
      refine this.weak ?_ (Nat.le_refl _)
      have hm : nblocks W.δ.size f.width i ≤ nblocks W.δ.size f.width (i + 1) := nblocks_mono (by omega)
      dsimp only
      omega
    · omega
  · have hic : f.count = i := by omega
    subst hic
    have hNe := NextEnd_u bw bx W2 f ts g cx1 cb1 hr2
    have hRc := (RClose_uB bw bd ba bs W2 cd1 ca1 cs hW2 bx f ts g W.α.gs hg2 f.count cx1 cb1 hr2).2
    have hz : tv T5.zero = .agg (tcells T5.zero).toArray := rfl
    rw [hz] at hNe
    repeat (first | apply G.seq | refine G.plain (h := ?_) | apply G.block | refine R.enter0 (h := ?_) | refine R.move (h := ?_))
    refine R.call (hct := hNe) (h := ?_)
    rintro _ _ ⟨rfl, rfl⟩
    try dsimp only [List.cons_append, List.nil_append]
    repeat (first | apply G.seq | refine G.plain (h := ?_) | apply G.skip | apply G.ret | refine G.condT (h := ?_) | apply Dn.next | apply Dn.retThen | apply Dn.retBlock | apply Dn.postD | refine G.condPF (ht := ?_) | refine R.enter0 (h := ?_) | refine R.nil (h := ?_) | refine R.move (h := ?_) | refine R.assign (h := ?_) | refine R.storeN (h := ?_) | (refine R.alloc (h := ?_); intro _) | refine R.extract (h := ?_) | refine R.neq (h := ?_) | refine R.not (h := ?_))
    refine Go.SL.Lv.call (hc := hRc) (h := ?_)
    rintro _ _ ⟨ca3, α3, cx3, rfl, rfl, hW3, hE3, hg3, hx3⟩
    try dsimp only [List.cons_append, List.nil_append]
    (refine Go.SL.Lv.nil (Hr := [wrow bw bd ba bs, cd1, ca3, cs, co]) Tryz.results20 (hR := ?_); refine ⟨cd1, ca3, { W2 with α := α3 }, p, cap, co, rfl, rfl, hW3, by simpa using hE2.trans hE3, hd2, hl2, hg3, ?_⟩)
    rw [← htl, List.take_length] at hV
    rw [← htl]; exact hV
end Go.Proofs.YtdkihpjnidhnmaaGreat
