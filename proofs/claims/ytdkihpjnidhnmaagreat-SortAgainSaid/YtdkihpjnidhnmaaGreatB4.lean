/-
  Parts of the proof, put together: SrtPlain, SrtPlain2, Ext1, Ext2, Stable, SrtPlain3, Sym, Stable2, Sorter, Emit, Fill, LayRun, Form, HeapPlain, Heads, Heap, HeapPop, MergePlain, Readers, CloseAll, MergeSt, MergeSt2. No condition.
-/
import Derived.Test.YtdkihpjnidhnmaaGreatB3
set_option linter.unusedVariables false
set_option linter.unusedSimpArgs false
set_option linter.unnecessarySimpa false
namespace Go.Srt
set_option linter.unusedSectionVars false
structure Swo {α : Type} (lt : α → α → Bool) : Prop where
  asym : ∀ a b, lt a b = true → lt b a = false
  ntrans : ∀ a b c, lt a b = false → lt b c = false → lt a c = false
variable {α : Type} {lt : α → α → Bool}
theorem Swo.irr (h : Swo lt) (a : α) : lt a a = false := by
  cases hl : lt a a with
  | false => rfl
  | true => have := h.asym a a hl; rw [hl] at this; cases this
/-- neither stands ahead -/
def eqv (lt : α → α → Bool) (a b : α) : Bool := !lt a b && !lt b a
theorem eqv_iff {a b : α} : eqv lt a b = true ↔ lt a b = false ∧ lt b a = false := by simp [eqv]
theorem eqv_self (h : Swo lt) (a : α) : eqv lt a a = true := eqv_iff.2 ⟨h.irr a, h.irr a⟩
theorem eqv_symm {a b : α} (h : eqv lt a b = true) : eqv lt b a = true := eqv_iff.2 ⟨(eqv_iff.1 h).2, (eqv_iff.1 h).1⟩
theorem eqv_trans (h : Swo lt) {a b c : α} (h1 : eqv lt a b = true) (h2 : eqv lt b c = true) : eqv lt a c = true :=
  eqv_iff.2 ⟨h.ntrans _ _ _ (eqv_iff.1 h1).1 (eqv_iff.1 h2).1, h.ntrans _ _ _ (eqv_iff.1 h2).2 (eqv_iff.1 h1).2⟩
/-- what is kept of those that are alike -/
def keepC (once : Bool) (l : List α) : List α := if once then l.take 1 else l
/-- in order; with once strictly so -/
def Sd (lt : α → α → Bool) (once : Bool) (l : List α) : Prop := l.Pairwise fun a b => if once then lt a b = true else lt b a = false
/-- of each kind the same ones, in the same order (with once: the first one) -/
def Sp (lt : α → α → Bool) (once : Bool) (l1 l2 : List α) : Prop := ∀ x, keepC once (l1.filter (eqv lt x)) = keepC once (l2.filter (eqv lt x))
theorem Sp.refl (once : Bool) (l : List α) : Sp lt once l l := fun _ => rfl
theorem Sp.symm {once : Bool} {l1 l2 : List α} (h : Sp lt once l1 l2) : Sp lt once l2 l1 := fun x => (h x).symm
theorem Sp.trans {once : Bool} {l1 l2 l3 : List α} (h : Sp lt once l1 l2) (h2 : Sp lt once l2 l3) : Sp lt once l1 l3 := fun x => (h x).trans (h2 x)
theorem keepC_app (once : Bool) (a b : List α) : keepC once (a ++ b) = keepC once (keepC once a ++ keepC once b) := by
  cases once with
  | false => rfl
  | true =>
    simp only [keepC, if_true]
    cases a with
    | nil => cases b <;> simp
    | cons x a => simp
theorem Sp.app {once : Bool} {a b c d : List α} (h1 : Sp lt once a b) (h2 : Sp lt once c d) : Sp lt once (a ++ c) (b ++ d) := fun x => by
  rw [List.filter_append, List.filter_append, keepC_app, h1 x, h2 x, ← keepC_app]
theorem Sp.once_of {once : Bool} {a b : List α} (h : Sp lt false a b) : Sp lt once a b := fun x => by
  have := h x
  simp only [keepC] at this
  simp only [Bool.false_eq_true, if_false] at this
  rw [this]
/-- two pieces of which no one is alike to one of the other change places -/
theorem Sp.swap (h : Swo lt) {once : Bool} {v x : List α} (hx : ∀ b ∈ x, ∀ a ∈ v, lt b a = true) : Sp lt once (v ++ x) (x ++ v) := fun c => by
  rw [List.filter_append, List.filter_append]
  by_cases hv : v.filter (eqv lt c) = []
  · rw [hv]; simp
  · have : x.filter (eqv lt c) = [] := by
      rw [List.filter_eq_nil_iff]
      intro b hb hcb
      obtain ⟨a, ha⟩ := List.exists_mem_of_ne_nil _ hv
      obtain ⟨ha1, ha2⟩ := List.mem_filter.1 ha
      have h1 := eqv_trans h (eqv_symm hcb) ha2
      have h2 := hx b hb a ha1
      rw [(eqv_iff.1 h1).1] at h2; cases h2
    rw [this]; simp
theorem sd_class (h : Swo lt) {once : Bool} {l : List α} (hs : Sd lt once l) (x : α) : keepC once (l.filter (eqv lt x)) = l.filter (eqv lt x) := by
  cases once with
  | false => rfl
  | true =>
    have : (l.filter (eqv lt x)).Pairwise fun a b => lt a b = true := by
      have := hs.sublist (List.filter_sublist (p := eqv lt x))
      simpa using this
    have hm : ∀ a ∈ l.filter (eqv lt x), eqv lt x a = true := fun a ha => (List.mem_filter.1 ha).2
    simp only [keepC, if_true]
    revert this hm
    generalize l.filter (eqv lt x) = m
    intro h1 h2
    match m, h1, h2 with
    | [], _, _ => rfl
    | [_], _, _ => rfl
    | a :: b :: m, h1, h2 =>
      exfalso
      have h3 := List.rel_of_pairwise_cons h1 (List.mem_cons_self (a := b) (l := m))
      have h4 := eqv_trans h (eqv_symm (h2 a (by simp))) (h2 b (by simp))
      rw [(eqv_iff.1 h4).1] at h3; cases h3
theorem Sd.weak (h : Swo lt) {once : Bool} {l : List α} (hs : Sd lt once l) : Sd lt false l := by
  cases once with
  | false => exact hs
  | true => exact List.Pairwise.imp (fun {a b} hab => by simpa using h.asym a b (by simpa using hab)) hs
/-- one alone is in order, and has of each kind the same -/
theorem unique (h : Swo lt) : ∀ {l1 l2 : List α}, Sd lt false l1 → Sd lt false l2 → Sp lt false l1 l2 → l1 = l2
  | [], [], _, _, _ => rfl
  | [], b :: l2, _, _, hp => by have := hp b; simp [keepC, eqv_self h] at this
  | a :: l1, [], _, _, hp => by have := hp a; simp [keepC, eqv_self h] at this
  | a :: l1, b :: l2, h1, h2, hp => by
    have hp' : ∀ x, (a :: l1).filter (eqv lt x) = (b :: l2).filter (eqv lt x) := fun x => by have := hp x; simpa [keepC] using this
    have mem : ∀ x, x ∈ a :: l1 ↔ x ∈ b :: l2 := fun x => by
      have e := hp' x
      constructor
      · intro hm
        exact (List.mem_filter.1 (e ▸ List.mem_filter.2 ⟨hm, eqv_self h x⟩)).1
      · intro hm
        exact (List.mem_filter.1 (e.symm ▸ List.mem_filter.2 ⟨hm, eqv_self h x⟩)).1
    have hba : lt b a = false := by
      rcases List.mem_cons.1 ((mem b).2 List.mem_cons_self) with rfl | hm
      · exact h.irr _
      · simpa using List.rel_of_pairwise_cons h1 hm
    have hab : lt a b = false := by
      rcases List.mem_cons.1 ((mem a).1 List.mem_cons_self) with rfl | hm
      · exact h.irr _
      · simpa using List.rel_of_pairwise_cons h2 hm
    have e1 : eqv lt a b = true := eqv_iff.2 ⟨hab, hba⟩
    have e := hp' a
    simp only [List.filter_cons, eqv_self h, e1, if_true, List.cons.injEq] at e
    obtain ⟨rfl, _⟩ := e
    congr 1
    refine unique h (List.Pairwise.of_cons h1) (List.Pairwise.of_cons h2) fun x => ?_
    have := hp' x
    simp only [List.filter_cons] at this
    simp only [keepC, Bool.false_eq_true, if_false]
    split at this
    · exact (List.cons.inj this).2
    · exact this
theorem unique1 (h : Swo lt) {once : Bool} {l1 l2 : List α} (h1 : Sd lt once l1) (h2 : Sd lt once l2) (hp : Sp lt once l1 l2) : l1 = l2 :=
  unique h (h1.weak h) (h2.weak h) fun x => by
    have := hp x
    rw [sd_class h h1, sd_class h h2] at this
    simpa [keepC] using this
/- swaps -/
variable [Inhabited α]
def sw (l : List α) (i j : Nat) : List α := (l.set i (l.getD j default)).set j (l.getD i default)
@[simp] theorem sw_length (l : List α) (i j : Nat) : (sw l i j).length = l.length := by simp [sw]
theorem getD_app_left (P S : List α) (i : Nat) (h : i < P.length) : (P ++ S).getD i default = P.getD i default := by
  simp [List.getD_eq_getElem?_getD, List.getElem?_append_left h]
theorem getD_app_right (P S : List α) (i : Nat) (h : P.length ≤ i) : (P ++ S).getD i default = S.getD (i - P.length) default := by
  simp [List.getD_eq_getElem?_getD, List.getElem?_append_right h]
theorem sw_gen (P M S : List α) (a b : α) {i j : Nat} (hi : i = P.length) (hj : j = P.length + 1 + M.length) :
    sw (P ++ a :: (M ++ b :: S)) i j = P ++ b :: (M ++ a :: S) := by
  subst hi hj
  have e1 : (P ++ a :: (M ++ b :: S)).getD P.length default = a := by simp [List.getD_eq_getElem?_getD]
  have e2 : (P ++ a :: (M ++ b :: S)).getD (P.length + 1 + M.length) default = b := by
    rw [getD_app_right _ _ _ (by omega)]
    rw [show P.length + 1 + M.length - P.length = M.length + 1 by omega]
    simp [List.getD_eq_getElem?_getD]
  unfold sw
  rw [e1, e2]
  rw [List.set_append_right _ _ (Nat.le_refl _)]
  simp only [Nat.sub_self, List.set_cons_zero]
  rw [List.set_append_right _ _ (by omega)]
  rw [show P.length + 1 + M.length - P.length = M.length + 1 by omega]
  simp only [List.set_cons_succ]
  rw [List.set_append_right _ _ (Nat.le_refl _)]
  simp
theorem sw_comm (l : List α) (i j : Nat) : sw l i j = sw l j i := by
  unfold sw
  by_cases h : i = j
  · subst h; rfl
  · rw [List.set_comm _ _ h]
/-- two pieces as long as each other, swapped up to a place -/
theorem swapRange_step (P M S U1 U2 W1 W2 : List α) (u w : α) {i : Nat} (h : U1.length = i) (hw : W1.length = i) (h2 : U2.length = W2.length) {a b : Nat} (ha : a = P.length) (hb : b = P.length + (i + 1 + U2.length) + M.length) :
    sw (P ++ (W1 ++ (u :: U2)) ++ M ++ (U1 ++ (w :: W2)) ++ S) (a + i) (b + i) = P ++ ((W1 ++ [w]) ++ U2) ++ M ++ ((U1 ++ [u]) ++ W2) ++ S := by
  have := sw_gen (P ++ W1) (U2 ++ M ++ U1) (W2 ++ S) u w (i := a + i) (j := b + i) (by simp; omega) (by simp; omega)
  simpa [List.append_assoc] using this
abbrev at_ (l : List α) (k : Nat) : α := l.getD k default
theorem sw_at (l : List α) (i j k : Nat) (hi : i < l.length) (hj : j < l.length) : at_ (sw l i j) k = if k = j then at_ l i else if k = i then at_ l j else at_ l k := by
  unfold sw at_
  simp only [List.getD_eq_getElem?_getD, List.getElem?_set, List.length_set]
  by_cases h1 : k = j
  · subst h1; simp [hj]
  · rw [if_neg (fun e => h1 e.symm), if_neg h1]
    by_cases h2 : k = i
    · subst h2; simp [hi]
    · rw [if_neg (fun e => h2 e.symm), if_neg h2]
theorem ext_at {l1 l2 : List α} (hl : l1.length = l2.length) (h : ∀ k, at_ l1 k = at_ l2 k) : l1 = l2 := by
  apply List.ext_getElem hl
  intro k h1 h2
  have := h k
  simpa [at_, List.getD_eq_getElem?_getD, h1, h2] using this
/-- what stands where behind a turn of two pieces -/
def rotF (l : List α) (a m b k : Nat) : α := if a ≤ k ∧ k < a + (b - m) then at_ l (k + (m - a)) else if a + (b - m) ≤ k ∧ k < b then at_ l (k - (b - m)) else at_ l k
/-- what stands where behind a swap of two pieces -/
def swrF (l : List α) (a b n k : Nat) : α := if a ≤ k ∧ k < a + n then at_ l (k + (b - a)) else if b ≤ k ∧ k < b + n then at_ l (k - (b - a)) else at_ l k
theorem swr_step {l c : List α} {a b n i : Nat} (hab : a + n ≤ b) (hn : b + n ≤ l.length) (hc : c.length = l.length) (h : ∀ k, at_ c k = swrF l a b i k) (hi : i < n) : ∀ k, at_ (sw c (a + i) (b + i)) k = swrF l a b (i + 1) k := by
  intro k
  rw [sw_at _ _ _ _ (by omega) (by omega)]
  simp only [h, swrF]
  (repeat' split) <;> first | rfl | (exfalso; omega) | (congr 1; omega)
theorem rot_stepL {c c' : List α} {m i j : Nat} (hi : i ≤ m) (hij : j < i) (h : ∀ k, at_ c' k = swrF c (m - i) m j k) : ∀ k, rotF c' (m - (i - j)) m (m + j) k = rotF c (m - i) m (m + j) k := by
  intro k
  simp only [rotF, h, swrF]
  (repeat' split) <;> first | rfl | (exfalso; omega) | (congr 1; omega)
theorem rot_stepR {c c' : List α} {m i j : Nat} (hi : i ≤ m) (hij : i < j) (h : ∀ k, at_ c' k = swrF c (m - i) (m + j - i) i k) : ∀ k, rotF c' (m - i) m (m + (j - i)) k = rotF c (m - i) m (m + j) k := by
  intro k
  simp only [rotF, h, swrF]
  (repeat' split) <;> first | rfl | (exfalso; omega) | (congr 1; omega)
theorem rot_last {c c' : List α} {m i : Nat} (hi : i ≤ m) (h : ∀ k, at_ c' k = swrF c (m - i) m i k) : ∀ k, at_ c' k = rotF c (m - i) m (m + i) k := by
  intro k
  simp only [rotF, h, swrF]
  (repeat' split) <;> first | rfl | (exfalso; omega) | (congr 1; omega)
theorem rot_id (l : List α) {a m b : Nat} (h : a = m ∨ m = b) (h1 : a ≤ m) (h2 : m ≤ b) : ∀ k, rotF l a m b k = at_ l k := by
  intro k
  simp only [rotF]
  split
  · congr 1; omega
  · split
    · congr 1; omega
    · rfl
theorem slice_mem {l : List α} {a n : Nat} {x : α} (h : x ∈ (l.drop a).take n) : ∃ k, a ≤ k ∧ k < a + n ∧ x = at_ l k := by
  obtain ⟨i, hi⟩ := List.getElem?_of_mem h
  rw [List.getElem?_take] at hi
  split at hi
  · rename_i hin
    rw [List.getElem?_drop] at hi
    exact ⟨a + i, by omega, by omega, by simp [at_, List.getD_eq_getElem?_getD, hi]⟩
  · cases hi
theorem slice_at (l : List α) (a n k : Nat) (h : k < n) : at_ ((l.drop a).take n) k = at_ l (a + k) := by
  simp [at_, List.getD_eq_getElem?_getD, List.getElem?_take, h]
theorem at_app (P S : List α) (k : Nat) : at_ (P ++ S) k = if k < P.length then at_ P k else at_ S (k - P.length) := by
  split
  · exact getD_app_left P S k (by assumption)
  · exact getD_app_right P S k (by omega)
/-- a list in four pieces -/
theorem cut4 (l : List α) {a m b : Nat} (h1 : a ≤ m) (h2 : m ≤ b) (hb : b ≤ l.length) : l = l.take a ++ ((l.drop a).take (m - a) ++ ((l.drop m).take (b - m) ++ l.drop b)) := by
  have e1 : (l.drop m).take (b - m) ++ l.drop b = l.drop m := by
    have := List.take_append_drop (b - m) (l.drop m)
    rwa [List.drop_drop, show m + (b - m) = b by omega] at this
  have e2 : (l.drop a).take (m - a) ++ l.drop m = l.drop a := by
    have := List.take_append_drop (m - a) (l.drop a)
    rwa [List.drop_drop, show a + (m - a) = m by omega] at this
  rw [e1, e2, List.take_append_drop]
theorem rot_eq {l l' : List α} {a m b : Nat} (h1 : a ≤ m) (h2 : m ≤ b) (hb : b ≤ l.length) (hl : l'.length = l.length) (hr : ∀ k, at_ l' k = rotF l a m b k) :
    l' = l.take a ++ ((l.drop m).take (b - m) ++ ((l.drop a).take (m - a) ++ l.drop b)) := by
  apply ext_at
  · simp; omega
  · intro k
    rw [hr, at_app, at_app, at_app]
    simp only [rotF, List.length_take, List.length_drop]
    have e1 : min a l.length = a := by omega
    have e2 : min (b - m) (l.length - m) = b - m := by omega
    have e3 : min (m - a) (l.length - a) = m - a := by omega
    rw [e1, e2, e3]
    by_cases k1 : k < a
    · rw [if_neg (by omega), if_neg (by omega), if_pos k1]
      simp [at_, List.getD_eq_getElem?_getD, List.getElem?_take, k1]
    · rw [if_neg k1]
      by_cases k2 : k - a < b - m
      · rw [if_pos (by omega), if_pos k2, slice_at _ _ _ _ k2]
        congr 1; omega
      · rw [if_neg k2, if_neg (by omega)]
        by_cases k3 : k - a - (b - m) < m - a
        · rw [if_pos (by omega), if_pos k3, slice_at _ _ _ _ k3]
          congr 1; omega
        · rw [if_neg (by omega), if_neg k3]
          simp [at_, List.getD_eq_getElem?_getD]
          congr 2; omega
theorem rot_sp (h : Swo lt) {l l' : List α} {a m b : Nat} (h1 : a ≤ m) (h2 : m ≤ b) (hb : b ≤ l.length) (hl : l'.length = l.length) (hr : ∀ k, at_ l' k = rotF l a m b k)
    (hc : ∀ i j, a ≤ i → i < m → m ≤ j → j < b → lt (at_ l j) (at_ l i) = true) : Sp lt false l l' := by
  rw [rot_eq h1 h2 hb hl hr]
  conv => lhs; rw [cut4 l h1 h2 hb]
  refine Sp.app (Sp.refl _ _) ?_
  rw [← List.append_assoc, ← List.append_assoc]
  refine Sp.app (Sp.swap h ?_) (Sp.refl _ _)
  intro x hx v hv
  obtain ⟨j, j1, j2, rfl⟩ := slice_mem hx
  obtain ⟨i, i1, i2, rfl⟩ := slice_mem hv
  exact hc i j i1 (by omega) j1 (by omega)
/-- in order from a place up to another one -/
def Seg (lt : α → α → Bool) (l : List α) (a b : Nat) : Prop := ∀ i j, a ≤ i → i < j → j < b → lt (at_ l j) (at_ l i) = false
/-- what stands inside is from inside -/
def Ins (l l' : List α) (a b : Nat) : Prop := (∀ k, a ≤ k → k < b → ∃ k', a ≤ k' ∧ k' < b ∧ at_ l' k = at_ l k') ∧ (∀ k, k < a ∨ b ≤ k → at_ l' k = at_ l k) ∧ l'.length = l.length
theorem Ins.refl (l : List α) (a b : Nat) : Ins l l a b := ⟨fun k h1 h2 => ⟨k, h1, h2, rfl⟩, fun _ _ => rfl, rfl⟩
theorem Ins.trans {l1 l2 l3 : List α} {a b : Nat} (h : Ins l1 l2 a b) (h2 : Ins l2 l3 a b) : Ins l1 l3 a b :=
  ⟨fun k k1 k2 => by
    obtain ⟨k', e1, e2, e3⟩ := h2.1 k k1 k2
    obtain ⟨k'', f1, f2, f3⟩ := h.1 k' e1 e2
    exact ⟨k'', f1, f2, e3.trans f3⟩, fun k hk => (h2.2.1 k hk).trans (h.2.1 k hk), h2.2.2.trans h.2.2⟩
theorem Ins.wide {l l' : List α} {a b c d : Nat} (h : Ins l l' a b) (h1 : c ≤ a) (h2 : b ≤ d) : Ins l l' c d :=
  ⟨fun k k1 k2 => by
    by_cases hk : a ≤ k ∧ k < b
    · obtain ⟨k', e1, e2, e3⟩ := h.1 k hk.1 hk.2
      exact ⟨k', by omega, by omega, e3⟩
    · exact ⟨k, k1, k2, h.2.1 k (by omega)⟩, fun k hk => h.2.1 k (by omega), h.2.2⟩
theorem Ins.rot {l l' : List α} {a m b : Nat} (h1 : a ≤ m) (h2 : m ≤ b) (hl : l'.length = l.length) (hr : ∀ k, at_ l' k = rotF l a m b k) : Ins l l' a b := by
  refine ⟨fun k k1 k2 => ?_, fun k hk => ?_, hl⟩
  · rw [hr]; unfold rotF
    split
    · exact ⟨_, by omega, by omega, rfl⟩
    · split
      · exact ⟨_, by omega, by omega, rfl⟩
      · exact ⟨k, k1, k2, rfl⟩
  · rw [hr]; unfold rotF
    rw [if_neg (by omega), if_neg (by omega)]
theorem Seg.out {l l' : List α} {a b c d : Nat} (h : Seg lt l c d) (hi : Ins l l' a b) (hd : d ≤ a ∨ b ≤ c) : Seg lt l' c d := fun i j h1 h2 h3 => by
  rw [hi.2.1 i (by omega), hi.2.1 j (by omega)]
  exact h i j h1 h2 h3
/-- the search's end in a merge in place -/
theorem sym_facts (h : Swo lt) {l l1 : List α} {a m b mid n start e low high : Nat} (ham : a < m) (hmb : m < b)
    (s1 : Seg lt l a m) (s2 : Seg lt l m b) (hmid : mid = (a + b) / 2) (hn : n = mid + m) (he : e = n - start)
    (hlow : low = if mid < m then n - b else a) (hhigh : high = if mid < m then mid else m) (hls : low ≤ start) (hsh : start ≤ high)
    (f1 : start = low ∨ lt (at_ l (n - start)) (at_ l (start - 1)) = false) (f2 : start = high ∨ lt (at_ l (n - 1 - start)) (at_ l start) = true)
    (hr : ∀ k, at_ l1 k = rotF l start m e k) :
    (∀ i j, start ≤ i → i < m → m ≤ j → j < e → lt (at_ l j) (at_ l i) = true) ∧
    (Seg lt l1 a start ∧ Seg lt l1 start mid ∧ Seg lt l1 mid e ∧ Seg lt l1 e b) ∧
    (∀ i j, a ≤ i → i < mid → mid ≤ j → j < b → lt (at_ l1 j) (at_ l1 i) = false) ∧ a ≤ start ∧ start ≤ m ∧ m ≤ e ∧ e ≤ b ∧ start ≤ mid ∧ mid ≤ e := by
  have hb0 : a ≤ start ∧ start ≤ m ∧ m ≤ e ∧ e ≤ b ∧ start ≤ mid ∧ mid ≤ e ∧ mid - start = e - m := by
    split at hlow <;> split at hhigh <;> omega
  obtain ⟨b1, b2, b3, b4, b5, b6, b7⟩ := hb0
  have hC1 : ∀ i j, start ≤ i → i < m → m ≤ j → j < e → lt (at_ l j) (at_ l i) = true := by
    intro i j i1 i2 j1 j2
    rcases f2 with f2 | f2
    · exfalso
      split at hhigh <;> omega
    · rw [show n - 1 - start = e - 1 by omega] at f2
      cases hlt : lt (at_ l j) (at_ l i) with
      | true => rfl
      | false =>
        exfalso
        have g1 : lt (at_ l (e - 1)) (at_ l j) = false := by
          by_cases hj : j = e - 1
          · subst hj; exact h.irr _
          · exact s2 j (e - 1) j1 (by omega) (by omega)
        have g2 : lt (at_ l i) (at_ l start) = false := by
          by_cases hj : i = start
          · subst hj; exact h.irr _
          · exact s1 start i b1 (by omega) i2
        have := h.ntrans _ _ _ g1 (h.ntrans _ _ _ hlt g2)
        rw [f2] at this; cases this
  have r1 : ∀ k, k < start → at_ l1 k = at_ l k := fun k hk => by rw [hr, rotF, if_neg (by omega), if_neg (by omega)]
  have r2 : ∀ k, start ≤ k → k < mid → at_ l1 k = at_ l (k + (m - start)) := fun k h1 h2 => by rw [hr, rotF, if_pos (by omega)]
  have r3 : ∀ k, mid ≤ k → k < e → at_ l1 k = at_ l (k - (e - m)) := fun k h1 h2 => by rw [hr, rotF, if_neg (by omega), if_pos (by omega)]
  have r4 : ∀ k, e ≤ k → at_ l1 k = at_ l k := fun k hk => by rw [hr, rotF, if_neg (by omega), if_neg (by omega)]
  refine ⟨hC1, ⟨?_, ?_, ?_, ?_⟩, ?_, b1, b2, b3, b4, b5, b6⟩
  · intro i j i1 i2 i3
    rw [r1 i (by omega), r1 j i3]
    exact s1 i j i1 i2 (by omega)
  · intro i j i1 i2 i3
    rw [r2 i i1 (by omega), r2 j (by omega) i3]
    exact s2 _ _ (by omega) (by omega) (by omega)
  · intro i j i1 i2 i3
    rw [r3 i i1 (by omega), r3 j (by omega) i3]
    exact s1 _ _ (by omega) (by omega) (by omega)
  · intro i j i1 i2 i3
    rw [r4 i i1, r4 j (by omega)]
    exact s2 _ _ (by omega) (by omega) (by omega)
  · intro i j i1 i2 j1 j2
    by_cases hi : i < start
    · rw [r1 i hi]
      by_cases hj : j < e
      · rw [r3 j j1 hj]
        exact s1 _ _ i1 (by omega) (by omega)
      · rw [r4 j (by omega)]
        rcases f1 with f1 | f1
        · exfalso
          split at hlow <;> omega
        · rw [← he] at f1
          have g1 : lt (at_ l (start - 1)) (at_ l i) = false := by
            by_cases hh : i = start - 1
            · subst hh; exact h.irr _
            · exact s1 _ _ i1 (by omega) (by omega)
          have g2 : lt (at_ l j) (at_ l e) = false := by
            by_cases hh : j = e
            · subst hh; exact h.irr _
            · exact s2 _ _ (by omega) (by omega) (by omega)
          exact h.ntrans _ _ _ g2 (h.ntrans _ _ _ f1 g1)
    · rw [r2 i (by omega) i2]
      by_cases hj : j < e
      · rw [r3 j j1 hj]
        exact h.asym _ _ (hC1 _ _ (by omega) (by omega) (by omega) (by omega))
      · rw [r4 j (by omega)]
        exact s2 _ _ (by omega) (by omega) (by omega)
/-- two pieces in order, the one nowhere behind the other: the whole is in order -/
theorem seg_join {l : List α} {a mid b : Nat} (h1 : Seg lt l a mid) (h2 : Seg lt l mid b) (hc : ∀ i j, a ≤ i → i < mid → mid ≤ j → j < b → lt (at_ l j) (at_ l i) = false) : Seg lt l a b := by
  intro i j i1 i2 i3
  by_cases hi : j < mid
  · exact h1 i j i1 i2 hi
  · by_cases hj : i < mid
    · exact hc i j i1 hj (by omega) i3
    · exact h2 i j (by omega) i2 i3
theorem cross_keep {l l' : List α} {a mid b : Nat} (hc : ∀ i j, a ≤ i → i < mid → mid ≤ j → j < b → lt (at_ l j) (at_ l i) = false) (h : Ins l l' a mid) :
    ∀ i j, a ≤ i → i < mid → mid ≤ j → j < b → lt (at_ l' j) (at_ l' i) = false := by
  intro i j i1 i2 j1 j2
  obtain ⟨k, k1, k2, k3⟩ := h.1 i i1 i2
  rw [k3, h.2.1 j (by omega)]
  exact hc k j k1 k2 j1 j2
theorem cross_keepR {l l' : List α} {a mid b : Nat} (hc : ∀ i j, a ≤ i → i < mid → mid ≤ j → j < b → lt (at_ l j) (at_ l i) = false) (h : Ins l l' mid b) :
    ∀ i j, a ≤ i → i < mid → mid ≤ j → j < b → lt (at_ l' j) (at_ l' i) = false := by
  intro i j i1 i2 j1 j2
  obtain ⟨k, k1, k2, k3⟩ := h.1 j j1 j2
  rw [k3, h.2.1 i (by omega)]
  exact hc i k i1 i2 k1 k2
theorem sw_sp (h : Swo lt) {l : List α} {j : Nat} (hj : 0 < j) (hl : j < l.length) (hlt : lt (at_ l j) (at_ l (j - 1)) = true) : Sp lt false l (sw l j (j - 1)) := by
  refine rot_sp h (a := j - 1) (m := j) (b := j + 1) (by omega) (by omega) (by omega) (by simp) ?_ ?_
  · intro k
    rw [sw_at _ _ _ _ (by omega) (by omega)]
    unfold rotF
    by_cases h1 : k = j - 1
    · rw [if_pos h1, if_pos (by omega)]; congr 1; omega
    · rw [if_neg h1]
      by_cases h2 : k = j
      · rw [if_pos h2, if_neg (by omega), if_pos (by omega)]; congr 1; omega
      · rw [if_neg h2, if_neg (by omega), if_neg (by omega)]
  · intro i k i1 i2 k1 k2
    rw [show i = j - 1 by omega, show k = j by omega]; exact hlt
theorem sw_ins {l : List α} {i j a b : Nat} (hi : a ≤ i ∧ i < b) (hj : a ≤ j ∧ j < b) (hb : b ≤ l.length) : Ins l (sw l i j) a b := by
  refine ⟨fun k k1 k2 => ?_, fun k hk => ?_, by simp⟩
  · rw [sw_at _ _ _ _ (by omega) (by omega)]
    split
    · exact ⟨i, hi.1, hi.2, rfl⟩
    · split
      · exact ⟨j, hj.1, hj.2, rfl⟩
      · exact ⟨k, k1, k2, rfl⟩
  · rw [sw_at _ _ _ _ (by omega) (by omega), if_neg (by omega), if_neg (by omega)]
/-- an element on its way down: all in order but for it, and it is not behind those that it has passed -/
def Down (lt : α → α → Bool) (l : List α) (a i j : Nat) : Prop := (∀ p q, a ≤ p → p < q → q ≤ i → p ≠ j → q ≠ j → lt (at_ l q) (at_ l p) = false) ∧ (∀ q, j < q → q ≤ i → lt (at_ l q) (at_ l j) = false)
theorem Down.start {l : List α} {a i : Nat} (h : Seg lt l a i) : Down lt l a i i := ⟨fun p q h1 h2 h3 h4 h5 => h p q h1 h2 (by omega), fun q h1 h2 => by omega⟩
theorem Down.step (h : Swo lt) {l : List α} {a i j : Nat} (hd : Down lt l a i j) (haj : a < j) (hji : j ≤ i) (hl : i < l.length) (hlt : lt (at_ l j) (at_ l (j - 1)) = true) : Down lt (sw l j (j - 1)) a i (j - 1) := by
  obtain ⟨h1, h2⟩ := hd
  refine ⟨fun p q p1 p2 p3 p4 p5 => ?_, fun q q1 q2 => ?_⟩
  · rw [sw_at _ _ _ _ (by omega) (by omega), sw_at _ _ _ _ (by omega) (by omega), if_neg p5, if_neg p4]
    by_cases e1 : q = j
    · subst e1
      rw [if_pos rfl, if_neg (by omega)]
      exact h1 p (q - 1) p1 (by omega) (by omega) (by omega) (by omega)
    · rw [if_neg e1]
      by_cases e2 : p = j
      · subst e2
        rw [if_pos rfl]
        exact h1 (p - 1) q (by omega) (by omega) p3 (by omega) e1
      · rw [if_neg e2]
        exact h1 p q p1 p2 p3 e2 e1
  · rw [sw_at _ _ _ _ (by omega) (by omega), sw_at _ _ _ _ (by omega) (by omega), if_neg (by omega), if_pos rfl]
    by_cases e1 : q = j
    · subst e1
      rw [if_pos rfl]
      exact h.asym _ _ hlt
    · rw [if_neg e1]
      exact h2 q (by omega) q2
theorem Down.stop (h : Swo lt) {l : List α} {a i j : Nat} (hd : Down lt l a i j) (hs : j = a ∨ lt (at_ l j) (at_ l (j - 1)) = false) (haj : a ≤ j) : Seg lt l a (i + 1) := by
  obtain ⟨h1, h2⟩ := hd
  intro p q p1 p2 p3
  by_cases e1 : p = j
  · subst e1; exact h2 q p2 (by omega)
  · by_cases e2 : q = j
    · subst e2
      rcases hs with hs | hs
      · omega
      · by_cases e3 : p = q - 1
        · subst e3; exact hs
        · exact h.ntrans _ _ _ hs (h1 p (q - 1) p1 (by omega) (by omega) (by omega) (by omega))
    · exact h1 p q p1 p2 (by omega) e1 e2
theorem seg_sd {l : List α} (h : Seg lt l 0 l.length) : Sd lt false l := by
  unfold Sd
  rw [List.pairwise_iff_getElem]
  intro i j hi hj hij
  have := h i j (by omega) hij hj
  simpa [at_, List.getD_eq_getElem?_getD, hi, hj] using this
theorem sd_seg {l : List α} (h : Sd lt false l) : Seg lt l 0 l.length := by
  intro i j _ hij hj
  unfold Sd at h
  rw [List.pairwise_iff_getElem] at h
  have := h i j (by omega) hj hij
  have hi : i < l.length := by omega
  simpa [at_, List.getD_eq_getElem?_getD, hi, hj] using this
end Go.Srt
namespace Go.Srt
variable {α : Type} {lt : α → α → Bool} [Inhabited α]
theorem rot_up {l c : List α} {a k : Nat} (hk : a ≤ k) (hl : k + 1 < c.length) (h : ∀ q, at_ c q = rotF l a (a + 1) (k + 1) q) : ∀ q, at_ (sw c k (k + 1)) q = rotF l a (a + 1) (k + 2) q := by
  intro q
  rw [sw_at _ _ _ _ (by omega) (by omega)]
  simp only [h, rotF]
  (repeat' split) <;> first | rfl | (exfalso; omega) | (congr 1; omega)
theorem rot_down {l c : List α} {m k : Nat} (hk : 0 < k) (hkm : k ≤ m) (hl : m < c.length) (h : ∀ q, at_ c q = rotF l k m (m + 1) q) : ∀ q, at_ (sw c k (k - 1)) q = rotF l (k - 1) m (m + 1) q := by
  intro q
  rw [sw_at _ _ _ _ (by omega) (by omega)]
  simp only [h, rotF]
  (repeat' split) <;> first | rfl | (exfalso; omega) | (congr 1; omega)
/-- one ahead of a piece, put into it -/
theorem ins1 (h : Swo lt) {l l1 : List α} {a m b i : Nat} (hm : m = a + 1) (h1 : m ≤ i) (h2 : i ≤ b) (s2 : Seg lt l m b) (f1 : i = m ∨ lt (at_ l (i - 1)) (at_ l a) = true) (f2 : i = b ∨ lt (at_ l i) (at_ l a) = false)
    (hr : ∀ q, at_ l1 q = rotF l a m i q) : (∀ x y, a ≤ x → x < m → m ≤ y → y < i → lt (at_ l y) (at_ l x) = true) ∧ Seg lt l1 a b := by
  subst hm
  have hC : ∀ y, a + 1 ≤ y → y < i → lt (at_ l y) (at_ l a) = true := by
    intro y y1 y2
    rcases f1 with f1 | f1
    · omega
    · cases hlt : lt (at_ l y) (at_ l a) with
      | true => rfl
      | false =>
        exfalso
        have g1 : lt (at_ l (i - 1)) (at_ l y) = false := by
          by_cases hy : y = i - 1
          · subst hy; exact h.irr _
          · exact s2 _ _ y1 (by omega) (by omega)
        have := h.ntrans _ _ _ g1 hlt
        rw [f1] at this; cases this
  have hD : ∀ y, i ≤ y → y < b → lt (at_ l y) (at_ l a) = false := by
    intro y y1 y2
    rcases f2 with f2 | f2
    · omega
    · by_cases hy : y = i
      · subst hy; exact f2
      · exact h.ntrans _ _ _ (s2 _ _ h1 (by omega) y2) f2
  refine ⟨fun x y x1 x2 y1 y2 => by rw [show x = a by omega]; exact hC y y1 y2, ?_⟩
  intro p q p1 p2 p3
  rw [hr, hr]
  unfold rotF
  by_cases c1 : q < i - 1
  · rw [if_pos (by omega), if_pos (by omega)]
    exact s2 _ _ (by omega) (by omega) (by omega)
  · by_cases c2 : q = i - 1
    · rw [if_neg (by omega), if_pos (by omega), if_pos (by omega)]
      rw [show q - (i - (a + 1)) = a by omega]
      exact h.asym _ _ (hC _ (by omega) (by omega))
    · rw [if_neg (by omega), if_neg (by omega)]
      by_cases c3 : p < i - 1
      · rw [if_pos (by omega)]
        exact s2 _ _ (by omega) (by omega) (by omega)
      · by_cases c4 : p = i - 1
        · rw [if_neg (by omega), if_pos (by omega), show p - (i - (a + 1)) = a by omega]
          exact hD _ (by omega) p3
        · rw [if_neg (by omega), if_neg (by omega)]
          exact s2 _ _ (by omega) (by omega) (by omega)
/-- one behind a piece, put into it -/
theorem ins2 (h : Swo lt) {l l1 : List α} {a m b i : Nat} (hb : b = m + 1) (h1 : a ≤ i) (h2 : i ≤ m) (s1 : Seg lt l a m) (f1 : i = a ∨ lt (at_ l m) (at_ l (i - 1)) = false) (f2 : i = m ∨ lt (at_ l m) (at_ l i) = true)
    (hr : ∀ q, at_ l1 q = rotF l i m b q) : (∀ x y, i ≤ x → x < m → m ≤ y → y < b → lt (at_ l y) (at_ l x) = true) ∧ Seg lt l1 a b := by
  subst hb
  have hC : ∀ x, i ≤ x → x < m → lt (at_ l m) (at_ l x) = true := by
    intro x x1 x2
    rcases f2 with f2 | f2
    · omega
    · cases hlt : lt (at_ l m) (at_ l x) with
      | true => rfl
      | false =>
        exfalso
        have g1 : lt (at_ l x) (at_ l i) = false := by
          by_cases hy : x = i
          · subst hy; exact h.irr _
          · exact s1 _ _ h1 (by omega) x2
        have := h.ntrans _ _ _ hlt g1
        rw [f2] at this; cases this
  have hD : ∀ x, a ≤ x → x < i → lt (at_ l m) (at_ l x) = false := by
    intro x x1 x2
    rcases f1 with f1 | f1
    · omega
    · by_cases hy : x = i - 1
      · subst hy; exact f1
      · exact h.ntrans _ _ _ f1 (s1 _ _ x1 (by omega) (by omega))
  refine ⟨fun x y x1 x2 y1 y2 => by rw [show y = m by omega]; exact hC x x1 x2, ?_⟩
  intro p q p1 p2 p3
  rw [hr, hr]
  unfold rotF
  by_cases c1 : q < i
  · rw [if_neg (by omega), if_neg (by omega), if_neg (by omega), if_neg (by omega)]
    exact s1 _ _ p1 p2 (by omega)
  · by_cases c2 : q = i
    · rw [if_pos (by omega), if_neg (by omega), if_neg (by omega), show q + (m - i) = m by omega]
      exact hD _ p1 (by omega)
    · rw [if_neg (by omega), if_pos (by omega)]
      by_cases c3 : p < i
      · rw [if_neg (by omega), if_neg (by omega)]
        exact s1 _ _ p1 (by omega) (by omega)
      · by_cases c4 : p = i
        · rw [if_pos (by omega), show p + (m - i) = m by omega]
          exact h.asym _ _ (hC _ (by omega) (by omega))
        · rw [if_neg (by omega), if_pos (by omega)]
          exact s1 _ _ (by omega) (by omega) (by omega)
end Go.Srt
namespace Go.Proofs.YtdkihpjnidhnmaaGreat
open Go.SL Go.Spc Go.Tup Go.Srt
instance : Inhabited T5 := ⟨⟨0, 0, 0, 0, 0⟩⟩
def oCells (o : T5) : List Value := [.int .i64 o.c0, .int .i64 o.c1, .int .i64 o.c2, .int .i64 o.c3, .int .i64 o.c4]
def runCells (bb k n : Nat) (o : T5) : List Value := [pv bb, .int .i64 (k : Int), .int .i64 (n : Int), .int .i64 o.c0, .int .i64 o.c1, .int .i64 o.c2, .int .i64 o.c3, .int .i64 o.c4]
/-- a run in memory: its struct, its grant, its words -/
def RunH (bx : Nat) (g : Gr) (k : Nat) (o : T5) (ts : List T5) (rest : List Int) : Hp :=
  [[(bx, row (runCells g.bb k ts.length o) 126)], [g.obj], [(g.br, row (wcells (words k ts ++ rest)) 117)]]
def T5.setCol (t : T5) (c : Nat) (v : Int) : T5 :=
  match c with
  | 0 => { t with c0 := v }
  | 1 => { t with c1 := v }
  | 2 => { t with c2 := v }
  | 3 => { t with c3 := v }
  | 4 => { t with c4 := v }
  | _ => t
theorem setCol_list (t : T5) (c : Nat) (v : Int) (h : c < 5) : (T5.setCol t c v).toList = t.toList.set c v := by
  match c, h with
  | 0, _ => rfl
  | 1, _ => rfl
  | 2, _ => rfl
  | 3, _ => rfl
  | 4, _ => rfl
theorem tw_set (t : T5) (k c : Nat) (v : Int) (h : c < k) (hk : k ≤ 5) : tw k (T5.setCol t c v) = (tw k t).set c (wd v) := by
  unfold tw
  rw [setCol_list t c v (by omega), List.take_set, List.map_set]
theorem words_set (k c : Nat) (v : Int) (hc : c < k) (hk : k ≤ 5) : ∀ (ts : List T5) (i : Nat), i < ts.length → (words k ts).set (i * k + c) (wd v) = words k (ts.set i (T5.setCol (at_ ts i) c v))
  | [], _, h => by simp at h
  | t :: ts, 0, _ => by
    simp only [words, List.flatMap_cons, Nat.zero_mul, Nat.zero_add, List.set_cons_zero]
    rw [List.set_append_left _ _ (by rw [tw_length t hk]; exact hc)]
    show _ = tw k (T5.setCol t c v) ++ _
    rw [tw_set t k c v hc hk]
  | t :: ts, i + 1, h => by
    have ih := words_set k c v hc hk ts i (by simpa using h)
    simp only [words, List.flatMap_cons, List.set_cons_succ] at ih ⊢
    rw [List.set_append_right _ _ (by rw [tw_length t hk, Nat.succ_mul]; omega), tw_length t hk, show (i + 1) * k + c - k = i * k + c by rw [Nat.succ_mul]; omega, ih]
    rfl
theorem wordsk_get (k c : Nat) (hc : c < k) (hk : k ≤ 5) : ∀ (ts : List T5) (i : Nat), i < ts.length → (words k ts)[i * k + c]? = some (wd ((at_ ts i).col c))
  | [], _, h => by simp at h
  | t :: ts, 0, _ => by
    simp only [words, List.flatMap_cons, Nat.zero_mul, Nat.zero_add]
    rw [List.getElem?_append_left (by rw [tw_length t hk]; exact hc), tw_get t k c hc hk]
    rfl
  | t :: ts, i + 1, h => by
    have ih := wordsk_get k c hc hk ts i (by simpa using h)
    simp only [words, List.flatMap_cons] at ih ⊢
    rw [List.getElem?_append_right (by rw [tw_length t hk, Nat.succ_mul]; omega), tw_length t hk, show (i + 1) * k + c - k = i * k + c by rw [Nat.succ_mul]; omega, ih]
    rfl
theorem idx_lt {i n k c : Nat} (hi : i < n) (hc : c < k) : i * k + c < n * k := by
  have : (i + 1) * k ≤ n * k := Nat.mul_le_mul_right _ hi
  rw [Nat.succ_mul] at this; omega
theorem rw_get {k c : Nat} (hc : c < k) (hk : k ≤ 5) {ts : List T5} {i : Nat} (hi : i < ts.length) {rest : List Int} : (wcells (words k ts ++ rest))[i * k + c]? = some (.int .u64 (wd ((at_ ts i).col c))) := by
  unfold wcells
  rw [List.getElem?_map, List.getElem?_append_left (by rw [words_length hk]; exact idx_lt hi hc), wordsk_get k c hc hk ts i hi]
  rfl
theorem rw_set {k c : Nat} (hc : c < k) (hk : k ≤ 5) {ts : List T5} {i : Nat} (hi : i < ts.length) {rest : List Int} (v : Int) : (wcells (words k ts ++ rest)).set (i * k + c) (.int .u64 (wd v)) = wcells (words k (ts.set i (T5.setCol (at_ ts i) c v)) ++ rest) := by
  rw [wcells_set, List.set_append_left _ _ (by rw [words_length hk]; exact idx_lt hi hc), words_set k c v hc hk ts i hi]
set_option maxHeartbeats 1000000 in
theorem At_ct (bx : Nat) (g : Gr) (k : Nat) (o : T5) (ts : List T5) (rest : List Int) (h1 : 1 ≤ k) (h2 : k ≤ 5) (hg : g.n ≤ 1000000000) (hgn : ts.length * k ≤ g.n) (hok : ∀ t ∈ ts, okT k t) (i : Nat) (hi : i < ts.length) :
    CtQ Tryz.prog 82 [pv bx, .int .i64 (i : Int)] (RunH bx g k o ts rest) (tv (at_ ts i)) := by
  have hm : at_ ts i ∈ ts := by
    unfold at_; rw [List.getD_eq_getElem?_getD, List.getElem?_eq_getElem hi]; exact List.getElem_mem hi
  have hokt := hok _ hm
  have hback : ∀ c, c < k → IntKind.wrap .i64 (wd ((at_ ts i).col c)) = (at_ ts i).col c := fun c hc => wrap_back (okT_col hokt c (by omega))
  have htz := tpart_zero (at_ ts i)
  have htp := tpart_length (at_ ts i)
  have htset := tpart_set (at_ ts i)
  have htall := tpart_all (at_ ts i) k h2 hokt
  have hik : i * k ≤ ts.length * k := Nat.mul_le_mul_right _ (by omega)
  have hmul : IntKind.wrap .i64 ((i : Int) * (k : Int)) = ((i * k : Nat) : Int) := by rw [← Int.natCast_mul]; exact wrap_i64 (by omega)
  have hget : ∀ c, c < k → (wcells (words k ts ++ rest))[i * k + c]? = some (.int .u64 (wd ((at_ ts i).col c))) := fun c hc => rw_get hc h2 hi
  have hidx : ∀ c, c < k → i * k + c < ts.length * k := fun c hc => idx_lt hi hc
  generalize hcells : wcells (words k ts ++ rest) = cells at *
  generalize at_ ts i = t at *
  generalize hn : ts.length = n at *
  unfold RunH runCells Gr.obj
  rw [hcells, hn]
  generalize hik2 : i * k = ik at *
  refine Ct.intro Tryz.func82 rfl Tryz.ntmps82 (nle rfl) fun w0 => ?_; dsimp only [argSlots, Nat.reduceAdd]
  repeat (first | apply G.seq | refine G.plain (h := ?_) | apply G.block | apply Dn.next | refine R.enter0 (h := ?_) | refine R.nil (h := ?_) | refine R.move (h := ?_) | refine R.nilCheck (h := ?_) | refine R.fieldAddr (h := ?_) | refine R.load1 (h := ?_) | (refine R.alloc (h := ?_); intro _))
  rename_i b4 b5
  refine G.loop (X := Nat) (fun c => c ≤ k) (fun c => [(11, .int .i64 (c : Int)), (10, .int .i64 (k : Int)), (0, pv bx), (1, .int .i64 (i : Int)), (5, .pointer (some ⟨b5, 0, none⟩)), (4, .pointer (some ⟨b4, 0, none⟩))])
    (fun c => [[(b4, row (tpart t 0) 47)], [(b5, row (tpart t c) 47)], [(bx, row [pv g.bb, .int .i64 (k : Int), .int .i64 (n : Int), .int .i64 o.c0, .int .i64 o.c1, .int .i64 o.c2, .int .i64 o.c3, .int .i64 o.c4] 126)], [(g.bb, row [.slice (some ⟨g.br, 0, none⟩) g.n g.n] 120)], [(g.br, row cells 117)]])
    (fun c => k - c) 0 (by omega) (body := ?_)
  intro c hc
  by_cases hck : c < k
  · have hgi := hget c hck
    have hbi := hback c hck
    have hti := htset c (by omega)
    have htl := htp c (by omega)
    have hid := hidx c hck
    have hai : ((ik : Int) + (c : Int)).toNat = ik + c := by omega
    repeat (first | apply G.seq | refine G.plain (h := ?_) | apply G.block | apply G.skip | apply Dn.next | apply Dn.blockEnd | refine G.condPT (ht := ?_) | refine G.draw (id := 5) [] (h := ?_) | refine R.enter0 (h := ?_) | refine R.nil (h := ?_) | refine R.move (h := ?_) | refine R.assign (h := ?_) | refine R.nilCheck (h := ?_) | refine R.fieldAddr (h := ?_) | refine R.load1 (h := ?_) | refine R.store1 (h := ?_) | refine R.lss (h := ?_) | refine R.addw (h := ?_) | refine R.mulw (h := ?_) | refine R.convert (h := ?_) | refine R.indexAddr (h := ?_) | refine R.indexAddrA (h := ?_))
    exact Dn.round (c + 1) (by omega) (by omega)
  · have hki : k = c := by omega
    subst hki
    rw [htall, htz]
    unfold tcells
    repeat (first | apply G.seq | refine G.plain (h := ?_) | apply G.exit | apply G.ret | apply Dn.next | apply Dn.exitHere | apply Dn.exitThen | refine G.condPF (ht := ?_) | refine R.enter0 (h := ?_) | refine R.nil (h := ?_) | refine R.loadN (h := ?_) | refine R.storeN (h := ?_) | refine R.lss (h := ?_))
    (refine Dn.post (Hr := [[(bx, row [pv g.bb, .int .i64 (k : Int), .int .i64 (n : Int), .int .i64 o.c0, .int .i64 o.c1, .int .i64 o.c2, .int .i64 o.c3, .int .i64 o.c4] 126)], [(g.bb, row [.slice (some ⟨g.br, 0, none⟩) g.n g.n] 120)], [(g.br, row cells 117)]]) Tryz.results82 (hR := ?_); exact ⟨rfl, rfl⟩)
theorem RLen_ct (bx : Nat) (g : Gr) (k : Nat) (o : T5) (ts : List T5) (rest : List Int) : CtQ Tryz.prog 132 [pv bx] (RunH bx g k o ts rest) (.int .i64 (ts.length : Int)) := by
  unfold RunH runCells
  refine Ct.intro Tryz.func132 rfl Tryz.ntmps132 (nle rfl) fun w0 => ?_; dsimp only [argSlots, Nat.reduceAdd]
  repeat (first | apply G.seq | refine G.plain (h := ?_) | apply G.ret | apply Dn.next | refine R.enter0 (h := ?_) | refine R.nil (h := ?_) | refine R.move (h := ?_) | refine R.assign (h := ?_) | refine R.nilCheck (h := ?_) | refine R.fieldAddr (h := ?_) | refine R.load1 (h := ?_))
  (refine Dn.post (Hr := [[(bx, row [pv g.bb, .int .i64 (k : Int), .int .i64 (ts.length : Int), .int .i64 o.c0, .int .i64 o.c1, .int .i64 o.c2, .int .i64 o.c3, .int .i64 o.c4] 126)], [g.obj], [(g.br, row (wcells (words k ts ++ rest)) 117)]]) Tryz.results132 (hR := ?_); exact ⟨rfl, rfl⟩)
/-- ahead in an order -/
def ltO (o : T5) (a b : T5) : Bool := decide (cmpT o a b < 0)
theorem ltO_swo (o : T5) : Swo (ltO o) where
  asym := fun a b h => by
    simp only [ltO, decide_eq_true_eq, decide_eq_false_iff_not] at *
    have := cmpT_swap o a b; omega
  ntrans := fun a b c h1 h2 => by
    simp only [ltO, decide_eq_false_iff_not] at *
    have e1 := cmpT_swap o a b
    have e2 := cmpT_swap o b c
    have e3 := cmpT_swap o a c
    have := cmpT_trans o c b a (by omega) (by omega)
    omega
theorem RLess_ct (bx : Nat) (g : Gr) (k : Nat) (o : T5) (ts : List T5) (rest : List Int) (h1 : 1 ≤ k) (h2 : k ≤ 5) (hg : g.n ≤ 1000000000) (hgn : ts.length * k ≤ g.n) (hok : ∀ t ∈ ts, okT k t) (i j : Nat) (hi : i < ts.length) (hj : j < ts.length) :
    CtQ Tryz.prog 133 [pv bx, .int .i64 (i : Int), .int .i64 (j : Int)] (RunH bx g k o ts rest) (.bool (ltO o (at_ ts i) (at_ ts j))) := by
  have hA := At_ct bx g k o ts rest h1 h2 hg hgn hok i hi
  have hB := At_ct bx g k o ts rest h1 h2 hg hgn hok j hj
  have hC : CtQ Tryz.prog 49 [tv (at_ ts i), tv (at_ ts j), .agg (oCells o).toArray] [] (.int .i64 (cmpT o (at_ ts i) (at_ ts j))) := Compare_ct _ _ _ _ _ _ _ _ _ _ _ _ _ _ _
  generalize tv (at_ ts i) = va at *
  generalize tv (at_ ts j) = vb at *
  have hlt : ltO o (at_ ts i) (at_ ts j) = dec (cmpT o (at_ ts i) (at_ ts j) < 0) := by rw [dec_eq]; rfl
  rw [hlt]
  generalize cmpT o (at_ ts i) (at_ ts j) = c at *
  unfold RunH runCells at *
  unfold oCells at hC
  refine Ct.intro Tryz.func133 rfl Tryz.ntmps133 (nle rfl) fun w0 => ?_; dsimp only [argSlots, Nat.reduceAdd]
  repeat (first | apply G.seq | refine G.plain (h := ?_) | apply G.ret | apply Dn.next | refine G.draw (id := 1) [(2, .quiet), (5, .quiet), (10, .quiet)] (h := ?_) | refine R.enter0 (h := ?_) | refine R.nil (h := ?_) | refine R.move (h := ?_) | refine R.assign (h := ?_) | refine R.nilCheck (h := ?_) | refine R.fieldAddr (h := ?_) | refine R.loadN (h := ?_) | refine R.lss (h := ?_) | refine R.callQ (hct := by apply hA <;> (first | omega | assumption)) (h := ?_) | refine R.callQ (hct := by apply hB <;> (first | omega | assumption)) (h := ?_) | refine R.callQ (hct := by apply hC <;> (first | omega | assumption)) (h := ?_))
  (refine Dn.post (Hr := [[(bx, row [pv g.bb, .int .i64 (k : Int), .int .i64 (ts.length : Int), .int .i64 o.c0, .int .i64 o.c1, .int .i64 o.c2, .int .i64 o.c3, .int .i64 o.c4] 126)], [g.obj], [(g.br, row (wcells (words k ts ++ rest)) 117)]]) Tryz.results133 (hR := ?_); exact ⟨rfl, rfl⟩)
end Go.Proofs.YtdkihpjnidhnmaaGreat
namespace Go.Proofs.YtdkihpjnidhnmaaGreat
open Go.SL Go.Spc Go.Tup Go.Srt
/-- the first c columns of the one, the rest of the other -/
def mix (c : Nat) (a b : T5) : T5 := ⟨if 0 < c then a.c0 else b.c0, if 1 < c then a.c1 else b.c1, if 2 < c then a.c2 else b.c2, if 3 < c then a.c3 else b.c3, if 4 < c then a.c4 else b.c4⟩
theorem mix_zero (a b : T5) : mix 0 a b = b := rfl
theorem mix_succ (c : Nat) (a b : T5) (h : c < 5) : T5.setCol (mix c a b) c (a.col c) = mix (c + 1) a b := by
  match c, h with
  | 0, _ => rfl
  | 1, _ => rfl
  | 2, _ => rfl
  | 3, _ => rfl
  | 4, _ => rfl
theorem mix_col (c : Nat) (a b : T5) (h : c < 5) : (mix c a b).col c = b.col c := by
  match c, h with
  | 0, _ => rfl
  | 1, _ => rfl
  | 2, _ => rfl
  | 3, _ => rfl
  | 4, _ => rfl
theorem mix_all (k : Nat) (a b : T5) (h : k ≤ 5) (ha : ∀ i, k ≤ i → a.col i = 0) (hb : ∀ i, k ≤ i → b.col i = 0) : mix k a b = a := by
  have a0 := ha 0; have a1 := ha 1; have a2 := ha 2; have a3 := ha 3; have a4 := ha 4
  have b0 := hb 0; have b1 := hb 1; have b2 := hb 2; have b3 := hb 3; have b4 := hb 4
  obtain ⟨x0, x1, x2, x3, x4⟩ := a
  obtain ⟨y0, y1, y2, y3, y4⟩ := b
  simp only [T5.col] at *
  match k, h with
  | 0, _ => simp_all [mix]
  | 1, _ => simp_all [mix]
  | 2, _ => simp_all [mix]
  | 3, _ => simp_all [mix]
  | 4, _ => simp_all [mix]
  | 5, _ => simp [mix]
theorem at_set (ts : List T5) (i j : Nat) (t : T5) (hi : i < ts.length) : at_ (ts.set i t) j = if j = i then t else at_ ts j := by
  unfold at_
  simp only [List.getD_eq_getElem?_getD, List.getElem?_set]
  by_cases h : i = j
  · subst h; simp [hi]
  · rw [if_neg h, if_neg (fun e => h e.symm)]
/-- two tuples whose first c columns changed places -/
def swc (ts : List T5) (i j c : Nat) : List T5 := (ts.set i (mix c (at_ ts j) (at_ ts i))).set j (mix c (at_ ts i) (at_ ts j))
set_option maxHeartbeats 2000000 in
theorem RSwap_ct (bx : Nat) (g : Gr) (k : Nat) (o : T5) (ts : List T5) (rest : List Int) (h1 : 1 ≤ k) (h2 : k ≤ 5) (hg : g.n ≤ 1000000000) (hgn : ts.length * k ≤ g.n) (hok : ∀ t ∈ ts, okT k t) (i j : Nat) (hi : i < ts.length) (hj : j < ts.length) (hij : i ≠ j) :
    Ct Tryz.prog 134 [pv bx, .int .i64 (i : Int), .int .i64 (j : Int)] (RunH bx g k o ts rest) fun v H' => v = .tuple #[] ∧ H' = RunH bx g k o (sw ts i j) rest := by
  have hik : i * k ≤ ts.length * k := Nat.mul_le_mul_right _ (by omega)
  have hjk : j * k ≤ ts.length * k := Nat.mul_le_mul_right _ (by omega)
  have hmi : IntKind.wrap .i64 ((i : Int) * (k : Int)) = ((i * k : Nat) : Int) := by rw [← Int.natCast_mul]; exact wrap_i64 (by omega)
  have hmj : IntKind.wrap .i64 ((j : Int) * (k : Int)) = ((j * k : Nat) : Int) := by rw [← Int.natCast_mul]; exact wrap_i64 (by omega)
  have hmem : ∀ q, q < ts.length → at_ ts q ∈ ts := fun q hq => by
    unfold at_; rw [List.getD_eq_getElem?_getD, List.getElem?_eq_getElem hq]; exact List.getElem_mem hq
  have hend : swc ts i j k = sw ts i j := by
    unfold swc sw
    rw [mix_all k _ _ h2 (hok _ (hmem j hj)).2 (hok _ (hmem i hi)).2, mix_all k _ _ h2 (hok _ (hmem i hi)).2 (hok _ (hmem j hj)).2]
  have hbeg : swc ts i j 0 = ts := by
    unfold swc
    rw [mix_zero, mix_zero]
    apply ext_at
    · simp
    · intro q
      rw [at_set _ _ _ _ (by simpa using hj), at_set _ _ _ _ hi]
      split
      · rename_i e; rw [e]
      · split
        · rename_i e; rw [e]
        · rfl
  have hlen : ∀ c, (swc ts i j c).length = ts.length := fun c => by simp [swc]
  have hati : ∀ c, at_ (swc ts i j c) i = mix c (at_ ts j) (at_ ts i) := fun c => by
    unfold swc; rw [at_set _ _ _ _ (by simpa using hj), if_neg hij, at_set _ _ _ _ hi, if_pos rfl]
  have hatj : ∀ c, at_ (swc ts i j c) j = mix c (at_ ts i) (at_ ts j) := fun c => by
    unfold swc; rw [at_set _ _ _ _ (by simpa using hj), if_pos rfl]
  have hgi : ∀ c, c < k → (wcells (words k (swc ts i j c) ++ rest))[i * k + c]? = some (.int .u64 (wd ((at_ ts i).col c))) := fun c hc => by
    rw [rw_get hc h2 (by rw [hlen]; exact hi), hati, mix_col _ _ _ (by omega)]
  have hgj : ∀ c, c < k → (wcells (words k (swc ts i j c) ++ rest))[j * k + c]? = some (.int .u64 (wd ((at_ ts j).col c))) := fun c hc => by
    rw [rw_get hc h2 (by rw [hlen]; exact hj), hatj, mix_col _ _ _ (by omega)]
  obtain ⟨M, hM⟩ : ∃ M : Nat → List Value, ∀ c, c < k → (wcells (words k (swc ts i j c) ++ rest)).set (i * k + c) (.int .u64 (wd ((at_ ts j).col c))) = M c ∧ (M c).set (j * k + c) (.int .u64 (wd ((at_ ts i).col c))) = wcells (words k (swc ts i j (c + 1)) ++ rest) := by
    refine ⟨fun c => (wcells (words k (swc ts i j c) ++ rest)).set (i * k + c) (.int .u64 (wd ((at_ ts j).col c))), fun c hc => ⟨rfl, ?_⟩⟩
    dsimp only
    rw [rw_set hc h2 (by rw [hlen]; exact hi), rw_set hc h2 (by simp [hlen]; exact hj)]
    congr 2
    congr 1
    rw [at_set _ _ _ _ (by rw [hlen]; exact hi), if_neg (fun e => hij e.symm), hati, hatj, mix_succ _ _ _ (by omega), mix_succ _ _ _ (by omega)]
    have e : ∀ (l : List T5) (A B A' B' : T5), (((l.set i A).set j B).set i A').set j B' = (l.set i A').set j B' := fun l A B A' B' => by
      rw [List.set_comm (l := l.set i A) B A' (fun e => hij e.symm), List.set_set, List.set_set]
    exact e ts _ _ _ _
  have hcl : ∀ c, (wcells (words k (swc ts i j c) ++ rest)).length = ts.length * k + rest.length := fun c => by
    rw [wcells_length, List.length_append, words_length h2, hlen]
  have hMl : ∀ c, c < k → (M c).length = ts.length * k + rest.length := fun c hc => by rw [← (hM c hc).1, List.length_set, hcl]
  have hidi : ∀ c, c < k → i * k + c < ts.length * k := fun c hc => idx_lt hi hc
  have hidj : ∀ c, c < k → j * k + c < ts.length * k := fun c hc => idx_lt hj hc
  have hH0 : RunH bx g k o ts rest = RunH bx g k o (swc ts i j 0) rest := by rw [hbeg]
  have hH1 : RunH bx g k o (sw ts i j) rest = RunH bx g k o (swc ts i j k) rest := by rw [hend]
  rw [hH0, hH1]
  unfold RunH runCells Gr.obj
  simp only [hlen]
  generalize hC : (fun c => wcells (words k (swc ts i j c) ++ rest)) = C at *
  have hCe : ∀ c, wcells (words k (swc ts i j c) ++ rest) = C c := fun c => by rw [← hC]
  simp only [hCe] at *
  generalize i * k = ik at *
  generalize j * k = jk at *
  generalize hn : ts.length = n at *
  refine Ct.intro Tryz.func134 rfl Tryz.ntmps134 (nle rfl) fun w0 => ?_; dsimp only [argSlots, Nat.reduceAdd]
  repeat (first | apply G.seq | refine G.plain (h := ?_) | apply G.block | apply Dn.next | refine R.enter0 (h := ?_) | refine R.nil (h := ?_) | refine R.move (h := ?_) | refine R.nilCheck (h := ?_) | refine R.fieldAddr (h := ?_) | refine R.load1 (h := ?_))
  refine G.loop (X := Nat) (fun c => c ≤ k) (fun c => [(13, .int .i64 (c : Int)), (12, .int .i64 (k : Int)), (0, pv bx), (1, .int .i64 (i : Int)), (2, .int .i64 (j : Int))])
    (fun c => [[(bx, row [pv g.bb, .int .i64 (k : Int), .int .i64 (n : Int), .int .i64 o.c0, .int .i64 o.c1, .int .i64 o.c2, .int .i64 o.c3, .int .i64 o.c4] 126)], [(g.bb, row [.slice (some ⟨g.br, 0, none⟩) g.n g.n] 120)], [(g.br, row (C c) 117)]])
    (fun c => k - c) 0 (by omega) (body := ?_)
  intro c hc
  by_cases hck : c < k
  · have h3 := hgi c hck
    have h4 := hgj c hck
    obtain ⟨h5, h6⟩ := hM c hck
    have h7 := hMl c hck
    have h8 := hcl c
    have h9 := hidi c hck
    have h10 := hidj c hck
    have e1 : ((ik : Int) + (c : Int)).toNat = ik + c := by omega
    have e2 : ((jk : Int) + (c : Int)).toNat = jk + c := by omega
    repeat (first | apply G.seq | refine G.plain (h := ?_) | apply G.block | apply G.skip | apply Dn.next | apply Dn.blockEnd | refine G.condPT (ht := ?_) | refine G.draw (id := 3) [] (h := ?_) | refine G.draw (id := 4) [] (h := ?_) | refine R.enter0 (h := ?_) | refine R.nil (h := ?_) | refine R.move (h := ?_) | refine R.assign (h := ?_) | refine R.nilCheck (h := ?_) | refine R.fieldAddr (h := ?_) | refine R.load1 (h := ?_) | refine R.store1 (h := ?_) | refine R.lss (h := ?_) | refine R.addw (h := ?_) | refine R.mulw (h := ?_) | refine R.indexAddr (h := ?_))
    exact Dn.round (c + 1) (by omega) (by omega)
  · have hki : k = c := by omega
    subst hki
    repeat (first | apply G.seq | refine G.plain (h := ?_) | apply G.exit | apply Dn.next | apply Dn.exitHere | apply Dn.exitThen | refine G.condPF (ht := ?_) | refine R.enter0 (h := ?_) | refine R.nil (h := ?_) | refine R.lss (h := ?_))
    (refine Dn.postEnd (Hr := [[(bx, row [pv g.bb, .int .i64 (k : Int), .int .i64 (n : Int), .int .i64 o.c0, .int .i64 o.c1, .int .i64 o.c2, .int .i64 o.c3, .int .i64 o.c4] 126)], [(g.bb, row [.slice (some ⟨g.br, 0, none⟩) g.n g.n] 120)], [(g.br, row (C k) 117)]]) Tryz.results134 (hR := ?_); exact ⟨rfl, rfl⟩)
end Go.Proofs.YtdkihpjnidhnmaaGreat
namespace Go.Proofs.YtdkihpjnidhnmaaGreat
open Go.SL Go.Spc Go.Tup Go.Srt
instance : Meth Tryz.prog 124 "Less" 133 := Meth.of (by kernel_rfl)
instance : Meth Tryz.prog 124 "Swap" 134 := Meth.of (by kernel_rfl)
instance : Meth Tryz.prog 124 "Len" 132 := Meth.of (by kernel_rfl)
/-- the run as an interface's value -/
abbrev runV (bx : Nat) : Value := .iface 124 (pv bx)
/-- n tuples of a width, in a grant -/
structure TsOk (g : Gr) (k n : Nat) (ts : List T5) : Prop where
  k1 : 1 ≤ k
  k5 : k ≤ 5
  gn : g.n ≤ 1000000000
  fit : n * k ≤ g.n
  len : ts.length = n
  ok : ∀ t ∈ ts, okT k t
theorem sw_mem {ts : List T5} {i j : Nat} (hi : i < ts.length) (hj : j < ts.length) {t : T5} (h : t ∈ sw ts i j) : t ∈ ts := by
  have hm : ∀ q, q < ts.length → at_ ts q ∈ ts := fun q hq => by
    unfold at_; rw [List.getD_eq_getElem?_getD, List.getElem?_eq_getElem hq]; exact List.getElem_mem hq
  unfold sw at h
  rcases List.mem_or_eq_of_mem_set h with h | h
  · rcases List.mem_or_eq_of_mem_set h with h | h
    · exact h
    · rw [h]; exact hm j hj
  · rw [h]; exact hm i hi
theorem TsOk.sw {g : Gr} {k n : Nat} {ts : List T5} (h : TsOk g k n ts) {i j : Nat} (hi : i < n) (hj : j < n) : TsOk g k n (sw ts i j) :=
  { h with len := by rw [sw_length]; exact h.len
           ok := fun t ht => h.ok t (sw_mem (by rw [h.len]; exact hi) (by rw [h.len]; exact hj) ht) }
theorem TsOk.n_le {g : Gr} {k n : Nat} {ts : List T5} (h : TsOk g k n ts) : n ≤ 1000000000 := Nat.le_trans (Nat.le_mul_of_pos_right n h.k1) (Nat.le_trans h.fit h.gn)
theorem less_of {g : Gr} {k n : Nat} {ts : List T5} (h : TsOk g k n ts) (bx : Nat) (o : T5) (rest : List Int) (i j : Nat) (hi : i < n) (hj : j < n) :
    CtQ Tryz.prog 133 [pv bx, .int .i64 (i : Int), .int .i64 (j : Int)] (RunH bx g k o ts rest) (.bool (ltO o (at_ ts i) (at_ ts j))) :=
  RLess_ct bx g k o ts rest h.k1 h.k5 h.gn (by rw [h.len]; exact h.fit) h.ok i j (by rw [h.len]; exact hi) (by rw [h.len]; exact hj)
theorem swap_of {g : Gr} {k n : Nat} {ts : List T5} (h : TsOk g k n ts) (bx : Nat) (o : T5) (rest : List Int) (i j : Nat) (hi : i < n) (hj : j < n) (hij : i ≠ j) :
    Ct Tryz.prog 134 [pv bx, .int .i64 (i : Int), .int .i64 (j : Int)] (RunH bx g k o ts rest) fun v H' => v = .tuple #[] ∧ H' = RunH bx g k o (sw ts i j) rest :=
  RSwap_ct bx g k o ts rest h.k1 h.k5 h.gn (by rw [h.len]; exact h.fit) h.ok i j (by rw [h.len]; exact hi) (by rw [h.len]; exact hj) hij
theorem Seg.mono {α : Type} [Inhabited α] {lt : α → α → Bool} {l : List α} {a b c d : Nat} (h : Seg lt l a b) (h1 : a ≤ c) (h2 : d ≤ b) : Seg lt l c d := fun i j i1 i2 i3 => h i j (by omega) i2 (by omega)
section
variable (bx : Nat) (g : Gr) (k n : Nat) (o : T5) (rest : List Int)
theorem swapRange_ct (ts : List T5) (h : TsOk g k n ts) (a b m : Nat) (hab : a + m ≤ b) (hb : b + m ≤ n) :
    Ct Tryz.prog 115 [runV bx, .int .i64 (a : Int), .int .i64 (b : Int), .int .i64 (m : Int)] (RunH bx g k o ts rest) fun v H' =>
      v = .tuple #[] ∧ ∃ ts', H' = RunH bx g k o ts' rest ∧ TsOk g k n ts' ∧ ∀ q, at_ ts' q = swrF ts a b m q := by
  have hnn := h.n_le
  refine Ct.intro Tryz.func115 rfl Tryz.ntmps115 (nle rfl) fun w0 => ?_; dsimp only [argSlots, Nat.reduceAdd]
  repeat (first | apply G.seq | refine G.plain (h := ?_) | apply G.block | apply Dn.next | refine R.enter0 (h := ?_) | refine R.nil (h := ?_) | refine R.assign (h := ?_))
  refine G.loop (X := Nat × List T5) (fun x => x.1 ≤ m ∧ TsOk g k n x.2 ∧ ∀ q, at_ x.2 q = swrF ts a b x.1 q) (fun x => [(8, .int .i64 (x.1 : Int)), (0, runV bx), (1, .int .i64 (a : Int)), (2, .int .i64 (b : Int)), (3, .int .i64 (m : Int))])
    (fun x => RunH bx g k o x.2 rest) (fun x => m - x.1) (0, ts) ⟨Nat.zero_le _, h, fun q => by unfold swrF; rw [if_neg (by omega), if_neg (by omega)]⟩ (body := ?_)
  rintro ⟨i, us⟩ ⟨hi, hok, hq⟩
  dsimp only at hi hok hq ⊢
  by_cases him : i < m
  · have hS := swap_of hok bx o rest (a + i) (b + i) (by omega) (by omega) (by omega)
    have e1 : IntKind.wrap .i64 ((a : Int) + (i : Int)) = ((a + i : Nat) : Int) := by rw [← Int.natCast_add]; exact wrap_i64 (by omega)
    have e2 : IntKind.wrap .i64 ((b : Int) + (i : Int)) = ((b + i : Nat) : Int) := by rw [← Int.natCast_add]; exact wrap_i64 (by omega)
    repeat (first | apply G.seq | refine G.plain (h := ?_) | apply G.block | apply G.skip | apply Dn.next | refine G.condPT (ht := ?_) | refine R.enter0 (h := ?_) | refine R.nil (h := ?_) | refine R.move (h := ?_) | refine R.lss (h := ?_) | refine R.addw (h := ?_))
    refine R.invoke (hct := hS) (h := ?_)
    rintro _ _ ⟨rfl, rfl⟩
    try dsimp only [List.cons_append, List.nil_append]
    repeat (first | refine G.plain (h := ?_) | apply Dn.next | apply Dn.blockEnd | refine R.enter0 (h := ?_) | refine R.nil (h := ?_) | refine R.move (h := ?_) | refine R.assign (h := ?_) | refine R.addw (h := ?_))
    exact Dn.round (i + 1, sw us (a + i) (b + i)) ⟨him, hok.sw (by omega) (by omega), swr_step hab (by rw [h.len]; exact hb) (by rw [hok.len, h.len]) hq him⟩ (by dsimp only; omega)
  · obtain rfl : i = m := by omega
    repeat (first | apply G.seq | refine G.plain (h := ?_) | apply G.exit | apply Dn.next | apply Dn.exitHere | apply Dn.exitThen | refine G.condPF (ht := ?_) | refine R.enter0 (h := ?_) | refine R.nil (h := ?_) | refine R.move (h := ?_) | refine R.lss (h := ?_))
    (refine Dn.postEnd (Hr := RunH bx g k o us rest) Tryz.results115 (hR := ?_); exact ⟨rfl, us, rfl, hok, hq⟩)
theorem rotate_ct (ts : List T5) (h : TsOk g k n ts) (a m b : Nat) (ham : a < m) (hmb : m < b) (hb : b ≤ n) :
    Ct Tryz.prog 114 [runV bx, .int .i64 (a : Int), .int .i64 (m : Int), .int .i64 (b : Int)] (RunH bx g k o ts rest) fun v H' =>
      v = .tuple #[] ∧ ∃ ts', H' = RunH bx g k o ts' rest ∧ TsOk g k n ts' ∧ ∀ q, at_ ts' q = rotF ts a m b q := by
  have hnn := h.n_le
  have e1 : IntKind.wrap .i64 ((m : Int) - (a : Int)) = ((m - a : Nat) : Int) := by rw [wrap_i64 (by omega)]; omega
  have e2 : IntKind.wrap .i64 ((b : Int) - (m : Int)) = ((b - m : Nat) : Int) := by rw [wrap_i64 (by omega)]; omega
  refine Ct.intro Tryz.func114 rfl Tryz.ntmps114 (nle rfl) fun w0 => ?_; dsimp only [argSlots, Nat.reduceAdd]
  repeat (first | apply G.seq | refine G.plain (h := ?_) | apply G.block | apply Dn.next | refine R.enter0 (h := ?_) | refine R.nil (h := ?_) | refine R.move (h := ?_) | refine R.assign (h := ?_) | refine R.subw (h := ?_))
  refine G.loop (X := Nat × Nat × List T5) (fun x => 0 < x.1 ∧ x.1 ≤ m ∧ 0 < x.2.1 ∧ m + x.2.1 ≤ n ∧ TsOk g k n x.2.2 ∧ ∀ q, rotF x.2.2 (m - x.1) m (m + x.2.1) q = rotF ts a m b q)
    (fun x => [(9, .int .i64 (x.2.1 : Int)), (8, .int .i64 (x.1 : Int)), (0, runV bx), (2, .int .i64 (m : Int))])
    (fun x => RunH bx g k o x.2.2 rest) (fun x => x.1 + x.2.1) (m - a, b - m, ts) ⟨by dsimp only; omega, by dsimp only; omega, by dsimp only; omega, by dsimp only; omega, h, fun q => by dsimp only; rw [show m - (m - a) = a by omega, show m + (b - m) = b by omega]⟩ (body := ?_)
  rintro ⟨i, j, us⟩ ⟨hi0, him, hj0, hjn, hok, hq⟩
  dsimp only at hi0 him hj0 hjn hok hq ⊢
  have e3 : IntKind.wrap .i64 ((m : Int) - (i : Int)) = ((m - i : Nat) : Int) := by rw [wrap_i64 (by omega)]; omega
  by_cases hij : i = j
  · subst hij
    have hS := swapRange_ct bx g k n o rest us hok (m - i) m i (by omega) (by omega)
    repeat (first | apply G.seq | refine G.plain (h := ?_) | apply G.exit | apply Dn.next | apply Dn.exitHere | apply Dn.exitThen | refine G.condPF (ht := ?_) | refine R.enter0 (h := ?_) | refine R.nil (h := ?_) | refine R.move (h := ?_) | refine R.neq (h := ?_) | refine R.subw (h := ?_))
    refine R.call (hct := hS) (h := ?_)
    rintro _ _ ⟨rfl, us', rfl, hok', hq'⟩
    try dsimp only [List.cons_append, List.nil_append]
    repeat (first | refine R.nil (h := ?_))
    (refine Dn.postEnd (Hr := RunH bx g k o us' rest) Tryz.results114 (hR := ?_); exact ⟨rfl, us', rfl, hok', fun q => by rw [← hq]; exact rot_last him hq' q⟩)
  · by_cases hgt : j < i
    · have hS := swapRange_ct bx g k n o rest us hok (m - i) m j (by omega) (by omega)
      have e4 : IntKind.wrap .i64 ((i : Int) - (j : Int)) = ((i - j : Nat) : Int) := by rw [wrap_i64 (by omega)]; omega
      repeat (first | apply G.seq | refine G.plain (h := ?_) | apply G.block | apply G.skip | apply Dn.next | refine G.condPT (ht := ?_) | refine R.enter0 (h := ?_) | refine R.nil (h := ?_) | refine R.move (h := ?_) | refine R.gtr (h := ?_) | refine R.neq (h := ?_) | refine R.subw (h := ?_))
      refine R.call (hct := hS) (h := ?_)
      rintro _ _ ⟨rfl, us', rfl, hok', hq'⟩
      try dsimp only [List.cons_append, List.nil_append]
      repeat (first | refine G.plain (h := ?_) | apply Dn.next | apply Dn.blockEnd | refine R.enter0 (h := ?_) | refine R.nil (h := ?_) | refine R.move (h := ?_) | refine R.assign (h := ?_) | refine R.subw (h := ?_))
      exact Dn.round (i - j, j, us') ⟨by omega, by omega, by omega, by omega, hok', fun q => by rw [← hq]; exact rot_stepL him hgt hq' q⟩ (by dsimp only; omega)
    · have hS := swapRange_ct bx g k n o rest us hok (m - i) (m + j - i) i (by omega) (by omega)
      have e4 : IntKind.wrap .i64 ((j : Int) - (i : Int)) = ((j - i : Nat) : Int) := by rw [wrap_i64 (by omega)]; omega
      have e5 : IntKind.wrap .i64 ((m : Int) + (j : Int)) = ((m + j : Nat) : Int) := by rw [← Int.natCast_add]; exact wrap_i64 (by omega)
      have e6 : IntKind.wrap .i64 (((m + j : Nat) : Int) - (i : Int)) = ((m + j - i : Nat) : Int) := by rw [wrap_i64 (by omega)]; omega
      repeat (first | apply G.seq | refine G.plain (h := ?_) | apply G.block | apply G.skip | apply Dn.next | refine G.condPT (ht := ?_) | refine G.condPF (ht := ?_) | refine R.enter0 (h := ?_) | refine R.nil (h := ?_) | refine R.move (h := ?_) | refine R.gtr (h := ?_) | refine R.neq (h := ?_) | refine R.addw (h := ?_) | refine R.subw (h := ?_))
      refine R.call (hct := hS) (h := ?_)
      rintro _ _ ⟨rfl, us', rfl, hok', hq'⟩
      try dsimp only [List.cons_append, List.nil_append]
      repeat (first | refine G.plain (h := ?_) | apply Dn.next | apply Dn.blockEnd | refine R.enter0 (h := ?_) | refine R.nil (h := ?_) | refine R.move (h := ?_) | refine R.assign (h := ?_) | refine R.subw (h := ?_))
      exact Dn.round (i, j - i, us') ⟨by dsimp only; omega, by dsimp only; omega, by dsimp only; omega, by dsimp only; omega, hok', fun q => by rw [← hq]; exact rot_stepR him (by omega) hq' q⟩ (by dsimp only; omega)
/-- what a sorting step leaves: of each kind the same ones in their order, nothing outside turned -/
def Srt (o : T5) (ts ts' : List T5) (a b : Nat) : Prop := Go.Srt.Sp (ltO o) false ts ts' ∧ Ins ts ts' a b
theorem insSort_ct (ts : List T5) (h : TsOk g k n ts) (a b : Nat) (hab : a ≤ b) (hb : b ≤ n) :
    Ct Tryz.prog 110 [runV bx, .int .i64 (a : Int), .int .i64 (b : Int)] (RunH bx g k o ts rest) fun v H' =>
      v = .tuple #[] ∧ ∃ ts', H' = RunH bx g k o ts' rest ∧ TsOk g k n ts' ∧ Srt o ts ts' a b ∧ Seg (ltO o) ts' a b := by
  have hnn := h.n_le
  have hsw := ltO_swo o
  refine Ct.intro Tryz.func110 rfl Tryz.ntmps110 (nle rfl) fun w0 => ?_; dsimp only [argSlots, Nat.reduceAdd]
  repeat (first | apply G.seq | refine G.plain (h := ?_) | apply G.block | apply Dn.next | refine R.enter0 (h := ?_) | refine R.nil (h := ?_) | refine R.move (h := ?_) | refine R.assign (h := ?_) | refine R.addw (h := ?_))
  refine G.loop (X := Nat × List T5) (fun x => a < x.1 ∧ (x.1 ≤ b ∨ x.1 = a + 1) ∧ TsOk g k n x.2 ∧ Srt o ts x.2 a b ∧ Seg (ltO o) x.2 a x.1)
    (fun x => [(6, .int .i64 (x.1 : Int)), (0, runV bx), (1, .int .i64 (a : Int)), (2, .int .i64 (b : Int))])
    (fun x => RunH bx g k o x.2 rest) (fun x => b + 1 - x.1) (a + 1, ts) ⟨Nat.lt_succ_self _, .inr rfl, h, ⟨Go.Srt.Sp.refl _ _, Ins.refl _ _ _⟩, fun i j i1 i2 i3 => by dsimp only at i3; omega⟩ (body := ?_)
  rintro ⟨i, us⟩ ⟨hai, hib, hok, ⟨hsp, hins⟩, hseg⟩
  dsimp only at hai hib hok hsp hins hseg ⊢
  by_cases hi : i < b
  · repeat (first | apply G.seq | refine G.plain (h := ?_) | apply G.block | apply G.skip | apply Dn.next | refine G.condPT (ht := ?_) | refine R.enter0 (h := ?_) | refine R.nil (h := ?_) | refine R.move (h := ?_) | refine R.assign (h := ?_) | refine R.lss (h := ?_))
    refine G.loop (X := Nat × List T5) (fun x => a ≤ x.1 ∧ x.1 ≤ i ∧ TsOk g k n x.2 ∧ Srt o ts x.2 a b ∧ Down (ltO o) x.2 a i x.1)
      (fun x => [(7, .int .i64 (x.1 : Int)), (6, .int .i64 (i : Int)), (0, runV bx), (1, .int .i64 (a : Int)), (2, .int .i64 (b : Int))])
      (fun x => RunH bx g k o x.2 rest) (fun x => x.1) (i, us) ⟨by dsimp only; omega, Nat.le_refl _, hok, ⟨hsp, hins⟩, Down.start hseg⟩ (body := ?_)
    rintro ⟨j, vs⟩ ⟨haj, hji, hok2, ⟨hsp2, hins2⟩, hdown⟩
    dsimp only at haj hji hok2 hsp2 hins2 hdown ⊢
    by_cases hja : a < j
    · have hL := less_of hok2 bx o rest j (j - 1) (by omega) (by omega)
      have e1 : IntKind.wrap .i64 ((j : Int) - 1) = ((j - 1 : Nat) : Int) := by rw [wrap_i64 (by omega)]; omega
      cases hlt : ltO o (at_ vs j) (at_ vs (j - 1)) with
      | true =>
        rw [hlt] at hL
        have hS := swap_of hok2 bx o rest j (j - 1) (by omega) (by omega) (by omega)
        repeat (first | apply G.seq | refine G.plain (h := ?_) | apply G.block | apply G.skip | refine G.condT (h := ?_) | apply Dn.next | refine R.enter0 (h := ?_) | refine R.nil (h := ?_) | refine R.enterT (h := ?_) | refine R.splitT (ht := ?_) | refine R.move (h := ?_) | refine R.pickT (h := ?_) | refine R.gtr (h := ?_) | refine R.subw (h := ?_) | refine R.invokeP (hct := by apply hL <;> (first | omega | assumption)) (h := ?_))
        refine R.invoke (hct := hS) (h := ?_)
        rintro _ _ ⟨rfl, rfl⟩
        try dsimp only [List.cons_append, List.nil_append]
        repeat (first | refine G.plain (h := ?_) | apply Dn.next | apply Dn.blockEnd | refine R.enter0 (h := ?_) | refine R.nil (h := ?_) | refine R.move (h := ?_) | refine R.assign (h := ?_) | refine R.subw (h := ?_))
        refine Dn.round (j - 1, sw vs j (j - 1)) ⟨by omega, by omega, hok2.sw (by omega) (by omega), ⟨hsp2.trans (sw_sp hsw (by omega) (by rw [hok2.len]; omega) hlt), hins2.trans (sw_ins (by omega) (by omega) (by rw [hok2.len]; omega))⟩, hdown.step hsw hja hji (by rw [hok2.len]; omega) hlt⟩ (by dsimp only; omega)
      | false =>
        rw [hlt] at hL
        repeat (first | apply G.seq | refine G.plain (h := ?_) | apply G.exit | refine G.condF (h := ?_) | apply Dn.next | apply Dn.blockEnd | apply Dn.exitHere | apply Dn.exitThen | refine R.enter0 (h := ?_) | refine R.nil (h := ?_) | refine R.enterT (h := ?_) | refine R.splitT (ht := ?_) | refine R.move (h := ?_) | refine R.assign (h := ?_) | refine R.pickT (h := ?_) | refine R.gtr (h := ?_) | refine R.addw (h := ?_) | refine R.subw (h := ?_) | refine R.invokeP (hct := by apply hL <;> (first | omega | assumption)) (h := ?_))
        exact Dn.round (i + 1, vs) ⟨by omega, .inl (by omega), hok2, ⟨hsp2, hins2⟩, hdown.stop hsw (.inr hlt) haj⟩ (by dsimp only; omega)
    · repeat (first | apply G.seq | refine G.plain (h := ?_) | apply G.exit | refine G.condF (h := ?_) | apply Dn.next | apply Dn.blockEnd | apply Dn.exitHere | apply Dn.exitThen | refine R.enter0 (h := ?_) | refine R.nil (h := ?_) | refine R.skip (h := ?_) | refine R.splitF (ht := ?_) | refine R.move (h := ?_) | refine R.assign (h := ?_) | refine R.pickF (h := ?_) | refine R.gtr (h := ?_) | refine R.addw (h := ?_))
      exact Dn.round (i + 1, vs) ⟨by omega, .inl (by omega), hok2, ⟨hsp2, hins2⟩, hdown.stop hsw (.inl (by omega)) haj⟩ (by dsimp only; omega)
  · repeat (first | apply G.seq | refine G.plain (h := ?_) | apply G.exit | apply Dn.next | apply Dn.exitHere | apply Dn.exitThen | refine G.condPF (ht := ?_) | refine R.enter0 (h := ?_) | refine R.nil (h := ?_) | refine R.move (h := ?_) | refine R.lss (h := ?_))
    (refine Dn.postEnd (Hr := RunH bx g k o us rest) Tryz.results110 (hR := ?_); exact ⟨rfl, us, rfl, hok, ⟨hsp, hins⟩, Seg.mono hseg (Nat.le_refl _) (by omega)⟩)
end
end Go.Proofs.YtdkihpjnidhnmaaGreat
namespace Go.Srt
variable {α : Type} {lt : α → α → Bool} [Inhabited α]
/-- each block is in order -/
def Blk (lt : α → α → Bool) (l : List α) (bs n : Nat) : Prop := ∀ q, Seg lt l (q * bs) (min ((q + 1) * bs) n)
/-- the first q pairs of blocks are put together -/
def Mid (lt : α → α → Bool) (l : List α) (bs n q : Nat) : Prop := (∀ p, p < q → Seg lt l (p * (2 * bs)) ((p + 1) * (2 * bs))) ∧ ∀ p, 2 * q ≤ p → Seg lt l (p * bs) (min ((p + 1) * bs) n)
theorem Seg.sub {l : List α} {a b c d : Nat} (h : Seg lt l a b) (h1 : a ≤ c) (h2 : d ≤ b) : Seg lt l c d := fun i j i1 i2 i3 => h i j (by omega) i2 (by omega)
theorem Seg.none {l : List α} {a b : Nat} (h : b ≤ a) : Seg lt l a b := fun i j i1 i2 i3 => by omega
theorem mul2 (q bs : Nat) : (2 * q) * bs = q * (2 * bs) := by rw [Nat.mul_comm 2 q, Nat.mul_assoc]
theorem mid_start {l : List α} {bs n : Nat} (h : Blk lt l bs n) : Mid lt l bs n 0 := ⟨fun p hp => by omega, fun p _ => h p⟩
theorem mid_get {l : List α} {bs n q a : Nat} (h : Mid lt l bs n q) (ha : a = q * (2 * bs)) (hn : a + bs ≤ n) : Seg lt l a (a + bs) ∧ Seg lt l (a + bs) (min (a + 2 * bs) n) := by
  have h1 := h.2 (2 * q) (Nat.le_refl _)
  have h2 := h.2 (2 * q + 1) (by omega)
  have e := mul2 q bs
  rw [Nat.succ_mul (2 * q), e, ← ha] at h1
  rw [Nat.succ_mul (2 * q + 1), Nat.succ_mul (2 * q), e, ← ha] at h2
  refine ⟨h1.sub (Nat.le_refl _) (by omega), h2.sub (Nat.le_refl _) (by omega)⟩
theorem mid_step {l l' : List α} {bs n q a b : Nat} (h : Mid lt l bs n q) (ha : a = q * (2 * bs)) (hb : b = a + 2 * bs) (hi : Ins l l' a b) (hs : Seg lt l' a b) : Mid lt l' bs n (q + 1) := by
  refine ⟨fun p hp => ?_, fun p hp => ?_⟩
  · by_cases hpq : p = q
    · subst hpq
      rw [Nat.succ_mul p, ← ha, ← hb]; exact hs
    · refine (h.1 p (by omega)).out hi (.inl ?_)
      rw [ha]; exact Nat.mul_le_mul_right _ (by omega)
  · refine (h.2 p (by omega)).out hi (.inr ?_)
    have := Nat.mul_le_mul_right bs hp
    rw [show 2 * (q + 1) = 2 * q + 1 + 1 by omega, Nat.succ_mul (2 * q + 1), Nat.succ_mul (2 * q), mul2, ← ha] at this
    omega
theorem mid_fin {l l' : List α} {bs n q a : Nat} (h : Mid lt l bs n q) (ha : a = q * (2 * bs)) (hn : n < a + 2 * bs) (hi : Ins l l' a n) (hs : Seg lt l' a n) : Blk lt l' (2 * bs) n := by
  intro p
  by_cases hpq : p < q
  · refine (h.1 p hpq).out hi (.inl ?_) |>.sub (Nat.le_refl _) (by omega)
    rw [ha]; exact Nat.mul_le_mul_right _ (by omega)
  · by_cases hp : p = q
    · subst hp
      rw [← ha]; exact hs.sub (Nat.le_refl _) (by omega)
    · refine Seg.none ?_
      have := Nat.mul_le_mul_right (2 * bs) (show q + 1 ≤ p by omega)
      rw [Nat.succ_mul q, ← ha] at this
      omega
theorem mid_fin0 {l : List α} {bs n q a : Nat} (h : Mid lt l bs n q) (ha : a = q * (2 * bs)) (hn : n ≤ a + bs) (hb : 0 < bs) : Blk lt l (2 * bs) n := by
  refine mid_fin h ha (by omega) (Ins.refl _ _ _) ?_
  have h1 := h.2 (2 * q) (Nat.le_refl _)
  have e := mul2 q bs
  rw [Nat.succ_mul (2 * q), e, ← ha] at h1
  exact h1.sub (Nat.le_refl _) (by omega)
theorem blk_one {l : List α} {bs n : Nat} (h : Blk lt l bs n) (hb : n ≤ bs) : Seg lt l 0 n := by
  have := h 0
  exact this.sub (by omega) (by omega)
/-- blocks in order up to a place, and the rest -/
theorem blk_first {l l' : List α} {n c a : Nat} (h : ∀ p, p < c → Seg lt l (p * 20) ((p + 1) * 20)) (ha : a = c * 20) (hn : n < a + 20) (hi : Ins l l' a n) (hs : Seg lt l' a n) : Blk lt l' 20 n := by
  intro p
  by_cases hpq : p < c
  · exact (h p hpq).out hi (.inl (by omega)) |>.sub (Nat.le_refl _) (by omega)
  · by_cases hp : p = c
    · subst hp
      rw [← ha]; exact hs.sub (Nat.le_refl _) (by omega)
    · exact Seg.none (by omega)
end Go.Srt
namespace Go.Proofs.YtdkihpjnidhnmaaGreat
open Go.SL Go.Spc Go.Tup Go.Srt
theorem cutP {ι : Type} {P T : ι → Prop} {C : Prop} (h1 : (∀ i, P i → T i) → C) (h2 : ∀ i, P i → T i) : C := h1 h2
theorem half_shr (i j : Nat) : ((i : Int) + (j : Int)).fdiv (2 ^ min (Int.toNat 1) IntKind.u64.bits) = (((i + j) / 2 : Nat) : Int) := by
  have e0 : (2 : Int) ^ min (Int.toNat 1) IntKind.u64.bits = 2 := by decide
  rw [e0, Int.fdiv_eq_ediv_of_nonneg _ (by decide)]
  omega
theorem Srt.rot {o : T5} {ts us : List T5} {a m b c d : Nat} (h1 : a ≤ m) (h2 : m ≤ b) (hb : b ≤ ts.length) (hl : us.length = ts.length) (hr : ∀ k, at_ us k = rotF ts a m b k)
    (hc : ∀ i j, a ≤ i → i < m → m ≤ j → j < b → ltO o (at_ ts j) (at_ ts i) = true) (hca : c ≤ a) (hbd : b ≤ d) : Srt o ts us c d :=
  ⟨rot_sp (ltO_swo o) h1 h2 hb hl hr hc, (Ins.rot h1 h2 hl hr).wide hca hbd⟩
theorem Srt.trans {o : T5} {ts us vs : List T5} {a b : Nat} (h : Srt o ts us a b) (h2 : Srt o us vs a b) : Srt o ts vs a b := ⟨h.1.trans h2.1, h.2.trans h2.2⟩
theorem Srt.wide {o : T5} {ts us : List T5} {a b c d : Nat} (h : Srt o ts us a b) (h1 : c ≤ a) (h2 : b ≤ d) : Srt o ts us c d := ⟨h.1, h.2.wide h1 h2⟩
theorem Srt.refl (o : T5) (ts : List T5) (a b : Nat) : Srt o ts ts a b := ⟨Go.Srt.Sp.refl _ _, Ins.refl _ _ _⟩
section
variable (bx : Nat) (g : Gr) (k n : Nat) (o : T5) (rest : List Int)
theorem symMerge_ct : ∀ (d : Nat) (ts : List T5) (h : TsOk g k n ts) (a m b : Nat), b - a ≤ d → a < m → m < b → b ≤ n → Seg (ltO o) ts a m → Seg (ltO o) ts m b →
    Ct Tryz.prog 111 [runV bx, .int .i64 (a : Int), .int .i64 (m : Int), .int .i64 (b : Int)] (RunH bx g k o ts rest) fun v H' =>
      v = .tuple #[] ∧ ∃ ts', H' = RunH bx g k o ts' rest ∧ TsOk g k n ts' ∧ Srt o ts ts' a b ∧ Seg (ltO o) ts' a b := by
  intro d
  induction d with
  | zero => intro ts h a m b hd ham hmb; omega
  | succ d ih =>
  intro ts h a m b hd ham hmb hb s1 s2
  have hnn := h.n_le
  have hsw := ltO_swo o
  have hlen := h.len
  have e1 : IntKind.wrap .i64 ((m : Int) - (a : Int)) = ((m - a : Nat) : Int) := by rw [wrap_i64 (by omega)]; omega
  have e2 : IntKind.wrap .i64 ((b : Int) - (m : Int)) = ((b - m : Nat) : Int) := by rw [wrap_i64 (by omega)]; omega
  refine Ct.intro Tryz.func111 rfl Tryz.ntmps111 (nle rfl) fun w0 => ?_; dsimp only [argSlots, Nat.reduceAdd]
  by_cases hm1 : m = a + 1
  · clear ih
    repeat (first | apply G.seq | refine G.plain (h := ?_) | apply G.block | apply Dn.next | refine G.condPT (ht := ?_) | refine R.enter0 (h := ?_) | refine R.nil (h := ?_) | refine R.move (h := ?_) | refine R.assign (h := ?_) | refine R.eql (h := ?_) | refine R.subw (h := ?_))
    refine G.loop (X := Nat × Nat) (fun x => m ≤ x.1 ∧ x.1 ≤ x.2 ∧ x.2 ≤ b ∧ (x.1 = m ∨ ltO o (at_ ts (x.1 - 1)) (at_ ts a) = true) ∧ (x.2 = b ∨ ltO o (at_ ts x.2) (at_ ts a) = false))
      (fun x => [(9, .int .i64 (x.2 : Int)), (8, .int .i64 (x.1 : Int)), (0, runV bx), (1, .int .i64 (a : Int))])
      (fun x => RunH bx g k o ts rest) (fun x => x.2 - x.1) (m, b) ⟨Nat.le_refl _, Nat.le_of_lt hmb, Nat.le_refl _, .inl rfl, .inl rfl⟩ (body := ?_)
    rintro ⟨i, j⟩ ⟨hmi, hij, hjb, f1, f2⟩
    dsimp only at hmi hij hjb f1 f2 ⊢
    by_cases hlt : i < j
    · have hsh := half_shr i j
      generalize hh : (i + j) / 2 = c at hsh
      have hh1 : i ≤ c ∧ c < j := by omega
      have e3 : IntKind.wrap .i64 ((i : Int) + (j : Int)) = ((i + j : Nat) : Int) := by rw [← Int.natCast_add]; exact wrap_i64 (by omega)
      have hL := less_of h bx o rest c a (by omega) (by omega)
      cases hl : ltO o (at_ ts c) (at_ ts a) with
      | true =>
        rw [hl] at hL
        repeat (first | apply G.seq | refine G.plain (h := ?_) | apply G.block | apply G.skip | refine G.condT (h := ?_) | apply Dn.next | apply Dn.blockEnd | refine G.condPT (ht := ?_) | refine R.enter0 (h := ?_) | refine R.nil (h := ?_) | refine R.move (h := ?_) | refine R.assign (h := ?_) | refine R.lss (h := ?_) | refine R.addw (h := ?_) | refine R.convert (h := ?_) | refine R.shr (h := ?_) | refine R.invokeP (hct := by apply hL <;> (first | omega | assumption)) (h := ?_))
        exact Dn.round (c + 1, j) ⟨by omega, by omega, hjb, .inr (by simpa using hl), f2⟩ (by dsimp only; omega)
      | false =>
        rw [hl] at hL
        repeat (first | apply G.seq | refine G.plain (h := ?_) | apply G.block | apply G.skip | refine G.condF (h := ?_) | apply Dn.next | apply Dn.blockEnd | refine G.condPT (ht := ?_) | refine R.enter0 (h := ?_) | refine R.nil (h := ?_) | refine R.move (h := ?_) | refine R.assign (h := ?_) | refine R.lss (h := ?_) | refine R.addw (h := ?_) | refine R.convert (h := ?_) | refine R.shr (h := ?_) | refine R.invokeP (hct := by apply hL <;> (first | omega | assumption)) (h := ?_))
        exact Dn.round (i, c) ⟨hmi, by omega, by omega, f1, .inr hl⟩ (by dsimp only; omega)
    · obtain rfl : i = j := by omega
      repeat (first | apply G.seq | refine G.plain (h := ?_) | apply G.block | apply G.exit | apply Dn.next | apply Dn.exitHere | apply Dn.exitThen | refine G.condPF (ht := ?_) | refine R.enter0 (h := ?_) | refine R.nil (h := ?_) | refine R.move (h := ?_) | refine R.assign (h := ?_) | refine R.lss (h := ?_))
      refine G.loop (X := Nat × List T5) (fun x => a ≤ x.1 ∧ x.1 + 1 ≤ i ∧ TsOk g k n x.2 ∧ ∀ q, at_ x.2 q = rotF ts a (a + 1) (x.1 + 1) q)
        (fun x => [(11, .int .i64 (x.1 : Int)), (8, .int .i64 (i : Int)), (0, runV bx)])
        (fun x => RunH bx g k o x.2 rest) (fun x => i - x.1) (a, ts) ⟨Nat.le_refl _, by dsimp only; omega, h, fun q => (rot_id ts (.inr rfl) (by omega) (Nat.le_refl _) q).symm⟩ (body := ?_)
      rintro ⟨c, us⟩ ⟨hac, hci, hok, hq⟩
      dsimp only at hac hci hok hq ⊢
      have e3 : IntKind.wrap .i64 ((i : Int) - 1) = ((i - 1 : Nat) : Int) := by rw [wrap_i64 (by omega)]; omega
      by_cases hc : c < i - 1
      · have hS := swap_of hok bx o rest c (c + 1) (by omega) (by omega) (by omega)
        have e4 : IntKind.wrap .i64 ((c : Int) + 1) = ((c + 1 : Nat) : Int) := by rw [wrap_i64 (by omega)]; omega
        repeat (first | apply G.seq | refine G.plain (h := ?_) | apply G.block | apply G.skip | apply Dn.next | refine G.condPT (ht := ?_) | refine R.enter0 (h := ?_) | refine R.nil (h := ?_) | refine R.move (h := ?_) | refine R.lss (h := ?_) | refine R.addw (h := ?_) | refine R.subw (h := ?_))
        refine R.invoke (hct := hS) (h := ?_)
        rintro _ _ ⟨rfl, rfl⟩
        try dsimp only [List.cons_append, List.nil_append]
        repeat (first | refine G.plain (h := ?_) | apply Dn.next | apply Dn.blockEnd | refine R.enter0 (h := ?_) | refine R.nil (h := ?_) | refine R.move (h := ?_) | refine R.assign (h := ?_) | refine R.addw (h := ?_))
        exact Dn.round (c + 1, sw us c (c + 1)) ⟨by omega, by dsimp only; omega, hok.sw (by omega) (by omega), rot_up hac (by rw [hok.len]; omega) hq⟩ (by dsimp only; omega)
      · obtain rfl : i = c + 1 := by omega
        obtain ⟨g1, g2⟩ := ins1 hsw hm1 hmi hjb s2 f1 f2 (by rw [hm1]; exact hq)
        repeat (first | apply G.seq | refine G.plain (h := ?_) | apply G.exit | apply G.ret | apply Dn.next | apply Dn.exitHere | apply Dn.exitThen | apply Dn.retThen | refine G.condPF (ht := ?_) | refine R.enter0 (h := ?_) | refine R.nil (h := ?_) | refine R.move (h := ?_) | refine R.lss (h := ?_) | refine R.subw (h := ?_))
        (refine Dn.post (Hr := RunH bx g k o us rest) Tryz.results111 (hR := ?_); exact ⟨rfl, us, rfl, hok, Srt.rot (by omega) hmi (by omega) (by rw [hok.len, hlen]) (by rw [hm1]; exact hq) g1 (Nat.le_refl _) hjb, g2⟩)
  by_cases hb1 : b = m + 1
  · clear ih
    repeat (first | apply G.seq | refine G.plain (h := ?_) | apply G.block | apply G.skip | apply Dn.next | refine G.condPT (ht := ?_) | refine G.condPF (ht := ?_) | refine R.enter0 (h := ?_) | refine R.nil (h := ?_) | refine R.move (h := ?_) | refine R.assign (h := ?_) | refine R.eql (h := ?_) | refine R.subw (h := ?_))
    refine G.loop (X := Nat × Nat) (fun x => a ≤ x.1 ∧ x.1 ≤ x.2 ∧ x.2 ≤ m ∧ (x.1 = a ∨ ltO o (at_ ts m) (at_ ts (x.1 - 1)) = false) ∧ (x.2 = m ∨ ltO o (at_ ts m) (at_ ts x.2) = true))
      (fun x => [(13, .int .i64 (x.2 : Int)), (12, .int .i64 (x.1 : Int)), (0, runV bx), (2, .int .i64 (m : Int))])
      (fun x => RunH bx g k o ts rest) (fun x => x.2 - x.1) (a, m) ⟨Nat.le_refl _, Nat.le_of_lt ham, Nat.le_refl _, .inl rfl, .inl rfl⟩ (body := ?_)
    rintro ⟨i, j⟩ ⟨hmi, hij, hjb, f1, f2⟩
    dsimp only at hmi hij hjb f1 f2 ⊢
    by_cases hlt : i < j
    · have hsh := half_shr i j
      generalize hh : (i + j) / 2 = c at hsh
      have hh1 : i ≤ c ∧ c < j := by omega
      have e3 : IntKind.wrap .i64 ((i : Int) + (j : Int)) = ((i + j : Nat) : Int) := by rw [← Int.natCast_add]; exact wrap_i64 (by omega)
      have hL := less_of h bx o rest m c (by omega) (by omega)
      cases hl : ltO o (at_ ts m) (at_ ts c) with
      | true =>
        rw [hl] at hL
        repeat (first | apply G.seq | refine G.plain (h := ?_) | apply G.block | apply G.skip | refine G.condF (h := ?_) | apply Dn.next | apply Dn.blockEnd | refine G.condPT (ht := ?_) | refine R.enter0 (h := ?_) | refine R.nil (h := ?_) | refine R.move (h := ?_) | refine R.assign (h := ?_) | refine R.lss (h := ?_) | refine R.addw (h := ?_) | refine R.convert (h := ?_) | refine R.not (h := ?_) | refine R.shr (h := ?_) | refine R.invokeP (hct := by apply hL <;> (first | omega | assumption)) (h := ?_))
        exact Dn.round (i, c) ⟨hmi, by omega, by omega, f1, .inr hl⟩ (by dsimp only; omega)
      | false =>
        rw [hl] at hL
        repeat (first | apply G.seq | refine G.plain (h := ?_) | apply G.block | apply G.skip | refine G.condT (h := ?_) | apply Dn.next | apply Dn.blockEnd | refine G.condPT (ht := ?_) | refine R.enter0 (h := ?_) | refine R.nil (h := ?_) | refine R.move (h := ?_) | refine R.assign (h := ?_) | refine R.lss (h := ?_) | refine R.addw (h := ?_) | refine R.convert (h := ?_) | refine R.not (h := ?_) | refine R.shr (h := ?_) | refine R.invokeP (hct := by apply hL <;> (first | omega | assumption)) (h := ?_))
        exact Dn.round (c + 1, j) ⟨by omega, by omega, hjb, .inr (by simpa using hl), f2⟩ (by dsimp only; omega)
    · obtain rfl : i = j := by omega
      repeat (first | apply G.seq | refine G.plain (h := ?_) | apply G.block | apply G.exit | apply Dn.next | apply Dn.exitHere | apply Dn.exitThen | refine G.condPF (ht := ?_) | refine R.enter0 (h := ?_) | refine R.nil (h := ?_) | refine R.move (h := ?_) | refine R.assign (h := ?_) | refine R.lss (h := ?_))
      refine G.loop (X := Nat × List T5) (fun x => i ≤ x.1 ∧ x.1 ≤ m ∧ TsOk g k n x.2 ∧ ∀ q, at_ x.2 q = rotF ts x.1 m (m + 1) q)
        (fun x => [(15, .int .i64 (x.1 : Int)), (12, .int .i64 (i : Int)), (0, runV bx)])
        (fun x => RunH bx g k o x.2 rest) (fun x => x.1) (m, ts) ⟨by dsimp only; omega, Nat.le_refl _, h, fun q => (rot_id ts (.inl rfl) (Nat.le_refl _) (by omega) q).symm⟩ (body := ?_)
      rintro ⟨c, us⟩ ⟨hic, hcm, hok, hq⟩
      dsimp only at hic hcm hok hq ⊢
      by_cases hc : i < c
      · have hS := swap_of hok bx o rest c (c - 1) (by omega) (by omega) (by omega)
        have e4 : IntKind.wrap .i64 ((c : Int) - 1) = ((c - 1 : Nat) : Int) := by rw [wrap_i64 (by omega)]; omega
        repeat (first | apply G.seq | refine G.plain (h := ?_) | apply G.block | apply G.skip | apply Dn.next | refine G.condPT (ht := ?_) | refine R.enter0 (h := ?_) | refine R.nil (h := ?_) | refine R.move (h := ?_) | refine R.gtr (h := ?_) | refine R.subw (h := ?_))
        refine R.invoke (hct := hS) (h := ?_)
        rintro _ _ ⟨rfl, rfl⟩
        try dsimp only [List.cons_append, List.nil_append]
        repeat (first | refine G.plain (h := ?_) | apply Dn.next | apply Dn.blockEnd | refine R.enter0 (h := ?_) | refine R.nil (h := ?_) | refine R.move (h := ?_) | refine R.assign (h := ?_) | refine R.subw (h := ?_))
        exact Dn.round (c - 1, sw us c (c - 1)) ⟨by dsimp only; omega, by dsimp only; omega, hok.sw (by omega) (by omega), rot_down (by omega) hcm (by rw [hok.len]; omega) hq⟩ (by dsimp only; omega)
      · obtain rfl : c = i := by omega
        obtain ⟨g1, g2⟩ := ins2 hsw hb1 hmi hjb s1 f1 f2 (by rw [hb1]; exact hq)
        repeat (first | apply G.seq | refine G.plain (h := ?_) | apply G.exit | apply G.ret | apply Dn.next | apply Dn.exitHere | apply Dn.exitThen | apply Dn.retThen | refine G.condPF (ht := ?_) | refine R.enter0 (h := ?_) | refine R.nil (h := ?_) | refine R.move (h := ?_) | refine R.gtr (h := ?_))
        (refine Dn.post (Hr := RunH bx g k o us rest) Tryz.results111 (hR := ?_); exact ⟨rfl, us, rfl, hok, Srt.rot hjb (by omega) (by omega) (by rw [hok.len, hlen]) (by rw [hb1]; exact hq) g1 hmi (Nat.le_refl _), g2⟩)
  have e3 : IntKind.wrap .i64 ((a : Int) + (b : Int)) = ((a + b : Nat) : Int) := by rw [← Int.natCast_add]; exact wrap_i64 (by omega)
  have hsh := half_shr a b
  generalize hmid : (a + b) / 2 = mid at hsh
  have e4 : IntKind.wrap .i64 ((mid : Int) + (m : Int)) = ((mid + m : Nat) : Int) := by rw [← Int.natCast_add]; exact wrap_i64 (by omega)
  obtain ⟨low, hlow⟩ : ∃ low, low = if mid < m then mid + m - b else a := ⟨_, rfl⟩
  obtain ⟨high, hhigh⟩ : ∃ high, high = if mid < m then mid else m := ⟨_, rfl⟩
  have hN : mid + m ≤ a + b ∨ mid < m := by omega
  have e5 : IntKind.wrap .i64 (((mid + m : Nat) : Int) - 1) = ((mid + m - 1 : Nat) : Int) := by rw [wrap_i64 (by omega)]; omega
  have hlohi : low ≤ high := by split at hlow <;> split at hhigh <;> omega
  have hhim : high ≤ m := by split at hhigh <;> omega
  skip
  apply G.seq
  skip
  apply G.seq
  repeat (first | refine G.plain (h := ?_) | apply G.skip | apply Dn.next | refine G.condPF (ht := ?_) | refine R.enter0 (h := ?_) | refine R.nil (h := ?_) | refine R.move (h := ?_) | refine R.eql (h := ?_) | refine R.subw (h := ?_))
  apply G.seq
  skip
  apply G.seq
  repeat (first | refine G.plain (h := ?_) | apply G.skip | apply Dn.next | refine G.condPF (ht := ?_) | refine R.enter0 (h := ?_) | refine R.nil (h := ?_) | refine R.move (h := ?_) | refine R.eql (h := ?_) | refine R.subw (h := ?_))
  apply G.seq
  repeat (first | refine G.plain (h := ?_) | apply Dn.next | refine R.enter0 (h := ?_) | refine R.nil (h := ?_) | refine R.move (h := ?_) | refine R.assign (h := ?_) | refine R.addw (h := ?_) | refine R.convert (h := ?_) | refine R.shr (h := ?_))
  apply G.seq
  repeat (first | refine G.plain (h := ?_) | apply Dn.next | refine R.enter0 (h := ?_) | refine R.nil (h := ?_) | refine R.move (h := ?_) | refine R.assign (h := ?_) | refine R.addw (h := ?_))
  apply G.seq
  repeat (first | refine G.plain (h := ?_) | apply Dn.next | refine R.enter0 (h := ?_) | refine R.nil (h := ?_) | refine R.assign (h := ?_))
  refine G.cut (D' := []) (X := Unit) (fun _ => True) (fun _ => [(18, .int .i64 (low : Int)), (19, .int .i64 (high : Int)), (17, .int .i64 ((mid + m : Nat) : Int)), (16, .int .i64 (mid : Int)), (0, runV bx), (1, .int .i64 (a : Int)), (2, .int .i64 (m : Int)), (3, .int .i64 (b : Int))])
    (fun _ => RunH bx g k o ts rest) ?_ ?_
  · by_cases hmm : mid < m
    · rw [if_pos hmm] at hlow hhigh
      have e6 : IntKind.wrap .i64 (((mid + m : Nat) : Int) - (b : Int)) = (low : Int) := by rw [wrap_i64 (by omega)]; omega
      subst hhigh
      repeat (first | apply G.seq | refine G.plain (h := ?_) | apply Dn.next | refine G.condPT (ht := ?_) | refine R.enter0 (h := ?_) | refine R.nil (h := ?_) | refine R.move (h := ?_) | refine R.assign (h := ?_) | refine R.gtr (h := ?_) | refine R.subw (h := ?_))
      exact Dn.meet () trivial
    · rw [if_neg hmm] at hlow hhigh
      subst hlow hhigh
      repeat (first | apply G.seq | refine G.plain (h := ?_) | apply Dn.next | refine G.condPF (ht := ?_) | refine R.enter0 (h := ?_) | refine R.nil (h := ?_) | refine R.move (h := ?_) | refine R.assign (h := ?_) | refine R.gtr (h := ?_))
      exact Dn.meet () trivial
  rintro ⟨⟩ -
  repeat (first | apply G.seq | refine G.plain (h := ?_) | apply G.block | apply Dn.next | refine R.enter0 (h := ?_) | refine R.nil (h := ?_) | refine R.move (h := ?_) | refine R.assign (h := ?_) | refine R.subw (h := ?_))
  refine G.loop (X := Nat × Nat) (fun x => low ≤ x.1 ∧ x.1 ≤ x.2 ∧ x.2 ≤ high ∧ (x.1 = low ∨ ltO o (at_ ts (mid + m - x.1)) (at_ ts (x.1 - 1)) = false) ∧ (x.2 = high ∨ ltO o (at_ ts (mid + m - 1 - x.2)) (at_ ts x.2) = true))
    (fun x => [(20, .int .i64 ((mid + m - 1 : Nat) : Int)), (18, .int .i64 (x.1 : Int)), (19, .int .i64 (x.2 : Int)), (17, .int .i64 ((mid + m : Nat) : Int)), (16, .int .i64 (mid : Int)), (0, runV bx), (1, .int .i64 (a : Int)), (2, .int .i64 (m : Int)), (3, .int .i64 (b : Int))])
    (fun _ => RunH bx g k o ts rest) (fun x => x.2 - x.1) (low, high) ⟨Nat.le_refl _, hlohi, Nat.le_refl _, .inl rfl, .inl rfl⟩ (body := ?_)
  rintro ⟨s, r⟩ ⟨hls, hsr, hrh, f1, f2⟩
  dsimp only at hls hsr hrh f1 f2 ⊢
  by_cases hlt : s < r
  · have hsh2 := half_shr s r
    generalize hh : (s + r) / 2 = c at hsh2
    have hh1 : s ≤ c ∧ c < r := by omega
    have hpc : mid + m - 1 - c < b := by split at hlow <;> omega
    have e6 : IntKind.wrap .i64 ((s : Int) + (r : Int)) = ((s + r : Nat) : Int) := by rw [← Int.natCast_add]; exact wrap_i64 (by omega)
    have e7 : IntKind.wrap .i64 (((mid + m - 1 : Nat) : Int) - (c : Int)) = ((mid + m - 1 - c : Nat) : Int) := by rw [wrap_i64 (by omega)]; omega
    have hL := less_of h bx o rest (mid + m - 1 - c) c (by omega) (by omega)
    cases hl : ltO o (at_ ts (mid + m - 1 - c)) (at_ ts c) with
    | true =>
      rw [hl] at hL
      repeat (first | apply G.seq | refine G.plain (h := ?_) | apply G.block | apply G.skip | refine G.condF (h := ?_) | apply Dn.next | apply Dn.blockEnd | refine G.condPT (ht := ?_) | refine R.enter0 (h := ?_) | refine R.nil (h := ?_) | refine R.move (h := ?_) | refine R.assign (h := ?_) | refine R.lss (h := ?_) | refine R.addw (h := ?_) | refine R.subw (h := ?_) | refine R.convert (h := ?_) | refine R.not (h := ?_) | refine R.shr (h := ?_) | refine R.invokeP (hct := by apply hL <;> (first | omega | assumption)) (h := ?_))
      exact Dn.round (s, c) ⟨hls, by omega, by omega, f1, .inr hl⟩ (by dsimp only; omega)
    | false =>
      rw [hl] at hL
      repeat (first | apply G.seq | refine G.plain (h := ?_) | apply G.block | apply G.skip | refine G.condT (h := ?_) | apply Dn.next | apply Dn.blockEnd | refine G.condPT (ht := ?_) | refine R.enter0 (h := ?_) | refine R.nil (h := ?_) | refine R.move (h := ?_) | refine R.assign (h := ?_) | refine R.lss (h := ?_) | refine R.addw (h := ?_) | refine R.subw (h := ?_) | refine R.convert (h := ?_) | refine R.not (h := ?_) | refine R.shr (h := ?_) | refine R.invokeP (hct := by apply hL <;> (first | omega | assumption)) (h := ?_))
      exact Dn.round (c + 1, r) ⟨by omega, by omega, hrh, .inr (by dsimp only; rw [show mid + m - (c + 1) = mid + m - 1 - c by omega]; simpa using hl), f2⟩ (by dsimp only; omega)
  obtain rfl : s = r := by omega
  obtain ⟨e, he⟩ : ∃ e, e = mid + m - s := ⟨_, rfl⟩
  have hfin := fun (us : List T5) hr => sym_facts hsw (l1 := us) ham hmb s1 s2 hmid.symm rfl he hlow hhigh hls hrh f1 f2 hr
  have hbd : a ≤ s ∧ s ≤ m ∧ m ≤ e ∧ e ≤ b ∧ s ≤ mid ∧ mid ≤ e ∧ mid - s = e - m := by split at hlow <;> split at hhigh <;> omega
  clear f1 f2 hls hrh hlt hlow hhigh hlohi hhim
  obtain ⟨b1, b2, b3, b4, b5, b6, b7⟩ := hbd
  have e6 : IntKind.wrap .i64 (((mid + m : Nat) : Int) - (s : Int)) = (e : Int) := by rw [wrap_i64 (by omega)]; omega
  skip
  apply G.seq
  skip
  apply G.seq
  repeat (first | refine G.plain (h := ?_) | apply G.exit | apply Dn.next | apply Dn.exitHere | apply Dn.exitThen | refine G.condPF (ht := ?_) | refine R.enter0 (h := ?_) | refine R.nil (h := ?_) | refine R.move (h := ?_) | refine R.lss (h := ?_))
  apply G.seq
  repeat (first | refine G.plain (h := ?_) | apply Dn.next | refine R.enter0 (h := ?_) | refine R.nil (h := ?_) | refine R.move (h := ?_) | refine R.assign (h := ?_) | refine R.subw (h := ?_))
  refine G.cut (D' := []) (X := List T5) (fun us => TsOk g k n us ∧ Srt o ts us a b ∧ ∀ q, at_ us q = rotF ts s m e q) (fun _ => [(22, .int .i64 (e : Int)), (18, .int .i64 (s : Int)), (16, .int .i64 (mid : Int)), (0, runV bx), (1, .int .i64 (a : Int)), (3, .int .i64 (b : Int))])
    (fun us => RunH bx g k o us rest) ?_ ?_
  · by_cases hr : s < m
    · by_cases hr2 : m < e
      · have hR := rotate_ct bx g k n o rest ts h s m e hr hr2 (by omega)
        repeat (first | apply G.seq | refine G.plain (h := ?_) | apply Dn.next | refine G.condPT (ht := ?_) | refine R.enter0 (h := ?_) | refine R.nil (h := ?_) | refine R.enterT (h := ?_) | refine R.splitT (ht := ?_) | refine R.move (h := ?_) | refine R.pickT (h := ?_) | refine R.lss (h := ?_))
        refine R.call (hct := hR) (h := ?_)
        rintro _ _ ⟨rfl, us, rfl, hok, hq⟩
        try dsimp only [List.cons_append, List.nil_append]
        repeat (first | refine R.nil (h := ?_))
        exact Dn.meet us ⟨hok, Srt.rot b2 b3 (by omega) (by rw [hok.len, hlen]) hq (hfin us hq).1 b1 b4, hq⟩
      · repeat (first | apply G.seq | refine G.plain (h := ?_) | apply G.skip | apply Dn.next | refine G.condPF (ht := ?_) | refine R.enter0 (h := ?_) | refine R.nil (h := ?_) | refine R.enterT (h := ?_) | refine R.splitT (ht := ?_) | refine R.move (h := ?_) | refine R.pickT (h := ?_) | refine R.lss (h := ?_))
        exact Dn.meet ts ⟨h, Srt.refl _ _ _ _, fun q => (rot_id ts (.inr (by omega)) b2 b3 q).symm⟩
    · repeat (first | apply G.seq | refine G.plain (h := ?_) | apply G.skip | refine G.condF (h := ?_) | apply Dn.next | refine R.enter0 (h := ?_) | refine R.nil (h := ?_) | refine R.skip (h := ?_) | refine R.splitF (ht := ?_) | refine R.move (h := ?_) | refine R.pickF (h := ?_) | refine R.lss (h := ?_))
      exact Dn.meet ts ⟨h, Srt.refl _ _ _ _, fun q => (rot_id ts (.inl (by omega)) b2 b3 q).symm⟩
  rintro us ⟨hok, hsrt, hq⟩
  obtain ⟨-, ⟨q1, q2, q3, q4⟩, hx, -⟩ := hfin us hq
  clear hfin
  refine G.cut (D' := []) (X := List T5) (fun vs => TsOk g k n vs ∧ Srt o us vs a mid ∧ Seg (ltO o) vs a mid) (fun _ => [(22, .int .i64 (e : Int)), (18, .int .i64 (s : Int)), (16, .int .i64 (mid : Int)), (0, runV bx), (1, .int .i64 (a : Int)), (3, .int .i64 (b : Int))])
    (fun vs => RunH bx g k o vs rest) ?_ ?_
  · by_cases hr : a < s
    · by_cases hr2 : s < mid
      · have hR := ih us hok a s mid (by omega) hr hr2 (by omega) q1 q2
        repeat (first | apply G.seq | refine G.plain (h := ?_) | apply Dn.next | refine G.condPT (ht := ?_) | refine R.enter0 (h := ?_) | refine R.nil (h := ?_) | refine R.enterT (h := ?_) | refine R.splitT (ht := ?_) | refine R.move (h := ?_) | refine R.pickT (h := ?_) | refine R.lss (h := ?_))
        refine R.call (hct := hR) (h := ?_)
        rintro _ _ ⟨rfl, vs, rfl, hok2, hs2, hg2⟩
        try dsimp only [List.cons_append, List.nil_append]
        repeat (first | refine R.nil (h := ?_))
        exact Dn.meet vs ⟨hok2, hs2, hg2⟩
      · obtain rfl : s = mid := by omega
        repeat (first | apply G.seq | refine G.plain (h := ?_) | apply G.skip | apply Dn.next | refine G.condPF (ht := ?_) | refine R.enter0 (h := ?_) | refine R.nil (h := ?_) | refine R.enterT (h := ?_) | refine R.splitT (ht := ?_) | refine R.move (h := ?_) | refine R.pickT (h := ?_) | refine R.lss (h := ?_))
        exact Dn.meet us ⟨hok, Srt.refl _ _ _ _, q1⟩
    · obtain rfl : a = s := by omega
      repeat (first | apply G.seq | refine G.plain (h := ?_) | apply G.skip | refine G.condF (h := ?_) | apply Dn.next | refine R.enter0 (h := ?_) | refine R.nil (h := ?_) | refine R.skip (h := ?_) | refine R.splitF (ht := ?_) | refine R.move (h := ?_) | refine R.pickF (h := ?_) | refine R.lss (h := ?_))
      exact Dn.meet us ⟨hok, Srt.refl _ _ _ _, q2⟩
  rintro vs ⟨hok2, hs2, hg2⟩
  have q3' := q3.out hs2.2 (.inr (Nat.le_refl _))
  have q4' := q4.out hs2.2 (.inr (by omega))
  have hx2 := cross_keep hx hs2.2
  have hs3 := hsrt.trans (hs2.wide (Nat.le_refl _) (by omega))
  by_cases hr : mid < e
  · by_cases hr2 : e < b
    · have hR := ih vs hok2 mid e b (by omega) hr hr2 (by omega) q3' q4'
      repeat (first | apply G.seq | refine G.plain (h := ?_) | apply Dn.next | refine G.condPT (ht := ?_) | refine R.enter0 (h := ?_) | refine R.nil (h := ?_) | refine R.enterT (h := ?_) | refine R.splitT (ht := ?_) | refine R.move (h := ?_) | refine R.pickT (h := ?_) | refine R.lss (h := ?_))
      refine R.call (hct := hR) (h := ?_)
      rintro _ _ ⟨rfl, ws, rfl, hok4, hs4, hg4⟩
      try dsimp only [List.cons_append, List.nil_append]
      repeat (first | refine R.nil (h := ?_))
      (refine Dn.postEnd (Hr := RunH bx g k o ws rest) Tryz.results111 (hR := ?_); exact ⟨rfl, ws, rfl, hok4, hs3.trans (hs4.wide (by omega) (Nat.le_refl _)), seg_join (hg2.out hs4.2 (.inl (Nat.le_refl _))) hg4 (cross_keepR hx2 hs4.2)⟩)
    · obtain rfl : e = b := by omega
      repeat (first | apply G.seq | refine G.plain (h := ?_) | apply G.skip | apply Dn.next | refine G.condPF (ht := ?_) | refine R.enter0 (h := ?_) | refine R.nil (h := ?_) | refine R.enterT (h := ?_) | refine R.splitT (ht := ?_) | refine R.move (h := ?_) | refine R.pickT (h := ?_) | refine R.lss (h := ?_))
      (refine Dn.postEnd (Hr := RunH bx g k o vs rest) Tryz.results111 (hR := ?_); exact ⟨rfl, vs, rfl, hok2, hs3, seg_join hg2 q3' hx2⟩)
  · obtain rfl : mid = e := by omega
    repeat (first | apply G.seq | refine G.plain (h := ?_) | apply G.skip | refine G.condF (h := ?_) | apply Dn.next | refine R.enter0 (h := ?_) | refine R.nil (h := ?_) | refine R.skip (h := ?_) | refine R.splitF (ht := ?_) | refine R.move (h := ?_) | refine R.pickF (h := ?_) | refine R.lss (h := ?_))
    (refine Dn.postEnd (Hr := RunH bx g k o vs rest) Tryz.results111 (hR := ?_); exact ⟨rfl, vs, rfl, hok2, hs3, seg_join hg2 q4' hx2⟩)
end
end Go.Proofs.YtdkihpjnidhnmaaGreat
namespace Go.Proofs.YtdkihpjnidhnmaaGreat
open Go.SL Go.Spc Go.Tup Go.Srt
section
variable (bx : Nat) (g : Gr) (k n : Nat) (o : T5) (rest : List Int)
theorem stable_ct (ts : List T5) (h : TsOk g k n ts) :
    Ct Tryz.prog 102 [runV bx, .int .i64 (n : Int)] (RunH bx g k o ts rest) fun v H' =>
      v = .tuple #[] ∧ ∃ ts', H' = RunH bx g k o ts' rest ∧ TsOk g k n ts' ∧ Srt o ts ts' 0 n ∧ Seg (ltO o) ts' 0 n := by
  have hnn := h.n_le
  refine Ct.intro Tryz.func102 rfl Tryz.ntmps102 (nle rfl) fun w0 => ?_; dsimp only [argSlots, Nat.reduceAdd]
  repeat (first | apply G.seq | refine G.plain (h := ?_) | apply G.block | apply Dn.next | refine R.enter0 (h := ?_) | refine R.nil (h := ?_) | refine R.move (h := ?_) | refine R.assign (h := ?_))
  refine G.loop (X := Nat × List T5) (fun x => x.1 * 20 ≤ n ∧ TsOk g k n x.2 ∧ Srt o ts x.2 0 n ∧ ∀ p, p < x.1 → Seg (ltO o) x.2 (p * 20) ((p + 1) * 20))
    (fun x => [(6, .int .i64 ((x.1 * 20 + 20 : Nat) : Int)), (5, .int .i64 ((x.1 * 20 : Nat) : Int)), (4, .int .i64 20), (0, runV bx), (1, .int .i64 (n : Int))])
    (fun x => RunH bx g k o x.2 rest) (fun x => n + 20 - x.1 * 20) (0, ts) ⟨by dsimp only; omega, h, Srt.refl _ _ _ _, fun p hp => by dsimp only at hp; omega⟩ (body := ?_)
  rintro ⟨c, us⟩ ⟨hc, hok, hs, hq⟩
  dsimp only at hc hok hs hq ⊢
  generalize ha : c * 20 = a at hc ⊢
  by_cases hb : a + 20 ≤ n
  · have hI := insSort_ct bx g k n o rest us hok a (a + 20) (by omega) hb
    have e1 : IntKind.wrap .i64 (((a + 20 : Nat) : Int) + 20) = (((c + 1) * 20 + 20 : Nat) : Int) := by rw [wrap_i64 (by omega)]; omega
    repeat (first | apply G.seq | refine G.plain (h := ?_) | apply G.block | apply G.skip | apply Dn.next | refine G.condPT (ht := ?_) | refine R.enter0 (h := ?_) | refine R.nil (h := ?_) | refine R.move (h := ?_) | refine R.leq (h := ?_))
    refine R.call (hct := hI) (h := ?_)
    rintro _ _ ⟨rfl, vs, rfl, hok2, hs2, hg2⟩
    try dsimp only [List.cons_append, List.nil_append]
    repeat (first | apply G.seq | refine G.plain (h := ?_) | apply Dn.next | apply Dn.blockEnd | refine R.enter0 (h := ?_) | refine R.nil (h := ?_) | refine R.move (h := ?_) | refine R.assign (h := ?_) | refine R.addw (h := ?_))
    have e2 : a + 20 = (c + 1) * 20 := by omega
    refine Dn.round (c + 1, vs) ⟨by dsimp only; omega, hok2, hs.trans (hs2.wide (by omega) hb), fun p hp => ?_⟩ (by dsimp only; omega) ?_ (by repeat (first | exact Split.nil | (apply Split.cons; · (repeat (first | exact Take.here | apply Take.there | exact Take.nil)))))
    · by_cases hpc : p = c
      · subst hpc; rw [show (p + 1) * 20 = a + 20 by omega, ha]; exact hg2
      · exact (hq p (by dsimp only at hp; omega)).out hs2.2 (.inl (by dsimp only at hp; omega))
    · rw [e2]; exact (by repeat (first | exact trivial | refine ⟨rfl, ?_⟩))
  have hI := insSort_ct bx g k n o rest us hok a n hc (Nat.le_refl _)
  repeat (first | apply G.seq | refine G.plain (h := ?_) | apply G.exit | apply Dn.next | apply Dn.exitHere | apply Dn.exitThen | refine G.condPF (ht := ?_) | refine R.enter0 (h := ?_) | refine R.nil (h := ?_) | refine R.move (h := ?_) | refine R.leq (h := ?_))
  refine R.call (hct := hI) (h := ?_)
  rintro _ _ ⟨rfl, vs, rfl, hok2, hs2, hg2⟩
  try dsimp only [List.cons_append, List.nil_append]
  have hB := blk_first hq ha.symm (by omega) hs2.2 hg2
  have hs3 := hs.trans (hs2.wide (Nat.zero_le _) (Nat.le_refl _))
  clear hs2 hg2 hs hok hq hI
  repeat (first | apply G.block | apply Dn.next | refine R.nil (h := ?_))
  refine G.loop (X := Nat × List T5) (fun x => 0 < x.1 ∧ x.1 ≤ 2000000020 ∧ TsOk g k n x.2 ∧ Srt o ts x.2 0 n ∧ Blk (ltO o) x.2 x.1 n)
    (fun x => [(4, .int .i64 (x.1 : Int)), (0, runV bx), (1, .int .i64 (n : Int))])
    (fun x => RunH bx g k o x.2 rest) (fun x => n - x.1) (20, vs) ⟨by dsimp only; omega, by dsimp only; omega, hok2, hs3, hB⟩ (body := ?_)
  clear hB hs3 hok2 vs us
  rintro ⟨bs, us⟩ ⟨hb0, hb1, hok, hs, hB⟩
  dsimp only at hb0 hb1 hok hs hB ⊢
  by_cases hbn : bs < n
  · have e1 : IntKind.wrap .i64 (2 * (bs : Int)) = ((2 * bs : Nat) : Int) := by rw [wrap_i64 (by omega)]; omega
    have e1' : IntKind.wrap .i64 ((bs : Int) * 2) = ((2 * bs : Nat) : Int) := by rw [wrap_i64 (by omega)]; omega
    repeat (first | apply G.seq | refine G.plain (h := ?_) | apply G.block | apply G.skip | apply Dn.next | refine G.condPT (ht := ?_) | refine R.enter0 (h := ?_) | refine R.nil (h := ?_) | refine R.move (h := ?_) | refine R.assign (h := ?_) | refine R.lss (h := ?_) | refine R.mulw (h := ?_))
    refine G.loop (X := Nat × List T5) (fun x => x.1 * (2 * bs) ≤ n ∧ TsOk g k n x.2 ∧ Srt o ts x.2 0 n ∧ Mid (ltO o) x.2 bs n x.1)
      (fun x => [(6, .int .i64 ((x.1 * (2 * bs) + 2 * bs : Nat) : Int)), (5, .int .i64 ((x.1 * (2 * bs) : Nat) : Int)), (4, .int .i64 (bs : Int)), (0, runV bx), (1, .int .i64 (n : Int))])
      (fun x => RunH bx g k o x.2 rest) (fun x => n + 2 * bs - x.1 * (2 * bs)) (0, us) ⟨by simp, hok, hs, mid_start hB⟩ (by simp only [Nat.zero_mul, Nat.zero_add]; exact (by repeat (first | exact trivial | refine ⟨rfl, ?_⟩))) (by repeat (first | exact Split.nil | (apply Split.cons; · (repeat (first | exact Take.here | apply Take.there | exact Take.nil))))) ?_
    clear hok hs hB
    rintro ⟨q, us⟩ ⟨hqn, hok, hs, hM⟩
    dsimp only at hqn hok hs hM ⊢
    have hq1 : (q + 1) * (2 * bs) = q * (2 * bs) + 2 * bs := Nat.succ_mul _ _
    generalize ha : q * (2 * bs) = a at hqn hq1 ⊢
    have e2 : IntKind.wrap .i64 ((a : Int) + (bs : Int)) = ((a + bs : Nat) : Int) := by rw [← Int.natCast_add]; exact wrap_i64 (by omega)
    by_cases hb : a + 2 * bs ≤ n
    · obtain ⟨g1, g2⟩ := mid_get hM ha.symm (by omega)
      rw [Nat.min_eq_left hb] at g2
      have hI := symMerge_ct bx g k n o rest (2 * bs) us hok a (a + bs) (a + 2 * bs) (by omega) (by omega) (by omega) hb g1 g2
      have e3 : IntKind.wrap .i64 (((a + 2 * bs : Nat) : Int) + ((2 * bs : Nat) : Int)) = (((q + 1) * (2 * bs) + 2 * bs : Nat) : Int) := by rw [wrap_i64 (by omega)]; omega
      repeat (first | apply G.seq | refine G.plain (h := ?_) | apply G.block | apply G.skip | apply Dn.next | refine G.condPT (ht := ?_) | refine R.enter0 (h := ?_) | refine R.nil (h := ?_) | refine R.move (h := ?_) | refine R.leq (h := ?_) | refine R.addw (h := ?_))
      refine R.call (hct := hI) (h := ?_)
      rintro _ _ ⟨rfl, vs, rfl, hok2, hs2, hg2⟩
      try dsimp only [List.cons_append, List.nil_append]
      repeat (first | apply G.seq | refine G.plain (h := ?_) | apply Dn.next | apply Dn.blockEnd | refine R.enter0 (h := ?_) | refine R.nil (h := ?_) | refine R.move (h := ?_) | refine R.assign (h := ?_) | refine R.addw (h := ?_) | refine R.mulw (h := ?_))
      refine Dn.round (q + 1, vs) ⟨by dsimp only; omega, hok2, hs.trans (hs2.wide (by omega) hb), mid_step hM ha.symm rfl hs2.2 hg2⟩ (by dsimp only; omega) ?_ (by repeat (first | exact Split.nil | (apply Split.cons; · (repeat (first | exact Take.here | apply Take.there | exact Take.nil)))))
      rw [← hq1]; exact (by repeat (first | exact trivial | refine ⟨rfl, ?_⟩))
    · by_cases hm : a + bs < n
      · obtain ⟨g1, g2⟩ := mid_get hM ha.symm (by omega)
        have hI := symMerge_ct bx g k n o rest n us hok a (a + bs) n (by omega) (by omega) (by omega) (Nat.le_refl _) g1 (g2.sub (Nat.le_refl _) (by omega))
        repeat (first | apply G.seq | refine G.plain (h := ?_) | apply G.exit | apply Dn.next | apply Dn.exitHere | apply Dn.exitThen | refine G.condPT (ht := ?_) | refine G.condPF (ht := ?_) | refine R.enter0 (h := ?_) | refine R.nil (h := ?_) | refine R.move (h := ?_) | refine R.assign (h := ?_) | refine R.lss (h := ?_) | refine R.leq (h := ?_) | refine R.addw (h := ?_))
        refine R.call (hct := hI) (h := ?_)
        rintro _ _ ⟨rfl, vs, rfl, hok2, hs2, hg2⟩
        try dsimp only [List.cons_append, List.nil_append]
        repeat (first | refine G.plain (h := ?_) | apply Dn.next | apply Dn.blockEnd | refine R.enter0 (h := ?_) | refine R.nil (h := ?_) | refine R.move (h := ?_) | refine R.assign (h := ?_) | refine R.mulw (h := ?_))
        exact Dn.round (2 * bs, vs) ⟨by dsimp only; omega, by dsimp only; omega, hok2, hs.trans (hs2.wide (by omega) (Nat.le_refl _)), mid_fin hM ha.symm (by omega) hs2.2 hg2⟩ (by dsimp only; omega)
      · repeat (first | apply G.seq | refine G.plain (h := ?_) | apply G.skip | apply G.exit | apply Dn.next | apply Dn.blockEnd | apply Dn.exitHere | apply Dn.exitThen | refine G.condPF (ht := ?_) | refine R.enter0 (h := ?_) | refine R.nil (h := ?_) | refine R.move (h := ?_) | refine R.assign (h := ?_) | refine R.lss (h := ?_) | refine R.leq (h := ?_) | refine R.addw (h := ?_) | refine R.mulw (h := ?_))
        exact Dn.round (2 * bs, us) ⟨by dsimp only; omega, by dsimp only; omega, hok, hs, mid_fin0 hM ha.symm (by omega) hb0⟩ (by dsimp only; omega)
  · repeat (first | apply G.seq | refine G.plain (h := ?_) | apply G.exit | apply Dn.next | apply Dn.exitHere | apply Dn.exitThen | refine G.condPF (ht := ?_) | refine R.enter0 (h := ?_) | refine R.nil (h := ?_) | refine R.move (h := ?_) | refine R.lss (h := ?_))
    (refine Dn.postEnd (Hr := RunH bx g k o us rest) Tryz.results102 (hR := ?_); exact ⟨rfl, us, rfl, hok, hs, blk_one hB (by omega)⟩)
theorem Stable_ct (ts : List T5) (h : TsOk g k n ts) :
    Ct Tryz.prog 80 [runV bx] (RunH bx g k o ts rest) fun v H' =>
      v = .tuple #[] ∧ ∃ ts', H' = RunH bx g k o ts' rest ∧ TsOk g k n ts' ∧ Go.Srt.Sp (ltO o) false ts ts' ∧ Sd (ltO o) false ts' := by
  have hN := RLen_ct bx g k o ts rest
  rw [h.len] at hN
  have hS := stable_ct bx g k n o rest ts h
  refine Ct.intro Tryz.func80 rfl Tryz.ntmps80 (nle rfl) fun w0 => ?_; dsimp only [argSlots, Nat.reduceAdd]
  repeat (first | refine G.plain (h := ?_) | refine R.enter0 (h := ?_) | refine R.move (h := ?_) | refine R.invokeP (hct := by apply hN <;> (first | omega | assumption)) (h := ?_))
  refine R.call (hct := hS) (h := ?_)
  rintro _ _ ⟨rfl, vs, rfl, hok2, hs2, hg2⟩
  try dsimp only [List.cons_append, List.nil_append]
  repeat (first | refine R.nil (h := ?_))
  (refine Dn.postEnd (Hr := RunH bx g k o vs rest) Tryz.results80 (hR := ?_); exact ⟨rfl, vs, rfl, hok2, hs2.1, seg_sd (by rw [hok2.len]; exact hg2)⟩)
end
end Go.Proofs.YtdkihpjnidhnmaaGreat
namespace Go.Proofs.YtdkihpjnidhnmaaGreat
open Go.SL Go.Spc Go.Tup Go.Srt
/-- one more, if it is to be -/
def emit (o : T5) (once : Bool) (ps : List T5) (t : T5) : List T5 :=
  match once, ps.getLast? with
  | true, some x => if cmpT o x t = 0 then ps else ps ++ [t]
  | _, _ => ps ++ [t]
/-- what a sorter knows of what was put -/
def Last (ps : List T5) (last : T5) (some : Bool) : Prop := match ps.getLast? with
  | none => some = false
  | .some x => some = true ∧ last = x
theorem Last.put (ps : List T5) (t : T5) : Last (ps ++ [t]) t true := by simp [Last]
theorem emit_len (o : T5) (once : Bool) (ps : List T5) (t : T5) : ps.length ≤ (emit o once ps t).length ∧ (emit o once ps t).length ≤ ps.length + 1 := by
  unfold emit
  split
  · split <;> simp
  · simp
def sCells (bw : Nat) (o : T5) (once : Bool) (p : Option Addr) (n cap : Nat) (last : T5) (some : Bool) : List Value :=
  [pv bw, .int .i64 o.c0, .int .i64 o.c1, .int .i64 o.c2, .int .i64 o.c3, .int .i64 o.c4, .bool once, .slice p n cap,
   .int .i64 last.c0, .int .i64 last.c1, .int .i64 last.c2, .int .i64 last.c3, .int .i64 last.c4, .bool some]
def sRow (bz bw : Nat) (o : T5) (once : Bool) (p : Option Addr) (n cap : Nat) (last : T5) (some : Bool) : Chunk := [(bz, row (sCells bw o once p n cap last some) 87)]
theorem put_ct (bz bw bd ba bs : Nat) (W : Wk) (cd ca cs : Chunk) (h : Wc bd ba bs W cd ca cs) (bx first nb k bound : Nat) (g : Gr) (ps : List T5) (cx cb : Chunk) (hw : IsWr bw bx W first nb k bound g ps cx cb) (Gs : List Gr) (hg : W.α.gs.Perm (g :: Gs))
    (Lv : List Ext) (hl : LvOf first nb Lv W.live) (hlt : ps.length < bound) (t : T5) (ht : okT k t) (hac : W.δ.acts ≤ 1000000000000)
    (o : T5) (once : Bool) (p : Option Addr) (n cap : Nat) (last : T5) (some : Bool) (hls : Last ps last some) :
    Ct Tryz.prog 81 [pv bz, pv bx, tv t] [sRow bz bw o once p n cap last some, wrow bw bd ba bs, cd, ca, cs, cx, cb] fun v H' =>
      ∃ cd' ca' cs' W' cx' cb' last' some', H' = [sRow bz bw o once p n cap last' some', wrow bw bd ba bs, cd', ca', cs', cx', cb'] ∧ Wc bd ba bs W' cd' ca' cs' ∧
        Ev W W' ((emit o once ps t).length / holds W.δ.size k - ps.length / holds W.δ.size k) 0 ∧ Keep Lv W W' ∧
        ((v = .int .i64 0 ∧ W'.α = W.α ∧ W'.σ = W.σ ∧ W'.live = W.live ∧ IsWr bw bx W' first nb k bound g (emit o once ps t) cx' cb' ∧ Last (emit o once ps t) last' some') ∨
         (v = .int .i64 6 ∧ W.δ.fault = 0 ∧ W'.δ = W.δ.failed ∧ W'.α.gs.Perm Gs ∧ W'.live.Perm Lv ∧ ClosedWr bx cx')) := by
  have hP := Put_u bw bd ba bs W cd ca cs h bx first nb k bound g ps cx cb hw Gs hg Lv hl hlt t ht hac
  have hC := Compare_ct last.c0 last.c1 last.c2 last.c3 last.c4 t.c0 t.c1 t.c2 t.c3 t.c4 o.c0 o.c1 o.c2 o.c3 o.c4
  have hCc : cmpT ⟨o.c0, o.c1, o.c2, o.c3, o.c4⟩ ⟨last.c0, last.c1, last.c2, last.c3, last.c4⟩ ⟨t.c0, t.c1, t.c2, t.c3, t.c4⟩ = cmpT o last t := rfl
  rw [hCc] at hC
  generalize hcm : cmpT o last t = cm at hC
  unfold sRow sCells
  by_cases hsk : once = true ∧ some = true ∧ cm = 0
  · obtain ⟨rfl, rfl, rfl⟩ := hsk
    have hem : emit o true ps t = ps := by
      unfold emit; unfold Last at hls
      cases hgl : ps.getLast? with
      | none => rw [hgl] at hls; simp at hls
      | some x =>
        rw [hgl] at hls
        obtain ⟨_, rfl⟩ := hls
        simp [hcm]
    rw [hem]
    refine Ct.intro Tryz.func81 rfl Tryz.ntmps81 (nle rfl) fun w0 => ?_; dsimp only [argSlots, Nat.reduceAdd]
    repeat (first | apply G.seq | refine G.plain (h := ?_) | apply G.ret | apply Dn.next | apply Dn.retThen | refine G.condPT (ht := ?_) | refine G.draw (id := 1) [(20, .quiet)] (h := ?_) | refine R.enter0 (h := ?_) | refine R.nil (h := ?_) | refine R.enterT (h := ?_) | refine R.move (h := ?_) | refine R.assign (h := ?_) | refine R.nilCheck (h := ?_) | refine R.fieldAddr (h := ?_) | refine R.load1 (h := ?_) | refine R.loadN (h := ?_) | (refine R.box (h := ?_); intro _) | refine R.pickT (h := ?_) | refine R.eql (h := ?_) | refine R.callQ (hct := by apply hC <;> (first | omega | assumption)) (h := ?_))
    (refine Dn.post (Hr := [[(bz, row [pv bw, .int .i64 o.c0, .int .i64 o.c1, .int .i64 o.c2, .int .i64 o.c3, .int .i64 o.c4, .bool true, .slice p n cap, .int .i64 last.c0, .int .i64 last.c1, .int .i64 last.c2, .int .i64 last.c3, .int .i64 last.c4, .bool true] 87)], wrow bw bd ba bs, cd, ca, cs, cx, cb]) Tryz.results81 (hR := ?_); exact ⟨cd, ca, cs, W, cx, cb, last, true, rfl, h, (Ev.refl W).weak (Nat.zero_le _) (Nat.le_refl _), Keep.refl _ _, .inl ⟨rfl, rfl, rfl, rfl, hw, hls⟩⟩)
  have hem : emit o once ps t = ps ++ [t] := by
    unfold emit; unfold Last at hls
    cases once with
    | false => rfl
    | true =>
      cases hgl : ps.getLast? with
      | none => rfl
      | some x =>
        rw [hgl] at hls
        obtain ⟨rfl, rfl⟩ := hls
        have : ¬ cm = 0 := fun e => hsk ⟨rfl, rfl, e⟩
        simp [hcm, this]
  rw [hem]
  have hPl := Last.put ps t
  rw [List.length_append, List.length_singleton]
  have htv : tv t = .agg #[.int .i64 t.c0, .int .i64 t.c1, .int .i64 t.c2, .int .i64 t.c3, .int .i64 t.c4] := rfl
  rw [htv] at hP ⊢
  cases ho : once with
  | false =>
    refine Ct.intro Tryz.func81 rfl Tryz.ntmps81 (nle rfl) fun w0 => ?_; dsimp only [argSlots, Nat.reduceAdd]
    repeat (first | apply G.seq | refine G.plain (h := ?_) | apply G.skip | refine G.condF (h := ?_) | apply Dn.next | refine G.draw (id := 1) [(20, .quiet)] (h := ?_) | refine R.enter0 (h := ?_) | refine R.nil (h := ?_) | refine R.skip (h := ?_) | refine R.move (h := ?_) | refine R.assign (h := ?_) | refine R.nilCheck (h := ?_) | refine R.fieldAddr (h := ?_) | refine R.load1 (h := ?_) | refine R.loadN (h := ?_) | refine R.store1 (h := ?_) | refine R.storeN (h := ?_) | (refine R.box (h := ?_); intro _) | refine R.pickF (h := ?_))
    refine R.call (hct := hP) (h := ?_)
    rintro _ _ ⟨cd', ca', cs', W', cx', cb', rfl, hW, hE, hK, hor⟩
    try dsimp only [List.cons_append, List.nil_append]
    repeat (first | apply G.ret | apply Dn.next | refine R.enter0 (h := ?_) | refine R.nil (h := ?_) | refine R.assign (h := ?_))
    (refine Dn.post (Hr := [[(bz, row [pv bw, .int .i64 o.c0, .int .i64 o.c1, .int .i64 o.c2, .int .i64 o.c3, .int .i64 o.c4, .bool false, .slice p n cap, .int .i64 t.c0, .int .i64 t.c1, .int .i64 t.c2, .int .i64 t.c3, .int .i64 t.c4, .bool true] 87)], wrow bw bd ba bs, cd', ca', cs', cx', cb']) Tryz.results81 (hR := ?_); exact ⟨cd', ca', cs', W', cx', cb', t, true, rfl, hW, hE, hK, hor.imp (fun ⟨a1, a2, a3, a4, a5⟩ => ⟨a1, a2, a3, a4, a5, hPl⟩) id⟩)
  | true =>
    cases hs : some with
    | false =>
      refine Ct.intro Tryz.func81 rfl Tryz.ntmps81 (nle rfl) fun w0 => ?_; dsimp only [argSlots, Nat.reduceAdd]
      repeat (first | apply G.seq | refine G.plain (h := ?_) | apply G.skip | refine G.condF (h := ?_) | apply Dn.next | refine G.draw (id := 1) [(20, .quiet)] (h := ?_) | refine R.enter0 (h := ?_) | refine R.nil (h := ?_) | refine R.enterT (h := ?_) | refine R.skip (h := ?_) | refine R.move (h := ?_) | refine R.assign (h := ?_) | refine R.nilCheck (h := ?_) | refine R.fieldAddr (h := ?_) | refine R.load1 (h := ?_) | refine R.loadN (h := ?_) | refine R.store1 (h := ?_) | refine R.storeN (h := ?_) | (refine R.box (h := ?_); intro _) | refine R.pickT (h := ?_) | refine R.pickF (h := ?_))
      refine R.call (hct := hP) (h := ?_)
      rintro _ _ ⟨cd', ca', cs', W', cx', cb', rfl, hW, hE, hK, hor⟩
      try dsimp only [List.cons_append, List.nil_append]
      repeat (first | apply G.ret | apply Dn.next | refine R.enter0 (h := ?_) | refine R.nil (h := ?_) | refine R.assign (h := ?_))
      (refine Dn.post (Hr := [[(bz, row [pv bw, .int .i64 o.c0, .int .i64 o.c1, .int .i64 o.c2, .int .i64 o.c3, .int .i64 o.c4, .bool true, .slice p n cap, .int .i64 t.c0, .int .i64 t.c1, .int .i64 t.c2, .int .i64 t.c3, .int .i64 t.c4, .bool true] 87)], wrow bw bd ba bs, cd', ca', cs', cx', cb']) Tryz.results81 (hR := ?_); exact ⟨cd', ca', cs', W', cx', cb', t, true, rfl, hW, hE, hK, hor.imp (fun ⟨a1, a2, a3, a4, a5⟩ => ⟨a1, a2, a3, a4, a5, hPl⟩) id⟩)
    | true =>
      have hne : ¬ cm = 0 := fun e => hsk ⟨ho, hs, e⟩
      refine Ct.intro Tryz.func81 rfl Tryz.ntmps81 (nle rfl) fun w0 => ?_; dsimp only [argSlots, Nat.reduceAdd]
      repeat (first | apply G.seq | refine G.plain (h := ?_) | apply G.skip | apply Dn.next | refine G.condPF (ht := ?_) | refine G.draw (id := 1) [(20, .quiet)] (h := ?_) | refine R.enter0 (h := ?_) | refine R.nil (h := ?_) | refine R.enterT (h := ?_) | refine R.move (h := ?_) | refine R.assign (h := ?_) | refine R.nilCheck (h := ?_) | refine R.fieldAddr (h := ?_) | refine R.load1 (h := ?_) | refine R.loadN (h := ?_) | refine R.store1 (h := ?_) | refine R.storeN (h := ?_) | (refine R.box (h := ?_); intro _) | refine R.pickT (h := ?_) | refine R.eql (h := ?_) | refine R.callQ (hct := by apply hC <;> (first | omega | assumption)) (h := ?_))
      refine R.call (hct := hP) (h := ?_)
      rintro _ _ ⟨cd', ca', cs', W', cx', cb', rfl, hW, hE, hK, hor⟩
      try dsimp only [List.cons_append, List.nil_append]
      repeat (first | apply G.ret | apply Dn.next | refine R.enter0 (h := ?_) | refine R.nil (h := ?_) | refine R.assign (h := ?_))
      (refine Dn.post (Hr := [[(bz, row [pv bw, .int .i64 o.c0, .int .i64 o.c1, .int .i64 o.c2, .int .i64 o.c3, .int .i64 o.c4, .bool true, .slice p n cap, .int .i64 t.c0, .int .i64 t.c1, .int .i64 t.c2, .int .i64 t.c3, .int .i64 t.c4, .bool true] 87)], wrow bw bd ba bs, cd', ca', cs', cx', cb']) Tryz.results81 (hR := ?_); exact ⟨cd', ca', cs', W', cx', cb', t, true, rfl, hW, hE, hK, hor.imp (fun ⟨a1, a2, a3, a4, a5⟩ => ⟨a1, a2, a3, a4, a5, hPl⟩) id⟩)
end Go.Proofs.YtdkihpjnidhnmaaGreat
namespace Go.Proofs.YtdkihpjnidhnmaaGreat
open Go.SL Go.Spc Go.Tup Go.Srt
theorem eqv_cmp (o x t : T5) : eqv (ltO o) x t = true ↔ cmpT o x t = 0 := by
  rw [eqv_iff]
  have := cmpT_swap o x t
  simp only [ltO, decide_eq_false_iff_not]
  omega
/-- some were put, the rest is to come -/
structure Em (o : T5) (once : Bool) (l ps rest : List T5) : Prop where
  sd : Sd (ltO o) once ps
  sp : Go.Srt.Sp (ltO o) once l (ps ++ rest)
  le : ∀ x ∈ ps, ∀ y ∈ rest, ltO o y x = false
theorem Em.start {o : T5} {once : Bool} {l rest : List T5} (h : Go.Srt.Sp (ltO o) once l rest) : Em o once l [] rest := ⟨List.Pairwise.nil, h, fun x hx => by simp at hx⟩
theorem Em.turn {o : T5} {once : Bool} {l ps rest rest' : List T5} (h : Em o once l ps rest) (hs : Go.Srt.Sp (ltO o) once rest rest') (hm : ∀ y ∈ rest', y ∈ rest) : Em o once l ps rest' :=
  ⟨h.sd, h.sp.trans (Go.Srt.Sp.app (Go.Srt.Sp.refl _ _) hs), fun x hx y hy => h.le x hx y (hm y hy)⟩
theorem Em.fin {o : T5} {once : Bool} {l ps : List T5} (h : Em o once l ps []) : Sd (ltO o) once ps ∧ Go.Srt.Sp (ltO o) once l ps := ⟨h.sd, by have := h.sp; rwa [List.append_nil] at this⟩
theorem sp_skip {o : T5} {ps rest : List T5} {z t : T5} (hz : z ∈ ps) (he : eqv (ltO o) z t = true) : Go.Srt.Sp (ltO o) true (ps ++ t :: rest) (ps ++ rest) := fun c => by
  rw [List.filter_append, List.filter_append, List.filter_cons]
  cases hct : eqv (ltO o) c t with
  | false => simp
  | true =>
    have h1 : eqv (ltO o) c z = true := eqv_trans (ltO_swo o) hct (eqv_symm he)
    have h2 : z ∈ ps.filter (eqv (ltO o) c) := List.mem_filter.2 ⟨hz, h1⟩
    simp only [keepC, if_true]
    cases hf : ps.filter (eqv (ltO o) c) with
    | nil => rw [hf] at h2; simp at h2
    | cons a b => simp
theorem Em.step {o : T5} {once : Bool} {l ps rest : List T5} {t : T5} (h : Em o once l ps (t :: rest)) (hmin : ∀ y ∈ rest, ltO o y t = false) : Em o once l (emit o once ps t) rest := by
  have hsw := ltO_swo o
  have hput : (once = true → ∀ z, ps.getLast? = some z → cmpT o z t ≠ 0) → Em o once l (ps ++ [t]) rest := by
    intro hz
    refine ⟨?_, by have := h.sp; simpa using this, ?_⟩
    · unfold Sd
      rw [List.pairwise_append]
      refine ⟨h.sd, List.pairwise_singleton _ _, ?_⟩
      intro x hx y hy
      simp only [List.mem_singleton] at hy
      subst hy
      have hyx := h.le x hx y List.mem_cons_self
      cases once with
      | false => simpa using hyx
      | true =>
        rw [if_pos rfl]
        obtain ⟨qs, z, rfl⟩ : ∃ qs z, ps = qs ++ [z] := by
          rcases List.eq_nil_or_concat ps with rfl | ⟨qs, z, rfl⟩
          · simp at hx
          · exact ⟨qs, z, by simp⟩
        have hne := hz rfl z (by simp)
        have hyz := h.le z (by simp) y List.mem_cons_self
        have hzy : ltO o z y = true := by
          cases hc : ltO o z y with
          | true => rfl
          | false => exact absurd ((eqv_cmp o z y).1 (eqv_iff.2 ⟨hc, hyz⟩)) hne
        rcases List.mem_append.1 hx with hx | hx
        · have hsd := h.sd
          unfold Sd at hsd
          rw [List.pairwise_append] at hsd
          have hxz := hsd.2.2 x hx z (by simp)
          rw [if_pos rfl] at hxz
          cases hc : ltO o x y with
          | true => rfl
          | false =>
            have := hsw.ntrans _ _ _ hc hyz
            rw [hxz] at this; cases this
        · simp only [List.mem_singleton] at hx
          subst hx; exact hzy
    · intro x hx y hy
      rcases List.mem_append.1 hx with hx | hx
      · exact h.le x hx y (List.mem_cons_of_mem _ hy)
      · simp only [List.mem_singleton] at hx
        subst hx; exact hmin y hy
  unfold emit
  cases once with
  | false => exact hput (fun e => by cases e)
  | true =>
    cases hgl : ps.getLast? with
    | none => exact hput (fun _ z hz => by rw [hgl] at hz; cases hz)
    | some z =>
      dsimp only
      split
      · rename_i hc
        exact ⟨h.sd, h.sp.trans (sp_skip (List.mem_of_getLast? hgl) ((eqv_cmp o z t).2 hc)), fun x hx y hy => h.le x hx y (List.mem_cons_of_mem _ hy)⟩
      · rename_i hc
        exact hput (fun _ z' hz' => by rw [hgl] at hz'; cases hz'; exact hc)
/-- what is put of a list -/
def emits (o : T5) (once : Bool) (l : List T5) : List T5 := l.foldl (emit o once) []
theorem emits_succ {o : T5} {once : Bool} {l : List T5} {i : Nat} (h : i < l.length) : emits o once (l.take (i + 1)) = emit o once (emits o once (l.take i)) l[i] := by
  unfold emits
  rw [List.take_add_one, List.foldl_append]; simp [h]
theorem emits_len (o : T5) (once : Bool) : ∀ (l : List T5), (emits o once l).length ≤ l.length := by
  intro l
  have : ∀ (l ps : List T5), (l.foldl (emit o once) ps).length ≤ ps.length + l.length := by
    intro l
    induction l with
    | nil => intro ps; simp
    | cons t l ih =>
      intro ps
      have h1 := ih (emit o once ps t)
      have h2 := (emit_len o once ps t).2
      simp only [List.foldl_cons, List.length_cons]; omega
  have h := this l []
  simpa [emits] using h
theorem Em.all {o : T5} {once : Bool} {l : List T5} : ∀ {m ps : List T5}, Em o once l ps m → Sd (ltO o) false m → Em o once l (m.foldl (emit o once) ps) []
  | [], _, h, _ => h
  | t :: m, ps, h, hs => by
    unfold Sd at hs
    rw [List.foldl_cons]
    refine Em.all (ps := emit o once ps t) (m := m) (h.step fun y hy => ?_) (List.Pairwise.of_cons hs)
    have := List.rel_of_pairwise_cons hs hy
    simpa using this
theorem emits_law {o : T5} {once : Bool} {l m : List T5} (h : Go.Srt.Sp (ltO o) false l m) (hs : Sd (ltO o) false m) : Sd (ltO o) once (emits o once m) ∧ Go.Srt.Sp (ltO o) once l (emits o once m) :=
  (Em.all (Em.start h.once_of) hs).fin
theorem emit_mem {o : T5} {once : Bool} {ps : List T5} {t x : T5} (h : x ∈ emit o once ps t) : x ∈ ps ∨ x = t := by
  unfold emit at h
  split at h
  · split at h
    · exact .inl h
    · simpa using h
  · simpa using h
end Go.Proofs.YtdkihpjnidhnmaaGreat
namespace Go.Proofs.YtdkihpjnidhnmaaGreat
open Go.SL Go.Spc Go.Tup Go.Srt
structure FillX where
  i : Nat
  cd : Chunk
  c1 : Chunk
  cx : Chunk
  cb : Chunk
  W : Wk
  ws : List Int
theorem fits_iff {i c k n : Nat} (hk : 1 ≤ k) (hc : c = n / k) : (i + 1) * k ≤ n ↔ i < c := by
  subst hc
  rw [← Nat.le_div_iff_mul_le (by omega)]
  exact ⟨fun h => h, fun h => h⟩
set_option maxHeartbeats 2000000 in
theorem fill_ct (bw bd ba bs : Nat) (W : Wk) (cd ca cs : Chunk) (h : Wc bd ba bs W cd ca cs) (bx : Nat) (f : Fl) (fts : List T5) (Lv : List Ext) (hfo : FileOk W.δ.disk W.δ.size Lv f fts) (hsub : ∀ e ∈ Lv, e ∈ W.live) (g g2 : Gr) (Gs : List Gr) (hg : W.α.gs.Perm (g :: Gs))
    (hg2 : g2 ∈ Gs) (pos : Nat) (hpos : pos ≤ f.count) (cx cb : Chunk) (hr : IsRd bw bx W f fts g pos cx cb) (hac : W.δ.acts ≤ 100000000000) (by_ n0 : Nat) (o : T5) (ws : List Int) (hws : ws.length = g2.n) (hgn : g2.n ≤ 1000000000) :
    Ct Tryz.prog 64 [pv bx, pv by_] [wrow bw bd ba bs, cd, ca, cs, cx, cb, [(by_, row (runCells g2.bb f.width n0 o) 126)], [(g2.br, row (wcells ws) 117)]] fun v H' =>
      ∃ cd' ca' W' cx' cb' ts' ws' m, H' = [wrow bw bd ba bs, cd', ca', cs, cx', cb', [(by_, row (runCells g2.bb f.width m o) 126)], [(g2.br, row (wcells ws') 117)]] ∧ Wc bd ba bs W' cd' ca' cs ∧
        Ev W W' (nblocks W.δ.size f.width (pos + m) - nblocks W.δ.size f.width pos) 0 ∧ W'.δ.disk = W.δ.disk ∧ W'.σ = W.σ ∧ W'.live = W.live ∧ ws'.length = g2.n ∧
        ts' = (fts.drop pos).take m ∧ ws'.take (m * f.width) = words f.width ts' ∧
        ((v = .tuple #[.int .i64 (m : Int), .int .i64 0] ∧ m = min (g2.n / f.width) (f.count - pos) ∧ W'.α = W.α ∧ IsRd bw bx W' f fts g (pos + m) cx' cb') ∨
         (v = .tuple #[.int .i64 (m : Int), .int .i64 6] ∧ W.δ.fault ≠ -1 ∧ W'.α.gs.Perm Gs ∧ ClosedRd bx cx' ∧ pos + m ≤ f.count)) := by
  obtain ⟨⟨hs1, hs2⟩, hbk, hfr⟩ := h.dev.num
  have hk1 := hfo.w1
  have hk5 := hfo.w2
  have hcnt := hfo.cnt
  have htl := hfo.len
  have hp := holds_pos hs1 hk1 hk5
  have hgm : g2 ∈ W.α.gs := hg.mem_iff.2 (List.mem_cons_of_mem _ hg2)
  obtain ⟨c1, hc1⟩ := h.ar.open_ hgm
  have h' : Wc bd ba bs W cd (c1 ++ [g2.obj]) cs := ⟨h.dev, h.ar.perm hc1.symm, h.sp, h.nn, h.live⟩
  obtain ⟨c, hc⟩ : ∃ c, c = g2.n / f.width := ⟨_, rfl⟩
  have hcn : c * f.width ≤ g2.n := by rw [hc]; exact Nat.div_mul_le_self _ _
  have hcc : c ≤ g2.n := by rw [hc]; exact Nat.div_le_self _ _
  rw [← hc]
  have hfit := fun i => fits_iff (i := i) hk1 hc
  refine Ct.permH (H2 := [wrow bw bd ba bs, cd, c1, [g2.obj], cs, cx, cb, [(by_, row (runCells g2.bb f.width n0 o) 126)], [(g2.br, row (wcells ws) 117)]]) ?_ ?_
  · unfold runCells Gr.obj
    refine Ct.intro Tryz.func64 rfl Tryz.ntmps64 (nle rfl) fun w0 => ?_; dsimp only [argSlots, Nat.reduceAdd]
    repeat (first | apply G.seq | refine G.plain (h := ?_) | apply G.block | apply Dn.next | refine R.enter0 (h := ?_) | refine R.nil (h := ?_) | refine R.move (h := ?_) | refine R.assign (h := ?_) | refine R.nilCheck (h := ?_) | refine R.fieldAddr (h := ?_) | refine R.store1 (h := ?_))
    refine G.loop (X := FillX) (fun x => x.i ≤ c ∧ pos + x.i ≤ f.count ∧ Wc bd ba bs x.W x.cd (x.c1 ++ [g2.obj]) cs ∧ Ev W x.W (nblocks W.δ.size f.width (pos + x.i) - nblocks W.δ.size f.width pos) 0 ∧ x.W.δ.disk = W.δ.disk ∧ x.W.σ = W.σ ∧ x.W.live = W.live ∧ x.W.α = W.α ∧
        IsRd bw bx x.W f fts g (pos + x.i) x.cx x.cb ∧ x.ws.length = g2.n ∧ x.ws.take (x.i * f.width) = words f.width ((fts.drop pos).take x.i))
      (fun _ => [(0, pv bx), (1, pv by_)])
      (fun x => [wrow bw bd ba bs, x.cd, x.c1, [(g2.bb, row [.slice (some ⟨g2.br, 0, none⟩) g2.n g2.n] 120)], cs, x.cx, x.cb, [(by_, row [pv g2.bb, .int .i64 (f.width : Int), .int .i64 (x.i : Int), .int .i64 o.c0, .int .i64 o.c1, .int .i64 o.c2, .int .i64 o.c3, .int .i64 o.c4] 126)], [(g2.br, row (wcells x.ws) 117)]])
      (fun x => c - x.i) ⟨0, cd, c1, cx, cb, W, ws⟩ ⟨Nat.zero_le _, hpos, h', by simpa using Ev.refl W, rfl, rfl, rfl, rfl, hr, hws, by simp⟩ (body := ?_)
    rintro ⟨i, cd1, c2, cx1, cb1, W2, ws2⟩ ⟨hic, hpi, hW2, hE2, hd2, hσ2, hl2, hα2, hr2, hw2, htk⟩
    dsimp only at hic hpi hW2 hE2 hd2 hσ2 hl2 hα2 hr2 hw2 htk ⊢
    have hacts := hE2.acts
    have hsz := hE2.size
    have hnof : W2.δ.fault = 0 → W.δ.fault ≠ -1 := fun e0 e1 => by have := hE2.fault e1; omega
    have hdl : nblocks W.δ.size f.width (pos + i) ≤ pos + i := by
      unfold nblocks
      rw [Nat.div_le_iff_le_mul_add_pred (by omega)]
      have := Nat.le_mul_of_pos_left (pos + i) (show 0 < holds W.δ.size f.width by omega)
      omega
    have hkc : (i + 1) * f.width ≤ 1000000005 := by
      have h1 : (i + 1) * f.width = i * f.width + f.width := Nat.succ_mul _ _
      have h2 : i * f.width ≤ c * f.width := Nat.mul_le_mul_right _ hic
      omega
    have e1 : IntKind.wrap .i64 ((i : Int) + 1) = ((i + 1 : Nat) : Int) := by rw [wrap_i64 (by omega)]; rfl
    have e2 : IntKind.wrap .i64 (((i + 1 : Nat) : Int) * (f.width : Int)) = (((i + 1) * f.width : Nat) : Int) := by rw [← Int.natCast_mul]; exact wrap_i64 (by omega)
    have hfi := hfit i
    generalize hm1 : (i + 1) * f.width = m1 at *
    by_cases hin : i < c
    · have hmn := hfi.2 hin
      repeat (first | apply G.seq | refine G.plain (h := ?_) | apply G.block | apply G.skip | apply Dn.next | refine G.condPT (ht := ?_) | refine G.draw (id := 2) [] (h := ?_) | refine R.enter0 (h := ?_) | refine R.nil (h := ?_) | refine R.move (h := ?_) | refine R.nilCheck (h := ?_) | refine R.fieldAddr (h := ?_) | refine R.load1 (h := ?_) | refine R.leq (h := ?_) | refine R.addw (h := ?_) | refine R.mulw (h := ?_) | refine R.len (h := ?_))
      apply R1.join (c1 := c2) (c2 := [(g2.bb, row [.slice (some ⟨g2.br, 0, none⟩) g2.n g2.n] 120)])
      · (repeat (first | exact Take.here | apply Take.there))
      · (repeat (first | exact Take.here | apply Take.there))
      by_cases hpc : pos + i < f.count
      · have hlt : pos + i < fts.length := by omega
        have hNx := Next_u bw bd ba bs W2 cd1 _ cs hW2 bx f fts Lv (by rw [hd2, hsz]; exact hfo) (by rw [hl2]; exact hsub) g Gs (by rw [hα2]; exact hg) (pos + i) cx1 cb1 hr2 fts[pos + i] (List.getElem?_eq_getElem hlt) (by omega)
        have htv : tv fts[pos + i] = .agg (tcells fts[pos + i]).toArray := rfl
        rw [htv] at hNx
        have hgt : fts[pos + i] ∈ fts := List.getElem_mem hlt
        have hokt := hfo.fit _ hgt
        have htcl : (tcells fts[pos + i]).length = 5 := rfl
        have hall : (tcells fts[pos + i]).all Value.oneCell' = true := rfl
        have hset5 : setL [.int .i64 0, .int .i64 0, .int .i64 0, .int .i64 0, .int .i64 0] 0 (tcells fts[pos + i]) = tcells fts[pos + i] := rfl
        have htake : (fts.drop pos).take (i + 1) = (fts.drop pos).take i ++ [fts[pos + i]] := by
          rw [List.take_add_one]; simp [hlt]
        have hget := tcells_get fts[pos + i]
        have htw := tw_get fts[pos + i] f.width
        have htwl := tw_length fts[pos + i] hk5
        generalize hcl : tcells fts[pos + i] = tc at *
        generalize fts[pos + i] = t at *
        refine R.call (hct := hNx) (h := ?_)
        rintro _ _ ⟨cd3, ca3, W3, cx3, cb3, rfl, hW3, hE3, hd3, hs3, hl3, ⟨rfl, e6, e9⟩ | ⟨rfl, e6, e7, e8, e9⟩⟩
        try dsimp only [List.cons_append, List.nil_append]
        · obtain ⟨c3, hc3⟩ := hW3.ar.open_ (g := g2) (by rw [e6, hα2]; exact hgm)
          unfold Gr.obj at hc3
          apply R.open hc3
          · (repeat (first | exact Take.here | apply Take.there))
          obtain ⟨B, hB⟩ : ∃ B : Nat → List Int, ∀ j, B j = bput ws2 (i * f.width) ((tw f.width t).take j) := ⟨_, fun _ => rfl⟩
          have hiw : i * f.width + f.width = m1 := by rw [← hm1, Nat.succ_mul]
          have e3 : IntKind.wrap .i64 ((i : Int) * (f.width : Int)) = ((i * f.width : Nat) : Int) := by rw [← Int.natCast_mul]; exact wrap_i64 (by omega)
          generalize hiwg : i * f.width = iw at *
          have hB0 : B 0 = ws2 := by rw [hB, List.take_zero, bput_nil]
          have hBk : B f.width = bput ws2 iw (tw f.width t) := by rw [hB, List.take_of_length_le (by omega)]
          have hBl : ∀ j, (B j).length = g2.n := fun j => by rw [hB, bput_length (by rw [List.length_take, htwl, hw2]; omega), hw2]
          repeat (first | apply G.seq | refine G.plain (h := ?_) | apply G.block | apply G.skip | refine G.condF (h := ?_) | apply Dn.next | refine R.enter0 (h := ?_) | refine R.nil (h := ?_) | refine R.enterT (h := ?_) | refine R.splitF (ht := ?_) | refine R.move (h := ?_) | refine R.assign (h := ?_) | refine R.nilCheck (h := ?_) | refine R.fieldAddr (h := ?_) | refine R.load1 (h := ?_) | refine R.storeN (h := ?_) | (refine R.alloc (h := ?_); intro _) | refine R.extract (h := ?_) | refine R.pickF (h := ?_) | refine R.neq (h := ?_) | refine R.not (h := ?_) | refine R.len (h := ?_) | refine R.sliceAH (h := ?_))
          rename_i b6
          refine G.loop (X := Nat) (fun j => j ≤ f.width) (fun j => [(56, .int .i64 (j : Int)), (55, .int .i64 (f.width : Int)), (54, .slice (some ⟨b6, 0, none⟩) f.width 5), (0, pv bx), (1, pv by_)])
            (fun j => [[(b6, row tc 47)], c3, [(g2.bb, row [.slice (some ⟨g2.br, 0, none⟩) g2.n g2.n] 120)], wrow bw bd ba bs, cd3, cs, cx3, cb3, [(by_, row [pv g2.bb, .int .i64 (f.width : Int), .int .i64 (i : Int), .int .i64 o.c0, .int .i64 o.c1, .int .i64 o.c2, .int .i64 o.c3, .int .i64 o.c4] 126)], [(g2.br, row (wcells (B j)) 117)]])
            (fun j => f.width - j) 0 (Nat.zero_le _) (by repeat (first | exact trivial | refine ⟨rfl, ?_⟩)) (by rw [hB0]; exact (by repeat (first | exact Split.nil | (apply Split.cons; · (repeat (first | exact Take.here | apply Take.there | exact Take.nil)))))) ?_
          intro j hj
          by_cases hjk : j < f.width
          · have hgi := hget j (by omega)
            have hset : (wcells (B j)).set (iw + j) (.int .u64 (wd (t.col j))) = wcells (B (j + 1)) := by
              rw [wcells_set, hB, hB, bput_step (htw j hjk hk5) (by rw [htwl, hw2]; omega)]
            have hlen : (wcells (B j)).length = g2.n := by rw [wcells_length, hBl]
            have e4 : IntKind.wrap .i64 ((iw : Int) + (j : Int)) = ((iw + j : Nat) : Int) := by rw [← Int.natCast_add]; exact wrap_i64 (by omega)
            repeat (first | apply G.seq | refine G.plain (h := ?_) | apply G.block | apply G.skip | apply Dn.next | apply Dn.blockEnd | refine G.condPT (ht := ?_) | refine G.draw (id := 9) [] (h := ?_) | refine R.enter0 (h := ?_) | refine R.nil (h := ?_) | refine R.move (h := ?_) | refine R.assign (h := ?_) | refine R.nilCheck (h := ?_) | refine R.fieldAddr (h := ?_) | refine R.load1 (h := ?_) | refine R.store1 (h := ?_) | refine R.lss (h := ?_) | refine R.addw (h := ?_) | refine R.mulw (h := ?_) | refine R.convert (h := ?_) | refine R.indexAddr (h := ?_))
            exact Dn.round (j + 1) (by omega) (by omega)
          · obtain rfl : j = f.width := by omega
            repeat (first | apply G.seq | refine G.plain (h := ?_) | apply G.exit | apply Dn.next | apply Dn.blockEnd | apply Dn.exitHere | apply Dn.exitThen | refine G.condPF (ht := ?_) | refine R.enter0 (h := ?_) | refine R.nil (h := ?_) | refine R.move (h := ?_) | refine R.nilCheck (h := ?_) | refine R.fieldAddr (h := ?_) | refine R.load1 (h := ?_) | refine R.store1 (h := ?_) | refine R.lss (h := ?_) | refine R.addw (h := ?_))
            refine Dn.round ⟨i + 1, cd3, c3, cx3, cb3, W3, B f.width⟩ ⟨hin, by dsimp only; omega, ⟨hW3.dev, hW3.ar.perm hc3.symm, hW3.sp, hW3.nn, hW3.live⟩, ?_, hd3.trans hd2, hs3.trans hσ2, hl3.trans hl2, by rw [e6]; exact hα2, by rw [← Nat.add_assoc]; exact e9, hBl _, ?_⟩ (by dsimp only; omega)
            · have := hE2.trans hE3
              rw [hsz] at this
              refine this.weak ?_ (Nat.le_refl _)
              have m1 : nblocks W.δ.size f.width pos ≤ nblocks W.δ.size f.width (pos + i) := nblocks_mono (by omega)
              have m2 : nblocks W.δ.size f.width (pos + i) ≤ nblocks W.δ.size f.width (pos + i + 1) := nblocks_mono (by omega)
              dsimp only
              rw [← Nat.add_assoc]
              omega
            · have := bput_take (buf := ws2) (ws := tw f.width t) (n := iw) (by rw [htwl, hw2]; omega)
              dsimp only
              rw [hm1, show m1 = iw + (tw f.width t).length by omega, hBk, this, htake, words_app, htk]
              simp [words]
        · repeat (first | apply G.seq | refine G.plain (h := ?_) | apply G.ret | refine G.condT (h := ?_) | apply Dn.next | apply Dn.retThen | apply Dn.retBlock | refine R.enter0 (h := ?_) | refine R.nil (h := ?_) | refine R.skip (h := ?_) | refine R.splitT (ht := ?_) | refine R.move (h := ?_) | refine R.assign (h := ?_) | refine R.nilCheck (h := ?_) | refine R.fieldAddr (h := ?_) | refine R.load1 (h := ?_) | refine R.storeN (h := ?_) | (refine R.alloc (h := ?_); intro _) | refine R.extract (h := ?_) | refine R.pickT (h := ?_) | refine R.neq (h := ?_))
          (refine Dn.post (Hr := [wrow bw bd ba bs, cd3, ca3, cs, cx3, cb3, [(by_, row (runCells g2.bb f.width i o) 126)], [(g2.br, row (wcells ws2) 117)]]) Tryz.results64 (hR := ?_); refine ⟨cd3, ca3, W3, cx3, cb3, _, ws2, i, rfl, hW3, ?_, hd3.trans hd2, hs3.trans hσ2, hl3.trans hl2, hw2, rfl, htk, .inr ⟨rfl, hnof e6, e8, e9, hpi⟩⟩)
          have := hE2.trans hE3
          exact { this with acts := ⟨this.acts.1, by rw [e7]; exact hE2.acts.2⟩ }
      · have hNe := NextEnd_u bw bx W2 f fts g cx1 cb1 (by rw [show f.count = pos + i by omega]; exact hr2)
        have hz : tv T5.zero = .agg (tcells T5.zero).toArray := rfl
        rw [hz] at hNe
        refine R.call (hct := hNe) (h := ?_)
        rintro _ _ ⟨rfl, rfl⟩
        try dsimp only [List.cons_append, List.nil_append]
        repeat (first | apply G.seq | refine G.plain (h := ?_) | apply G.ret | refine G.condT (h := ?_) | apply Dn.next | apply Dn.retThen | apply Dn.retBlock | refine R.enter0 (h := ?_) | refine R.nil (h := ?_) | refine R.enterT (h := ?_) | refine R.splitF (ht := ?_) | refine R.move (h := ?_) | refine R.assign (h := ?_) | refine R.nilCheck (h := ?_) | refine R.fieldAddr (h := ?_) | refine R.load1 (h := ?_) | refine R.storeN (h := ?_) | (refine R.alloc (h := ?_); intro _) | refine R.extract (h := ?_) | refine R.pickF (h := ?_) | refine R.neq (h := ?_) | refine R.not (h := ?_))
        (refine Dn.post (Hr := [wrow bw bd ba bs, cd1, c2 ++ [(g2.bb, row [.slice (some ⟨g2.br, 0, none⟩) g2.n g2.n] 120)], cs, cx1, cb1, [(by_, row (runCells g2.bb f.width i o) 126)], [(g2.br, row (wcells ws2) 117)]]) Tryz.results64 (hR := ?_); refine ⟨cd1, _, W2, cx1, cb1, _, ws2, i, rfl, hW2, hE2, hd2, hσ2, hl2, hw2, rfl, htk, .inl ⟨rfl, by omega, hα2, hr2⟩⟩)
    · have hmn : ¬ m1 ≤ g2.n := fun e => hin (hfi.1 e)
      obtain rfl : i = c := by omega
      repeat (first | apply G.seq | refine G.plain (h := ?_) | apply G.exit | apply G.ret | apply Dn.next | apply Dn.exitHere | apply Dn.exitThen | refine G.condPF (ht := ?_) | refine G.draw (id := 2) [] (h := ?_) | refine R.enter0 (h := ?_) | refine R.nil (h := ?_) | refine R.move (h := ?_) | refine R.assign (h := ?_) | refine R.nilCheck (h := ?_) | refine R.fieldAddr (h := ?_) | refine R.load1 (h := ?_) | refine R.leq (h := ?_) | refine R.addw (h := ?_) | refine R.mulw (h := ?_) | refine R.len (h := ?_))
      apply Dn.join (c1 := c2) (c2 := [(g2.bb, row [.slice (some ⟨g2.br, 0, none⟩) g2.n g2.n] 120)])
      · (repeat (first | exact Take.here | apply Take.there))
      · (repeat (first | exact Take.here | apply Take.there))
      (refine Dn.post (Hr := [wrow bw bd ba bs, cd1, c2 ++ [(g2.bb, row [.slice (some ⟨g2.br, 0, none⟩) g2.n g2.n] 120)], cs, cx1, cb1, [(by_, row (runCells g2.bb f.width i o) 126)], [(g2.br, row (wcells ws2) 117)]]) Tryz.results64 (hR := ?_); refine ⟨cd1, _, W2, cx1, cb1, _, ws2, i, rfl, hW2, hE2, hd2, hσ2, hl2, hw2, rfl, htk, .inl ⟨rfl, by omega, hα2, hr2⟩⟩)
  · simp only [List.flatten_cons, List.flatten_nil, List.append_nil, List.append_assoc]
    refine List.Perm.append_left _ (List.Perm.append_left _ ?_)
    rw [← List.append_assoc c1]
    exact List.Perm.append_right _ hc1
end Go.Proofs.YtdkihpjnidhnmaaGreat
namespace Go.Proofs.YtdkihpjnidhnmaaGreat
open Go.SL Go.Spc Go.Tup Go.Srt
def fcells (fs : List Fl) : List Value := fs.flatMap fun f => [.int .i64 (f.first : Int), .int .i64 (f.blocks : Int), .int .i64 (f.width : Int), .int .i64 (f.count : Int)]
theorem fcells_app (a b : List Fl) : fcells (a ++ b) = fcells a ++ fcells b := by simp [fcells]
/-- one more file's blocks are taken -/
def addF (f : Fl) (live : List Ext) : List Ext := if f.blocks = 0 then live else f.ext :: live
theorem perm_move {α : Type} {ca c1 g A B X Y : List α} (h : ca.Perm (c1 ++ g)) : (ca ++ (A ++ (B ++ (X ++ Y)))).Perm (c1 ++ (A ++ (B ++ (X ++ (g ++ Y))))) := by
  refine (h.append_right _).trans ?_
  rw [List.append_assoc]
  refine List.Perm.append_left _ ?_
  refine (List.perm_append_comm_assoc _ _ _).trans (List.Perm.append_left _ ?_)
  refine (List.perm_append_comm_assoc _ _ _).trans (List.Perm.append_left _ ?_)
  exact List.perm_append_comm_assoc _ _ _
structure LayRX where
  i : Nat
  cd : Chunk
  c1 : Chunk
  cs : Chunk
  cx : Chunk
  cb : Chunk
  W : Wk
  last : T5
  some : Bool
set_option maxHeartbeats 2000000 in
theorem lay_ct (bz bw bd ba bs : Nat) (W : Wk) (cd ca cs : Chunk) (h : Wc bd ba bs W cd ca cs) (g : Gr) (hg : g ∈ W.α.gs) (by_ k : Nat) (o : T5) (once : Bool) (ts : List T5) (ws : List Int) (hws : ws.length = g.n) (hT : TsOk g k ts.length ts) (hw : ws.take (ts.length * k) = words k ts)
    (p : Option Addr) (cap : Nat) (last : T5) (some : Bool) (fs : List Fl) (vc : Chunk) (hV : Vec 37 4 p fs.length cap (fcells fs) vc) (hr : W.δ.size ≤ W.α.room - W.α.used) (hac : W.δ.acts ≤ 100000000000) (hn : ts.length ≤ 100000000) (hfs : fs.length ≤ 100000000) :
    Ct Tryz.prog 65 [pv bz, pv by_] [sRow bz bw o once p fs.length cap last some, wrow bw bd ba bs, cd, ca, cs, vc, [(by_, row (runCells g.bb k ts.length o) 126)], [(g.br, row (wcells ws) 117)]] fun v H' =>
      ∃ cd' ca' cs' W' vc' ws' p' cap' last' some' fs', H' = [sRow bz bw o once p' fs'.length cap' last' some', wrow bw bd ba bs, cd', ca', cs', vc', [(by_, row (runCells g.bb k ts.length o) 126)], [(g.br, row (wcells ws') 117)]] ∧ Wc bd ba bs W' cd' ca' cs' ∧
        Ev W W' (nblocks W.δ.size k ts.length) (nblocks W.δ.size k ts.length) ∧ Keep W.live W W' ∧ W'.α.gs.Perm W.α.gs ∧ ws'.length = g.n ∧ Vec 37 4 p' fs'.length cap' (fcells fs') vc' ∧
        ((v = .int .i64 0 ∧ ∃ f out, fs' = fs ++ [f] ∧ W'.live = addF f W.live ∧ f.width = k ∧ f.count ≤ ts.length ∧ FileOk W'.δ.disk W.δ.size [f.ext] f out ∧ Sd (ltO o) once out ∧ Go.Srt.Sp (ltO o) once ts out) ∨
         (v = .int .i64 5 ∧ fs' = fs ∧ big W.σ.free < nblocks W.δ.size k ts.length ∧ W'.live.Perm W.live) ∨
         (v = .int .i64 6 ∧ fs' = fs ∧ W.δ.fault ≠ -1 ∧ W'.live.Perm W.live)) := by
  obtain ⟨⟨hs1, hs2⟩, hbk, hfr⟩ := h.dev.num
  have hk1 := hT.k1
  have hk5 := hT.k5
  have hp := holds_pos hs1 hk1 hk5
  obtain ⟨c1, hc1⟩ := h.ar.open_ hg
  have h' : Wc bd ba bs W cd (c1 ++ [g.obj]) cs := ⟨h.dev, h.ar.perm hc1.symm, h.sp, h.nn, h.live⟩
  have hwsd : ws = words k ts ++ ws.drop (ts.length * k) := by rw [← hw, List.take_append_drop]
  obtain ⟨rest, hrest⟩ : ∃ rest, rest = ws.drop (ts.length * k) := ⟨_, rfl⟩
  rw [← hrest] at hwsd
  have hrl : rest.length + ts.length * k = g.n := by
    have := congrArg List.length hwsd
    rw [List.length_append, words_length hk5, hws] at this
    omega
  subst hwsd
  clear hrest hw
  have hS := Stable_ct by_ g k ts.length o rest ts hT
  refine Ct.permH (H2 := [sRow bz bw o once p fs.length cap last some, wrow bw bd ba bs, cd, c1, cs, vc, [(by_, row (runCells g.bb k ts.length o) 126)], [g.obj], [(g.br, row (wcells (words k ts ++ rest)) 117)]]) ?_ ?_
  · unfold RunH at hS
    unfold sRow sCells
    generalize hob : [g.obj] = gobj at *
    refine Ct.intro Tryz.func65 rfl Tryz.ntmps65 (nle rfl) fun w0 => ?_; dsimp only [argSlots, Nat.reduceAdd]
    repeat (first | apply G.seq | refine G.plain (h := ?_) | apply Dn.next | refine R.enter0 (h := ?_) | refine R.nil (h := ?_) | refine R.move (h := ?_) | refine R.assign (h := ?_) | refine R.mkIface (h := ?_))
    refine R.call (hct := hS) (h := ?_)
    rintro _ _ ⟨rfl, ts', rfl, hT', hsp, hsd⟩
    try dsimp only [List.cons_append, List.nil_append]
    clear hS
    have hlen := hT'.len
    obtain ⟨e1, e2⟩ := emits_law (once := once) hsp hsd
    have hel := emits_len o once ts'
    unfold runCells at *
    have hWr := Write_u bw bd ba bs W cd _ cs h' k ts.length hk1 hk5 hn hr
    have hAt := fun i hi => At_ct by_ g k o ts' rest hk1 hk5 hT.gn (by rw [hlen]; exact hT.fit) hT'.ok i hi
    unfold RunH runCells at hAt
    rw [hob, hlen] at hAt
    rw [hlen]
    repeat (first | apply G.seq | refine G.plain (h := ?_) | apply Dn.next | refine G.draw (id := 3) [] (h := ?_) | refine R.enter0 (h := ?_) | refine R.nil (h := ?_) | refine R.move (h := ?_) | refine R.nilCheck (h := ?_) | refine R.fieldAddr (h := ?_) | refine R.load1 (h := ?_) | refine R.store1 (h := ?_))
    apply R1.join (c1 := c1) (c2 := gobj)
    · (repeat (first | exact Take.here | apply Take.there))
    · (repeat (first | exact Take.here | apply Take.there))
    apply R.call
    · exact rfl
    · exact hWr
    · exact (by repeat (first | exact Split.nil | (apply Split.cons; · (repeat (first | exact Take.here | apply Take.there | exact Take.nil)))))
    · exact rfl
    · exact nle rfl
    rintro _ _ (⟨hfit, bx, first, g1, cd', ca', cs', W1, cx, cb, rfl, rfl, hW1, hE1, e3, e4, e5, e6, e7⟩ | ⟨hfull, rfl, cd', ca', cs', W1, rfl, hW1, hE1, e3, e4, e5⟩)
    · obtain ⟨c2, hc2⟩ := hW1.ar.open_ (g := g) (e4.mem_iff.2 (List.mem_cons_of_mem _ hg))
      rw [hob] at hc2
      apply R.open hc2
      · (repeat (first | exact Take.here | apply Take.there))
      repeat (first | apply G.seq | refine G.plain (h := ?_) | apply G.block | apply G.skip | apply Dn.next | refine G.condPF (ht := ?_) | refine R.enter0 (h := ?_) | refine R.nil (h := ?_) | refine R.move (h := ?_) | refine R.assign (h := ?_) | refine R.nilCheck (h := ?_) | refine R.fieldAddr (h := ?_) | refine R.load1 (h := ?_) | refine R.extract (h := ?_) | refine R.neq (h := ?_))
      refine G.loop (X := LayRX) (fun x => x.i ≤ ts.length ∧ Wc bd ba bs x.W x.cd (x.c1 ++ gobj) x.cs ∧ Ev W x.W ((emits o once (ts'.take x.i)).length / holds W.δ.size k) (nblocks W.δ.size k ts.length) ∧ Keep W.live W x.W ∧ x.W.α.gs.Perm (g1 :: W.α.gs) ∧ LvOf first (nblocks W.δ.size k ts.length) W.live x.W.live ∧
          IsWr bw bx x.W first (nblocks W.δ.size k ts.length) k ts.length g1 (emits o once (ts'.take x.i)) x.cx x.cb ∧ Last (emits o once (ts'.take x.i)) x.last x.some)
        (fun x => [(39, .int .i64 (x.i : Int)), (38, .int .i64 (ts.length : Int)), (5, pv bx), (0, pv bz), (1, pv by_)])
        (fun x => [[(bz, row [pv bw, .int .i64 o.c0, .int .i64 o.c1, .int .i64 o.c2, .int .i64 o.c3, .int .i64 o.c4, .bool once, .slice p fs.length cap, .int .i64 x.last.c0, .int .i64 x.last.c1, .int .i64 x.last.c2, .int .i64 x.last.c3, .int .i64 x.last.c4, .bool x.some] 87)], wrow bw bd ba bs, x.cd, x.c1, x.cs, x.cx, x.cb, vc, [(by_, row [pv g.bb, .int .i64 (k : Int), .int .i64 (ts.length : Int), .int .i64 o.c0, .int .i64 o.c1, .int .i64 o.c2, .int .i64 o.c3, .int .i64 o.c4] 126)], gobj, [(g.br, row (wcells (words k ts' ++ rest)) 117)]])
        (fun x => ts.length - x.i) ⟨0, cd', c2, cs', cx, cb, W1, last, false⟩
        ⟨Nat.zero_le _, ⟨hW1.dev, hW1.ar.perm hc2.symm, hW1.sp, hW1.nn, hW1.live⟩, by simpa [emits] using hE1, fun x _ => by rw [e3], e4, e6, by simpa [emits] using e7, by simp [emits, Last]⟩ (body := ?_)
      rintro ⟨i, cd1, c3, cs1, cx1, cb1, W2, last1, some1⟩ ⟨hi, hW2, hE2, hK2, hg2, hl2, hw2, hL2⟩
      dsimp only at hi hW2 hE2 hK2 hg2 hl2 hw2 hL2 ⊢
      have hacts := hE2.acts
      have hsz := hE2.size
      have hel2 := emits_len o once (ts'.take i)
      rw [List.length_take] at hel2
      have hdl : (emits o once (ts'.take i)).length / holds W.δ.size k ≤ ts.length := Nat.le_trans (Nat.div_le_self _ _) (by omega)
      have hnof : W2.δ.fault = 0 → W.δ.fault ≠ -1 := fun e0 e1 => by have := hE2.fault e1; omega
      by_cases hin : i < ts.length
      · have hlt : i < ts'.length := by omega
        have hPt := put_ct bz bw bd ba bs W2 cd1 _ cs1 hW2 bx first _ k ts.length g1 _ cx1 cb1 hw2 W.α.gs hg2 W.live hl2 (by omega) (at_ ts' i) (hT'.ok _ (by unfold at_; rw [List.getD_eq_getElem?_getD, List.getElem?_eq_getElem hlt]; exact List.getElem_mem hlt)) (by omega) o once p fs.length cap last1 some1 hL2
        have hat : emit o once (emits o once (ts'.take i)) (at_ ts' i) = emits o once (ts'.take (i + 1)) := by
          rw [emits_succ hlt]; unfold at_; rw [List.getD_eq_getElem?_getD, List.getElem?_eq_getElem hlt]; rfl
        rw [hat] at hPt
        have hA := hAt i hin
        unfold sRow sCells at hPt
        repeat (first | apply G.seq | refine G.plain (h := ?_) | apply G.block | apply G.skip | apply Dn.next | refine G.condPT (ht := ?_) | refine R.enter0 (h := ?_) | refine R.nil (h := ?_) | refine R.move (h := ?_) | refine R.assign (h := ?_) | refine R.lss (h := ?_) | refine R.callP (hct := by apply hA <;> (first | omega | assumption)) (h := ?_))
        apply R1.join (c1 := c3) (c2 := gobj)
        · (repeat (first | exact Take.here | apply Take.there))
        · (repeat (first | exact Take.here | apply Take.there))
        refine R.call (hct := hPt) (h := ?_)
        rintro _ _ ⟨cd3, ca3, cs3, W3, cx3, cb3, last3, some3, rfl, hW3, hE3, hK3, ⟨rfl, e8, e9, e10, e11, e12⟩ | ⟨rfl, e8, e9, e10, e11, e12⟩⟩
        try dsimp only [List.cons_append, List.nil_append]
        · obtain ⟨c4, hc4⟩ := hW3.ar.open_ (g := g) (by rw [e8]; exact hg2.mem_iff.2 (List.mem_cons_of_mem _ hg))
          rw [hob] at hc4
          apply R.open hc4
          · (repeat (first | exact Take.here | apply Take.there))
          repeat (first | apply G.seq | refine G.plain (h := ?_) | apply G.skip | apply Dn.next | apply Dn.blockEnd | refine G.condPF (ht := ?_) | refine R.enter0 (h := ?_) | refine R.nil (h := ?_) | refine R.move (h := ?_) | refine R.assign (h := ?_) | refine R.neq (h := ?_) | refine R.addw (h := ?_))
          refine Dn.round ⟨i + 1, cd3, c4, cs3, cx3, cb3, W3, last3, some3⟩ ⟨hin, ⟨hW3.dev, hW3.ar.perm hc4.symm, hW3.sp, hW3.nn, hW3.live⟩, ?_, hK2.trans hK3, by rw [e8]; exact hg2, by rw [e10]; exact hl2, e11, e12⟩ (by dsimp only; omega)
          have := hE2.trans hE3
          rw [hsz] at this
          refine this.weak ?_ (Nat.le_refl _)
          have hm : (emits o once (ts'.take i)).length / holds W.δ.size k ≤ (emits o once (ts'.take (i + 1))).length / holds W.δ.size k := Nat.div_le_div_right (by rw [← hat]; exact (emit_len _ _ _ _).1)
          dsimp only
          omega
        · have hDr := Dropped_u bx cx3 e12
          repeat (first | apply G.seq | refine G.plain (h := ?_) | apply Dn.next | refine G.condPT (ht := ?_) | refine R.enter0 (h := ?_) | refine R.nil (h := ?_) | refine R.move (h := ?_) | refine R.assign (h := ?_) | refine R.neq (h := ?_))
          refine R.call (hct := hDr) (h := ?_)
          rintro _ _ ⟨rfl, rfl⟩
          try dsimp only [List.cons_append, List.nil_append]
          repeat (first | apply G.seq | refine G.plain (h := ?_) | apply G.ret | apply Dn.next | apply Dn.retThen | apply Dn.retBlock | refine R.enter0 (h := ?_) | refine R.nil (h := ?_) | refine R.move (h := ?_) | refine R.assign (h := ?_))
          (refine Dn.post (Hr := [[(bz, row [pv bw, .int .i64 o.c0, .int .i64 o.c1, .int .i64 o.c2, .int .i64 o.c3, .int .i64 o.c4, .bool once, .slice p fs.length cap, .int .i64 last3.c0, .int .i64 last3.c1, .int .i64 last3.c2, .int .i64 last3.c3, .int .i64 last3.c4, .bool some3] 87)], wrow bw bd ba bs, cd3, ca3, cs3, vc, [(by_, row [pv g.bb, .int .i64 (k : Int), .int .i64 (ts.length : Int), .int .i64 o.c0, .int .i64 o.c1, .int .i64 o.c2, .int .i64 o.c3, .int .i64 o.c4] 126)], [(g.br, row (wcells (words k ts' ++ rest)) 117)]]) Tryz.results65 (hR := ?_); refine ⟨cd3, ca3, cs3, W3, vc, words k ts' ++ rest, p, cap, last3, some3, fs, rfl, hW3, ?_, hK2.trans hK3, e10, by rw [List.length_append, words_length hk5, hlen]; omega, hV, .inr (.inr ⟨rfl, rfl, hnof e8, e11⟩)⟩)
          have := hE2.trans hE3
          refine { this with acts := ⟨this.acts.1, ?_⟩ }
          rw [e9]
          refine Nat.le_trans hE2.acts.2 (Nat.add_le_add_left ?_ _)
          refine Nat.le_trans (Nat.div_le_div_right (c := holds W.δ.size k) (show _ ≤ ts.length by omega)) ?_
          unfold nblocks; exact Nat.div_le_div_right (by omega)
      · obtain rfl : i = ts.length := by omega
        have htk : ts'.take ts.length = ts' := by rw [← hlen]; exact List.take_length
        rw [htk] at hw2 hE2
        have hCl := Close_u bw bd ba bs W2 cd1 _ cs1 hW2 bx first _ k ts.length g1 _ cx1 cb1 hw2 W.α.gs hg2 W.live hl2 (by omega)
        rw [hsz] at hCl
        have hem : nblocks W.δ.size k (emits o once ts').length ≤ nblocks W.δ.size k ts.length := nblocks_mono (by omega)
        have hed : (emits o once ts').length / holds W.δ.size k ≤ nblocks W.δ.size k (emits o once ts').length := by unfold nblocks; exact Nat.div_le_div_right (by omega)
        repeat (first | apply G.seq | refine G.plain (h := ?_) | apply G.exit | apply Dn.next | apply Dn.exitHere | apply Dn.exitThen | refine G.condPF (ht := ?_) | refine R.enter0 (h := ?_) | refine R.nil (h := ?_) | refine R.move (h := ?_) | refine R.lss (h := ?_))
        apply R1.join (c1 := c3) (c2 := gobj)
        · (repeat (first | exact Take.here | apply Take.there))
        · (repeat (first | exact Take.here | apply Take.there))
        refine R.call (hct := hCl) (h := ?_)
        rintro _ _ ⟨cd3, ca3, cs3, W3, cx3, cb3, rfl, hW3, hE3, hK3, hg3, hx3, ⟨f, rfl, e8, e9, e10, e11⟩ | ⟨rfl, e8, e9, e10⟩⟩
        try dsimp only [List.cons_append, List.nil_append]
        · have hfl : flv f = .agg #[.int .i64 (f.first : Int), .int .i64 (f.blocks : Int), .int .i64 (f.width : Int), .int .i64 (f.count : Int)] := rfl
          rw [hfl]
          repeat (first | apply G.seq | refine G.plain (h := ?_) | apply G.ret | apply Dn.next | refine G.condPT (ht := ?_) | refine G.draw (id := 16) [] (h := ?_) | refine R.enter0 (h := ?_) | refine R.nil (h := ?_) | refine R.move (h := ?_) | refine R.assign (h := ?_) | refine R.nilCheck (h := ?_) | refine R.fieldAddr (h := ?_) | refine R.load1 (h := ?_) | refine R.loadN (h := ?_) | refine R.store1 (h := ?_) | refine R.storeN (h := ?_) | (refine R.alloc (h := ?_); intro _) | refine R.extract (h := ?_) | refine R.eql (h := ?_) | (refine R.buildSlice (h := ?_); intro _) | (refine R.append (h := ?_); intro _ _ _ _))
          rename_i p' cap' c' hV'
          have hV3 : Vec 37 4 p' (fs.length + 1) cap' (fcells (fs ++ [f])) c' := by rw [fcells_app]; exact hV'
          have hfl1 : (fs ++ [f]).length = fs.length + 1 := by simp
          rw [← hfl1] at hV3
          (refine Dn.post (Hr := [[(bz, row [pv bw, .int .i64 o.c0, .int .i64 o.c1, .int .i64 o.c2, .int .i64 o.c3, .int .i64 o.c4, .bool once, .slice p' (fs.length + 1) cap', .int .i64 last1.c0, .int .i64 last1.c1, .int .i64 last1.c2, .int .i64 last1.c3, .int .i64 last1.c4, .bool some1] 87)], wrow bw bd ba bs, cd3, ca3, cs3, c', [(by_, row [pv g.bb, .int .i64 (k : Int), .int .i64 (ts.length : Int), .int .i64 o.c0, .int .i64 o.c1, .int .i64 o.c2, .int .i64 o.c3, .int .i64 o.c4] 126)], [(g.br, row (wcells (words k ts' ++ rest)) 117)]]) Tryz.results65 (hR := ?_); refine ⟨cd3, ca3, cs3, W3, c', words k ts' ++ rest, p', cap', last1, some1, fs ++ [f], by rw [hfl1], hW3, ?_, hK2.trans hK3, hg3, by rw [List.length_append, words_length hk5, hlen]; omega, hV3, .inl ⟨rfl, f, _, rfl, e8, e9, by omega, e11, e1, e2⟩⟩)
          exact (hE2.trans hE3).weak (by omega) (Nat.le_refl _)
        · repeat (first | apply G.seq | refine G.plain (h := ?_) | apply G.skip | apply G.ret | apply Dn.next | refine G.condPF (ht := ?_) | refine R.enter0 (h := ?_) | refine R.nil (h := ?_) | refine R.move (h := ?_) | refine R.assign (h := ?_) | refine R.storeN (h := ?_) | (refine R.alloc (h := ?_); intro _) | refine R.extract (h := ?_) | refine R.eql (h := ?_))
          (refine Dn.post (Hr := [[(bz, row [pv bw, .int .i64 o.c0, .int .i64 o.c1, .int .i64 o.c2, .int .i64 o.c3, .int .i64 o.c4, .bool once, .slice p fs.length cap, .int .i64 last1.c0, .int .i64 last1.c1, .int .i64 last1.c2, .int .i64 last1.c3, .int .i64 last1.c4, .bool some1] 87)], wrow bw bd ba bs, cd3, ca3, cs3, vc, [(by_, row [pv g.bb, .int .i64 (k : Int), .int .i64 (ts.length : Int), .int .i64 o.c0, .int .i64 o.c1, .int .i64 o.c2, .int .i64 o.c3, .int .i64 o.c4] 126)], [(g.br, row (wcells (words k ts' ++ rest)) 117)]]) Tryz.results65 (hR := ?_); refine ⟨cd3, ca3, cs3, W3, vc, words k ts' ++ rest, p, cap, last1, some1, fs, rfl, hW3, ?_, hK2.trans hK3, hg3, by rw [List.length_append, words_length hk5, hlen]; omega, hV, .inr (.inr ⟨rfl, rfl, hnof e8, e10⟩)⟩)
          exact (hE2.trans hE3).weak (by omega) (Nat.le_refl _)
    · rw [← hob] at *
      repeat (first | apply G.seq | refine G.plain (h := ?_) | apply G.ret | apply Dn.next | apply Dn.retThen | refine G.condPT (ht := ?_) | refine R.enter0 (h := ?_) | refine R.nil (h := ?_) | refine R.move (h := ?_) | refine R.assign (h := ?_) | refine R.extract (h := ?_) | refine R.neq (h := ?_))
      (refine Dn.post (Hr := [[(bz, row [pv bw, .int .i64 o.c0, .int .i64 o.c1, .int .i64 o.c2, .int .i64 o.c3, .int .i64 o.c4, .bool once, .slice p fs.length cap, .int .i64 last.c0, .int .i64 last.c1, .int .i64 last.c2, .int .i64 last.c3, .int .i64 last.c4, .bool false] 87)], wrow bw bd ba bs, cd', ca', cs', vc, [(by_, row [pv g.bb, .int .i64 (k : Int), .int .i64 (ts.length : Int), .int .i64 o.c0, .int .i64 o.c1, .int .i64 o.c2, .int .i64 o.c3, .int .i64 o.c4] 126)], [(g.br, row (wcells (words k ts' ++ rest)) 117)]]) Tryz.results65 (hR := ?_); refine ⟨cd', ca', cs', W1, vc, words k ts' ++ rest, p, cap, last, false, fs, rfl, hW1, hE1.weak (Nat.zero_le _) (Nat.zero_le _), fun x _ => by rw [e3], e5, by rw [List.length_append, words_length hk5, hlen]; omega, hV, .inr (.inl ⟨rfl, rfl, hfull, by rw [e4]⟩)⟩)
  · simp only [List.flatten_cons, List.flatten_nil, List.append_nil, List.append_assoc]
    exact List.Perm.append_left _ (List.Perm.append_left _ (List.Perm.append_left _ (perm_move hc1)))
end Go.Proofs.YtdkihpjnidhnmaaGreat
namespace Go.Proofs.YtdkihpjnidhnmaaGreat
open Go.SL Go.Spc Go.Tup Go.Srt
/-- files' blocks are taken -/
def addFs (fs : List Fl) (live : List Ext) : List Ext := fs.foldl (fun l f => addF f l) live
theorem addFs_app (fs : List Fl) (f : Fl) (live : List Ext) : addFs (fs ++ [f]) live = addF f (addFs fs live) := by simp [addFs]
theorem addF_perm {f : Fl} {a b : List Ext} (h : a.Perm b) : (addF f a).Perm (addF f b) := by
  unfold addF; split
  · exact h
  · exact h.cons _
theorem addF_mem {f : Fl} {a : List Ext} {e : Ext} (h : e ∈ a) : e ∈ addF f a := by
  unfold addF; split
  · exact h
  · exact List.mem_cons_of_mem _ h
theorem addFs_mem {fs : List Fl} {a : List Ext} {e : Ext} (h : e ∈ a) : e ∈ addFs fs a := by
  unfold addFs
  induction fs generalizing a with
  | nil => exact h
  | cons f fs ih => exact ih (addF_mem h)
theorem addFs_ext {fs : List Fl} {a : List Ext} {f : Fl} (h : f ∈ fs) (hb : f.blocks ≠ 0) : f.ext ∈ addFs fs a := by
  induction fs generalizing a with
  | nil => simp at h
  | cons x fs ih =>
    rcases List.mem_cons.1 h with rfl | h
    · have h1 : f.ext ∈ addF f a := by unfold addF; rw [if_neg hb]; exact List.mem_cons_self
      exact addFs_mem (fs := fs) h1
    · exact ih h
/-- runs that stand: each in order, all of them the same as l -/
structure RunsOk (d : Nat → Option (List Int)) (size k : Nat) (o : T5) (once : Bool) (l : List T5) (rs : List (Fl × List T5)) : Prop where
  each : ∀ r ∈ rs, r.1.width = k ∧ FileOk d size [r.1.ext] r.1 r.2 ∧ Sd (ltO o) once r.2
  sp : Go.Srt.Sp (ltO o) once l (rs.flatMap (·.2))
  pos : l ≠ [] → ∀ r ∈ rs, 0 < r.1.count
theorem sp_nil {o : T5} {once : Bool} {a b : List T5} (h : Go.Srt.Sp (ltO o) once a b) (hb : b = []) : a = [] := by
  subst hb
  cases a with
  | nil => rfl
  | cons x a =>
    have h1 := h x
    have h2 : eqv (ltO o) x x = true := eqv_iff.2 ⟨(ltO_swo o).irr _, (ltO_swo o).irr _⟩
    rw [List.filter_cons_of_pos h2] at h1
    cases once <;> simp [keepC] at h1
theorem RunsOk.keep {d d' : Nat → Option (List Int)} {size k : Nat} {o : T5} {once : Bool} {l : List T5} {rs : List (Fl × List T5)} (h : RunsOk d size k o once l rs) {live0 : List Ext} (hk : ∀ x, inF (addFs (rs.map (·.1)) live0) x → d' x = d x) : RunsOk d' size k o once l rs :=
  ⟨fun r hr => ⟨(h.each r hr).1, (h.each r hr).2.1.keep fun x hx => hk x (by
      obtain ⟨e, he, h1, h2⟩ := hx
      simp only [List.mem_singleton] at he
      subst he
      refine ⟨r.1.ext, addFs_ext (List.mem_map.2 ⟨r, hr, rfl⟩) ?_, h1, h2⟩
      simp only [Fl.ext] at h1 h2; omega), (h.each r hr).2.2⟩, h.sp, h.pos⟩
theorem RunsOk.more {d : Nat → Option (List Int)} {size k : Nat} {o : T5} {once : Bool} {l src out : List T5} {rs : List (Fl × List T5)} {f : Fl} (h : RunsOk d size k o once l rs) (h1 : f.width = k) (h2 : FileOk d size [f.ext] f out) (h3 : Sd (ltO o) once out) (h4 : Go.Srt.Sp (ltO o) once src out) (h5 : rs = [] ∨ (l ≠ [] ∧ src ≠ [])) :
    RunsOk d size k o once (l ++ src) (rs ++ [(f, out)]) :=
  ⟨fun r hr => by
    rcases List.mem_append.1 hr with hr | hr
    · exact h.each r hr
    · simp only [List.mem_singleton] at hr
      subst hr; exact ⟨h1, h2, h3⟩, by
    rw [List.flatMap_append]
    refine Go.Srt.Sp.app h.sp ?_
    simpa using h4, fun hne r hr => by
    have hol := h2.len
    have hout : src ≠ [] → 0 < f.count := fun hs => by
      rw [← hol]
      cases out with
      | nil => exact absurd (sp_nil h4 rfl) hs
      | cons a b => simp
    rcases h5 with rfl | ⟨h6, h7⟩
    · have hl : l = [] := sp_nil h.sp rfl
      subst hl
      simp only [List.nil_append, List.mem_singleton] at hne hr
      subst hr; exact hout hne
    · rcases List.mem_append.1 hr with hr | hr
      · exact h.pos h6 r hr
      · simp only [List.mem_singleton] at hr
        subst hr; exact hout h7⟩
theorem nblocks_le {s k n : Nat} (hp : 1 ≤ holds s k) : nblocks s k n ≤ n := by
  unfold nblocks
  rw [Nat.div_le_iff_le_mul_add_pred (by omega)]
  have := Nat.le_mul_of_pos_left n (show 0 < holds s k by omega)
  omega
theorem Ev.arena {W W' : Wk} {α α8 : Ar} {k m : Nat} (h : Ev W W' k m) (h8 : α8.room = W'.α.room) (h9 : Ev { W' with α := α8 } { W' with α := α } 0 0) : Ev W { W' with α := α } k m := { h with room := h9.room.trans (h8.trans h.room) }
theorem S_le {S pos q h : Nat} (hh : 1 ≤ h) (hS : S * h ≤ pos + q * (h - 1)) : S ≤ pos + q := by
  apply Classical.byContradiction
  intro hn
  have h1 : (pos + q + 1) * h ≤ S * h := Nat.mul_le_mul_right _ (by omega)
  have h2 : (pos + q + 1) * h = pos * h + q * h + h := by rw [Nat.add_mul, Nat.add_mul, Nat.one_mul]
  have h3 : pos ≤ pos * h := Nat.le_mul_of_pos_right _ (by omega)
  have h4 : q * (h - 1) ≤ q * h := Nat.mul_le_mul_left _ (by omega)
  omega
theorem S_more {S pos q h m n : Nat} (hh : 1 ≤ h) (hS : S * h ≤ pos + q * (h - 1)) (hn : n = (m + h - 1) / h) : (S + n) * h ≤ pos + m + (q + 1) * (h - 1) := by
  have h1 : n * h ≤ m + h - 1 := by rw [hn]; exact Nat.div_mul_le_self _ _
  rw [Nat.add_mul, Nat.succ_mul]
  omega
structure FormX where
  q : Nat
  pos : Nat
  S : Nat
  n0 : Nat
  rs : List (Fl × List T5)
  cd : Chunk
  ca : Chunk
  cs : Chunk
  cx : Chunk
  cb : Chunk
  vc : Chunk
  ws : List Int
  W : Wk
  p : Option Addr
  cap : Nat
  last : T5
  some : Bool
set_option maxHeartbeats 2000000 in
theorem form_ct (bz bw bd ba bs : Nat) (W : Wk) (cd ca cs : Chunk) (h : Wc bd ba bs W cd ca cs) (f : Fl) (fts : List T5) (Lv : List Ext) (hfo : FileOk W.δ.disk W.δ.size Lv f fts) (hsub : ∀ e ∈ Lv, e ∈ W.live) (o : T5) (once : Bool) (last : T5) (some : Bool)
    (hr : 5 * W.δ.size ≤ W.α.room - W.α.used) (hac : W.δ.acts ≤ 10000000000) (hcn : f.count ≤ 1000000) (L0 c : Nat) (hL0 : L0 = W.α.room - W.α.used) (hc : c = (L0 - 2 * W.δ.size) / f.width) :
    Ct Tryz.prog 42 [pv bz, flv f] [sRow bz bw o once none 0 0 last some, wrow bw bd ba bs, cd, ca, cs] fun v H' =>
      ∃ cd' ca' cs' W' vc' p' cap' last' some' rs q S l, H' = [sRow bz bw o once p' rs.length cap' last' some', wrow bw bd ba bs, cd', ca', cs', vc'] ∧ Wc bd ba bs W' cd' ca' cs' ∧
        Ev W W' (nblocks W.δ.size f.width f.count + S) S ∧ Keep W.live W W' ∧ W'.α.gs.Perm W.α.gs ∧ Vec 37 4 p' rs.length cap' (fcells (rs.map (·.1))) vc' ∧ W'.live.Perm (addFs (rs.map (·.1)) W.live) ∧
        RunsOk W'.δ.disk W.δ.size f.width o once l rs ∧ S * holds W.δ.size f.width ≤ f.count + q * (holds W.δ.size f.width - 1) ∧ (q - 1) * c ≤ f.count ∧ (0 < f.count → (q - 1) * c < f.count) ∧ q ≤ f.count + 1 ∧
        ((v = .int .i64 0 ∧ l = fts ∧ rs ≠ [] ∧ rs.length = q ∧ ((rs.map (·.1.count)).sum ≤ f.count) ∧ ((rs.map (·.1.blocks)).sum ≤ S)) ∨ (v = .int .i64 5 ∧ big W.σ.free < S) ∨ (v = .int .i64 6 ∧ W.δ.fault ≠ -1)) := by
  obtain ⟨⟨hs1, hs2⟩, hbk, hfr⟩ := h.dev.num
  obtain ⟨hu1, hu2, _, hu4⟩ := h.ar.num
  have hk1 := hfo.w1
  have hk5 := hfo.w2
  have hp := holds_pos hs1 hk1 hk5
  have htl := hfo.len
  have hRd := Read_u bw bd ba bs W cd ca cs h f fts Lv hfo (by omega)
  have hD := WDevice_ct bw bd ba bs
  have hA := WArena_ct bw bd ba bs
  have hfl : flv f = .agg #[.int .i64 (f.first : Int), .int .i64 (f.blocks : Int), .int .i64 (f.width : Int), .int .i64 (f.count : Int)] := rfl
  rw [hfl] at hRd ⊢
  unfold sRow sCells
  refine Ct.introD Tryz.func42 rfl Tryz.ntmps42 (nle rfl) fun w0 => ?_; dsimp only [argSlots, Nat.reduceAdd]
  repeat (first | apply G.seq | refine G.plain (h := ?_) | apply Dn.next | refine G.draw (id := 1) [] (h := ?_) | refine R.enter0 (h := ?_) | refine R.nil (h := ?_) | refine R.move (h := ?_) | refine R.assign (h := ?_) | refine R.nilCheck (h := ?_) | refine R.fieldAddr (h := ?_) | refine R.load1 (h := ?_) | refine R.loadN (h := ?_) | (refine R.box (h := ?_); intro _))
  refine R.call (hct := hRd) (h := ?_)
  rintro _ _ ⟨bx, g, ca1, α1, cx, cb, rfl, rfl, hW1, hE1, hg1, hgn, hr1⟩
  try dsimp only [List.cons_append, List.nil_append]
  have hu5 : α1.used = W.α.used + W.δ.size := by
    have e1 := hW1.ar.num.2.2.2
    dsimp only at e1
    rw [e1, (hg1.map (·.n)).sum_nat, hu4, List.map_cons, List.sum_cons, hgn]; omega
  have hroom1 : α1.room = W.α.room := hE1.room
  have hL := aLeft ba α1 ca1 hW1.ar
  rw [show (α1.room : Int) - (α1.used : Int) = ((L0 - W.δ.size : Nat) : Int) by omega] at hL
  have hSz := Size_ct bd W.δ cd hW1.dev
  have eb : IntKind.wrap .i64 (((L0 - W.δ.size : Nat) : Int) - (W.δ.size : Int)) = ((L0 - 2 * W.δ.size : Nat) : Int) := by rw [wrap_i64 (by omega)]; omega
  have hGr := aGrant ba α1 ca1 hW1.ar (L0 - 2 * W.δ.size) (by omega)
  have hMn : (L0 - 2 * W.δ.size) ≤ 1000000000 := by omega
  generalize hM : L0 - 2 * W.δ.size = M at *
  repeat (first | apply G.seq | refine G.plain (h := ?_) | apply G.skip | apply Dn.next | refine G.condPF (ht := ?_) | refine G.draw (id := 5) [(4, .quiet), (9, .quiet), (10, .quiet), (15, .quiet), (16, .quiet)] (h := ?_) | refine R.enter0 (h := ?_) | refine R.nil (h := ?_) | refine R.move (h := ?_) | refine R.assign (h := ?_) | refine R.nilCheck (h := ?_) | refine R.fieldAddr (h := ?_) | refine R.load1 (h := ?_) | refine R.extract (h := ?_) | refine R.neq (h := ?_) | refine R.subw (h := ?_) | refine R.defer (h := ?_) | refine R.callQ (hct := by apply hD <;> (first | omega | assumption)) (h := ?_) | refine R.callQ (hct := by apply hA <;> (first | omega | assumption)) (h := ?_) | refine R.callQ (hct := by apply hL <;> (first | omega | assumption)) (h := ?_) | refine R.callQ (hct := by apply hSz <;> (first | omega | assumption)) (h := ?_))
  refine R.call (hct := hGr) (h := ?_)
  rintro _ _ ⟨g2, ca2, α2, hg2n, rfl, hA2, hg2, hroom2, rfl⟩
  try dsimp only [List.cons_append, List.nil_append]
  repeat (first | apply G.seq | refine G.plain (h := ?_) | apply G.block | apply G.skip | apply Dn.next | refine G.condPF (ht := ?_) | refine G.draw (id := 9) [] (h := ?_) | refine R.enter0 (h := ?_) | refine R.nil (h := ?_) | refine R.move (h := ?_) | refine R.assign (h := ?_) | refine R.nilCheck (h := ?_) | refine R.fieldAddr (h := ?_) | refine R.load1 (h := ?_) | refine R.loadN (h := ?_) | (refine R.box (h := ?_); intro _) | refine R.extract (h := ?_) | refine R.neq (h := ?_) | refine R.build (h := ?_) | refine R.defer (h := ?_) | refine R.callP (hct := by apply hA <;> (first | omega | assumption)) (h := ?_))
  rename_i b3 b8
  have hm0 : c * f.width ≤ M := by rw [hc]; exact Nat.div_mul_le_self _ _
  have hMs : 3 * W.δ.size ≤ M := by omega
  have hc1 : 1 ≤ c := by rw [hc, Nat.le_div_iff_mul_le (by omega)]; omega
  have hgsum : ∀ α : Ar, ∀ c', IsAr ba α c' → α.gs.Perm (g :: g2 :: W.α.gs) → α.room = W.α.room → W.δ.size ≤ α.room - α.used := by
    intro α c' hA hpm hrm
    have e1 := hA.num.2.2.2
    rw [e1, (hpm.map (·.n)).sum_nat, List.map_cons, List.map_cons, List.sum_cons, List.sum_cons, hgn, hg2n, ← hu4, hrm]; omega
  refine G.loop (X := FormX) (fun x => x.q = x.rs.length ∧ x.pos = min (x.q * c) f.count ∧ (x.q = 0 ∨ (x.q - 1) * c < f.count) ∧ x.S * holds W.δ.size f.width ≤ x.pos + x.q * (holds W.δ.size f.width - 1) ∧ (x.rs.map (·.1.count)).sum ≤ x.pos ∧ (x.rs.map (·.1.blocks)).sum ≤ x.S ∧
      Wc bd ba bs x.W x.cd x.ca x.cs ∧ Ev W x.W (nblocks W.δ.size f.width x.pos + x.S) x.S ∧ Keep W.live W x.W ∧ x.W.α.gs.Perm (g :: g2 :: W.α.gs) ∧ x.W.live.Perm (addFs (x.rs.map (·.1)) W.live) ∧ RunsOk x.W.δ.disk W.δ.size f.width o once (fts.take x.pos) x.rs ∧
      IsRd bw bx x.W f fts g x.pos x.cx x.cb ∧ Vec 37 4 x.p x.rs.length x.cap (fcells (x.rs.map (·.1))) x.vc ∧ x.ws.length = g2.n)
    (fun x => [(8, pv b8), (5, pv bx), (0, pv bz)])
    (fun x => [[(b8, row [pv g2.bb, .int .i64 (f.width : Int), .int .i64 (x.n0 : Int), .int .i64 o.c0, .int .i64 o.c1, .int .i64 o.c2, .int .i64 o.c3, .int .i64 o.c4] 126)], x.ca, [(g2.br, row (wcells x.ws) 117)], wrow bw bd ba bs, x.cd, x.cs, x.cx, x.cb, x.vc, [(bz, row [pv bw, .int .i64 o.c0, .int .i64 o.c1, .int .i64 o.c2, .int .i64 o.c3, .int .i64 o.c4, .bool once, .slice x.p x.rs.length x.cap, .int .i64 x.last.c0, .int .i64 x.last.c1, .int .i64 x.last.c2, .int .i64 x.last.c3, .int .i64 x.last.c4, .bool x.some] 87)]])
    (fun x => f.count - x.pos) ⟨0, 0, 0, 0, [], cd, ca2, cs, cx, cb, [], List.replicate M 0, { W with α := α2 }, none, 0, last, some⟩
    ⟨rfl, by simp, .inl rfl, by simp, by simp, by simp, ⟨h.dev, hA2, h.sp, h.nn, h.live⟩, by rw [nblocks_zero hp]; exact ⟨rfl, rfl, ⟨Nat.le_refl _, Nat.le_refl _⟩, id, by dsimp only; rw [hroom2, hroom1], Nat.le_refl _⟩, fun _ _ => rfl, ?_, List.Perm.refl _, ⟨by simp, by simpa using Go.Srt.Sp.refl _ _, by simp⟩, hr1.move rfl, Vec.nil _ _, by rw [List.length_replicate, hg2n]⟩ (by repeat (first | exact trivial | refine ⟨rfl, ?_⟩)) (by repeat (first | exact Split.nil | (apply Split.cons; · (first | exact Take.nil | (repeat (first | exact Take.here | apply Take.there)))))) ?_
  · exact hg2.trans ((hg1.cons _).trans (List.Perm.swap _ _ _))
  rintro ⟨q, pos, S, n0, rs, cd1, ca1', cs1, cx1, cb1, vc1, ws1, W1, p1, cap1, last1, some1⟩ ⟨hq, hpos, hql, hS, hcs, hbs, hW1', hE, hK, hgs, hlv, hR, hrd, hV, hwl⟩
  dsimp only at hq hpos hql hS hcs hbs hW1' hE hK hgs hlv hR hrd hV hwl ⊢
  have hsz := hE.size
  have hacts := hE.acts
  have hSle := S_le hp hS
  have hqc : q ≤ f.count := by
    rcases hql with h0 | h0
    · omega
    · have := Nat.le_mul_of_pos_right (q - 1) (show 0 < c by omega)
      omega
  have hnp : nblocks W.δ.size f.width pos ≤ pos := by
    unfold nblocks
    rw [Nat.div_le_iff_le_mul_add_pred (by omega)]
    have := Nat.le_mul_of_pos_left pos (show 0 < holds W.δ.size f.width by omega)
    omega
  have hq3 : (q - 1) * c ≤ f.count ∧ (0 < f.count → (q - 1) * c < f.count) := by
    rcases hql with h0 | h0
    · rw [h0]; simp
    · exact ⟨Nat.le_of_lt h0, fun _ => h0⟩
  have htkA : pos = f.count → fts.take pos = fts := fun e => List.take_of_length_le (by omega)
  have hlm : (rs.map (·.1)).length = rs.length := List.length_map _
  have hFi := fill_ct bw bd ba bs W1 cd1 ca1' cs1 hW1' bx f fts W.live (by rw [hsz]; exact (hfo.sub hsub).keep hK) (fun e he => hlv.mem_iff.2 (addFs_mem he)) g g2 (g2 :: W.α.gs) hgs List.mem_cons_self pos (by omega) cx1 cb1 hrd (by omega) b8 n0 o ws1 hwl (by omega)
  rw [hg2n, ← hc, hsz] at hFi
  unfold runCells at hFi
  repeat (first | apply G.seq | refine G.plain (h := ?_) | apply G.block | refine R.enter0 (h := ?_) | refine R.move (h := ?_))
  refine R.call (hct := hFi) (h := ?_)
  rintro _ _ ⟨cd3, ca3, W3, cx3, cb3, ts3, ws3, m, rfl, hW3, hE3, hd3, hσ3, hl3, hw3, hts3, htk3, ⟨rfl, e6, e7, e8⟩ | ⟨rfl, e6, e7, e8, e9⟩⟩
  try dsimp only [List.cons_append, List.nil_append]
  · have htkB : pos + m = f.count → fts.take (pos + m) = fts := fun e => List.take_of_length_le (by omega)
    have hmle : m ≤ f.count - pos := by omega
    have htsl : ts3.length = m := by rw [hts3, List.length_take, List.length_drop, htl]; omega
    have hE4 := hE.trans hE3
    have hnm : nblocks W.δ.size f.width pos ≤ nblocks W.δ.size f.width (pos + m) := nblocks_mono (by omega)
    have hnc : nblocks W.δ.size f.width (pos + m) ≤ nblocks W.δ.size f.width f.count := nblocks_mono (by omega)
    have hK4 : Keep W.live W W3 := fun x hx => by rw [hd3]; exact hK x hx
    have hgs3 : W3.α.gs.Perm (g :: g2 :: W.α.gs) := by rw [e7]; exact hgs
    have hlv3 : W3.live.Perm (addFs (rs.map (·.1)) W.live) := by rw [hl3]; exact hlv
    have hR3 : RunsOk W3.δ.disk W.δ.size f.width o once (fts.take pos) rs := by rw [hd3]; exact hR
    have hsz3 : W3.δ.size = W.δ.size := hE4.size
    have hacts3 := hE4.acts
    have hnp2 : nblocks W.δ.size f.width (pos + m) ≤ pos + m := nblocks_le hp
    by_cases hm0q : m = 0 ∧ 0 < q
    · obtain ⟨hm00, hq0⟩ := hm0q
      have hpc : pos = f.count := by omega
      have hrl : 0 < rs.length := by omega
      repeat (first | apply G.seq | refine G.plain (h := ?_) | apply G.skip | apply G.ret | apply Dn.next | apply Dn.retThen | apply Dn.retBlock | apply Dn.postD | refine G.condPT (ht := ?_) | refine G.condPF (ht := ?_) | refine R.enter0 (h := ?_) | refine R.nil (h := ?_) | refine R.enterT (h := ?_) | refine R.splitT (ht := ?_) | refine R.move (h := ?_) | refine R.assign (h := ?_) | refine R.nilCheck (h := ?_) | refine R.fieldAddr (h := ?_) | refine R.load1 (h := ?_) | refine R.extract (h := ?_) | refine R.pickT (h := ?_) | refine R.gtr (h := ?_) | refine R.eql (h := ?_) | refine R.neq (h := ?_) | refine R.len (h := ?_))
      have hRl := aRelease_cb ba W3.α ca3 hW3.ar g2 (g :: W.α.gs) (hgs3.trans (List.Perm.swap _ _ _))
      refine Go.SL.Lv.call (hc := hRl.2) (h := ?_)
      rintro _ _ ⟨ca8, α8, rfl, hA8, hg8, hroom8, rfl⟩
      try dsimp only [List.cons_append, List.nil_append]
      have hW8 : Wc bd ba bs { W3 with α := α8 } cd3 ca8 cs1 := ⟨hW3.dev, hA8, hW3.sp, hW3.nn, hW3.live⟩
      have hRc := RClose_uB bw bd ba bs { W3 with α := α8 } cd3 ca8 cs1 hW8 bx f fts g W.α.gs hg8 (pos + m) cx3 cb3 (e8.move rfl)
      refine Go.SL.Lv.call (hc := hRc.2) (h := ?_)
      rintro _ _ ⟨ca9, α9, cx9, rfl, rfl, hW9, hE9, hg9, hx9⟩
      try dsimp only [List.cons_append, List.nil_append]
      (refine Go.SL.Lv.nil (Hr := [[(bz, row [pv bw, .int .i64 o.c0, .int .i64 o.c1, .int .i64 o.c2, .int .i64 o.c3, .int .i64 o.c4, .bool once, .slice p1 rs.length cap1, .int .i64 last1.c0, .int .i64 last1.c1, .int .i64 last1.c2, .int .i64 last1.c3, .int .i64 last1.c4, .bool some1] 87)], wrow bw bd ba bs, cd3, ca9, cs1, vc1]) Tryz.results42 (hR := ?_); exact ⟨cd3, ca9, cs1, _, vc1, p1, cap1, last1, some1, rs, q, S, fts, rfl, hW9, (hE4.weak (by omega) (Nat.le_refl _)).arena hroom8 hE9, hK4, hg9, hV, hlv3, by rw [← htkA (by omega)]; exact hR3, by omega, hq3.1, hq3.2, by omega, .inl ⟨rfl, rfl, fun e => by rw [e] at hrl; simp at hrl, hq.symm, by omega, hbs⟩⟩)
    · have hlay := lay_ct bz bw bd ba bs W3 cd3 ca3 cs1 hW3 g2 (hgs3.mem_iff.2 (by simp)) b8 f.width o once ts3 ws3 (by rw [hg2n]; exact hw3) ⟨hk1, hk5, by omega, by rw [htsl, hg2n]; exact Nat.le_trans (Nat.mul_le_mul_right _ (by omega)) hm0, rfl, fun t ht => hfo.fit t (List.mem_of_mem_drop (List.mem_of_mem_take (hts3 ▸ ht)))⟩ (by rw [htsl]; exact htk3)
        p1 cap1 last1 some1 (rs.map (·.1)) vc1 (by rw [List.length_map]; exact hV) (by rw [hsz3]; exact hgsum W3.α ca3 hW3.ar hgs3 hE4.room) (by omega) (by omega) (by rw [List.length_map]; omega)
      rw [htsl, List.length_map, hsz3] at hlay
      unfold sRow sCells runCells at hlay
      by_cases hm1 : m = 0
      · have hq0 : q = 0 := by omega
        have hrl0 : rs.length = 0 := by omega
        repeat (first | apply G.seq | refine G.plain (h := ?_) | apply G.skip | apply Dn.next | refine G.condPF (ht := ?_) | refine R.enter0 (h := ?_) | refine R.nil (h := ?_) | refine R.enterT (h := ?_) | refine R.splitT (ht := ?_) | refine R.move (h := ?_) | refine R.assign (h := ?_) | refine R.nilCheck (h := ?_) | refine R.fieldAddr (h := ?_) | refine R.load1 (h := ?_) | refine R.extract (h := ?_) | refine R.pickT (h := ?_) | refine R.gtr (h := ?_) | refine R.eql (h := ?_) | refine R.neq (h := ?_) | refine R.len (h := ?_))
        refine R.call (hct := hlay) (h := ?_)
        rintro _ _ ⟨cd5, ca5, cs5, W5, vc5, ws5, p5, cap5, last5, some5, fs5, rfl, hW5, hE5, hK5, hg5, hw5, hV5, ⟨rfl, f5, out, rfl, hl5, hf5, hfc5, hfo5, hsd5, hsp5⟩ | ⟨rfl, rfl, hbig5, hl5⟩ | ⟨rfl, rfl, hf5, hl5⟩⟩
        try dsimp only [List.cons_append, List.nil_append]
        · have hrm5 : W5.α.room = W3.α.room := hE5.room
          have hsz5 : W5.δ.size = W3.δ.size := hE5.size
          have hgs5 : W5.α.gs.Perm (g :: g2 :: W.α.gs) := hg5.trans hgs3
          have hE6 := hE4.trans hE5
          have hS6 := S_more (S := S) (pos := pos) (q := q) (m := m) hp hS rfl
          have hE7 : Ev W W5 (nblocks W.δ.size f.width (pos + m) + (S + nblocks W.δ.size f.width m)) (S + nblocks W.δ.size f.width m) := hE6.weak (by omega) (by omega)
          have hK7 : Keep W.live W W5 := hK4.trans (hK5.sub fun e he => hlv3.mem_iff.2 (addFs_mem he))
          have hR7 : RunsOk W5.δ.disk W.δ.size f.width o once (fts.take pos) rs := hR3.keep (live0 := W.live) fun x hx => hK5 x ((inF_perm hlv3 x).2 hx)
          have hql7 : (q + 1 - 1) * c ≤ f.count ∧ (0 < f.count → (q + 1 - 1) * c < f.count) := by
            rw [Nat.add_sub_cancel]
            by_cases hm1 : m = 0
            · have : q = 0 := by omega
              subst this; simp
            · have : q * c < f.count := by omega
              exact ⟨Nat.le_of_lt this, fun _ => this⟩
          have hbl5 : f5.blocks ≤ nblocks W.δ.size f.width m := by rw [hfo5.blk, hf5]; exact nblocks_mono (by omega)
          have hts : fts.take pos ++ ts3 = fts.take (pos + m) := by rw [hts3, List.take_add]
          have hR8 : RunsOk W5.δ.disk W.δ.size f.width o once (fts.take (pos + m)) (rs ++ [(f5, out)]) := by rw [← hts]; exact hR7.more hf5 hfo5 hsd5 hsp5 (.inl (List.length_eq_zero_iff.1 hrl0))
          have hl8 : W5.live.Perm (addFs ((rs ++ [(f5, out)]).map (·.1)) W.live) := by
            rw [hl5, List.map_append, List.map_singleton, addFs_app]; exact addF_perm hlv3
          have hV8 : Vec 37 4 p5 (rs ++ [(f5, out)]).length cap5 (fcells ((rs ++ [(f5, out)]).map (·.1))) vc5 := by simpa using hV5
          have hln : (rs.map (·.1) ++ [f5]).length = (rs ++ [(f5, out)]).length := by simp
          have hc8 : ((rs ++ [(f5, out)]).map (·.1.count)).sum ≤ pos + m := by simp; omega
          have hb8 : ((rs ++ [(f5, out)]).map (·.1.blocks)).sum ≤ S + nblocks W.δ.size f.width m := by simp; omega
          rw [hln]
          repeat (first | apply G.seq | refine G.plain (h := ?_) | apply G.ret | apply Dn.next | apply Dn.retThen | apply Dn.retBlock | apply Dn.postD | refine G.condPT (ht := ?_) | refine R.enter0 (h := ?_) | refine R.nil (h := ?_) | refine R.enterT (h := ?_) | refine R.splitF (ht := ?_) | refine R.move (h := ?_) | refine R.assign (h := ?_) | refine R.pickF (h := ?_) | refine R.eql (h := ?_) | refine R.neq (h := ?_))
          have hRl := aRelease_cb ba W5.α ca5 hW5.ar g2 (g :: W.α.gs) (hgs5.trans (List.Perm.swap _ _ _))
          refine Go.SL.Lv.call (hc := hRl.2) (h := ?_)
          rintro _ _ ⟨ca8, α8, rfl, hA8, hg8, hroom8, rfl⟩
          try dsimp only [List.cons_append, List.nil_append]
          have hW8 : Wc bd ba bs { W5 with α := α8 } cd5 ca8 cs5 := ⟨hW5.dev, hA8, hW5.sp, hW5.nn, hW5.live⟩
          have hRc := RClose_uB bw bd ba bs { W5 with α := α8 } cd5 ca8 cs5 hW8 bx f fts g W.α.gs hg8 (pos + m) cx3 cb3 (e8.move hsz5)
          refine Go.SL.Lv.call (hc := hRc.2) (h := ?_)
          rintro _ _ ⟨ca9, α9, cx9, rfl, rfl, hW9, hE9, hg9, hx9⟩
          try dsimp only [List.cons_append, List.nil_append]
          (refine Go.SL.Lv.nil (Hr := [[(bz, row [pv bw, .int .i64 o.c0, .int .i64 o.c1, .int .i64 o.c2, .int .i64 o.c3, .int .i64 o.c4, .bool once, .slice p5 (rs ++ [(f5, out)]).length cap5, .int .i64 last5.c0, .int .i64 last5.c1, .int .i64 last5.c2, .int .i64 last5.c3, .int .i64 last5.c4, .bool some5] 87)], wrow bw bd ba bs, cd5, ca9, cs5, vc5]) Tryz.results42 (hR := ?_); exact ⟨cd5, ca9, cs5, _, vc5, p5, cap5, last5, some5, rs ++ [(f5, out)], q + 1, S + nblocks W.δ.size f.width m, fts, rfl, hW9, (hE7.weak (by omega) (Nat.le_refl _)).arena hroom8 hE9, hK7, hg9, hV8, hl8, by rw [← htkB (by omega)]; exact hR8, Nat.le_trans hS6 (Nat.add_le_add_right (by omega) _), hql7.1, hql7.2, by omega, .inl ⟨rfl, rfl, by simp, by simp [hq], by omega, hb8⟩⟩)
        · have hrm5 : W5.α.room = W3.α.room := hE5.room
          have hsz5 : W5.δ.size = W3.δ.size := hE5.size
          have hgs5 : W5.α.gs.Perm (g :: g2 :: W.α.gs) := hg5.trans hgs3
          have hE6 := hE4.trans hE5
          have hS6 := S_more (S := S) (pos := pos) (q := q) (m := m) hp hS rfl
          have hE7 : Ev W W5 (nblocks W.δ.size f.width (pos + m) + (S + nblocks W.δ.size f.width m)) (S + nblocks W.δ.size f.width m) := hE6.weak (by omega) (by omega)
          have hK7 : Keep W.live W W5 := hK4.trans (hK5.sub fun e he => hlv3.mem_iff.2 (addFs_mem he))
          have hR7 : RunsOk W5.δ.disk W.δ.size f.width o once (fts.take pos) rs := hR3.keep (live0 := W.live) fun x hx => hK5 x ((inF_perm hlv3 x).2 hx)
          have hql7 : (q + 1 - 1) * c ≤ f.count ∧ (0 < f.count → (q + 1 - 1) * c < f.count) := by
            rw [Nat.add_sub_cancel]
            by_cases hm1 : m = 0
            · have : q = 0 := by omega
              subst this; simp
            · have : q * c < f.count := by omega
              exact ⟨Nat.le_of_lt this, fun _ => this⟩
          repeat (first | apply G.seq | refine G.plain (h := ?_) | apply G.ret | refine G.condT (h := ?_) | apply Dn.next | apply Dn.retThen | apply Dn.retBlock | apply Dn.postD | refine R.enter0 (h := ?_) | refine R.nil (h := ?_) | refine R.skip (h := ?_) | refine R.splitT (ht := ?_) | refine R.move (h := ?_) | refine R.assign (h := ?_) | refine R.pickT (h := ?_) | refine R.neq (h := ?_))
          have hRl := aRelease_cb ba W5.α ca5 hW5.ar g2 (g :: W.α.gs) (hgs5.trans (List.Perm.swap _ _ _))
          refine Go.SL.Lv.call (hc := hRl.2) (h := ?_)
          rintro _ _ ⟨ca8, α8, rfl, hA8, hg8, hroom8, rfl⟩
          try dsimp only [List.cons_append, List.nil_append]
          have hW8 : Wc bd ba bs { W5 with α := α8 } cd5 ca8 cs5 := ⟨hW5.dev, hA8, hW5.sp, hW5.nn, hW5.live⟩
          have hRc := RClose_uB bw bd ba bs { W5 with α := α8 } cd5 ca8 cs5 hW8 bx f fts g W.α.gs hg8 (pos + m) cx3 cb3 (e8.move hsz5)
          refine Go.SL.Lv.call (hc := hRc.2) (h := ?_)
          rintro _ _ ⟨ca9, α9, cx9, rfl, rfl, hW9, hE9, hg9, hx9⟩
          try dsimp only [List.cons_append, List.nil_append]
          (refine Go.SL.Lv.nil (Hr := [[(bz, row [pv bw, .int .i64 o.c0, .int .i64 o.c1, .int .i64 o.c2, .int .i64 o.c3, .int .i64 o.c4, .bool once, .slice p5 (rs.map (·.1)).length cap5, .int .i64 last5.c0, .int .i64 last5.c1, .int .i64 last5.c2, .int .i64 last5.c3, .int .i64 last5.c4, .bool some5] 87)], wrow bw bd ba bs, cd5, ca9, cs5, vc5]) Tryz.results42 (hR := ?_); exact ⟨cd5, ca9, cs5, _, vc5, p5, cap5, last5, some5, rs, q + 1, S + nblocks W.δ.size f.width m, fts.take pos, by rw [hlm], hW9, (hE7.weak (by omega) (Nat.le_refl _)).arena hroom8 hE9, hK7, hg9, by rw [hlm] at hV5; exact hV5, hl5.trans hlv3, hR7, Nat.le_trans hS6 (Nat.add_le_add_right (by omega) _), hql7.1, hql7.2, by omega, .inr (.inl ⟨rfl, by have := hE4.big; omega⟩)⟩)
        · have hrm5 : W5.α.room = W3.α.room := hE5.room
          have hsz5 : W5.δ.size = W3.δ.size := hE5.size
          have hgs5 : W5.α.gs.Perm (g :: g2 :: W.α.gs) := hg5.trans hgs3
          have hE6 := hE4.trans hE5
          have hS6 := S_more (S := S) (pos := pos) (q := q) (m := m) hp hS rfl
          have hE7 : Ev W W5 (nblocks W.δ.size f.width (pos + m) + (S + nblocks W.δ.size f.width m)) (S + nblocks W.δ.size f.width m) := hE6.weak (by omega) (by omega)
          have hK7 : Keep W.live W W5 := hK4.trans (hK5.sub fun e he => hlv3.mem_iff.2 (addFs_mem he))
          have hR7 : RunsOk W5.δ.disk W.δ.size f.width o once (fts.take pos) rs := hR3.keep (live0 := W.live) fun x hx => hK5 x ((inF_perm hlv3 x).2 hx)
          have hql7 : (q + 1 - 1) * c ≤ f.count ∧ (0 < f.count → (q + 1 - 1) * c < f.count) := by
            rw [Nat.add_sub_cancel]
            by_cases hm1 : m = 0
            · have : q = 0 := by omega
              subst this; simp
            · have : q * c < f.count := by omega
              exact ⟨Nat.le_of_lt this, fun _ => this⟩
          repeat (first | apply G.seq | refine G.plain (h := ?_) | apply G.ret | refine G.condT (h := ?_) | apply Dn.next | apply Dn.retThen | apply Dn.retBlock | apply Dn.postD | refine R.enter0 (h := ?_) | refine R.nil (h := ?_) | refine R.skip (h := ?_) | refine R.splitT (ht := ?_) | refine R.move (h := ?_) | refine R.assign (h := ?_) | refine R.pickT (h := ?_) | refine R.neq (h := ?_))
          have hRl := aRelease_cb ba W5.α ca5 hW5.ar g2 (g :: W.α.gs) (hgs5.trans (List.Perm.swap _ _ _))
          refine Go.SL.Lv.call (hc := hRl.2) (h := ?_)
          rintro _ _ ⟨ca8, α8, rfl, hA8, hg8, hroom8, rfl⟩
          try dsimp only [List.cons_append, List.nil_append]
          have hW8 : Wc bd ba bs { W5 with α := α8 } cd5 ca8 cs5 := ⟨hW5.dev, hA8, hW5.sp, hW5.nn, hW5.live⟩
          have hRc := RClose_uB bw bd ba bs { W5 with α := α8 } cd5 ca8 cs5 hW8 bx f fts g W.α.gs hg8 (pos + m) cx3 cb3 (e8.move hsz5)
          refine Go.SL.Lv.call (hc := hRc.2) (h := ?_)
          rintro _ _ ⟨ca9, α9, cx9, rfl, rfl, hW9, hE9, hg9, hx9⟩
          try dsimp only [List.cons_append, List.nil_append]
          (refine Go.SL.Lv.nil (Hr := [[(bz, row [pv bw, .int .i64 o.c0, .int .i64 o.c1, .int .i64 o.c2, .int .i64 o.c3, .int .i64 o.c4, .bool once, .slice p5 (rs.map (·.1)).length cap5, .int .i64 last5.c0, .int .i64 last5.c1, .int .i64 last5.c2, .int .i64 last5.c3, .int .i64 last5.c4, .bool some5] 87)], wrow bw bd ba bs, cd5, ca9, cs5, vc5]) Tryz.results42 (hR := ?_); exact ⟨cd5, ca9, cs5, _, vc5, p5, cap5, last5, some5, rs, q + 1, S + nblocks W.δ.size f.width m, fts.take pos, by rw [hlm], hW9, (hE7.weak (by omega) (Nat.le_refl _)).arena hroom8 hE9, hK7, hg9, by rw [hlm] at hV5; exact hV5, hl5.trans hlv3, hR7, Nat.le_trans hS6 (Nat.add_le_add_right (by omega) _), hql7.1, hql7.2, by omega, .inr (.inr ⟨rfl, fun e => hf5 (hE4.fault e)⟩)⟩)
      · repeat (first | apply G.seq | refine G.plain (h := ?_) | apply G.skip | refine G.condF (h := ?_) | apply Dn.next | refine G.condPF (ht := ?_) | refine R.enter0 (h := ?_) | refine R.nil (h := ?_) | refine R.skip (h := ?_) | refine R.splitF (ht := ?_) | refine R.move (h := ?_) | refine R.assign (h := ?_) | refine R.extract (h := ?_) | refine R.pickF (h := ?_) | refine R.eql (h := ?_) | refine R.neq (h := ?_))
        refine R.call (hct := hlay) (h := ?_)
        rintro _ _ ⟨cd5, ca5, cs5, W5, vc5, ws5, p5, cap5, last5, some5, fs5, rfl, hW5, hE5, hK5, hg5, hw5, hV5, ⟨rfl, f5, out, rfl, hl5, hf5, hfc5, hfo5, hsd5, hsp5⟩ | ⟨rfl, rfl, hbig5, hl5⟩ | ⟨rfl, rfl, hf5, hl5⟩⟩
        try dsimp only [List.cons_append, List.nil_append]
        · have hrm5 : W5.α.room = W3.α.room := hE5.room
          have hsz5 : W5.δ.size = W3.δ.size := hE5.size
          have hgs5 : W5.α.gs.Perm (g :: g2 :: W.α.gs) := hg5.trans hgs3
          have hE6 := hE4.trans hE5
          have hS6 := S_more (S := S) (pos := pos) (q := q) (m := m) hp hS rfl
          have hE7 : Ev W W5 (nblocks W.δ.size f.width (pos + m) + (S + nblocks W.δ.size f.width m)) (S + nblocks W.δ.size f.width m) := hE6.weak (by omega) (by omega)
          have hK7 : Keep W.live W W5 := hK4.trans (hK5.sub fun e he => hlv3.mem_iff.2 (addFs_mem he))
          have hR7 : RunsOk W5.δ.disk W.δ.size f.width o once (fts.take pos) rs := hR3.keep (live0 := W.live) fun x hx => hK5 x ((inF_perm hlv3 x).2 hx)
          have hql7 : (q + 1 - 1) * c ≤ f.count ∧ (0 < f.count → (q + 1 - 1) * c < f.count) := by
            rw [Nat.add_sub_cancel]
            by_cases hm1 : m = 0
            · have : q = 0 := by omega
              subst this; simp
            · have : q * c < f.count := by omega
              exact ⟨Nat.le_of_lt this, fun _ => this⟩
          have hbl5 : f5.blocks ≤ nblocks W.δ.size f.width m := by rw [hfo5.blk, hf5]; exact nblocks_mono (by omega)
          have hts : fts.take pos ++ ts3 = fts.take (pos + m) := by rw [hts3, List.take_add]
          have hne6 : rs = [] ∨ (fts.take pos ≠ [] ∧ ts3 ≠ []) := by
            by_cases hq0 : q = 0
            · left; exact List.length_eq_zero_iff.1 (by omega)
            · right
              have hqc1 : 0 < q * c := Nat.mul_pos (by omega) (by omega)
              constructor
              · intro e
                have := congrArg List.length e
                rw [List.length_take, htl, List.length_nil] at this
                omega
              · intro e
                rw [e, List.length_nil] at htsl; omega
          have hR8 : RunsOk W5.δ.disk W.δ.size f.width o once (fts.take (pos + m)) (rs ++ [(f5, out)]) := by rw [← hts]; exact hR7.more hf5 hfo5 hsd5 hsp5 hne6
          have hl8 : W5.live.Perm (addFs ((rs ++ [(f5, out)]).map (·.1)) W.live) := by
            rw [hl5, List.map_append, List.map_singleton, addFs_app]; exact addF_perm hlv3
          have hV8 : Vec 37 4 p5 (rs ++ [(f5, out)]).length cap5 (fcells ((rs ++ [(f5, out)]).map (·.1))) vc5 := by simpa using hV5
          have hln : (rs.map (·.1) ++ [f5]).length = (rs ++ [(f5, out)]).length := by simp
          have hc8 : ((rs ++ [(f5, out)]).map (·.1.count)).sum ≤ pos + m := by simp; omega
          have hb8 : ((rs ++ [(f5, out)]).map (·.1.blocks)).sum ≤ S + nblocks W.δ.size f.width m := by simp; omega
          rw [hln]
          repeat (first | apply G.seq | refine G.plain (h := ?_) | apply G.skip | apply Dn.next | apply Dn.blockEnd | refine G.condPF (ht := ?_) | refine R.enter0 (h := ?_) | refine R.nil (h := ?_) | refine R.enterT (h := ?_) | refine R.splitF (ht := ?_) | refine R.move (h := ?_) | refine R.assign (h := ?_) | refine R.pickF (h := ?_) | refine R.eql (h := ?_) | refine R.neq (h := ?_))
          refine Dn.round ⟨q + 1, pos + m, S + nblocks W.δ.size f.width m, m, rs ++ [(f5, out)], cd5, ca5, cs5, cx3, cb3, vc5, ws5, W5, p5, cap5, last5, some5⟩ ⟨by simp [hq], ?_, .inr ?_, hS6, hc8, hb8, hW5, hE7, hK7, hgs5, hl8, hR8, e8.move hsz5, hV8, hw5⟩ (by dsimp only; omega)
          · dsimp only
            have : (q + 1) * c = q * c + c := Nat.succ_mul _ _
            omega
          · dsimp only
            rw [Nat.add_sub_cancel]; omega
        · have hrm5 : W5.α.room = W3.α.room := hE5.room
          have hsz5 : W5.δ.size = W3.δ.size := hE5.size
          have hgs5 : W5.α.gs.Perm (g :: g2 :: W.α.gs) := hg5.trans hgs3
          have hE6 := hE4.trans hE5
          have hS6 := S_more (S := S) (pos := pos) (q := q) (m := m) hp hS rfl
          have hE7 : Ev W W5 (nblocks W.δ.size f.width (pos + m) + (S + nblocks W.δ.size f.width m)) (S + nblocks W.δ.size f.width m) := hE6.weak (by omega) (by omega)
          have hK7 : Keep W.live W W5 := hK4.trans (hK5.sub fun e he => hlv3.mem_iff.2 (addFs_mem he))
          have hR7 : RunsOk W5.δ.disk W.δ.size f.width o once (fts.take pos) rs := hR3.keep (live0 := W.live) fun x hx => hK5 x ((inF_perm hlv3 x).2 hx)
          have hql7 : (q + 1 - 1) * c ≤ f.count ∧ (0 < f.count → (q + 1 - 1) * c < f.count) := by
            rw [Nat.add_sub_cancel]
            by_cases hm1 : m = 0
            · have : q = 0 := by omega
              subst this; simp
            · have : q * c < f.count := by omega
              exact ⟨Nat.le_of_lt this, fun _ => this⟩
          repeat (first | apply G.seq | refine G.plain (h := ?_) | apply G.ret | refine G.condT (h := ?_) | apply Dn.next | apply Dn.retThen | apply Dn.retBlock | apply Dn.postD | refine R.enter0 (h := ?_) | refine R.nil (h := ?_) | refine R.skip (h := ?_) | refine R.splitT (ht := ?_) | refine R.move (h := ?_) | refine R.assign (h := ?_) | refine R.pickT (h := ?_) | refine R.neq (h := ?_))
          have hRl := aRelease_cb ba W5.α ca5 hW5.ar g2 (g :: W.α.gs) (hgs5.trans (List.Perm.swap _ _ _))
          refine Go.SL.Lv.call (hc := hRl.2) (h := ?_)
          rintro _ _ ⟨ca8, α8, rfl, hA8, hg8, hroom8, rfl⟩
          try dsimp only [List.cons_append, List.nil_append]
          have hW8 : Wc bd ba bs { W5 with α := α8 } cd5 ca8 cs5 := ⟨hW5.dev, hA8, hW5.sp, hW5.nn, hW5.live⟩
          have hRc := RClose_uB bw bd ba bs { W5 with α := α8 } cd5 ca8 cs5 hW8 bx f fts g W.α.gs hg8 (pos + m) cx3 cb3 (e8.move hsz5)
          refine Go.SL.Lv.call (hc := hRc.2) (h := ?_)
          rintro _ _ ⟨ca9, α9, cx9, rfl, rfl, hW9, hE9, hg9, hx9⟩
          try dsimp only [List.cons_append, List.nil_append]
          (refine Go.SL.Lv.nil (Hr := [[(bz, row [pv bw, .int .i64 o.c0, .int .i64 o.c1, .int .i64 o.c2, .int .i64 o.c3, .int .i64 o.c4, .bool once, .slice p5 (rs.map (·.1)).length cap5, .int .i64 last5.c0, .int .i64 last5.c1, .int .i64 last5.c2, .int .i64 last5.c3, .int .i64 last5.c4, .bool some5] 87)], wrow bw bd ba bs, cd5, ca9, cs5, vc5]) Tryz.results42 (hR := ?_); exact ⟨cd5, ca9, cs5, _, vc5, p5, cap5, last5, some5, rs, q + 1, S + nblocks W.δ.size f.width m, fts.take pos, by rw [hlm], hW9, (hE7.weak (by omega) (Nat.le_refl _)).arena hroom8 hE9, hK7, hg9, by rw [hlm] at hV5; exact hV5, hl5.trans hlv3, hR7, Nat.le_trans hS6 (Nat.add_le_add_right (by omega) _), hql7.1, hql7.2, by omega, .inr (.inl ⟨rfl, by have := hE4.big; omega⟩)⟩)
        · have hrm5 : W5.α.room = W3.α.room := hE5.room
          have hsz5 : W5.δ.size = W3.δ.size := hE5.size
          have hgs5 : W5.α.gs.Perm (g :: g2 :: W.α.gs) := hg5.trans hgs3
          have hE6 := hE4.trans hE5
          have hS6 := S_more (S := S) (pos := pos) (q := q) (m := m) hp hS rfl
          have hE7 : Ev W W5 (nblocks W.δ.size f.width (pos + m) + (S + nblocks W.δ.size f.width m)) (S + nblocks W.δ.size f.width m) := hE6.weak (by omega) (by omega)
          have hK7 : Keep W.live W W5 := hK4.trans (hK5.sub fun e he => hlv3.mem_iff.2 (addFs_mem he))
          have hR7 : RunsOk W5.δ.disk W.δ.size f.width o once (fts.take pos) rs := hR3.keep (live0 := W.live) fun x hx => hK5 x ((inF_perm hlv3 x).2 hx)
          have hql7 : (q + 1 - 1) * c ≤ f.count ∧ (0 < f.count → (q + 1 - 1) * c < f.count) := by
            rw [Nat.add_sub_cancel]
            by_cases hm1 : m = 0
            · have : q = 0 := by omega
              subst this; simp
            · have : q * c < f.count := by omega
              exact ⟨Nat.le_of_lt this, fun _ => this⟩
          repeat (first | apply G.seq | refine G.plain (h := ?_) | apply G.ret | refine G.condT (h := ?_) | apply Dn.next | apply Dn.retThen | apply Dn.retBlock | apply Dn.postD | refine R.enter0 (h := ?_) | refine R.nil (h := ?_) | refine R.skip (h := ?_) | refine R.splitT (ht := ?_) | refine R.move (h := ?_) | refine R.assign (h := ?_) | refine R.pickT (h := ?_) | refine R.neq (h := ?_))
          have hRl := aRelease_cb ba W5.α ca5 hW5.ar g2 (g :: W.α.gs) (hgs5.trans (List.Perm.swap _ _ _))
          refine Go.SL.Lv.call (hc := hRl.2) (h := ?_)
          rintro _ _ ⟨ca8, α8, rfl, hA8, hg8, hroom8, rfl⟩
          try dsimp only [List.cons_append, List.nil_append]
          have hW8 : Wc bd ba bs { W5 with α := α8 } cd5 ca8 cs5 := ⟨hW5.dev, hA8, hW5.sp, hW5.nn, hW5.live⟩
          have hRc := RClose_uB bw bd ba bs { W5 with α := α8 } cd5 ca8 cs5 hW8 bx f fts g W.α.gs hg8 (pos + m) cx3 cb3 (e8.move hsz5)
          refine Go.SL.Lv.call (hc := hRc.2) (h := ?_)
          rintro _ _ ⟨ca9, α9, cx9, rfl, rfl, hW9, hE9, hg9, hx9⟩
          try dsimp only [List.cons_append, List.nil_append]
          (refine Go.SL.Lv.nil (Hr := [[(bz, row [pv bw, .int .i64 o.c0, .int .i64 o.c1, .int .i64 o.c2, .int .i64 o.c3, .int .i64 o.c4, .bool once, .slice p5 (rs.map (·.1)).length cap5, .int .i64 last5.c0, .int .i64 last5.c1, .int .i64 last5.c2, .int .i64 last5.c3, .int .i64 last5.c4, .bool some5] 87)], wrow bw bd ba bs, cd5, ca9, cs5, vc5]) Tryz.results42 (hR := ?_); exact ⟨cd5, ca9, cs5, _, vc5, p5, cap5, last5, some5, rs, q + 1, S + nblocks W.δ.size f.width m, fts.take pos, by rw [hlm], hW9, (hE7.weak (by omega) (Nat.le_refl _)).arena hroom8 hE9, hK7, hg9, by rw [hlm] at hV5; exact hV5, hl5.trans hlv3, hR7, Nat.le_trans hS6 (Nat.add_le_add_right (by omega) _), hql7.1, hql7.2, by omega, .inr (.inr ⟨rfl, fun e => hf5 (hE4.fault e)⟩)⟩)
  · repeat (first | apply G.seq | refine G.plain (h := ?_) | apply G.ret | apply Dn.next | apply Dn.retThen | apply Dn.retBlock | apply Dn.postD | refine G.condPT (ht := ?_) | refine R.enter0 (h := ?_) | refine R.nil (h := ?_) | refine R.move (h := ?_) | refine R.assign (h := ?_) | refine R.extract (h := ?_) | refine R.neq (h := ?_))
    have hnm : nblocks W.δ.size f.width pos ≤ nblocks W.δ.size f.width (pos + m) := nblocks_mono (by omega)
    have hnc : nblocks W.δ.size f.width (pos + m) ≤ nblocks W.δ.size f.width f.count := nblocks_mono (by omega)
    have hE5 : Ev W W3 (nblocks W.δ.size f.width f.count + S) S := (hE.trans hE3).weak (by omega) (by omega)
    have hRl := aRelease_cb ba W3.α ca3 hW3.ar g2 W.α.gs e7
    have hRc := RClosed_uB bx cx3 e8
    refine Go.SL.Lv.call (hc := hRl.2) (h := ?_)
    rintro _ _ ⟨ca4, α4, rfl, hA4, hg4, hroom4, rfl⟩
    try dsimp only [List.cons_append, List.nil_append]
    refine Go.SL.Lv.call (hc := hRc.2) (h := ?_)
    rintro _ _ ⟨rfl, rfl⟩
    try dsimp only [List.cons_append, List.nil_append]
    (refine Go.SL.Lv.nil (Hr := [[(bz, row [pv bw, .int .i64 o.c0, .int .i64 o.c1, .int .i64 o.c2, .int .i64 o.c3, .int .i64 o.c4, .bool once, .slice p1 rs.length cap1, .int .i64 last1.c0, .int .i64 last1.c1, .int .i64 last1.c2, .int .i64 last1.c3, .int .i64 last1.c4, .bool some1] 87)], wrow bw bd ba bs, cd3, ca4, cs1, vc1]) Tryz.results42 (hR := ?_); exact ⟨cd3, ca4, cs1, { W3 with α := α4 }, vc1, p1, cap1, last1, some1, rs, q, S, fts.take pos, rfl, ⟨hW3.dev, hA4, hW3.sp, hW3.nn, hW3.live⟩, { hE5 with room := hroom4.trans hE5.room }, fun x hx => by rw [hd3]; exact hK x hx, hg4, hV, by rw [hl3]; exact hlv, by rw [hd3]; exact hR, by omega, hq3.1, hq3.2, by omega, .inr (.inr ⟨rfl, fun e => e6 (hE.fault e)⟩)⟩)
end Go.Proofs.YtdkihpjnidhnmaaGreat
namespace Go.Srt
variable {α : Type} {lt : α → α → Bool} [Inhabited α]
/-- no one stands ahead of the one above it, from a place on -/
def HeapFrom (lt : α → α → Bool) (l : List α) (n a : Nat) : Prop := ∀ c, 0 < c → c < n → a ≤ (c - 1) / 2 → lt (at_ l c) (at_ l ((c - 1) / 2)) = false
/-- one on its way down -/
def DownH (lt : α → α → Bool) (l : List α) (n a i : Nat) : Prop :=
  (∀ c, 0 < c → c < n → a ≤ (c - 1) / 2 → (c - 1) / 2 ≠ i → lt (at_ l c) (at_ l ((c - 1) / 2)) = false) ∧
  (∀ c, 0 < c → c < n → (c - 1) / 2 = i → 0 < i → a ≤ (i - 1) / 2 → lt (at_ l c) (at_ l ((i - 1) / 2)) = false)
theorem downH_start {l : List α} {n a : Nat} (h : HeapFrom lt l n (a + 1)) : DownH lt l n a a :=
  ⟨fun c h1 h2 h3 h4 => h c h1 h2 (by omega), fun c h1 h2 h3 h4 h5 => by omega⟩
theorem downH_none {l : List α} {n a i : Nat} (h : DownH lt l n a i) (hi : n ≤ 2 * i + 1) : HeapFrom lt l n a :=
  fun c h1 h2 h3 => h.1 c h1 h2 h3 (by omega)
theorem downH_stop (hs : Swo lt) {l : List α} {n a i j : Nat} (h : DownH lt l n a i) (hm : ∀ c, 0 < c → c < n → (c - 1) / 2 = i → lt (at_ l c) (at_ l j) = false) (hj : lt (at_ l j) (at_ l i) = false) : HeapFrom lt l n a := by
  intro c h1 h2 h3
  by_cases hp : (c - 1) / 2 = i
  · rw [hp]; exact hs.ntrans _ _ _ (hm c h1 h2 hp) hj
  · exact h.1 c h1 h2 h3 hp
theorem downH_step (hs : Swo lt) {l : List α} {n a i j : Nat} (h : DownH lt l n a i) (hai : a ≤ i) (hn : n ≤ l.length) (hj1 : 0 < j) (hj2 : j < n) (hji : (j - 1) / 2 = i) (hm : ∀ c, 0 < c → c < n → (c - 1) / 2 = i → lt (at_ l c) (at_ l j) = false)
    (hlt : lt (at_ l j) (at_ l i) = true) : DownH lt (sw l i j) n a j := by
  have hsw : ∀ q, at_ (sw l i j) q = if q = j then at_ l i else if q = i then at_ l j else at_ l q := fun q => sw_at l i j q (by omega) (by omega)
  obtain ⟨g1, g2⟩ := h
  refine ⟨fun c h1 h2 h3 h4 => ?_, fun c h1 h2 h3 h4 h5 => ?_⟩
  · rw [hsw c, hsw ((c - 1) / 2)]
    rw [if_neg h4]
    by_cases hp : (c - 1) / 2 = i
    · rw [if_pos hp]
      by_cases hcj : c = j
      · rw [if_pos hcj]; exact hs.asym _ _ hlt
      · rw [if_neg hcj, if_neg (by omega)]; exact hm c h1 h2 hp
    · rw [if_neg hp]
      rw [if_neg (by rintro rfl; exact hp hji)]
      by_cases hci : c = i
      · rw [if_pos hci]
        subst hci
        exact g2 j hj1 hj2 hji h1 h3
      · rw [if_neg hci]; exact g1 c h1 h2 h3 hp
  · rw [hsw c, hsw ((j - 1) / 2), hji]
    rw [if_neg (by omega), if_neg (by omega), if_neg (by omega), if_pos rfl]
    have := g1 c h1 h2 (by omega) (by omega)
    rw [h3] at this; exact this
theorem heap_top (hs : Swo lt) {l : List α} {n : Nat} (h : HeapFrom lt l n 0) : ∀ c, c < n → lt (at_ l c) (at_ l 0) = false := by
  intro c
  induction c using Nat.strongRecOn with
  | _ c ih =>
    intro hc
    by_cases h0 : c = 0
    · subst h0; exact hs.irr _
    · exact hs.ntrans _ _ _ (h c (by omega) hc (Nat.zero_le _)) (ih _ (by omega) (by omega))
theorem sw_perm {l : List α} {i j : Nat} (hi : i < l.length) (hj : j < l.length) : (sw l i j).Perm l := by
  unfold sw
  rw [List.getD_eq_getElem?_getD, List.getD_eq_getElem?_getD, List.getElem?_eq_getElem hi, List.getElem?_eq_getElem hj]
  exact List.set_set_perm hi hj
end Go.Srt
namespace Go.Proofs.YtdkihpjnidhnmaaGreat
open Go.SL Go.Spc Go.Tup Go.Srt
structure Hd where
  t : T5
  run : Nat
  rd : Nat
instance : Inhabited Hd := ⟨⟨default, 0, 0⟩⟩
def Hd.cells (x : Hd) : List Value := [.int .i64 x.t.c0, .int .i64 x.t.c1, .int .i64 x.t.c2, .int .i64 x.t.c3, .int .i64 x.t.c4, .int .i64 (x.run : Int), pv x.rd]
def hcells (l : List Hd) : List Value := l.flatMap Hd.cells
theorem hcells_app (a b : List Hd) : hcells (a ++ b) = hcells a ++ hcells b := by simp [hcells]
theorem hcells_length (l : List Hd) : (hcells l).length = l.length * 7 := by
  induction l with
  | nil => rfl
  | cons x l ih => simp only [hcells, List.flatMap_cons, List.length_append, List.length_cons] at ih ⊢; rw [ih]; simp [Hd.cells]; omega
theorem hcells_drop : ∀ (l : List Hd) (rest : List Value) (i : Nat), i < l.length → ∃ more, (hcells l ++ rest).drop (i * 7) = (at_ l i).cells ++ more
  | [], _, i, h => by simp at h
  | x :: l, rest, 0, _ => ⟨hcells l ++ rest, by simp [hcells, at_]⟩
  | x :: l, rest, i + 1, h => by
    obtain ⟨more, hm⟩ := hcells_drop l rest i (by simpa using h)
    refine ⟨more, ?_⟩
    have e : (hcells (x :: l) ++ rest) = x.cells ++ (hcells l ++ rest) := by simp [hcells]
    rw [e, show (i + 1) * 7 = x.cells.length + i * 7 by (have : x.cells.length = 7 := rfl); omega, ← List.drop_drop, List.drop_left, hm]
    rfl
/-- the heads in memory -/
def HeadsH (bh vb cap : Nat) (o : T5) (l : List Hd) (rest : List Value) : Hp :=
  [[(bh, row ([.slice (some ⟨vb, 0, none⟩) l.length cap, .int .i64 o.c0, .int .i64 o.c1, .int .i64 o.c2, .int .i64 o.c3, .int .i64 o.c4]) 146)], [(vb, row (hcells l ++ rest) 148)]]
/-- ahead among heads: by the tuple, then by the run -/
def ltH (o : T5) (a b : Hd) : Bool := decide (cmpT o a.t b.t < 0 ∨ cmpT o a.t b.t = 0 ∧ a.run < b.run)
theorem ltH_swo (o : T5) : Swo (ltH o) where
  asym := fun a b h => by
    simp only [ltH, decide_eq_true_eq, decide_eq_false_iff_not] at *
    have := cmpT_swap o a.t b.t; omega
  ntrans := fun a b c h1 h2 => by
    simp only [ltH, decide_eq_false_iff_not] at *
    have e1 := cmpT_swap o a.t b.t
    have e2 := cmpT_swap o b.t c.t
    have e3 := cmpT_swap o a.t c.t
    have f1 := cmpT_trans o c.t b.t a.t (by omega) (by omega)
    have f2 : cmpT o a.t c.t = 0 → cmpT o a.t b.t = 0 := fun h => by
      have := cmpT_trans o a.t c.t b.t
      omega
    have f3 : cmpT o a.t c.t = 0 → cmpT o b.t c.t = 0 := fun h => by
      have := cmpT_trans o b.t a.t c.t
      omega
    omega
theorem HLen_ct (bh vb cap : Nat) (o : T5) (l : List Hd) (rest : List Value) : CtQ Tryz.prog 85 [pv bh] (HeadsH bh vb cap o l rest) (.int .i64 (l.length : Int)) := by
  unfold HeadsH
  refine Ct.intro Tryz.func85 rfl Tryz.ntmps85 (nle rfl) fun w0 => ?_; dsimp only [argSlots, Nat.reduceAdd]
  repeat (first | apply G.seq | refine G.plain (h := ?_) | apply G.ret | apply Dn.next | refine R.enter0 (h := ?_) | refine R.nil (h := ?_) | refine R.move (h := ?_) | refine R.assign (h := ?_) | refine R.nilCheck (h := ?_) | refine R.fieldAddr (h := ?_) | refine R.load1 (h := ?_) | refine R.len (h := ?_))
  (refine Dn.post (Hr := [[(bh, row [.slice (some ⟨vb, 0, none⟩) l.length cap, .int .i64 o.c0, .int .i64 o.c1, .int .i64 o.c2, .int .i64 o.c3, .int .i64 o.c4] 146)], [(vb, row (hcells l ++ rest) 148)]]) Tryz.results85 (hR := ?_); exact ⟨rfl, rfl⟩)
theorem hfacts {l : List Hd} {rest : List Value} {i : Nat} (h : i < l.length) :
    ((hcells l ++ rest).drop (i * 7)).take 5 = [.int .i64 (at_ l i).t.c0, .int .i64 (at_ l i).t.c1, .int .i64 (at_ l i).t.c2, .int .i64 (at_ l i).t.c3, .int .i64 (at_ l i).t.c4] ∧
    (hcells l ++ rest)[i * 7 + 5]? = some (.int .i64 ((at_ l i).run : Int)) ∧ (hcells l ++ rest)[i * 7 + 6]? = some (pv (at_ l i).rd) ∧
    ((hcells l ++ rest).drop (i * 7)).take 7 = (at_ l i).cells := by
  obtain ⟨more, hm⟩ := hcells_drop l rest i h
  refine ⟨by rw [hm]; rfl, ?_, ?_, by rw [hm]; rfl⟩
  · rw [← List.getElem?_drop, hm]; rfl
  · rw [← List.getElem?_drop, hm]; rfl
theorem HLess_ct (bh vb cap : Nat) (o : T5) (l : List Hd) (rest : List Value) (i j : Nat) (hi : i < l.length) (hj : j < l.length) (hl : l.length ≤ 1000000) :
    CtQ Tryz.prog 135 [pv bh, .int .i64 (i : Int), .int .i64 (j : Int)] (HeadsH bh vb cap o l rest) (.bool (ltH o (at_ l i) (at_ l j))) := by
  obtain ⟨a1, a2, a3, a4⟩ := hfacts (rest := rest) hi
  obtain ⟨b1, b2, b3, b4⟩ := hfacts (rest := rest) hj
  have hC := Compare_ct (at_ l i).t.c0 (at_ l i).t.c1 (at_ l i).t.c2 (at_ l i).t.c3 (at_ l i).t.c4 (at_ l j).t.c0 (at_ l j).t.c1 (at_ l j).t.c2 (at_ l j).t.c3 (at_ l j).t.c4 o.c0 o.c1 o.c2 o.c3 o.c4
  have hCc : cmpT ⟨o.c0, o.c1, o.c2, o.c3, o.c4⟩ ⟨(at_ l i).t.c0, (at_ l i).t.c1, (at_ l i).t.c2, (at_ l i).t.c3, (at_ l i).t.c4⟩ ⟨(at_ l j).t.c0, (at_ l j).t.c1, (at_ l j).t.c2, (at_ l j).t.c3, (at_ l j).t.c4⟩ = cmpT o (at_ l i).t (at_ l j).t := rfl
  rw [hCc] at hC
  unfold ltH HeadsH
  generalize hcm : cmpT o (at_ l i).t (at_ l j).t = cm at *
  generalize hcl : hcells l ++ rest = cells at *
  generalize at_ l i = x at *
  generalize at_ l j = y at *
  by_cases h1 : cm < 0
  · rw [show decide (cm < 0 ∨ cm = 0 ∧ x.run < y.run) = true from decide_eq_true (.inl h1)]
    refine Ct.intro Tryz.func135 rfl Tryz.ntmps135 (nle rfl) fun w0 => ?_; dsimp only [argSlots, Nat.reduceAdd]
    repeat (first | apply G.seq | refine G.plain (h := ?_) | apply G.ret | apply Dn.next | refine G.draw (id := 1) [(20, .quiet)] (h := ?_) | refine G.draw (id := 2) [] (h := ?_) | refine R.enter0 (h := ?_) | refine R.nil (h := ?_) | refine R.skip (h := ?_) | refine R.skipU (h := ?_) | refine R.splitT (ht := ?_) | refine R.move (h := ?_) | refine R.assign (h := ?_) | refine R.nilCheck (h := ?_) | refine R.fieldAddr (h := ?_) | refine R.load1 (h := ?_) | refine R.loadN (h := ?_) | refine R.pickT (h := ?_) | refine R.lss (h := ?_) | refine R.indexAddr (h := ?_) | refine R.callQ (hct := by apply hC <;> (first | omega | assumption)) (h := ?_))
    (refine Dn.post (Hr := [[(bh, row [.slice (some ⟨vb, 0, none⟩) l.length cap, .int .i64 o.c0, .int .i64 o.c1, .int .i64 o.c2, .int .i64 o.c3, .int .i64 o.c4] 146)], [(vb, row cells 148)]]) Tryz.results135 (hR := ?_); exact ⟨rfl, rfl⟩)
  · by_cases h2 : cm = 0
    · have h3 : decide (cm < 0 ∨ cm = 0 ∧ x.run < y.run) = dec ((x.run : Int) < (y.run : Int)) := by
        by_cases h4 : x.run < y.run
        · rw [decide_eq_true (.inr ⟨h2, h4⟩), dec_true (by omega)]
        · rw [decide_eq_false (by omega), dec_false (by omega)]
      rw [h3]
      refine Ct.intro Tryz.func135 rfl Tryz.ntmps135 (nle rfl) fun w0 => ?_; dsimp only [argSlots, Nat.reduceAdd]
      repeat (first | apply G.seq | refine G.plain (h := ?_) | apply G.ret | apply Dn.next | refine G.draw (id := 1) [(20, .quiet)] (h := ?_) | refine G.draw (id := 2) [] (h := ?_) | refine R.enter0 (h := ?_) | refine R.nil (h := ?_) | refine R.enterT (h := ?_) | refine R.splitT (ht := ?_) | refine R.splitF (ht := ?_) | refine R.move (h := ?_) | refine R.assign (h := ?_) | refine R.nilCheck (h := ?_) | refine R.fieldAddr (h := ?_) | refine R.load1 (h := ?_) | refine R.loadN (h := ?_) | refine R.pickT (h := ?_) | refine R.pickF (h := ?_) | refine R.lss (h := ?_) | refine R.eql (h := ?_) | refine R.indexAddr (h := ?_) | refine R.callQ (hct := by apply hC <;> (first | omega | assumption)) (h := ?_))
      (refine Dn.post (Hr := [[(bh, row [.slice (some ⟨vb, 0, none⟩) l.length cap, .int .i64 o.c0, .int .i64 o.c1, .int .i64 o.c2, .int .i64 o.c3, .int .i64 o.c4] 146)], [(vb, row cells 148)]]) Tryz.results135 (hR := ?_); exact ⟨rfl, rfl⟩)
    · rw [show decide (cm < 0 ∨ cm = 0 ∧ x.run < y.run) = false from decide_eq_false (by omega)]
      refine Ct.intro Tryz.func135 rfl Tryz.ntmps135 (nle rfl) fun w0 => ?_; dsimp only [argSlots, Nat.reduceAdd]
      repeat (first | apply G.seq | refine G.plain (h := ?_) | apply G.ret | apply Dn.next | refine G.draw (id := 1) [(20, .quiet)] (h := ?_) | refine G.draw (id := 2) [] (h := ?_) | refine R.enter0 (h := ?_) | refine R.nil (h := ?_) | refine R.enterT (h := ?_) | refine R.skip (h := ?_) | refine R.splitF (ht := ?_) | refine R.move (h := ?_) | refine R.assign (h := ?_) | refine R.nilCheck (h := ?_) | refine R.fieldAddr (h := ?_) | refine R.load1 (h := ?_) | refine R.loadN (h := ?_) | refine R.pickF (h := ?_) | refine R.lss (h := ?_) | refine R.eql (h := ?_) | refine R.indexAddr (h := ?_) | refine R.callQ (hct := by apply hC <;> (first | omega | assumption)) (h := ?_))
      (refine Dn.post (Hr := [[(bh, row [.slice (some ⟨vb, 0, none⟩) l.length cap, .int .i64 o.c0, .int .i64 o.c1, .int .i64 o.c2, .int .i64 o.c3, .int .i64 o.c4] 146)], [(vb, row cells 148)]]) Tryz.results135 (hR := ?_); exact ⟨rfl, rfl⟩)
theorem setL_skip : ∀ (a : List Value) (vs cs : List Value) (off : Nat), setL (a ++ cs) (a.length + off) vs = a ++ setL cs off vs := by
  intro a vs
  induction vs with
  | nil => intro cs off; rfl
  | cons v vs ih =>
    intro cs off
    simp only [setL]
    rw [List.set_append_right _ _ (by omega), show a.length + off - a.length = off by omega, show a.length + off + 1 = a.length + (off + 1) by omega, ih]
theorem setL_h : ∀ (l : List Hd) (i : Nat) (x : Hd) (rest : List Value), i < l.length → setL (hcells l ++ rest) (i * 7) x.cells = hcells (l.set i x) ++ rest
  | [], _, _, _, h => by simp at h
  | u :: l, 0, x, rest, _ => by simp [hcells, setL, Hd.cells]
  | u :: l, i + 1, x, rest, h => by
    have ih := setL_h l i x rest (by simpa using h)
    have e : (hcells (u :: l) ++ rest) = u.cells ++ (hcells l ++ rest) := by simp [hcells]
    rw [e, show (i + 1) * 7 = u.cells.length + i * 7 by (have : u.cells.length = 7 := rfl); omega, setL_skip, ih]
    simp [hcells]
theorem HSwap_ct (bh vb cap : Nat) (o : T5) (l : List Hd) (rest : List Value) (i j : Nat) (hi : i < l.length) (hj : j < l.length) (hl : l.length ≤ 1000000) :
    Ct Tryz.prog 137 [pv bh, .int .i64 (i : Int), .int .i64 (j : Int)] (HeadsH bh vb cap o l rest) fun v H' => v = .tuple #[] ∧ H' = HeadsH bh vb cap o (sw l i j) rest := by
  obtain ⟨a1, a2, a3, a4⟩ := hfacts (rest := rest) hi
  obtain ⟨b1, b2, b3, b4⟩ := hfacts (rest := rest) hj
  have hs1 := setL_h l i (at_ l j) rest hi
  have hs2 := setL_h (l.set i (at_ l j)) j (at_ l i) rest (by simpa using hj)
  have hsw : (l.set i (at_ l j)).set j (at_ l i) = sw l i j := rfl
  rw [hsw] at hs2
  have hlen : (hcells l ++ rest).length = l.length * 7 + rest.length := by rw [List.length_append, hcells_length]
  have hlen2 : (hcells (l.set i (at_ l j)) ++ rest).length = l.length * 7 + rest.length := by rw [List.length_append, hcells_length, List.length_set]
  unfold HeadsH
  rw [sw_length]
  generalize hcells (sw l i j) ++ rest = cells3 at *
  generalize hcells (l.set i (at_ l j)) ++ rest = cells2 at *
  generalize hcells l ++ rest = cells at *
  generalize at_ l i = x at *
  generalize at_ l j = y at *
  unfold Hd.cells at *
  refine Ct.intro Tryz.func137 rfl Tryz.ntmps137 (nle rfl) fun w0 => ?_; dsimp only [argSlots, Nat.reduceAdd]
  repeat (first | refine G.draw (id := 0) [] (h := ?_) | refine R.enter0 (h := ?_) | refine R.nil (h := ?_) | refine R.move (h := ?_) | refine R.nilCheck (h := ?_) | refine R.fieldAddr (h := ?_) | refine R.load1 (h := ?_) | refine R.loadN (h := ?_) | refine R.storeN (h := ?_) | refine R.indexAddr (h := ?_))
  (refine Dn.postEnd (Hr := [[(bh, row [.slice (some ⟨vb, 0, none⟩) l.length cap, .int .i64 o.c0, .int .i64 o.c1, .int .i64 o.c2, .int .i64 o.c3, .int .i64 o.c4] 146)], [(vb, row cells3 148)]]) Tryz.results137 (hR := ?_); exact ⟨rfl, rfl⟩)
end Go.Proofs.YtdkihpjnidhnmaaGreat
namespace Go.Proofs.YtdkihpjnidhnmaaGreat
open Go.SL Go.Spc Go.Tup Go.Srt
instance : Meth Tryz.prog 143 "Less" 135 := Meth.of (by kernel_rfl)
instance : Meth Tryz.prog 143 "Swap" 137 := Meth.of (by kernel_rfl)
instance : Meth Tryz.prog 143 "Len" 85 := Meth.of (by kernel_rfl)
instance : Meth Tryz.prog 143 "Pop" 136 := Meth.of (by kernel_rfl)
abbrev headV (bh : Nat) : Value := .iface 143 (pv bh)
structure DownX where
  i : Nat
  l : List Hd
theorem down_ct (bh vb cap : Nat) (o : T5) (l : List Hd) (rest : List Value) (a n : Nat) (hn : n ≤ l.length) (hl : l.length ≤ 1000000) (hh : HeapFrom (ltH o) l n (a + 1)) (ha : a ≤ 1000000) :
    Ct Tryz.prog 103 [headV bh, .int .i64 (a : Int), .int .i64 (n : Int)] (HeadsH bh vb cap o l rest) fun v H' =>
      ∃ b l', v = .bool b ∧ H' = HeadsH bh vb cap o l' rest ∧ l'.Perm l ∧ HeapFrom (ltH o) l' n a ∧ ∀ q, n ≤ q → at_ l' q = at_ l q := by
  have hsw := ltH_swo o
  refine Ct.intro Tryz.func103 rfl Tryz.ntmps103 (nle rfl) fun w0 => ?_; dsimp only [argSlots, Nat.reduceAdd]
  repeat (first | apply G.seq | refine G.plain (h := ?_) | apply G.block | apply Dn.next | refine R.enter0 (h := ?_) | refine R.nil (h := ?_) | refine R.move (h := ?_) | refine R.assign (h := ?_))
  refine G.loop (X := DownX) (fun x => a ≤ x.i ∧ x.l.Perm l ∧ DownH (ltH o) x.l n a x.i ∧ (x.i < n ∨ x.i = a) ∧ ∀ q, n ≤ q → at_ x.l q = at_ l q)
    (fun x => [(7, .int .i64 (x.i : Int)), (0, headV bh), (1, .int .i64 (a : Int)), (2, .int .i64 (n : Int))])
    (fun x => HeadsH bh vb cap o x.l rest) (fun x => n - x.i) ⟨a, l⟩ ⟨Nat.le_refl _, List.Perm.refl _, downH_start hh, .inr rfl, fun _ _ => rfl⟩ (body := ?_)
  rintro ⟨i, us⟩ ⟨hai, hp, hd, hin, hout⟩
  dsimp only at hai hp hd hin hout ⊢
  have hul := hp.length_eq
  have hi6 : i ≤ 1000000 := by omega
  have e1 : IntKind.wrap .i64 (2 * (i : Int)) = ((2 * i : Nat) : Int) := by rw [wrap_i64 (by omega)]; omega
  have e2 : IntKind.wrap .i64 (((2 * i : Nat) : Int) + 1) = ((2 * i + 1 : Nat) : Int) := by rw [wrap_i64 (by omega)]; omega
  have e3 : IntKind.wrap .i64 (((2 * i + 1 : Nat) : Int) + 1) = ((2 * i + 2 : Nat) : Int) := by rw [wrap_i64 (by omega)]; omega
  by_cases hc : n ≤ 2 * i + 1
  · repeat (first | apply G.seq | refine G.plain (h := ?_) | apply G.block | apply G.exit | apply G.ret | refine G.condT (h := ?_) | apply Dn.next | apply Dn.exitHere | (apply Dn.exitPast; decide) | apply Dn.exitThen | refine R.enter0 (h := ?_) | refine R.nil (h := ?_) | refine R.skip (h := ?_) | refine R.splitT (ht := ?_) | refine R.move (h := ?_) | refine R.assign (h := ?_) | refine R.pickT (h := ?_) | refine R.gtr (h := ?_) | refine R.geq (h := ?_) | refine R.addw (h := ?_) | refine R.mulw (h := ?_))
    (refine Dn.post (Hr := HeadsH bh vb cap o us rest) Tryz.results103 (hR := ?_); exact ⟨_, us, rfl, rfl, hp, downH_none hd hc, hout⟩)
  · by_cases hc2 : 2 * i + 2 < n
    · have hL := HLess_ct bh vb cap o us rest (2 * i + 2) (2 * i + 1) (by omega) (by omega) (by omega)
      cases h1 : ltH o (at_ us (2 * i + 2)) (at_ us (2 * i + 1)) with
      | true =>
        rw [h1] at hL
        have hm : ∀ c, 0 < c → c < n → (c - 1) / 2 = i → ltH o (at_ us c) (at_ us (2 * i + 2)) = false := by
          intro c k1 k2 k3
          rcases (show c = 2 * i + 1 ∨ c = 2 * i + 2 by omega) with rfl | rfl
          · exact hsw.asym _ _ h1
          · exact hsw.irr _
        have hL2 := HLess_ct bh vb cap o us rest (2 * i + 2) i (by omega) (by omega) (by omega)
        cases h2 : ltH o (at_ us (2 * i + 2)) (at_ us i) with
        | true =>
          rw [h2] at hL2
          have hS := HSwap_ct bh vb cap o us rest i (2 * i + 2) (by omega) (by omega) (by omega)
          repeat (first | apply G.seq | refine G.plain (h := ?_) | apply G.block | apply G.skip | refine G.condT (h := ?_) | refine G.condF (h := ?_) | apply Dn.next | refine G.condPF (ht := ?_) | refine R.enter0 (h := ?_) | refine R.nil (h := ?_) | refine R.enterT (h := ?_) | refine R.splitT (ht := ?_) | refine R.splitF (ht := ?_) | refine R.move (h := ?_) | refine R.assign (h := ?_) | refine R.pickT (h := ?_) | refine R.pickF (h := ?_) | refine R.lss (h := ?_) | refine R.geq (h := ?_) | refine R.addw (h := ?_) | refine R.mulw (h := ?_) | refine R.not (h := ?_) | refine R.invokeP (hct := by apply hL <;> (first | omega | assumption)) (h := ?_) | refine R.invokeP (hct := by apply hL2 <;> (first | omega | assumption)) (h := ?_))
          refine R.invoke (hct := hS) (h := ?_)
          rintro _ _ ⟨rfl, rfl⟩
          try dsimp only [List.cons_append, List.nil_append]
          repeat (first | refine G.plain (h := ?_) | apply Dn.next | apply Dn.blockEnd | refine R.enter0 (h := ?_) | refine R.nil (h := ?_) | refine R.move (h := ?_) | refine R.assign (h := ?_))
          exact Dn.round ⟨2 * i + 2, sw us i (2 * i + 2)⟩ ⟨by dsimp only; omega, (sw_perm (by omega) (by omega)).trans hp, downH_step hsw hd hai (by omega) (by omega) (by omega) (by omega) hm h2, .inl (by dsimp only; omega), fun q hq => by
            dsimp only
            rw [sw_at _ _ _ _ (by omega) (by omega), if_neg (by omega), if_neg (by omega)]; exact hout q hq⟩ (by dsimp only; omega)
        | false =>
          rw [h2] at hL2
          repeat (first | apply G.seq | refine G.plain (h := ?_) | apply G.block | apply G.skip | apply G.exit | apply G.ret | refine G.condT (h := ?_) | apply Dn.next | apply Dn.exitHere | (apply Dn.exitPast; decide) | apply Dn.exitThen | refine G.condPF (ht := ?_) | refine R.enter0 (h := ?_) | refine R.nil (h := ?_) | refine R.enterT (h := ?_) | refine R.splitT (ht := ?_) | refine R.splitF (ht := ?_) | refine R.move (h := ?_) | refine R.assign (h := ?_) | refine R.pickT (h := ?_) | refine R.pickF (h := ?_) | refine R.lss (h := ?_) | refine R.gtr (h := ?_) | refine R.geq (h := ?_) | refine R.addw (h := ?_) | refine R.mulw (h := ?_) | refine R.not (h := ?_) | refine R.invokeP (hct := by apply hL <;> (first | omega | assumption)) (h := ?_) | refine R.invokeP (hct := by apply hL2 <;> (first | omega | assumption)) (h := ?_))
          (refine Dn.post (Hr := HeadsH bh vb cap o us rest) Tryz.results103 (hR := ?_); exact ⟨_, us, rfl, rfl, hp, downH_stop hsw hd hm h2, hout⟩)
      | false =>
        rw [h1] at hL
        have hm : ∀ c, 0 < c → c < n → (c - 1) / 2 = i → ltH o (at_ us c) (at_ us (2 * i + 1)) = false := by
          intro c k1 k2 k3
          rcases (show c = 2 * i + 1 ∨ c = 2 * i + 2 by omega) with rfl | rfl
          · exact hsw.irr _
          · exact h1
        have hL2 := HLess_ct bh vb cap o us rest (2 * i + 1) i (by omega) (by omega) (by omega)
        cases h2 : ltH o (at_ us (2 * i + 1)) (at_ us i) with
        | true =>
          rw [h2] at hL2
          have hS := HSwap_ct bh vb cap o us rest i (2 * i + 1) (by omega) (by omega) (by omega)
          repeat (first | apply G.seq | refine G.plain (h := ?_) | apply G.block | apply G.skip | refine G.condF (h := ?_) | apply Dn.next | refine G.condPF (ht := ?_) | refine R.enter0 (h := ?_) | refine R.nil (h := ?_) | refine R.enterT (h := ?_) | refine R.splitT (ht := ?_) | refine R.splitF (ht := ?_) | refine R.move (h := ?_) | refine R.assign (h := ?_) | refine R.pickT (h := ?_) | refine R.pickF (h := ?_) | refine R.lss (h := ?_) | refine R.geq (h := ?_) | refine R.addw (h := ?_) | refine R.mulw (h := ?_) | refine R.not (h := ?_) | refine R.invokeP (hct := by apply hL <;> (first | omega | assumption)) (h := ?_) | refine R.invokeP (hct := by apply hL2 <;> (first | omega | assumption)) (h := ?_))
          refine R.invoke (hct := hS) (h := ?_)
          rintro _ _ ⟨rfl, rfl⟩
          try dsimp only [List.cons_append, List.nil_append]
          repeat (first | refine G.plain (h := ?_) | apply Dn.next | apply Dn.blockEnd | refine R.enter0 (h := ?_) | refine R.nil (h := ?_) | refine R.move (h := ?_) | refine R.assign (h := ?_))
          exact Dn.round ⟨2 * i + 1, sw us i (2 * i + 1)⟩ ⟨by dsimp only; omega, (sw_perm (by omega) (by omega)).trans hp, downH_step hsw hd hai (by omega) (by omega) (by omega) (by omega) hm h2, .inl (by dsimp only; omega), fun q hq => by
            dsimp only
            rw [sw_at _ _ _ _ (by omega) (by omega), if_neg (by omega), if_neg (by omega)]; exact hout q hq⟩ (by dsimp only; omega)
        | false =>
          rw [h2] at hL2
          repeat (first | apply G.seq | refine G.plain (h := ?_) | apply G.block | apply G.skip | apply G.exit | apply G.ret | refine G.condT (h := ?_) | refine G.condF (h := ?_) | apply Dn.next | apply Dn.exitHere | (apply Dn.exitPast; decide) | apply Dn.exitThen | refine G.condPF (ht := ?_) | refine R.enter0 (h := ?_) | refine R.nil (h := ?_) | refine R.enterT (h := ?_) | refine R.splitT (ht := ?_) | refine R.splitF (ht := ?_) | refine R.move (h := ?_) | refine R.assign (h := ?_) | refine R.pickT (h := ?_) | refine R.pickF (h := ?_) | refine R.lss (h := ?_) | refine R.gtr (h := ?_) | refine R.geq (h := ?_) | refine R.addw (h := ?_) | refine R.mulw (h := ?_) | refine R.not (h := ?_) | refine R.invokeP (hct := by apply hL <;> (first | omega | assumption)) (h := ?_) | refine R.invokeP (hct := by apply hL2 <;> (first | omega | assumption)) (h := ?_))
          (refine Dn.post (Hr := HeadsH bh vb cap o us rest) Tryz.results103 (hR := ?_); exact ⟨_, us, rfl, rfl, hp, downH_stop hsw hd hm h2, hout⟩)
    · have hm : ∀ c, 0 < c → c < n → (c - 1) / 2 = i → ltH o (at_ us c) (at_ us (2 * i + 1)) = false := by
        intro c k1 k2 k3
        rcases (show c = 2 * i + 1 by omega) with rfl
        exact hsw.irr _
      have hL2 := HLess_ct bh vb cap o us rest (2 * i + 1) i (by omega) (by omega) (by omega)
      cases h2 : ltH o (at_ us (2 * i + 1)) (at_ us i) with
      | true =>
        rw [h2] at hL2
        have hS := HSwap_ct bh vb cap o us rest i (2 * i + 1) (by omega) (by omega) (by omega)
        repeat (first | apply G.seq | refine G.plain (h := ?_) | apply G.block | apply G.skip | refine G.condF (h := ?_) | apply Dn.next | refine G.condPF (ht := ?_) | refine R.enter0 (h := ?_) | refine R.nil (h := ?_) | refine R.enterT (h := ?_) | refine R.skip (h := ?_) | refine R.splitF (ht := ?_) | refine R.move (h := ?_) | refine R.assign (h := ?_) | refine R.pickF (h := ?_) | refine R.lss (h := ?_) | refine R.geq (h := ?_) | refine R.addw (h := ?_) | refine R.mulw (h := ?_) | refine R.not (h := ?_) | refine R.invokeP (hct := by apply hL2 <;> (first | omega | assumption)) (h := ?_))
        refine R.invoke (hct := hS) (h := ?_)
        rintro _ _ ⟨rfl, rfl⟩
        try dsimp only [List.cons_append, List.nil_append]
        repeat (first | refine G.plain (h := ?_) | apply Dn.next | apply Dn.blockEnd | refine R.enter0 (h := ?_) | refine R.nil (h := ?_) | refine R.move (h := ?_) | refine R.assign (h := ?_))
        exact Dn.round ⟨2 * i + 1, sw us i (2 * i + 1)⟩ ⟨by dsimp only; omega, (sw_perm (by omega) (by omega)).trans hp, downH_step hsw hd hai (by omega) (by omega) (by omega) (by omega) hm h2, .inl (by dsimp only; omega), fun q hq => by
          dsimp only
          rw [sw_at _ _ _ _ (by omega) (by omega), if_neg (by omega), if_neg (by omega)]; exact hout q hq⟩ (by dsimp only; omega)
      | false =>
        rw [h2] at hL2
        repeat (first | apply G.seq | refine G.plain (h := ?_) | apply G.block | apply G.skip | apply G.exit | apply G.ret | refine G.condT (h := ?_) | refine G.condF (h := ?_) | apply Dn.next | apply Dn.exitHere | (apply Dn.exitPast; decide) | apply Dn.exitThen | refine G.condPF (ht := ?_) | refine R.enter0 (h := ?_) | refine R.nil (h := ?_) | refine R.enterT (h := ?_) | refine R.skip (h := ?_) | refine R.splitF (ht := ?_) | refine R.move (h := ?_) | refine R.assign (h := ?_) | refine R.pickF (h := ?_) | refine R.lss (h := ?_) | refine R.gtr (h := ?_) | refine R.geq (h := ?_) | refine R.addw (h := ?_) | refine R.mulw (h := ?_) | refine R.not (h := ?_) | refine R.invokeP (hct := by apply hL2 <;> (first | omega | assumption)) (h := ?_))
        (refine Dn.post (Hr := HeadsH bh vb cap o us rest) Tryz.results103 (hR := ?_); exact ⟨_, us, rfl, rfl, hp, downH_stop hsw hd hm h2, hout⟩)
structure InitX where
  z : Int
  l : List Hd
theorem Init_ct (bh vb cap : Nat) (o : T5) (l : List Hd) (rest : List Value) (hl : l.length ≤ 1000000) :
    Ct Tryz.prog 84 [headV bh] (HeadsH bh vb cap o l rest) fun v H' => ∃ l', v = .tuple #[] ∧ H' = HeadsH bh vb cap o l' rest ∧ l'.Perm l ∧ HeapFrom (ltH o) l' l'.length 0 := by
  have hN := HLen_ct bh vb cap o l rest
  have e1 : IntKind.wrap .i64 ((l.length : Int).tdiv 2) = ((l.length / 2 : Nat) : Int) := by
    rw [Int.tdiv_eq_ediv_of_nonneg (by omega), wrap_i64 (by omega)]; omega
  have e2 : IntKind.wrap .i64 (((l.length / 2 : Nat) : Int) - 1) = ((l.length / 2 : Nat) : Int) - 1 := wrap_i64 (by omega)
  generalize hn : l.length = n at *
  refine Ct.intro Tryz.func84 rfl Tryz.ntmps84 (nle rfl) fun w0 => ?_; dsimp only [argSlots, Nat.reduceAdd]
  repeat (first | apply G.seq | refine G.plain (h := ?_) | apply G.block | apply Dn.next | refine R.enter0 (h := ?_) | refine R.nil (h := ?_) | refine R.move (h := ?_) | refine R.assign (h := ?_) | refine R.subw (h := ?_) | refine R.quow (h := ?_) | refine R.invokeP (hct := by apply hN <;> (first | omega | assumption)) (h := ?_))
  refine G.loop (X := InitX) (fun x => -1 ≤ x.z ∧ x.z < 1000001 ∧ x.l.Perm l ∧ HeapFrom (ltH o) x.l n (x.z + 1).toNat)
    (fun x => [(3, .int .i64 x.z), (0, headV bh), (2, .int .i64 (n : Int))])
    (fun x => HeadsH bh vb cap o x.l rest) (fun x => (x.z + 1).toNat) ⟨((n / 2 : Nat) : Int) - 1, l⟩ ⟨by dsimp only; omega, by dsimp only; omega, List.Perm.refl _, fun c h1 h2 h3 => by dsimp only at h3; omega⟩ (body := ?_)
  rintro ⟨z, us⟩ ⟨hz1, hz2, hp, hh⟩
  dsimp only at hz1 hz2 hp hh ⊢
  have hul := hp.length_eq
  by_cases hz : 0 ≤ z
  · obtain ⟨i, rfl⟩ := Int.eq_ofNat_of_zero_le hz
    have hD := down_ct bh vb cap o us rest i n (by omega) (by omega) (by rw [show i + 1 = ((i : Int) + 1).toNat by omega]; exact hh) (by omega)
    have e3 : IntKind.wrap .i64 ((i : Int) - 1) = (i : Int) - 1 := wrap_i64 (by omega)
    repeat (first | apply G.seq | refine G.plain (h := ?_) | apply G.block | apply G.skip | apply Dn.next | refine G.condPT (ht := ?_) | refine R.enter0 (h := ?_) | refine R.nil (h := ?_) | refine R.move (h := ?_) | refine R.geq (h := ?_))
    refine R.call (hct := hD) (h := ?_)
    rintro _ _ ⟨b, us', rfl, rfl, hp2, hh2, hout⟩
    try dsimp only [List.cons_append, List.nil_append]
    repeat (first | refine G.plain (h := ?_) | apply Dn.next | apply Dn.blockEnd | refine R.enter0 (h := ?_) | refine R.nil (h := ?_) | refine R.move (h := ?_) | refine R.assign (h := ?_) | refine R.subw (h := ?_))
    exact Dn.round ⟨(i : Int) - 1, us'⟩ ⟨by dsimp only; omega, by dsimp only; omega, hp2.trans hp, by dsimp only; rw [show ((i : Int) - 1 + 1).toNat = i by omega]; exact hh2⟩ (by dsimp only; omega)
  · repeat (first | apply G.seq | refine G.plain (h := ?_) | apply G.exit | apply Dn.next | apply Dn.exitHere | apply Dn.exitThen | refine G.condPF (ht := ?_) | refine R.enter0 (h := ?_) | refine R.nil (h := ?_) | refine R.move (h := ?_) | refine R.geq (h := ?_))
    (refine Dn.postEnd (Hr := HeadsH bh vb cap o us rest) Tryz.results84 (hR := ?_); exact ⟨us, rfl, rfl, hp, by rw [hul, hn]; rw [show (z + 1).toNat = 0 by omega] at hh; exact hh⟩)
theorem up_ct (bh vb cap : Nat) (o : T5) (l : List Hd) (rest : List Value) :
    Ct Tryz.prog 104 [headV bh, .int .i64 0] (HeadsH bh vb cap o l rest) fun v H' => v = .tuple #[] ∧ H' = HeadsH bh vb cap o l rest := by
  have e1 : IntKind.wrap .i64 ((0 : Int) - 1) = -1 := by decide
  have e2 : IntKind.wrap .i64 ((-1 : Int).tdiv 2) = 0 := by decide
  refine Ct.intro Tryz.func104 rfl Tryz.ntmps104 (nle rfl) fun w0 => ?_; dsimp only [argSlots, Nat.reduceAdd]
  repeat (first | apply G.block)
  refine G.loop (X := Unit) (fun _ => True) (fun _ => [(0, headV bh), (1, .int .i64 0)]) (fun _ => HeadsH bh vb cap o l rest) (fun _ => 0) () trivial (body := ?_)
  rintro ⟨⟩ -
  repeat (first | apply G.seq | refine G.plain (h := ?_) | apply G.block | apply G.exit | refine G.condT (h := ?_) | apply Dn.next | apply Dn.exitHere | (apply Dn.exitPast; decide) | apply Dn.exitThen | refine R.enter0 (h := ?_) | refine R.nil (h := ?_) | refine R.skip (h := ?_) | refine R.splitT (ht := ?_) | refine R.move (h := ?_) | refine R.assign (h := ?_) | refine R.pickT (h := ?_) | refine R.eql (h := ?_) | refine R.subw (h := ?_) | refine R.quow (h := ?_))
  (refine Dn.postEnd (Hr := HeadsH bh vb cap o l rest) Tryz.results104 (hR := ?_); exact ⟨rfl, rfl⟩)
theorem Fix_ct (bh vb cap : Nat) (o : T5) (l : List Hd) (rest : List Value) (hl : l.length ≤ 1000000) (hh : HeapFrom (ltH o) l l.length 1) :
    Ct Tryz.prog 86 [headV bh, .int .i64 0] (HeadsH bh vb cap o l rest) fun v H' => ∃ l', v = .tuple #[] ∧ H' = HeadsH bh vb cap o l' rest ∧ l'.Perm l ∧ HeapFrom (ltH o) l' l'.length 0 := by
  have hN := HLen_ct bh vb cap o l rest
  have hD := down_ct bh vb cap o l rest 0 l.length (Nat.le_refl _) hl hh (by omega)
  refine Ct.intro Tryz.func86 rfl Tryz.ntmps86 (nle rfl) fun w0 => ?_; dsimp only [argSlots, Nat.reduceAdd]
  repeat (first | apply G.seq | refine G.plain (h := ?_) | refine R.enter0 (h := ?_) | refine R.move (h := ?_) | refine R.invokeP (hct := by apply hN <;> (first | omega | assumption)) (h := ?_))
  refine R.call (hct := hD) (h := ?_)
  rintro _ _ ⟨b, us, rfl, rfl, hp, hh2, hout⟩
  try dsimp only [List.cons_append, List.nil_append]
  have hul := hp.length_eq
  have hU := up_ct bh vb cap o us rest
  cases b with
  | true =>
    repeat (first | apply G.skip | refine G.condF (h := ?_) | apply Dn.next | refine R.enter0 (h := ?_) | refine R.nil (h := ?_) | refine R.not (h := ?_))
    (refine Dn.postEnd (Hr := HeadsH bh vb cap o us rest) Tryz.results86 (hR := ?_); exact ⟨us, rfl, rfl, hp, by rw [hul]; exact hh2⟩)
  | false =>
    repeat (first | refine G.plain (h := ?_) | refine G.condT (h := ?_) | apply Dn.next | refine R.enter0 (h := ?_) | refine R.nil (h := ?_) | refine R.move (h := ?_) | refine R.not (h := ?_))
    refine R.call (hct := hU) (h := ?_)
    rintro _ _ ⟨rfl, rfl⟩
    try dsimp only [List.cons_append, List.nil_append]
    repeat (first | refine R.nil (h := ?_))
    (refine Dn.postEnd (Hr := HeadsH bh vb cap o us rest) Tryz.results86 (hR := ?_); exact ⟨us, rfl, rfl, hp, by rw [hul]; exact hh2⟩)
end Go.Proofs.YtdkihpjnidhnmaaGreat
namespace Go.Proofs.YtdkihpjnidhnmaaGreat
open Go.SL Go.Spc Go.Tup Go.Srt
theorem HPop_ct (bh vb cap : Nat) (o : T5) (l : List Hd) (x : Hd) (rest : List Value) (hl : l.length ≤ 1000000) (hcap : l.length + 1 ≤ cap) :
    Ct Tryz.prog 136 [pv bh] (HeadsH bh vb cap o (l ++ [x]) rest) fun v H' => v = .iface 148 (.agg x.cells.toArray) ∧ H' = HeadsH bh vb cap o l (x.cells ++ rest) := by
  obtain ⟨a1, a2, a3, a4⟩ := hfacts (l := l ++ [x]) (rest := rest) (i := l.length) (by simp)
  have hax : at_ (l ++ [x]) l.length = x := by simp [at_, List.getD_eq_getElem?_getD]
  rw [hax] at a1 a2 a3 a4
  have hap : hcells l ++ (x.cells ++ rest) = hcells (l ++ [x]) ++ rest := by rw [hcells_app]; simp [hcells]
  have hln : (l ++ [x]).length = l.length + 1 := by simp
  have e1 : IntKind.wrap .i64 (((l.length + 1 : Nat) : Int) - 1) = (l.length : Int) := by rw [wrap_i64 (by omega)]; omega
  unfold HeadsH
  rw [hap, hln]
  generalize hcells (l ++ [x]) ++ rest = cells at *
  generalize l.length = n at *
  unfold Hd.cells at *
  refine Ct.intro Tryz.func136 rfl Tryz.ntmps136 (nle rfl) fun w0 => ?_; dsimp only [argSlots, Nat.reduceAdd]
  repeat (first | apply G.seq | refine G.plain (h := ?_) | apply Dn.next | refine G.draw (id := 1) [] (h := ?_) | refine G.draw (id := 2) [] (h := ?_) | refine R.enter0 (h := ?_) | refine R.nil (h := ?_) | refine R.move (h := ?_) | refine R.assign (h := ?_) | refine R.nilCheck (h := ?_) | refine R.fieldAddr (h := ?_) | refine R.load1 (h := ?_) | refine R.loadN (h := ?_) | refine R.store1 (h := ?_) | refine R.storeN (h := ?_) | (refine R.alloc (h := ?_); intro _) | refine R.subw (h := ?_) | refine R.len (h := ?_) | refine R.indexAddr (h := ?_) | refine R.sliceH (h := ?_))
  apply R.mkIfaceS
  · exact rfl
  · exact Tryz.underlying148
  · exact rfl
  · exact nle rfl
  repeat (first | apply G.ret | apply Dn.next | refine R.enter0 (h := ?_) | refine R.nil (h := ?_) | refine R.assign (h := ?_))
  (refine Dn.post (Hr := [[(bh, row [.slice (some ⟨vb, 0, none⟩) n cap, .int .i64 o.c0, .int .i64 o.c1, .int .i64 o.c2, .int .i64 o.c3, .int .i64 o.c4] 146)], [(vb, row cells 148)]]) Tryz.results136 (hR := ?_); exact ⟨rfl, rfl⟩)
theorem PopH_ct (bh vb cap : Nat) (o : T5) (l : List Hd) (rest : List Value) (hl : l.length ≤ 1000000) (hcap : l.length ≤ cap) (hne : 0 < l.length) (hh : HeapFrom (ltH o) l l.length 0) :
    Ct Tryz.prog 87 [headV bh] (HeadsH bh vb cap o l rest) fun v H' => ∃ l' x, v = .iface 148 (.agg x.cells.toArray) ∧ x = at_ l 0 ∧ H' = HeadsH bh vb cap o l' (x.cells ++ rest) ∧ (x :: l').Perm l ∧ l'.length + 1 = l.length ∧ HeapFrom (ltH o) l' l'.length 0 := by
  have hN := HLen_ct bh vb cap o l rest
  have e1 : IntKind.wrap .i64 ((l.length : Int) - 1) = ((l.length - 1 : Nat) : Int) := by rw [wrap_i64 (by omega)]; omega
  have hS := HSwap_ct bh vb cap o l rest 0 (l.length - 1) hne (by omega) hl
  have hsl : (sw l 0 (l.length - 1)).length = l.length := sw_length _ _ _
  have hat := fun q => sw_at l 0 (l.length - 1) q hne (by omega)
  have hh1 : HeapFrom (ltH o) (sw l 0 (l.length - 1)) (l.length - 1) 1 := by
    intro c h1 h2 h3
    rw [hat, hat, if_neg (by omega), if_neg (by omega), if_neg (by omega), if_neg (by omega)]
    exact hh c h1 (by omega) (Nat.zero_le _)
  have hD := down_ct bh vb cap o (sw l 0 (l.length - 1)) rest 0 (l.length - 1) (by omega) (by omega) hh1 (by omega)
  have hpm : (sw l 0 (l.length - 1)).Perm l := sw_perm hne (by omega)
  have hlast := hat (l.length - 1)
  rw [if_pos rfl] at hlast
  refine Ct.intro Tryz.func87 rfl Tryz.ntmps87 (nle rfl) fun w0 => ?_; dsimp only [argSlots, Nat.reduceAdd]
  repeat (first | apply G.seq | refine G.plain (h := ?_) | apply Dn.next | refine R.enter0 (h := ?_) | refine R.nil (h := ?_) | refine R.move (h := ?_) | refine R.assign (h := ?_) | refine R.subw (h := ?_) | refine R.invokeP (hct := by apply hN <;> (first | omega | assumption)) (h := ?_))
  refine R.invoke (hct := hS) (h := ?_)
  rintro _ _ ⟨rfl, rfl⟩
  try dsimp only [List.cons_append, List.nil_append]
  repeat (first | apply G.seq | refine G.plain (h := ?_) | apply Dn.next | refine R.enter0 (h := ?_) | refine R.nil (h := ?_) | refine R.move (h := ?_))
  refine R.call (hct := hD) (h := ?_)
  rintro _ _ ⟨b, us, rfl, rfl, hp, hh2, hout⟩
  try dsimp only [List.cons_append, List.nil_append]
  have hul : us.length = l.length := hp.length_eq.trans hsl
  have hx := (hout (l.length - 1) (Nat.le_refl _)).trans hlast
  obtain ⟨vs, y, rfl⟩ : ∃ vs y, us = vs ++ [y] := by
    rcases List.eq_nil_or_concat us with rfl | ⟨qs, z, rfl⟩
    · simp at hul; omega
    · exact ⟨qs, z, by simp⟩
  rw [List.length_append, List.length_singleton] at hul
  have hy : at_ (vs ++ [y]) (l.length - 1) = y := by
    rw [show l.length - 1 = vs.length by omega]; simp [at_, List.getD_eq_getElem?_getD]
  rw [hy] at hx
  subst hx
  have hP := HPop_ct bh vb cap o vs (at_ l 0) rest (by omega) (by omega)
  repeat (first | apply G.seq | refine G.plain (h := ?_) | apply Dn.next | refine R.enter0 (h := ?_) | refine R.nil (h := ?_) | refine R.move (h := ?_))
  refine R.invoke (hct := hP) (h := ?_)
  rintro _ _ ⟨rfl, rfl⟩
  try dsimp only [List.cons_append, List.nil_append]
  repeat (first | apply G.ret | apply Dn.next | refine R.enter0 (h := ?_) | refine R.nil (h := ?_) | refine R.assign (h := ?_))
  (refine Dn.post (Hr := HeadsH bh vb cap o vs ((at_ l 0).cells ++ rest)) Tryz.results87 (hR := ?_); refine ⟨vs, at_ l 0, rfl, rfl, rfl, ?_, hul, ?_⟩)
  · exact (List.perm_append_comm (l₁ := [at_ l 0]) (l₂ := vs)).trans (hp.trans hpm)
  · intro c h1 h2 h3
    have := hh2 c h1 (by omega) h3
    rw [at_app, at_app, if_pos h2, if_pos (by omega)] at this
    exact this
end Go.Proofs.YtdkihpjnidhnmaaGreat
namespace Go.Proofs.YtdkihpjnidhnmaaGreat
open Go.SL Go.Spc Go.Tup Go.Srt
theorem sd_head {o : T5} {u a : T5} {s : List T5} (h : Sd (ltO o) false (u :: s)) (ha : a ∈ u :: s) : ltO o a u = false := by
  rcases List.mem_cons.1 ha with rfl | ha
  · exact (ltO_swo o).irr _
  · unfold Sd at h
    have := List.rel_of_pairwise_cons h ha
    simpa using this
/-- the least head of the earliest run is put -/
theorem Em.merge {o : T5} {once : Bool} {l ps : List T5} {A B : List (List T5)} {t : T5} {r : List T5} (h : Em o once l ps (A ++ (t :: r) :: B).flatten)
    (hA : ∀ s ∈ A, Sd (ltO o) false s ∧ ∀ u s', s = u :: s' → ltO o t u = true) (hB : ∀ s ∈ B, Sd (ltO o) false s ∧ ∀ u s', s = u :: s' → ltO o u t = false) (hr : Sd (ltO o) false (t :: r)) :
    Em o once l (emit o once ps t) (A ++ r :: B).flatten := by
  have hsw := ltO_swo o
  have hAa : ∀ a ∈ A.flatten, ltO o t a = true := by
    intro a ha
    obtain ⟨s, hs, has⟩ := List.mem_flatten.1 ha
    cases s with
    | nil => simp at has
    | cons u s' =>
      obtain ⟨h1, h2⟩ := hA _ hs
      cases hc : ltO o t a with
      | true => rfl
      | false =>
        have := hsw.ntrans _ _ _ hc (sd_head h1 has)
        rw [h2 u s' rfl] at this; cases this
  have hBb : ∀ b ∈ B.flatten, ltO o b t = false := by
    intro b hb
    obtain ⟨s, hs, hbs⟩ := List.mem_flatten.1 hb
    cases s with
    | nil => simp at hbs
    | cons u s' =>
      obtain ⟨h1, h2⟩ := hB _ hs
      exact hsw.ntrans _ _ _ (sd_head h1 hbs) (h2 u s' rfl)
  have e1 : (A ++ (t :: r) :: B).flatten = (A.flatten ++ [t]) ++ (r ++ B.flatten) := by simp
  have e2 : (A ++ r :: B).flatten = A.flatten ++ (r ++ B.flatten) := by simp
  rw [e1] at h
  rw [e2]
  have h2 : Em o once l ps (t :: (A.flatten ++ (r ++ B.flatten))) := by
    refine h.turn ?_ ?_
    · have := Go.Srt.Sp.app (once := once) (Go.Srt.Sp.swap hsw (once := once) (v := A.flatten) (x := [t]) (fun b hb a ha => by simp only [List.mem_singleton] at hb; subst hb; exact hAa a ha)) (Go.Srt.Sp.refl (lt := ltO o) once (r ++ B.flatten))
      simpa using this
    · intro y hy
      simp only [List.mem_cons, List.mem_append] at hy ⊢
      rcases hy with hy | hy | hy | hy
      · exact .inl (.inr (by simp [hy]))
      · exact .inl (.inl hy)
      · exact .inr (.inl hy)
      · exact .inr (.inr hy)
  refine h2.step fun y hy => ?_
  rcases List.mem_append.1 hy with hy | hy
  · exact hsw.asym _ _ (hAa y hy)
  · rcases List.mem_append.1 hy with hy | hy
    · exact sd_head hr (List.mem_cons_of_mem _ hy)
    · exact hBb y hy
end Go.Proofs.YtdkihpjnidhnmaaGreat
namespace Go.Proofs.YtdkihpjnidhnmaaGreat
open Go.SL Go.Spc Go.Tup Go.Srt
/-- a reader in memory, open or closed -/
structure Rdr where
  bx : Nat
  f : Fl
  ts : List T5
  g : Gr
  pos : Nat
  opn : Bool
  cx : Chunk
  cb : Chunk
def RdSt (bw : Nat) (W : Wk) (r : Rdr) : Prop := if r.opn then IsRd bw r.bx W r.f r.ts r.g r.pos r.cx r.cb else ClosedRd r.bx r.cx
def rdAll (rs : List Rdr) : Chunk := rs.flatMap fun r => r.cx ++ r.cb
def rdGrants (rs : List Rdr) : List Gr := (rs.filter (·.opn)).map (·.g)
theorem RdSt.move {bw : Nat} {W W' : Wk} {r : Rdr} (h : RdSt bw W r) (hs : W'.δ.size = W.δ.size) : RdSt bw W' r := by
  unfold RdSt at *
  split
  · rename_i ho; rw [if_pos ho] at h; exact h.move hs
  · rename_i ho; rw [if_neg ho] at h; exact h
theorem rdAll_perm {a b : List Rdr} (h : a.Perm b) : (rdAll a).Perm (rdAll b) := h.flatMap_right _
theorem rdAll_cut {rs : List Rdr} {r : Rdr} (h : r ∈ rs) : ∃ qs, rs.Perm (r :: qs) ∧ (rdAll rs).Perm (r.cx ++ (r.cb ++ rdAll qs)) := by
  obtain ⟨l1, l2, rfl⟩ := List.append_of_mem h
  refine ⟨l1 ++ l2, List.perm_middle, (rdAll_perm List.perm_middle).trans ?_⟩
  simp [rdAll]
theorem rdGrants_perm {a b : List Rdr} (h : a.Perm b) : (rdGrants a).Perm (rdGrants b) := (h.filter _).map _
end Go.Proofs.YtdkihpjnidhnmaaGreat
namespace Go.Proofs.YtdkihpjnidhnmaaGreat
open Go.SL Go.Spc Go.Tup Go.Srt
def cellH (bc bh : Nat) : Chunk := [(bc, row [pv bh] 143)]
def headsRow (bh : Nat) (p : Option Addr) (n cap : Nat) (o : T5) : Chunk := [(bh, row [.slice p n cap, .int .i64 o.c0, .int .i64 o.c1, .int .i64 o.c2, .int .i64 o.c3, .int .i64 o.c4] 146)]
structure CloseX where
  i : Nat
  ca : Chunk
  α : Ar
  rs : List Rdr
theorem closeAll_cb (bc bh bw bd ba bs : Nat) (W : Wk) (cd ca cs : Chunk) (h : Wc bd ba bs W cd ca cs) (o : T5) (l : List Hd) (p : Option Addr) (cap : Nat) (vc : Chunk) (hV : Vec 148 7 p l.length cap (hcells l) vc) (hl : l.length ≤ 1000000)
    (rs : List Rdr) (base : List Gr) (hg : W.α.gs.Perm (rdGrants rs ++ base)) (hrs : ∀ r ∈ rs, RdSt bw W r) (hlr : ∀ x ∈ l, ∃ r ∈ rs, r.bx = x.rd) (hrl : ∀ r ∈ rs, r.opn = true → ∃ x ∈ l, x.rd = r.bx) (hnd : (rs.map (·.bx)).Nodup) :
    Cb Tryz.prog 83 [pv bc] [cellH bc bh, headsRow bh p l.length cap o, vc, wrow bw bd ba bs, ca, rdAll rs] fun v H' =>
      ∃ ca' α' rs', v = .tuple #[] ∧ H' = [cellH bc bh, headsRow bh p l.length cap o, vc, wrow bw bd ba bs, ca', rdAll rs'] ∧ Wc bd ba bs { W with α := α' } cd ca' cs ∧ Ev W { W with α := α' } 0 0 ∧ α'.gs.Perm base := by
  unfold cellH headsRow
  refine Cb.intro Tryz.func83 rfl Tryz.ntmps83 (nle rfl) fun w0 => ?_; dsimp only [argSlots, Nat.reduceAdd]
  repeat (first | apply G.seq | refine G.plain (h := ?_) | apply G.block | apply Dn.next | refine R.enter0 (h := ?_) | refine R.nil (h := ?_) | refine R.move (h := ?_) | refine R.nilCheck (h := ?_) | refine R.fieldAddr (h := ?_) | refine R.load1 (h := ?_) | refine R.len (h := ?_))
  refine G.loop (X := CloseX) (fun x => x.i ≤ l.length ∧ Wc bd ba bs { W with α := x.α } cd x.ca cs ∧ Ev W { W with α := x.α } 0 0 ∧ x.α.gs.Perm (rdGrants x.rs ++ base) ∧ (∀ r ∈ x.rs, RdSt bw W r) ∧ (∀ y ∈ l, ∃ r ∈ x.rs, r.bx = y.rd) ∧ (∀ r ∈ x.rs, r.opn = true → ∃ j, x.i ≤ j ∧ j < l.length ∧ (at_ l j).rd = r.bx) ∧ (x.rs.map (·.bx)).Nodup)
    (fun x => [(8, .int .i64 (x.i : Int)), (7, .int .i64 (l.length : Int)), (6, .slice p l.length cap)])
    (fun x => [[(bc, row [pv bh] 143)], [(bh, row [.slice p l.length cap, .int .i64 o.c0, .int .i64 o.c1, .int .i64 o.c2, .int .i64 o.c3, .int .i64 o.c4] 146)], vc, wrow bw bd ba bs, x.ca, rdAll x.rs]) (fun x => l.length - x.i) ⟨0, ca, W.α, rs⟩
    ⟨Nat.zero_le _, h, Ev.refl W, hg, hrs, hlr, fun r hr ho => by
      obtain ⟨x, hx, he⟩ := hrl r hr ho
      obtain ⟨j, hj, e⟩ := List.getElem_of_mem hx
      exact ⟨j, Nat.zero_le _, hj, by rw [← he, ← e]; simp [at_, List.getD_eq_getElem?_getD, hj]⟩, hnd⟩ (body := ?_)
  rintro ⟨i, ca1, α1, rs1⟩ ⟨hi, hW1, hE1, hg1, hrs1, hlr1, hop1, hnd1⟩
  dsimp only at hi hW1 hE1 hg1 hrs1 hlr1 hop1 hnd1 ⊢
  by_cases hin : i < l.length
  · have hx : at_ l i ∈ l := by unfold at_; rw [List.getD_eq_getElem?_getD, List.getElem?_eq_getElem hin]; exact List.getElem_mem hin
    obtain ⟨r, hr, hbx⟩ := hlr1 _ hx
    obtain ⟨qs, hp1, hp2⟩ := rdAll_cut hr
    obtain ⟨_, h0 | ⟨vb, rest, rfl, rfl, _⟩⟩ := hV
    · omega
    obtain ⟨a1, a2, a3, a4⟩ := hfacts (rest := rest) hin
    generalize hcells l ++ rest = cells at *
    generalize hxe : at_ l i = x at *
    unfold Hd.cells at a4
    repeat (first | apply G.seq | refine G.plain (h := ?_) | apply G.block | apply G.skip | apply Dn.next | refine G.condPT (ht := ?_) | refine R.enter0 (h := ?_) | refine R.nil (h := ?_) | refine R.fieldAddr (h := ?_) | refine R.load1 (h := ?_) | refine R.loadN (h := ?_) | refine R.storeN (h := ?_) | (refine R.alloc (h := ?_); intro _) | refine R.lss (h := ?_) | refine R.indexAddr (h := ?_))
    rw [← hbx]
    apply R1.open hp2
    · (repeat (first | exact Take.here | apply Take.there))
    have hst := hrs1 r hr
    unfold RdSt at hst
    have hqs : ∀ q ∈ qs, q ∈ rs1 := fun q hq => hp1.mem_iff.2 (List.mem_cons_of_mem _ hq)
    have hgp : (rdGrants rs1).Perm (rdGrants (r :: qs)) := rdGrants_perm hp1
    have hnd2 : ((r :: qs).map (·.bx)).Nodup := (hp1.map _).nodup_iff.1 hnd1
    cases ho : r.opn with
    | false =>
      rw [ho] at hst
      have hC := RClosed_u r.bx r.cx hst
      refine R.call (hct := hC) (h := ?_)
      rintro _ _ ⟨rfl, rfl⟩
      try dsimp only [List.cons_append, List.nil_append]
      repeat (first | refine G.plain (h := ?_) | apply Dn.next | apply Dn.blockEnd | refine R.enter0 (h := ?_) | refine R.nil (h := ?_) | refine R.move (h := ?_) | refine R.addw (h := ?_))
      apply Dn.join (c1 := r.cx) (c2 := r.cb ++ rdAll qs)
      · (repeat (first | exact Take.here | apply Take.there))
      · (repeat (first | exact Take.here | apply Take.there))
      rw [show r.cx ++ (r.cb ++ rdAll qs) = rdAll (r :: qs) by simp [rdAll]]
      refine Dn.round ⟨i + 1, ca1, α1, r :: qs⟩ ⟨hin, hW1, hE1, hg1.trans (hgp.append_right _), fun q hq => hrs1 q (hp1.mem_iff.2 hq), fun y hy => ?_, fun q hq hqo => ?_, hnd2⟩ (by dsimp only; omega)
      · obtain ⟨q, hq, e⟩ := hlr1 y hy
        exact ⟨q, hp1.mem_iff.1 hq, e⟩
      · obtain ⟨j, j1, j2, j3⟩ := hop1 q (hp1.mem_iff.2 hq) hqo
        refine ⟨j, ?_, j2, j3⟩
        by_cases hji : j = i
        · exfalso
          subst hji
          rw [hxe] at j3
          rcases List.mem_cons.1 hq with rfl | hq
          · rw [ho] at hqo; cases hqo
          · rw [List.map_cons, List.nodup_cons] at hnd2
            exact hnd2.1 (by rw [hbx, j3]; exact List.mem_map.2 ⟨q, hq, rfl⟩)
        · dsimp only; omega
    | true =>
      rw [ho] at hst
      have hgr : rdGrants (r :: qs) = r.g :: rdGrants qs := by unfold rdGrants; rw [List.filter_cons_of_pos ho]; rfl
      have hC := RClose_u bw bd ba bs { W with α := α1 } cd ca1 cs hW1 r.bx r.f r.ts r.g (rdGrants qs ++ base) (hg1.trans (by rw [hgr] at hgp; exact hgp.append_right _)) r.pos r.cx r.cb (IsRd.move hst rfl)
      refine R.call (hct := hC) (h := ?_)
      rintro _ _ ⟨ca2, α2, cx2, rfl, rfl, hW2, hE2, hg2, hx2⟩
      try dsimp only [List.cons_append, List.nil_append]
      repeat (first | refine G.plain (h := ?_) | apply Dn.next | apply Dn.blockEnd | refine R.enter0 (h := ?_) | refine R.nil (h := ?_) | refine R.move (h := ?_) | refine R.addw (h := ?_))
      apply Dn.join (c1 := cx2) (c2 := r.cb ++ rdAll qs)
      · (repeat (first | exact Take.here | apply Take.there))
      · (repeat (first | exact Take.here | apply Take.there))
      rw [show cx2 ++ (r.cb ++ rdAll qs) = rdAll ({ r with opn := false, cx := cx2 } :: qs) by simp [rdAll]]
      refine Dn.round ⟨i + 1, ca2, α2, { r with opn := false, cx := cx2 } :: qs⟩ ⟨hin, hW2, hE1.trans hE2, hg2, fun q hq => ?_, fun y hy => ?_, fun q hq hqo => ?_, hnd2⟩ (by dsimp only; omega)
      · rcases List.mem_cons.1 hq with rfl | hq
        · exact hx2
        · exact hrs1 q (hqs q hq)
      · obtain ⟨q, hq, e⟩ := hlr1 y hy
        rcases List.mem_cons.1 (hp1.mem_iff.1 hq) with rfl | hq
        · exact ⟨_, List.mem_cons_self, e⟩
        · exact ⟨q, List.mem_cons_of_mem _ hq, e⟩
      · rcases List.mem_cons.1 hq with rfl | hq3
        · cases hqo
        · obtain ⟨j, j1, j2, j3⟩ := hop1 q (hqs q hq3) hqo
          refine ⟨j, ?_, j2, j3⟩
          by_cases hji : j = i
          · exfalso
            subst hji
            rw [hxe] at j3
            rw [List.map_cons, List.nodup_cons] at hnd2
            exact hnd2.1 (by rw [hbx, j3]; exact List.mem_map.2 ⟨q, hq3, rfl⟩)
          · dsimp only; omega
  · repeat (first | apply G.seq | refine G.plain (h := ?_) | apply G.exit | apply Dn.next | apply Dn.exitHere | apply Dn.exitThen | refine G.condPF (ht := ?_) | refine R.enter0 (h := ?_) | refine R.nil (h := ?_) | refine R.lss (h := ?_))
    (refine Dn.postEnd (Hr := [[(bc, row [pv bh] 143)], [(bh, row [.slice p l.length cap, .int .i64 o.c0, .int .i64 o.c1, .int .i64 o.c2, .int .i64 o.c3, .int .i64 o.c4] 146)], vc, wrow bw bd ba bs, ca1, rdAll rs1]) Tryz.results83 (hR := ?_); refine ⟨ca1, α1, rs1, rfl, rfl, hW1, hE1, ?_⟩)
    have : rdGrants rs1 = [] := by
      unfold rdGrants
      rw [List.filter_eq_nil_iff.2]
      · rfl
      · intro r hr ho
        obtain ⟨j, j1, j2, _⟩ := hop1 r hr ho
        omega
    rw [this] at hg1; exact hg1
end Go.Proofs.YtdkihpjnidhnmaaGreat
namespace Go.Proofs.YtdkihpjnidhnmaaGreat
open Go.SL Go.Spc Go.Tup Go.Srt
/-- what is left of a run: its head, and what its reader has not read -/
def remOf (r : Rdr) : List T5 := if r.opn then r.ts.drop (r.pos - 1) else []
structure MSt (bw : Nat) (W : Wk) (o : T5) (rds : List Rdr) (hl : List Hd) : Prop where
  rd : ∀ r ∈ rds, RdSt bw W r
  nd : (rds.map (·.bx)).Nodup
  hd : ∀ x ∈ hl, ∃ r, rds[x.run]? = some r ∧ r.opn = true ∧ r.bx = x.rd ∧ 0 < r.pos ∧ r.ts[r.pos - 1]? = some x.t
  ex : ∀ j r, rds[j]? = some r → r.opn = true → ∃ x ∈ hl, x.run = j
  one : (hl.map (·.run)).Nodup
  sd : ∀ r ∈ rds, Sd (ltO o) false r.ts
theorem sd_drop {o : T5} {s : List T5} (h : Sd (ltO o) false s) (n : Nat) : Sd (ltO o) false (s.drop n) := h.sublist (List.drop_sublist n s)
theorem remOf_sd {o : T5} {r : Rdr} (h : Sd (ltO o) false r.ts) : Sd (ltO o) false (remOf r) := by
  unfold remOf; split
  · exact sd_drop h _
  · exact List.Pairwise.nil
theorem remOf_head {r : Rdr} {t u : T5} {s : List T5} (h : r.ts[r.pos - 1]? = some t) (he : remOf r = u :: s) : u = t := by
  unfold remOf at he
  split at he
  · have h1 : (r.ts.drop (r.pos - 1))[0]? = some t := by rw [List.getElem?_drop]; simpa using h
    rw [he] at h1
    simpa using h1
  · cases he
theorem MSt.top {bw : Nat} {W : Wk} {o : T5} {rds : List Rdr} {hl : List Hd} (h : MSt bw W o rds hl) (hne : 0 < hl.length) (hh : HeapFrom (ltH o) hl hl.length 0) :
    ∃ A r B, rds = A ++ r :: B ∧ A.length = (at_ hl 0).run ∧ r.opn = true ∧ r.bx = (at_ hl 0).rd ∧ 0 < r.pos ∧ r.ts[r.pos - 1]? = some (at_ hl 0).t ∧ remOf r = (at_ hl 0).t :: r.ts.drop r.pos ∧
      (∀ s ∈ A.map remOf, Sd (ltO o) false s ∧ ∀ u s', s = u :: s' → ltO o (at_ hl 0).t u = true) ∧ (∀ s ∈ B.map remOf, Sd (ltO o) false s ∧ ∀ u s', s = u :: s' → ltO o u (at_ hl 0).t = false) := by
  have hx : at_ hl 0 ∈ hl := by unfold at_; rw [List.getD_eq_getElem?_getD, List.getElem?_eq_getElem hne]; exact List.getElem_mem hne
  have htop := heap_top (ltH_swo o) hh
  have hle : ∀ y ∈ hl, ltH o y (at_ hl 0) = false := by
    intro y hy
    obtain ⟨j, hj, rfl⟩ := List.getElem_of_mem hy
    have := htop j hj
    rwa [show at_ hl j = hl[j] by simp [at_, List.getD_eq_getElem?_getD, hj]] at this
  generalize at_ hl 0 = x at *
  obtain ⟨r, h1, h2, h3, h4, h5⟩ := h.hd x hx
  have hlt : x.run < rds.length := (List.getElem?_eq_some_iff.1 h1).1
  have hre : rds[x.run] = r := (List.getElem?_eq_some_iff.1 h1).2
  have hsp : rds = rds.take x.run ++ r :: rds.drop (x.run + 1) := by
    rw [← hre, ← List.drop_eq_getElem_cons hlt, List.take_append_drop]
  have key : ∀ j q u s', rds[j]? = some q → remOf q = u :: s' → ∃ y ∈ hl, y.run = j ∧ y.t = u := by
    intro j q u s' hq he
    have ho : q.opn = true := by
      cases hqo : q.opn with
      | true => rfl
      | false => unfold remOf at he; rw [hqo] at he; cases he
    obtain ⟨y, hy, rfl⟩ := h.ex j q hq ho
    obtain ⟨q', k1, k2, k3, k4, k5⟩ := h.hd y hy
    rw [hq] at k1; cases k1
    exact ⟨y, hy, rfl, (remOf_head k5 he).symm⟩
  refine ⟨rds.take x.run, r, rds.drop (x.run + 1), hsp, by rw [List.length_take]; omega, h2, h3, h4, h5, ?_, ?_, ?_⟩
  · unfold remOf
    rw [if_pos h2]
    obtain ⟨k1, k2⟩ := List.getElem?_eq_some_iff.1 h5
    rw [List.drop_eq_getElem_cons k1, k2, show r.pos - 1 + 1 = r.pos by omega]
  · intro s hs
    obtain ⟨q, hq, rfl⟩ := List.mem_map.1 hs
    refine ⟨remOf_sd (h.sd q (List.mem_of_mem_take hq)), fun u s' he => ?_⟩
    obtain ⟨j, hj, e⟩ := List.getElem_of_mem hq
    rw [List.length_take] at hj
    rw [List.getElem_take] at e
    obtain ⟨y, hy, hyj, rfl⟩ := key j q u s' (List.getElem?_eq_some_iff.2 ⟨by omega, e⟩) he
    have := hle y hy
    simp only [ltH, ltO, decide_eq_false_iff_not, decide_eq_true_eq] at this ⊢
    have := cmpT_swap o y.t x.t
    omega
  · intro s hs
    obtain ⟨q, hq, rfl⟩ := List.mem_map.1 hs
    refine ⟨remOf_sd (h.sd q (List.mem_of_mem_drop hq)), fun u s' he => ?_⟩
    obtain ⟨j, hj, e⟩ := List.getElem_of_mem hq
    rw [List.length_drop] at hj
    rw [List.getElem_drop] at e
    obtain ⟨y, hy, hyj, rfl⟩ := key (x.run + 1 + j) q u s' (List.getElem?_eq_some_iff.2 ⟨by omega, e⟩) he
    have := hle y hy
    simp only [ltH, ltO, decide_eq_false_iff_not] at this ⊢
    omega
end Go.Proofs.YtdkihpjnidhnmaaGreat
namespace Go.SL
section apart
variable {Q : Exit → Act → World → Prop} {w0 : World} {S : List Nat} {n : Nat} {L : Slots} {D : List Deferred} {H : Hp}
theorem Dn.nodup {e : Exit} (h : (keys H).Nodup → Dn Q w0 S n e L D H) : Dn Q w0 S n e L D H := by
  unfold Dn at h ⊢
  exact fun a w hf hD hw => h hw.nodup a w hf hD hw
theorem apart_take {H Ha Hb : Hp} {c1 c2 : Chunk} (h : (keys H).Nodup) (h1 : Take c1 H Ha) (h2 : Take c2 Ha Hb) : ∀ k ∈ c1.map (·.1), k ∉ c2.map (·.1) := by
  unfold Take at h1 h2
  have h3 : H.flatten.Perm (c1 ++ (c2 ++ Hb.flatten)) := h1.trans (List.Perm.append_left _ h2)
  unfold keys at h
  have h4 := (h3.map (fun p => p.1)).nodup_iff.1 h
  rw [List.map_append, List.map_append] at h4
  intro k hk hk2
  exact (List.nodup_append.1 h4).2.2 k hk k (List.mem_append_left _ hk2) rfl
variable {P : Program} {ops : Array Oper} {cls : Nat → Oper → Cls} {k : Nat} {l : List (Nat × Oper)} {qs : List Rd}
theorem putP_perm {c c1 c2 : Chunk} {Ha Hb : Hp} (h1 : Take c1 H Ha) (h2 : Take c2 Ha Hb) (hp : (c1 ++ c2).Perm c) : H.flatten.Perm ((c :: Hb).flatten) := by
  refine (join_perm h1 h2).trans ?_
  simp only [List.flatten_cons]
  exact hp.append_right _
theorem R.joinP {c c1 c2 : Chunk} {Ha Hb : Hp} (hp : (c1 ++ c2).Perm c) (h1 : Take c1 H Ha) (h2 : Take c2 Ha Hb) (h : R P ops Q cls w0 S n l L D (c :: Hb) qs) : R P ops Q cls w0 S n l L D H qs := R.recut (putP_perm h1 h2 hp) h
theorem Dn.joinP {e : Exit} {c c1 c2 : Chunk} {Ha Hb : Hp} (hp : (c1 ++ c2).Perm c) (h1 : Take c1 H Ha) (h2 : Take c2 Ha Hb) (h : Dn Q w0 S n e L D (c :: Hb)) : Dn Q w0 S n e L D H := Dn.recut (putP_perm h1 h2 hp) h
end apart
end Go.SL
namespace Go.Proofs.YtdkihpjnidhnmaaGreat
open Go.SL Go.Spc Go.Tup Go.Srt
def Rdr.src (r : Rdr) : Fl × List T5 := (r.f, r.ts)
theorem RdSt.bx_mem {bw : Nat} {W : Wk} {r : Rdr} (h : RdSt bw W r) : r.bx ∈ r.cx.map (·.1) := by
  unfold RdSt at h
  split at h
  · obtain ⟨_, buf, n, a, e, _⟩ := h
    rw [e]; simp
  · obtain ⟨_, _, _, _, _, _, _, e⟩ := h
    rw [e]; simp
theorem bx_apart {bw : Nat} {W : Wk} {rds : List Rdr} (h : ∀ r ∈ rds, RdSt bw W r) {b : Nat} (hb : b ∉ (rdAll rds).map (·.1)) : b ∉ rds.map (·.bx) := by
  intro hm
  obtain ⟨r, hr, rfl⟩ := List.mem_map.1 hm
  apply hb
  obtain ⟨p, hp, e⟩ := List.mem_map.1 (h r hr).bx_mem
  rw [← e]
  refine List.mem_map.2 ⟨p, ?_, rfl⟩
  unfold rdAll
  exact List.mem_flatMap.2 ⟨r, hr, List.mem_append_left _ hp⟩
theorem sd_weak {o : T5} {once : Bool} {l : List T5} (h : Sd (ltO o) once l) : Sd (ltO o) false l := by
  cases once with
  | false => exact h
  | true =>
    unfold Sd at *
    refine h.imp fun hab => ?_
    simp only [if_true] at hab
    simp only [Bool.false_eq_true, if_false]
    exact (ltO_swo o).asym _ _ hab
theorem MSt.permH {bw : Nat} {W : Wk} {o : T5} {rds : List Rdr} {hl hl' : List Hd} (h : MSt bw W o rds hl) (hp : hl'.Perm hl) : MSt bw W o rds hl' where
  rd := h.rd
  nd := h.nd
  hd := fun x hx => h.hd x (hp.mem_iff.1 hx)
  ex := fun j r hj ho => by
    obtain ⟨x, hx, e⟩ := h.ex j r hj ho
    exact ⟨x, hp.mem_iff.2 hx, e⟩
  one := ((hp.map _).nodup_iff).2 h.one
  sd := h.sd
theorem MSt.move {bw : Nat} {W W' : Wk} {o : T5} {rds : List Rdr} {hl : List Hd} (h : MSt bw W o rds hl) (hs : W'.δ.size = W.δ.size) : MSt bw W' o rds hl :=
  { h with rd := fun r hr => (h.rd r hr).move hs }
theorem MSt.nil (bw : Nat) (W : Wk) (o : T5) : MSt bw W o [] [] := ⟨by simp, by simp, by simp, by simp, by simp, by simp⟩
theorem MSt.add {bw : Nat} {W W' : Wk} {o : T5} {rds : List Rdr} {hl : List Hd} {r : Rdr} {t : T5} (h : MSt bw W o rds hl) (hs : W'.δ.size = W.δ.size) (hr : RdSt bw W' r) (ho : r.opn = true) (hp : 0 < r.pos) (ht : r.ts[r.pos - 1]? = some t)
    (hb : r.bx ∉ rds.map (·.bx)) (hsd : Sd (ltO o) false r.ts) : MSt bw W' o (rds ++ [r]) (hl ++ [⟨t, rds.length, r.bx⟩]) where
  rd := fun q hq => by
    rcases List.mem_append.1 hq with hq | hq
    · exact (h.rd q hq).move hs
    · simp only [List.mem_singleton] at hq; subst hq; exact hr
  nd := by
    rw [List.map_append, List.nodup_append]
    refine ⟨h.nd, by simp, ?_⟩
    intro a ha b hb2 e
    simp only [List.map_cons, List.map_nil, List.mem_singleton] at hb2
    subst hb2; subst e; exact hb ha
  hd := fun x hx => by
    rcases List.mem_append.1 hx with hx | hx
    · obtain ⟨q, h1, h2⟩ := h.hd x hx
      exact ⟨q, by rw [List.getElem?_append_left (List.getElem?_eq_some_iff.1 h1).1]; exact h1, h2⟩
    · simp only [List.mem_singleton] at hx; subst hx
      exact ⟨r, by simp, ho, rfl, hp, ht⟩
  ex := fun j q hj hq => by
    by_cases hlt : j < rds.length
    · rw [List.getElem?_append_left hlt] at hj
      obtain ⟨x, hx, e⟩ := h.ex j q hj hq
      exact ⟨x, List.mem_append_left _ hx, e⟩
    · have hjl := (List.getElem?_eq_some_iff.1 hj).1
      rw [List.length_append, List.length_singleton] at hjl
      obtain rfl : j = rds.length := by omega
      exact ⟨_, List.mem_append_right _ List.mem_cons_self, rfl⟩
  one := by
    rw [List.map_append, List.nodup_append]
    refine ⟨h.one, by simp, ?_⟩
    intro a ha b hb2 e
    simp only [List.map_cons, List.map_nil, List.mem_singleton] at hb2
    subst hb2; subst e
    obtain ⟨x, hx, e⟩ := List.mem_map.1 ha
    obtain ⟨q, h1, _⟩ := h.hd x hx
    have := (List.getElem?_eq_some_iff.1 h1).1
    omega
  sd := fun q hq => by
    rcases List.mem_append.1 hq with hq | hq
    · exact h.sd q hq
    · simp only [List.mem_singleton] at hq; subst hq; exact hsd
theorem mid_get {α : Type} {A B : List α} {r r' : α} {j : Nat} (h : j ≠ A.length) : (A ++ r' :: B)[j]? = (A ++ r :: B)[j]? := by
  by_cases hlt : j < A.length
  · rw [List.getElem?_append_left hlt, List.getElem?_append_left hlt]
  · rw [List.getElem?_append_right (by omega), List.getElem?_append_right (by omega)]
    obtain ⟨i, hi⟩ : ∃ i, j - A.length = i + 1 := ⟨j - A.length - 1, by omega⟩
    rw [hi]; simp
theorem mid_at {α : Type} {A B : List α} {r : α} : (A ++ r :: B)[A.length]? = some r := by simp
/-- the top's reader goes on -/
theorem MSt.step {bw : Nat} {W W' : Wk} {o : T5} {A B : List Rdr} {r r' : Rdr} {x : Hd} {tl : List Hd} {t : T5} (h : MSt bw W o (A ++ r :: B) (x :: tl)) (hA : A.length = x.run) (hs : W'.δ.size = W.δ.size) (hr : RdSt bw W' r') (hb : r'.bx = r.bx) (hx : r.bx = x.rd) (hts : r'.ts = r.ts) (ho : r'.opn = true) (hp : 0 < r'.pos)
    (ht : r'.ts[r'.pos - 1]? = some t) : MSt bw W' o (A ++ r' :: B) ({ x with t := t } :: tl) where
  rd := fun q hq => by
    rcases List.mem_append.1 hq with hq | hq
    · exact (h.rd q (List.mem_append_left _ hq)).move hs
    · rcases List.mem_cons.1 hq with rfl | hq
      · exact hr
      · exact (h.rd q (List.mem_append_right _ (List.mem_cons_of_mem _ hq))).move hs
  nd := by have := h.nd; simp only [List.map_append, List.map_cons, hb] at this ⊢; exact this
  hd := fun y hy => by
    have hone := h.one
    rw [List.map_cons, List.nodup_cons] at hone
    rcases List.mem_cons.1 hy with rfl | hy
    · exact ⟨r', by dsimp only; rw [← hA]; exact mid_at, ho, hb.trans hx, hp, ht⟩
    · obtain ⟨q, h1, h2⟩ := h.hd y (List.mem_cons_of_mem _ hy)
      refine ⟨q, ?_, h2⟩
      rw [mid_get (r := r) (by rw [hA]; intro e; exact hone.1 (List.mem_map.2 ⟨y, hy, e⟩))]
      exact h1
  ex := fun j q hj hq => by
    by_cases e : j = A.length
    · exact ⟨_, List.mem_cons_self, by dsimp only; omega⟩
    · rw [mid_get (r := r) e] at hj
      obtain ⟨y, hy, e2⟩ := h.ex j q hj hq
      rcases List.mem_cons.1 hy with rfl | hy
      · omega
      · exact ⟨y, List.mem_cons_of_mem _ hy, e2⟩
  one := by have := h.one; simpa using this
  sd := fun q hq => by
    rcases List.mem_append.1 hq with hq | hq
    · exact h.sd q (List.mem_append_left _ hq)
    · rcases List.mem_cons.1 hq with rfl | hq
      · rw [hts]; exact h.sd r (by simp)
      · exact h.sd q (List.mem_append_right _ (List.mem_cons_of_mem _ hq))
/-- the top's reader is closed -/
theorem MSt.close {bw : Nat} {W W' : Wk} {o : T5} {A B : List Rdr} {r r' : Rdr} {x : Hd} {tl : List Hd} (h : MSt bw W o (A ++ r :: B) (x :: tl)) (hA : A.length = x.run) (hs : W'.δ.size = W.δ.size) (hr : RdSt bw W' r') (hb : r'.bx = r.bx) (hts : r'.ts = r.ts) (ho : r'.opn = false) :
    MSt bw W' o (A ++ r' :: B) tl where
  rd := fun q hq => by
    rcases List.mem_append.1 hq with hq | hq
    · exact (h.rd q (List.mem_append_left _ hq)).move hs
    · rcases List.mem_cons.1 hq with rfl | hq
      · exact hr
      · exact (h.rd q (List.mem_append_right _ (List.mem_cons_of_mem _ hq))).move hs
  nd := by have := h.nd; simp only [List.map_append, List.map_cons, hb] at this ⊢; exact this
  hd := fun y hy => by
    have hone := h.one
    rw [List.map_cons, List.nodup_cons] at hone
    obtain ⟨q, h1, h2⟩ := h.hd y (List.mem_cons_of_mem _ hy)
    refine ⟨q, ?_, h2⟩
    rw [mid_get (r := r) (by rw [hA]; intro e; exact hone.1 (List.mem_map.2 ⟨y, hy, e⟩))]
    exact h1
  ex := fun j q hj hq => by
    by_cases e : j = A.length
    · subst e; rw [mid_at] at hj; cases hj; rw [ho] at hq; cases hq
    · rw [mid_get (r := r) e] at hj
      obtain ⟨y, hy, e2⟩ := h.ex j q hj hq
      rcases List.mem_cons.1 hy with rfl | hy
      · omega
      · exact ⟨y, hy, e2⟩
  one := by have := h.one; rw [List.map_cons, List.nodup_cons] at this; exact this.2
  sd := fun q hq => by
    rcases List.mem_append.1 hq with hq | hq
    · exact h.sd q (List.mem_append_left _ hq)
    · rcases List.mem_cons.1 hq with rfl | hq
      · rw [hts]; exact h.sd r (by simp)
      · exact h.sd q (List.mem_append_right _ (List.mem_cons_of_mem _ hq))
/-- what closing them all asks -/
structure CSt (bw : Nat) (W : Wk) (rs : List Rdr) (l : List Hd) : Prop where
  rd : ∀ r ∈ rs, RdSt bw W r
  lr : ∀ x ∈ l, ∃ r ∈ rs, r.bx = x.rd
  rl : ∀ r ∈ rs, r.opn = true → ∃ x ∈ l, x.rd = r.bx
  nd : (rs.map (·.bx)).Nodup
theorem CSt.move {bw : Nat} {W W' : Wk} {rs : List Rdr} {l : List Hd} (h : CSt bw W rs l) (hs : W'.δ.size = W.δ.size) : CSt bw W' rs l := { h with rd := fun r hr => (h.rd r hr).move hs }
theorem MSt.cst {bw : Nat} {W : Wk} {o : T5} {rds : List Rdr} {hl : List Hd} (h : MSt bw W o rds hl) : CSt bw W rds hl where
  rd := h.rd
  lr := fun x hx => by
    obtain ⟨r, h1, _, h2, _⟩ := h.hd x hx
    exact ⟨r, List.mem_of_getElem? h1, h2⟩
  rl := fun r hr ho => by
    obtain ⟨j, hj, e⟩ := List.getElem_of_mem hr
    obtain ⟨x, hx, e2⟩ := h.ex j r (by rw [List.getElem?_eq_getElem hj, e]) ho
    obtain ⟨q, h1, _, h2, _⟩ := h.hd x hx
    rw [e2, List.getElem?_eq_getElem hj, e] at h1
    cases h1
    exact ⟨x, hx, h2.symm⟩
  nd := h.nd
/-- one closed -/
theorem CSt.one {bw : Nat} {W W' : Wk} {A B : List Rdr} {r r' : Rdr} {l : List Hd} (h : CSt bw W (A ++ r :: B) l) (hs : W'.δ.size = W.δ.size) (hr : RdSt bw W' r') (hb : r'.bx = r.bx) (ho : r'.opn = false) : CSt bw W' (A ++ r' :: B) l where
  rd := fun q hq => by
    rcases List.mem_append.1 hq with hq | hq
    · exact (h.rd q (List.mem_append_left _ hq)).move hs
    · rcases List.mem_cons.1 hq with rfl | hq
      · exact hr
      · exact (h.rd q (List.mem_append_right _ (List.mem_cons_of_mem _ hq))).move hs
  lr := fun x hx => by
    obtain ⟨q, hq, e⟩ := h.lr x hx
    rcases List.mem_append.1 hq with hq | hq
    · exact ⟨q, List.mem_append_left _ hq, e⟩
    · rcases List.mem_cons.1 hq with rfl | hq
      · exact ⟨r', List.mem_append_right _ List.mem_cons_self, hb.trans e⟩
      · exact ⟨q, List.mem_append_right _ (List.mem_cons_of_mem _ hq), e⟩
  rl := fun q hq hqo => by
    rcases List.mem_append.1 hq with hq | hq
    · exact h.rl q (List.mem_append_left _ hq) hqo
    · rcases List.mem_cons.1 hq with rfl | hq
      · rw [ho] at hqo; cases hqo
      · exact h.rl q (List.mem_append_right _ (List.mem_cons_of_mem _ hq)) hqo
  nd := by have := h.nd; simp only [List.map_append, List.map_cons, hb] at this ⊢; exact this
/-- what the readers have read, in blocks; what is left, in tuples -/
def rdA (s k : Nat) (rds : List Rdr) : Nat := (rds.map fun r => nblocks s k r.pos).sum
def left (rds : List Rdr) : List T5 := (rds.map remOf).flatten
theorem rdA_mid (s k : Nat) (A B : List Rdr) (r : Rdr) : rdA s k (A ++ r :: B) = rdA s k A + (nblocks s k r.pos + rdA s k B) := by simp [rdA, List.sum_append]
theorem left_mid (A B : List Rdr) (r : Rdr) : left (A ++ r :: B) = left A ++ (remOf r ++ left B) := by simp [left]
theorem rdA_app (s k : Nat) (A : List Rdr) (r : Rdr) : rdA s k (A ++ [r]) = rdA s k A + nblocks s k r.pos := by simp [rdA, List.sum_append]
theorem rdGrants_app (A : List Rdr) (r : Rdr) : rdGrants (A ++ [r]) = rdGrants A ++ (if r.opn = true then [r.g] else []) := by
  unfold rdGrants
  rw [List.filter_append, List.map_append]
  congr 1
  by_cases h : r.opn = true
  · rw [if_pos h, List.filter_cons_of_pos h]; rfl
  · rw [if_neg h, List.filter_cons_of_neg h]; rfl
theorem rdAll_mid (A B : List Rdr) (r : Rdr) : (rdAll (A ++ r :: B)).Perm ((r.cx ++ r.cb) ++ rdAll (A ++ B)) := by
  have h : (A ++ r :: B).Perm (r :: (A ++ B)) := List.perm_middle
  refine (rdAll_perm h).trans ?_
  simp [rdAll]
theorem rdGrants_mid (A B : List Rdr) (r : Rdr) (ho : r.opn = true) : (rdGrants (A ++ r :: B)).Perm (r.g :: rdGrants (A ++ B)) := by
  have h : (A ++ r :: B).Perm (r :: (A ++ B)) := List.perm_middle
  refine (rdGrants_perm h).trans ?_
  unfold rdGrants; rw [List.filter_cons_of_pos ho]; exact .refl _
theorem rdGrants_mid0 (A B : List Rdr) (r : Rdr) (ho : r.opn = false) : (rdGrants (A ++ r :: B)).Perm (rdGrants (A ++ B)) := by
  have h : (A ++ r :: B).Perm (r :: (A ++ B)) := List.perm_middle
  refine (rdGrants_perm h).trans ?_
  unfold rdGrants; rw [List.filter_cons_of_neg (by simp [ho])]
theorem rdA_le {s k : Nat} {rds : List Rdr} (h : ∀ r ∈ rds, r.pos ≤ r.f.count) : rdA s k rds ≤ ((rds.map Rdr.src).map fun r => nblocks s k r.1.count).sum := by
  induction rds with
  | nil => simp [rdA]
  | cons r rds ih =>
    have h1 := ih fun q hq => h q (List.mem_cons_of_mem _ hq)
    have h2 : nblocks s k r.pos ≤ nblocks s k r.f.count := nblocks_mono (h r List.mem_cons_self)
    simp only [rdA, List.map_cons, List.sum_cons, Rdr.src] at h1 ⊢
    omega
end Go.Proofs.YtdkihpjnidhnmaaGreat
