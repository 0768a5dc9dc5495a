/-
  Slices of tuples, and sorted ones. No condition.
-/
import Derived.Test.YtigenhcekepeaaaSl3
import Derived.Test.YtigenhcekepeaaaTupMore
namespace Go.Tup
open Go.SL

def tcells (t : T5) : List Value := [.int .i64 t.c0, .int .i64 t.c1, .int .i64 t.c2, .int .i64 t.c3, .int .i64 t.c4]
def flat : List T5 → List Value
  | [] => []
  | t :: ts => tcells t ++ flat ts

theorem flat_length : ∀ ts, (flat ts).length = ts.length * 5
  | [] => rfl
  | t :: ts => by simp [flat, flat_length ts, tcells]; omega

theorem flat_append : ∀ (ts us : List T5), flat (ts ++ us) = flat ts ++ flat us
  | [], us => rfl
  | t :: ts, us => by simp [flat, flat_append ts us]

theorem flat_drop : ∀ (ts : List T5) (i : Nat), (flat ts).drop (i * 5) = flat (ts.drop i)
  | ts, 0 => by simp
  | [], i + 1 => by simp [flat]
  | t :: ts, i + 1 => by
    have := flat_drop ts i
    rw [flat, List.drop_append, List.drop_eq_nil_of_le (by simp [tcells]; omega), List.nil_append, List.drop_succ_cons, ← this]
    congr 1
    simp [tcells]; omega

theorem flat_all (ts : List T5) : (flat ts).all Value.oneCell' = true := by
  induction ts with
  | nil => rfl
  | cons t ts ih => rw [flat, List.all_append, ih]; rfl

/-- a slice that is read: its tuples, and the block that they lie in -/
def RV (p : Option Addr) (n : Nat) (ts : List T5) (c : Chunk) : Prop :=
  ts.length = n ∧ ((n = 0 ∧ c = []) ∨ ∃ b off cs T fz, p = some ⟨b, off, none⟩ ∧ c = [(b, rowf cs T fz)] ∧ (cs.drop off).take (n * 5) = flat ts)

theorem RV.pos {p : Option Addr} {n : Nat} {ts : List T5} {c : Chunk} (h : RV p n ts c) (hn : 0 < n) : ∃ b off cs T fz, p = some ⟨b, off, none⟩ ∧ c = [(b, rowf cs T fz)] ∧
    ∀ i, i < n → (cs.drop (off + i * 5)).take 5 = tcells (ts.getD i ⟨0, 0, 0, 0, 0⟩) := by
  obtain ⟨hl, ⟨h0, _⟩ | ⟨b, off, cs, T, fz, rfl, rfl, h⟩⟩ := h
  · omega
  · refine ⟨b, off, cs, T, fz, rfl, rfl, fun i hi => ?_⟩
    have h2 := congrArg (fun l => (l.drop (i * 5)).take 5) h
    simp only [flat_drop] at h2
    rw [List.drop_take, List.drop_drop, List.take_take] at h2
    rw [show min 5 (n * 5 - i * 5) = 5 by omega] at h2
    rw [h2]
    have hi' : i < ts.length := by omega
    rw [List.drop_eq_getElem_cons hi', flat, List.take_left' (by simp [tcells])]
    congr 1
    simp [List.getD_eq_getElem?_getD, hi']

theorem RV.ofVec {E : Nat} {p : Option Addr} {n cap : Nat} {ts : List T5} {c : Chunk} (h : Vec E 5 p n cap (flat ts) c) : ts.length = n ∧ ∃ c', c = c' ∧ (RV p n ts c' ∨ (n = 0 ∧ True)) := by
  have hl : ts.length = n := by have := h.1; rw [flat_length] at this; omega
  refine ⟨hl, c, rfl, ?_⟩
  rcases h.2 with ⟨_, h0, _, hc⟩ | ⟨b, rest, hp, hc, _, _, _⟩
  · exact .inr ⟨h0, trivial⟩
  · refine .inl ⟨hl, .inr ⟨b, 0, flat ts ++ rest, E, (0, 0), hp, hc, ?_⟩⟩
    rw [List.drop_zero, ← h.1, List.take_left]

theorem RV.vec {E : Nat} {p : Option Addr} {n cap : Nat} {ts : List T5} {c : Chunk} (h : Vec E 5 p n cap (flat ts) c) : RV p n ts c := by
  have hl : ts.length = n := by have := h.1; rw [flat_length] at this; omega
  rcases h.2 with ⟨_, h0, _, hc⟩ | ⟨b, rest, hp, hc, _, _, _⟩
  · exact ⟨hl, .inl ⟨h0, hc⟩⟩
  · refine ⟨hl, .inr ⟨b, 0, flat ts ++ rest, E, (0, 0), hp, hc, ?_⟩⟩
    rw [List.drop_zero, ← h.1, List.take_left]

def at5 (ts : List T5) (i : Nat) : T5 := ts.getD i ⟨0, 0, 0, 0, 0⟩

/-- each behind those that it is not ahead of -/
def sortedB (o : T5) (ts : List T5) : Bool := (List.range ts.length).all fun i => decide (i = 0 ∨ 0 ≤ cmpT o (at5 ts i) (at5 ts (i - 1)))

theorem sortedB_iff {o : T5} {ts : List T5} : sortedB o ts = true ↔ ∀ i, 0 < i → i < ts.length → 0 ≤ cmpT o (at5 ts i) (at5 ts (i - 1)) := by
  unfold sortedB
  simp only [List.all_eq_true, List.mem_range, decide_eq_true_eq]
  constructor
  · intro h i h0 hi
    rcases h i hi with h | h
    · omega
    · exact h
  · intro h i hi
    rcases Nat.eq_zero_or_pos i with h0 | h0
    · exact .inl h0
    · exact .inr (h i h0 hi)

theorem sortedB_no {o : T5} {ts : List T5} {i : Nat} (h0 : 0 < i) (hi : i < ts.length) (h : cmpT o (at5 ts i) (at5 ts (i - 1)) < 0) : sortedB o ts = false := by
  cases hs : sortedB o ts with
  | false => rfl
  | true => have := sortedB_iff.1 hs i h0 hi; omega

/-- a tuple is laid over another one -/
theorem setL_flat : ∀ (us : List T5) (i : Nat) (t : T5) (rest : List Value), i < us.length → setL (flat us ++ rest) (i * 5) (tcells t) = flat (us.set i t) ++ rest
  | u :: us, 0, t, rest, _ => by simp [flat, setL, tcells]
  | u :: us, i + 1, t, rest, h => by
    have ih := setL_flat us i t rest (by simpa using h)
    have hs : ∀ (a : List Value) (vs cs : List Value) (off : Nat), setL (a ++ cs) (a.length + off) vs = a ++ setL cs off vs := by
      intro a vs
      induction vs with
      | nil => intro cs off; rfl
      | cons v vs ihv =>
        intro cs off
        simp only [setL]
        rw [List.set_append_right _ _ (by omega), show a.length + off - a.length = off by omega, show a.length + off + 1 = a.length + (off + 1) by omega]
        exact ihv _ _
    have := hs (tcells u) (tcells t) (flat us ++ rest) (i * 5)
    rw [ih] at this
    simp only [flat, List.set_cons_succ, List.append_assoc]
    rw [← this]
    congr 1
    simp [tcells]; omega

theorem atSet (us : List T5) (i j : Nat) (t : T5) (hi : i < us.length) : at5 (us.set i t) j = if j = i then t else at5 us j := by
  unfold at5
  simp only [List.getD_eq_getElem?_getD, List.getElem?_set]
  by_cases h : i = j
  · subst h; simp [hi]
  · have h' : ¬ j = i := fun e => h e.symm
    simp [h, h']

theorem atApp (us : List T5) (t : T5) (j : Nat) (hj : j < us.length) : at5 (us ++ [t]) j = at5 us j := by
  unfold at5
  simp [List.getD_eq_getElem?_getD, List.getElem?_append_left hj]

/-- a row with one more laid in keeps sorted -/
theorem sorted_ins {o : T5} {ts us : List T5} {x : T5} {k : Nat} (hs : sortedB o ts = true) (hk : k ≤ ts.length) (hl : us.length = ts.length + 1) (h1 : ∀ i, i < k → at5 us i = at5 ts i)
    (h2 : at5 us k = x) (h3 : ∀ i, k < i → i ≤ ts.length → at5 us i = at5 ts (i - 1)) (ha : 0 < k → 0 ≤ cmpT o x (at5 ts (k - 1))) (hb : k < ts.length → cmpT o x (at5 ts k) < 0) : sortedB o us = true := by
  rw [sortedB_iff] at hs ⊢
  intro i h0 hi
  rcases Nat.lt_trichotomy i k with h | h | h
  · rw [h1 i h, h1 (i - 1) (by omega)]
    exact hs i h0 (by omega)
  · subst h
    rw [h2, h1 (i - 1) (by omega)]
    exact ha h0
  · by_cases hk1 : i = k + 1
    · subst hk1
      rw [h3 (k + 1) (by omega) (by omega), show k + 1 - 1 = k by omega, h2]
      have := hb (by omega)
      have := cmpT_swap o (at5 ts k) x
      omega
    · rw [h3 i h (by omega), h3 (i - 1) (by omega) (by omega)]
      exact hs (i - 1) (by omega) (by omega)
end Go.Tup
