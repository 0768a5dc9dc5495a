/-
  More of the layer tuple in plain words: orders turned, cut short, and the order of three tuples. No condition.
-/
import Derived.Test.YtigenhcekepeaaaTupPlain
namespace Go.Tup

theorem T5.eq_iff (x y : T5) : x = y ↔ x.c0 = y.c0 ∧ x.c1 = y.c1 ∧ x.c2 = y.c2 ∧ x.c3 = y.c3 ∧ x.c4 = y.c4 := by
  cases x; cases y; simp only [T5.mk.injEq]

theorem formed_all (o0 o1 o2 o3 o4 : Int) : formed ⟨o0, o1, o2, o3, o4⟩ = true ↔ (-5 ≤ o0 ∧ o0 ≤ 5) ∧ (-5 ≤ o1 ∧ o1 ≤ 5) ∧ (-5 ≤ o2 ∧ o2 ≤ 5) ∧ (-5 ≤ o3 ∧ o3 ≤ 5) ∧ (-5 ≤ o4 ∧ o4 ≤ 5) ∧
    apartO o0 o1 ∧ apartO o0 o2 ∧ apartO o0 o3 ∧ apartO o0 o4 ∧ apartO o1 o2 ∧ apartO o1 o3 ∧ apartO o1 o4 ∧ apartO o2 o3 ∧ apartO o2 o4 ∧ apartO o3 o4 := by
  rw [formed_iff]
  constructor
  · intro h
    exact ⟨(h 0 (by decide)).1, (h 1 (by decide)).1, (h 2 (by decide)).1, (h 3 (by decide)).1, (h 4 (by decide)).1,
      (h 1 (by decide)).2 0 (by decide), (h 2 (by decide)).2 0 (by decide), (h 3 (by decide)).2 0 (by decide), (h 4 (by decide)).2 0 (by decide),
      (h 2 (by decide)).2 1 (by decide), (h 3 (by decide)).2 1 (by decide), (h 4 (by decide)).2 1 (by decide), (h 3 (by decide)).2 2 (by decide), (h 4 (by decide)).2 2 (by decide), (h 4 (by decide)).2 3 (by decide)⟩
  · rintro ⟨b0, b1, b2, b3, b4, a01, a02, a03, a04, a12, a13, a14, a23, a24, a34⟩ i hi
    match i, hi with
    | 0, _ => exact ⟨b0, fun k hk => by omega⟩
    | 1, _ => exact ⟨b1, fun k hk => by obtain rfl : k = 0 := by omega
                                        exact a01⟩
    | 2, _ => refine ⟨b2, fun k hk => ?_⟩
              obtain rfl | rfl : k = 0 ∨ k = 1 := by omega
              · exact a02
              · exact a12
    | 3, _ => refine ⟨b3, fun k hk => ?_⟩
              obtain rfl | rfl | rfl : k = 0 ∨ k = 1 ∨ k = 2 := by omega
              · exact a03
              · exact a13
              · exact a23
    | 4, _ => refine ⟨b4, fun k hk => ?_⟩
              obtain rfl | rfl | rfl | rfl : k = 0 ∨ k = 1 ∨ k = 2 ∨ k = 3 := by omega
              · exact a04
              · exact a14
              · exact a24
              · exact a34

theorem apartO_neg {x y : Int} : apartO (-x) (-y) ↔ apartO x y := by
  unfold apartO
  rw [Int.natAbs_neg, Int.natAbs_neg]
  omega

theorem formed_neg (o0 o1 o2 o3 o4 : Int) : formed ⟨-o0, -o1, -o2, -o3, -o4⟩ = formed ⟨o0, o1, o2, o3, o4⟩ := by
  rw [Bool.eq_iff_iff, formed_all, formed_all]
  simp only [apartO_neg]
  constructor <;> rintro ⟨h0, h1, h2, h3, h4, h⟩ <;> exact ⟨by omega, by omega, by omega, by omega, by omega, h⟩

theorem cmpL_neg : ∀ (l : List Int) (a b : T5), cmpL (l.map (- ·)) a b = cmpL l b a
  | [], _, _ => rfl
  | k :: l, a, b => by
    have ih := cmpL_neg l a b
    simp only [List.map_cons, cmpL, Int.natAbs_neg, ih]
    by_cases h0 : k = 0
    · simp [h0]
    · have h0' : ¬ (-k = 0) := by omega
      simp only [h0, h0', if_false]
      by_cases hn : k < 0
      · have hn' : ¬ (-k < 0) := by omega
        simp only [hn, hn', if_true, if_false]
      · have hn' : -k < 0 := by omega
        simp only [hn, hn', if_true, if_false]

theorem cmpT_neg (o0 o1 o2 o3 o4 : Int) (a b : T5) : cmpT ⟨-o0, -o1, -o2, -o3, -o4⟩ a b = cmpT ⟨o0, o1, o2, o3, o4⟩ b a := by
  unfold cmpT
  rw [formed_neg]
  have := cmpL_neg [o0, o1, o2, o3, o4] a b
  simp only [List.map_cons, List.map_nil] at this
  simp only [T5.toList, this]

theorem cutOneNeg (t : T5) (k : Int) : cut1 t (-k) = cut1 t k := by
  unfold cut1
  rw [Int.natAbs_neg]
  by_cases h : k = 0
  · simp [h]
  · rw [if_neg h, if_neg (by omega)]

theorem cut_neg (t : T5) (o0 o1 o2 o3 o4 : Int) : cut t ⟨-o0, -o1, -o2, -o3, -o4⟩ = cut t ⟨o0, o1, o2, o3, o4⟩ := by
  unfold cut
  rw [formed_neg]
  simp only [cutOneNeg]

theorem cmpSwap (x y : Int) : cmp3 y x = - cmp3 x y := by
  unfold cmp3
  by_cases h1 : x < y
  · rw [if_pos h1, if_neg (by omega), if_pos h1]; rfl
  · by_cases h2 : y < x
    · simp only [if_pos h2, if_neg h1]
    · simp only [if_neg h2, if_neg h1, Int.neg_zero]

theorem cmpL_swap : ∀ (l : List Int) (a b : T5), cmpL l a b = - cmpL l b a
  | [], _, _ => rfl
  | k :: l, a, b => by
    have ih := cmpL_swap l a b
    simp only [cmpL]
    by_cases h0 : k = 0
    · simp [h0]
    · simp only [h0, if_false]
      by_cases hn : k < 0
      · simp only [hn, if_true]
        rw [cmpSwap (a.col (k.natAbs - 1))]
        split <;> split <;> omega
      · simp only [hn, if_false]
        rw [cmpSwap (b.col (k.natAbs - 1))]
        split <;> split <;> omega

theorem cmpT_swap (o a b : T5) : cmpT o a b = - cmpT o b a := by
  unfold cmpT
  split
  · exact cmpL_swap _ a b
  · rfl

theorem cmpRange (x y : Int) : -1 ≤ cmp3 x y ∧ cmp3 x y ≤ 1 := by
  unfold cmp3
  split
  · decide
  · split <;> decide

theorem cmpZero {x y : Int} : cmp3 x y = 0 ↔ x = y := by
  unfold cmp3
  split
  · omega
  · split <;> omega

theorem cmpPos {x y : Int} : 0 < cmp3 x y ↔ y < x := by
  unfold cmp3
  split
  · omega
  · split <;> omega

theorem cmpL_range : ∀ (l : List Int) (a b : T5), -1 ≤ cmpL l a b ∧ cmpL l a b ≤ 1
  | [], _, _ => by simp [cmpL]
  | k :: l, a, b => by
    have ih := cmpL_range l a b
    have g1 := cmpRange (b.col (k.natAbs - 1)) (a.col (k.natAbs - 1))
    have g2 := cmpRange (a.col (k.natAbs - 1)) (b.col (k.natAbs - 1))
    simp only [cmpL]
    by_cases h0 : k = 0
    · simp [h0]
    · simp only [h0, if_false]
      split <;> split <;> assumption

theorem cmpT_range (o a b : T5) : -1 ≤ cmpT o a b ∧ cmpT o a b ≤ 1 := by
  unfold cmpT
  split
  · exact cmpL_range _ a b
  · omega

theorem cmpL_trans : ∀ (l : List Int) (a b c : T5), cmpL l a b ≤ 0 → cmpL l b c ≤ 0 → cmpL l a c ≤ 0
  | [], _, _, _, _, _ => by simp [cmpL]
  | k :: l, a, b, c, h1, h2 => by
    simp only [cmpL] at h1 h2 ⊢
    by_cases h0 : k = 0
    · simp [h0]
    · simp only [h0, if_false] at h1 h2 ⊢
      have ih := cmpL_trans l a b c
      by_cases hn : k < 0
      · simp only [hn, if_true] at h1 h2 ⊢
        generalize a.col (k.natAbs - 1) = x at *
        generalize b.col (k.natAbs - 1) = y at *
        generalize c.col (k.natAbs - 1) = z at *
        have e1 := @cmpZero y x
        have e2 := @cmpZero z y
        have e3 := @cmpZero z x
        have p1 := @cmpPos y x
        have p2 := @cmpPos z y
        have p3 := @cmpPos z x
        by_cases q1 : cmp3 y x = 0 <;> by_cases q2 : cmp3 z y = 0 <;> by_cases q3 : cmp3 z x = 0 <;> simp only [q1, q2, q3, ne_eq, not_true_eq_false, not_false_eq_true, if_true, if_false] at h1 h2 ⊢ <;> first | exact ih h1 h2 | omega
      · simp only [hn, if_false] at h1 h2 ⊢
        generalize a.col (k.natAbs - 1) = x at *
        generalize b.col (k.natAbs - 1) = y at *
        generalize c.col (k.natAbs - 1) = z at *
        have e1 := @cmpZero x y
        have e2 := @cmpZero y z
        have e3 := @cmpZero x z
        have p1 := @cmpPos x y
        have p2 := @cmpPos y z
        have p3 := @cmpPos x z
        by_cases q1 : cmp3 x y = 0 <;> by_cases q2 : cmp3 y z = 0 <;> by_cases q3 : cmp3 x z = 0 <;> simp only [q1, q2, q3, ne_eq, not_true_eq_false, not_false_eq_true, if_true, if_false] at h1 h2 ⊢ <;> first | exact ih h1 h2 | omega

theorem cmpT_trans (o a b c : T5) (h1 : cmpT o a b ≤ 0) (h2 : cmpT o b c ≤ 0) : cmpT o a c ≤ 0 := by
  unfold cmpT at h1 h2 ⊢
  split
  · rename_i hf
    rw [if_pos hf] at h1 h2
    exact cmpL_trans _ a b c h1 h2
  · omega

/-- behind a 0 zeros alone -/
def tidy : List Int → Prop
  | [] => True
  | k :: l => (k = 0 → ∀ x ∈ l, x = 0) ∧ tidy l

theorem cmpL_zero : ∀ (l : List Int) (a b : T5), tidy l → (cmpL l a b = 0 ↔ ∀ k ∈ l, cut1 a k = cut1 b k)
  | [], _, _, _ => by simp [cmpL]
  | k :: l, a, b, ht => by
    have ih := cmpL_zero l a b ht.2
    simp only [cmpL]
    by_cases h0 : k = 0
    · simp only [h0, if_true, true_iff]
      intro x hx
      rcases List.mem_cons.1 hx with rfl | hx
      · simp [cut1]
      · have := ht.1 h0 x hx
        simp [cut1, this]
    · simp only [h0, if_false]
      have hc : ∀ t : T5, cut1 t k = t.col (k.natAbs - 1) := fun t => by simp [cut1, h0]
      simp only [List.mem_cons, forall_eq_or_imp, hc]
      by_cases hn : k < 0
      · simp only [hn, if_true]
        have e := @cmpZero (b.col (k.natAbs - 1)) (a.col (k.natAbs - 1))
        by_cases hz : cmp3 (b.col (k.natAbs - 1)) (a.col (k.natAbs - 1)) = 0
        · simp only [hz, ne_eq, not_true_eq_false, if_false, ih]
          exact ⟨fun h => ⟨(e.1 hz).symm, h⟩, fun h => h.2⟩
        · simp only [hz, ne_eq, not_false_eq_true, if_true, false_iff]
          exact fun h => hz (e.2 h.1.symm)
      · simp only [hn, if_false]
        have e := @cmpZero (a.col (k.natAbs - 1)) (b.col (k.natAbs - 1))
        by_cases hz : cmp3 (a.col (k.natAbs - 1)) (b.col (k.natAbs - 1)) = 0
        · simp only [hz, ne_eq, not_true_eq_false, if_false, ih]
          exact ⟨fun h => ⟨(e.1 hz), h⟩, fun h => h.2⟩
        · simp only [hz, ne_eq, not_false_eq_true, if_true, false_iff]
          exact fun h => hz (e.2 h.1)

theorem apartO_zero {x y : Int} (h : apartO x y) (hx : x = 0) : y = 0 := Classical.byContradiction fun hy => h.1 ⟨hx, hy⟩

theorem formed_tidy {o0 o1 o2 o3 o4 : Int} (h : formed ⟨o0, o1, o2, o3, o4⟩ = true) : tidy [o0, o1, o2, o3, o4] := by
  obtain ⟨_, _, _, _, _, a01, a02, a03, a04, a12, a13, a14, a23, a24, a34⟩ := (formed_all ..).1 h
  refine ⟨fun e => ?_, fun e => ?_, fun e => ?_, fun e => ?_, fun e => ?_, trivial⟩
  · simp [apartO_zero a01 e, apartO_zero a02 e, apartO_zero a03 e, apartO_zero a04 e]
  · simp [apartO_zero a12 e, apartO_zero a13 e, apartO_zero a14 e]
  · simp [apartO_zero a23 e, apartO_zero a24 e]
  · simp [apartO_zero a34 e]
  · simp

theorem cmpT_zero {o0 o1 o2 o3 o4 : Int} (h : formed ⟨o0, o1, o2, o3, o4⟩ = true) (a b : T5) : cmpT ⟨o0, o1, o2, o3, o4⟩ a b = 0 ↔ cut a ⟨o0, o1, o2, o3, o4⟩ = cut b ⟨o0, o1, o2, o3, o4⟩ := by
  unfold cmpT cut
  simp only [h, if_true, T5.toList]
  rw [cmpL_zero _ a b (formed_tidy h)]
  simp only [List.mem_cons, List.not_mem_nil, or_false, forall_eq_or_imp, forall_eq, T5.mk.injEq]

theorem cmpL_app (a b : T5) (r : List Int) : ∀ (l : List Int), (∀ x ∈ l, x ≠ 0) → cmpL (l ++ r) a b = if cmpL l a b ≠ 0 then cmpL l a b else cmpL r a b
  | [], _ => by simp [cmpL]
  | k :: l, h => by
    have ih := cmpL_app a b r l (fun x hx => h x (List.mem_cons_of_mem _ hx))
    have h0 : k ≠ 0 := h k List.mem_cons_self
    simp only [List.cons_append, cmpL, h0, if_false, ih]
    generalize (if k < 0 then cmp3 (b.col (k.natAbs - 1)) (a.col (k.natAbs - 1)) else cmp3 (a.col (k.natAbs - 1)) (b.col (k.natAbs - 1))) = c
    by_cases hc : c = 0
    · simp [hc]
    · simp [hc]

theorem cmpL_z (a b : T5) (r : List Int) : cmpL (0 :: r) a b = 0 := by simp [cmpL]
theorem cmpL_one {a b : T5} {k : Int} (r : List Int) (h : ∀ x, r.head? = some x → x = 0) : cmpL (k :: r) a b = cmpL [k] a b := by
  simp only [cmpL]
  have : cmpL r a b = 0 := by
    match r, h with
    | [], _ => rfl
    | x :: r, h => rw [h x rfl, cmpL_z]
  simp [this]

/-- an order whose last column is struck -/
theorem cmpL_last (a b : T5) (l r : List Int) (k : Int) (hl : ∀ x ∈ l, x ≠ 0) (hr : ∀ x, r.head? = some x → x = 0) :
    (cmpL (l ++ 0 :: r) a b ≠ 0 → cmpL (l ++ k :: r) a b = cmpL (l ++ 0 :: r) a b) ∧ (cmpL (l ++ 0 :: r) a b = 0 → cmpL (l ++ k :: r) a b = cmpL [k] a b) := by
  rw [cmpL_app a b _ l hl, cmpL_app a b _ l hl, cmpL_z, cmpL_one r hr]
  by_cases h : cmpL l a b = 0
  · simp [h]
  · simp [h]

theorem formed_one {k : Int} (h : -5 ≤ k ∧ k ≤ 5) : formed ⟨k, 0, 0, 0, 0⟩ = true := by
  rw [formed_all]
  have z : ∀ x : Int, apartO x 0 := fun x => ⟨fun h => h.2 rfl, fun h => h.1 rfl⟩
  exact ⟨h, by decide, by decide, by decide, by decide, z _, z _, z _, z _, z _, z _, z _, z _, z _, z _⟩

theorem apart_z (x : Int) : apartO x 0 := ⟨fun h => h.2 rfl, fun h => h.1 rfl⟩

/-- the order without its column n -/
def lessT (o : T5) : Nat → T5
  | 1 => { o with c0 := 0 }
  | 2 => { o with c1 := 0 }
  | 3 => { o with c2 := 0 }
  | 4 => { o with c3 := 0 }
  | _ => { o with c4 := 0 }

theorem first_law {o0 o1 o2 o3 o4 : Int} (h : formed ⟨o0, o1, o2, o3, o4⟩ = true) (a b : T5) (n : Nat) (h1 : 1 ≤ n) (h5 : n ≤ 5) (hn : ∀ j, j < n → [o0, o1, o2, o3, o4].getD j 0 ≠ 0) (hz : n < 5 → [o0, o1, o2, o3, o4].getD n 0 = 0) :
    (cmpT (lessT ⟨o0, o1, o2, o3, o4⟩ n) a b ≠ 0 → cmpT ⟨o0, o1, o2, o3, o4⟩ a b = cmpT (lessT ⟨o0, o1, o2, o3, o4⟩ n) a b) ∧
    (cmpT (lessT ⟨o0, o1, o2, o3, o4⟩ n) a b = 0 → cmpT ⟨o0, o1, o2, o3, o4⟩ a b = cmpT ⟨[o0, o1, o2, o3, o4].getD (n - 1) 0, 0, 0, 0, 0⟩ a b) := by
  have hf := h
  obtain ⟨b0, b1, b2, b3, b4, a01, a02, a03, a04, a12, a13, a14, a23, a24, a34⟩ := (formed_all ..).1 h
  have g0 : 0 < n → o0 ≠ 0 := hn 0
  have g1 : 1 < n → o1 ≠ 0 := hn 1
  have g2 : 2 < n → o2 ≠ 0 := hn 2
  have g3 : 3 < n → o3 ≠ 0 := hn 3
  have g4 : 4 < n → o4 ≠ 0 := hn 4
  have tl : ∀ k, -5 ≤ k ∧ k ≤ 5 → cmpT ⟨k, 0, 0, 0, 0⟩ a b = cmpL [k] a b := fun k hk => by
    unfold cmpT
    rw [if_pos (formed_one hk)]
    exact cmpL_one _ (by simp)
  have te : cmpT ⟨o0, o1, o2, o3, o4⟩ a b = cmpL [o0, o1, o2, o3, o4] a b := by unfold cmpT; rw [if_pos h]; rfl
  rw [te]
  match n, h1, h5 with
  | 1, _, _ =>
    have z1 : o1 = 0 := hz (by decide)
    have z2 := apartO_zero a12 z1
    have z3 := apartO_zero a13 z1
    have z4 := apartO_zero a14 z1
    subst z1 z2 z3 z4
    have fl : formed ⟨0, 0, 0, 0, 0⟩ = true := by decide
    have := cmpL_last a b [] [0, 0, 0, 0] o0 (by simp) (by simp)
    show (cmpT ⟨0, 0, 0, 0, 0⟩ a b ≠ 0 → _ = cmpT ⟨0, 0, 0, 0, 0⟩ a b) ∧ (cmpT ⟨0, 0, 0, 0, 0⟩ a b = 0 → cmpL _ a b = cmpT ⟨o0, 0, 0, 0, 0⟩ a b)
    rw [tl o0 b0]
    have e : cmpT ⟨0, 0, 0, 0, 0⟩ a b = cmpL [0, 0, 0, 0, 0] a b := by unfold cmpT; rw [if_pos fl]; rfl
    rw [e]; exact this
  | 2, _, _ =>
    have z2 : o2 = 0 := hz (by decide)
    have z3 := apartO_zero a23 z2
    have z4 := apartO_zero a24 z2
    subst z2 z3 z4
    have fl : formed ⟨o0, 0, 0, 0, 0⟩ = true := formed_one b0
    have := cmpL_last a b [o0] [0, 0, 0] o1 (by simpa using g0 (by decide)) (by simp)
    show (cmpT ⟨o0, 0, 0, 0, 0⟩ a b ≠ 0 → _ = cmpT ⟨o0, 0, 0, 0, 0⟩ a b) ∧ (cmpT ⟨o0, 0, 0, 0, 0⟩ a b = 0 → cmpL _ a b = cmpT ⟨o1, 0, 0, 0, 0⟩ a b)
    rw [tl o1 b1]
    have e : cmpT ⟨o0, 0, 0, 0, 0⟩ a b = cmpL [o0, 0, 0, 0, 0] a b := by unfold cmpT; rw [if_pos fl]; rfl
    rw [e]; exact this
  | 3, _, _ =>
    have z3 : o3 = 0 := hz (by decide)
    have z4 := apartO_zero a34 z3
    subst z3 z4
    have fl : formed ⟨o0, o1, 0, 0, 0⟩ = true := (formed_all ..).2 ⟨b0, b1, by decide, by decide, by decide, a01, apart_z _, apart_z _, apart_z _, apart_z _, apart_z _, apart_z _, apart_z _, apart_z _, apart_z _⟩
    have := cmpL_last a b [o0, o1] [0, 0] o2 (by simp [g0 (by decide), g1 (by decide)]) (by simp)
    show (cmpT ⟨o0, o1, 0, 0, 0⟩ a b ≠ 0 → _ = cmpT ⟨o0, o1, 0, 0, 0⟩ a b) ∧ (cmpT ⟨o0, o1, 0, 0, 0⟩ a b = 0 → cmpL _ a b = cmpT ⟨o2, 0, 0, 0, 0⟩ a b)
    rw [tl o2 b2]
    have e : cmpT ⟨o0, o1, 0, 0, 0⟩ a b = cmpL [o0, o1, 0, 0, 0] a b := by unfold cmpT; rw [if_pos fl]; rfl
    rw [e]; exact this
  | 4, _, _ =>
    have z4 : o4 = 0 := hz (by decide)
    subst z4
    have fl : formed ⟨o0, o1, o2, 0, 0⟩ = true := (formed_all ..).2 ⟨b0, b1, b2, by decide, by decide, a01, a02, apart_z _, apart_z _, a12, apart_z _, apart_z _, apart_z _, apart_z _, apart_z _⟩
    have := cmpL_last a b [o0, o1, o2] [0] o3 (by simp [g0 (by decide), g1 (by decide), g2 (by decide)]) (by simp)
    show (cmpT ⟨o0, o1, o2, 0, 0⟩ a b ≠ 0 → _ = cmpT ⟨o0, o1, o2, 0, 0⟩ a b) ∧ (cmpT ⟨o0, o1, o2, 0, 0⟩ a b = 0 → cmpL _ a b = cmpT ⟨o3, 0, 0, 0, 0⟩ a b)
    rw [tl o3 b3]
    have e : cmpT ⟨o0, o1, o2, 0, 0⟩ a b = cmpL [o0, o1, o2, 0, 0] a b := by unfold cmpT; rw [if_pos fl]; rfl
    rw [e]; exact this
  | 5, _, _ =>
    have fl : formed ⟨o0, o1, o2, o3, 0⟩ = true := (formed_all ..).2 ⟨b0, b1, b2, b3, by decide, a01, a02, a03, apart_z _, a12, a13, apart_z _, a23, apart_z _, apart_z _⟩
    have := cmpL_last a b [o0, o1, o2, o3] [] o4 (by simp [g0 (by decide), g1 (by decide), g2 (by decide), g3 (by decide)]) (by simp)
    show (cmpT ⟨o0, o1, o2, o3, 0⟩ a b ≠ 0 → _ = cmpT ⟨o0, o1, o2, o3, 0⟩ a b) ∧ (cmpT ⟨o0, o1, o2, o3, 0⟩ a b = 0 → cmpL _ a b = cmpT ⟨o4, 0, 0, 0, 0⟩ a b)
    rw [tl o4 b4]
    have e : cmpT ⟨o0, o1, o2, o3, 0⟩ a b = cmpL [o0, o1, o2, o3, 0] a b := by unfold cmpT; rw [if_pos fl]; rfl
    rw [e]; exact this
end Go.Tup
