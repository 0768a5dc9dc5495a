/-
  The layer tuple in plain words: formed orders, comparing, cutting. No condition.
-/
namespace Go.Tup

structure T5 where
  c0 : Int
  c1 : Int
  c2 : Int
  c3 : Int
  c4 : Int
  deriving DecidableEq

def T5.toList (t : T5) : List Int := [t.c0, t.c1, t.c2, t.c3, t.c4]

def T5.col (t : T5) : Nat → Int
  | 0 => t.c0
  | 1 => t.c1
  | 2 => t.c2
  | 3 => t.c3
  | 4 => t.c4
  | _ => 0

/-- an order is gone through: over: a 0 was met; s: the columns that were named -/
def fGo : List Int → Bool → (Nat → Bool) → Bool
  | [], _, _ => true
  | k :: ks, over, s =>
    if (over = true ∧ k ≠ 0) ∨ k < -5 ∨ 5 < k then false
    else if k = 0 then fGo ks true s
    else if s k.natAbs = true then false
    else fGo ks over (fun j => if j = k.natAbs then true else s j)

def formed (o : T5) : Bool := fGo o.toList false (fun _ => false)

theorem fGo_bounds : ∀ (l : List Int) (over : Bool) (s : Nat → Bool), fGo l over s = true → ∀ k ∈ l, -5 ≤ k ∧ k ≤ 5
  | [], _, _, _, k, hk => by cases hk
  | x :: l, over, s, h, k, hk => by
    unfold fGo at h
    split at h
    · cases h
    · rename_i hb
      have hx : -5 ≤ x ∧ x ≤ 5 := by omega
      rcases List.mem_cons.1 hk with rfl | hk
      · exact hx
      · split at h
        · exact fGo_bounds l _ _ h k hk
        · split at h
          · cases h
          · exact fGo_bounds l _ _ h k hk

theorem formed_bounds {o : T5} (h : formed o = true) : ∀ k ∈ o.toList, -5 ≤ k ∧ k ≤ 5 := fGo_bounds _ _ _ h

def cmp3 (x y : Int) : Int := if x < y then -1 else if y < x then 1 else 0

/-- column by column, by the first one in which they differ -/
def cmpL : List Int → T5 → T5 → Int
  | [], _, _ => 0
  | k :: ks, a, b =>
    if k = 0 then 0
    else
      let c := if k < 0 then cmp3 (b.col (k.natAbs - 1)) (a.col (k.natAbs - 1)) else cmp3 (a.col (k.natAbs - 1)) (b.col (k.natAbs - 1))
      if c ≠ 0 then c else cmpL ks a b

def cmpT (o a b : T5) : Int := if formed o = true then cmpL o.toList a b else 0

/-- a column that an entry names; none named: 0 -/
def cut1 (t : T5) (k : Int) : Int := if k = 0 then 0 else t.col (k.natAbs - 1)
def cut (t o : T5) : T5 := if formed o = true then ⟨cut1 t o.c0, cut1 t o.c1, cut1 t o.c2, cut1 t o.c3, cut1 t o.c4⟩ else ⟨0, 0, 0, 0, 0⟩


/-- what stands at a place of an order beside one ahead of it -/
def apartO (x y : Int) : Prop := ¬ (x = 0 ∧ y ≠ 0) ∧ ¬ (y ≠ 0 ∧ x.natAbs = y.natAbs)

theorem fGo_iff : ∀ (l : List Int) (over : Bool) (s : Nat → Bool), fGo l over s = true ↔
    ∀ i, i < l.length → (-5 ≤ l.getD i 0 ∧ l.getD i 0 ≤ 5) ∧ (over = true → l.getD i 0 = 0) ∧ (l.getD i 0 ≠ 0 → s (l.getD i 0).natAbs = false) ∧
      ∀ k, k < i → apartO (l.getD k 0) (l.getD i 0)
  | [], over, s => by simp [fGo]
  | x :: l, over, s => by
    unfold fGo
    constructor
    · intro h
      split at h
      · cases h
      · rename_i hb
        split at h
        · rename_i hx
          have ih := (fGo_iff l true s).1 h
          intro i hi
          cases i with
          | zero => exact ⟨by show -5 ≤ x ∧ x ≤ 5; omega, fun _ => hx, fun hn => absurd hx hn, fun k hk => by omega⟩
          | succ i =>
            obtain ⟨h1, h2, h3, h4⟩ := ih i (by simpa using hi)
            refine ⟨h1, fun _ => h2 rfl, h3, fun k hk => ?_⟩
            cases k with
            | zero => exact ⟨fun hh => hh.2 (h2 rfl), fun hh => hh.1 (h2 rfl)⟩
            | succ k => exact h4 k (by omega)
        · rename_i hx
          split at h
          · cases h
          · rename_i hs
            have ih := (fGo_iff l over _).1 h
            intro i hi
            cases i with
            | zero =>
              refine ⟨by show -5 ≤ x ∧ x ≤ 5; omega, fun ho => ?_, fun _ => by simpa using hs, fun k hk => by omega⟩
              exact absurd (Or.inl ⟨ho, hx⟩) hb
            | succ i =>
              obtain ⟨h1, h2, h3, h4⟩ := ih i (by simpa using hi)
              refine ⟨h1, h2, fun hn => ?_, fun k hk => ?_⟩
              · have := h3 hn
                split at this
                · cases this
                · exact this
              · cases k with
                | zero =>
                  refine ⟨fun hh => hx hh.1, fun hh => ?_⟩
                  have h5 := h3 hh.1
                  have h6 : (l.getD i 0).natAbs = x.natAbs := hh.2.symm
                  rw [if_pos h6] at h5
                  cases h5
                | succ k => exact h4 k (by omega)
    · intro h
      obtain ⟨h1, h2, h3, _⟩ := h 0 (by simp)
      have h1 : -5 ≤ x ∧ x ≤ 5 := h1
      have h2 : over = true → x = 0 := h2
      have h3 : x ≠ 0 → s x.natAbs = false := h3
      rw [if_neg (by rintro (⟨ho, hn⟩ | hh | hh); exact hn (h2 ho); omega; omega)]
      split
      · rename_i hx
        refine (fGo_iff l true s).2 fun i hi => ?_
        obtain ⟨g1, g2, g3, g4⟩ := h (i + 1) (by simpa using hi)
        have := g4 0 (by omega)
        exact ⟨g1, fun _ => Classical.byContradiction fun hn => this.1 ⟨hx, hn⟩, g3, fun k hk => g4 (k + 1) (by omega)⟩
      · rename_i hx
        rw [h3 hx]
        refine (fGo_iff l over _).2 fun i hi => ?_
        obtain ⟨g1, g2, g3, g4⟩ := h (i + 1) (by simpa using hi)
        have := g4 0 (by omega)
        refine ⟨g1, g2, fun hn => ?_, fun k hk => g4 (k + 1) (by omega)⟩
        have h6 : ¬ (l.getD i 0).natAbs = x.natAbs := fun e => this.2 ⟨hn, e.symm⟩
        rw [if_neg h6]
        exact g3 hn

theorem formed_iff (o : T5) : formed o = true ↔ ∀ i, i < 5 → (-5 ≤ o.toList.getD i 0 ∧ o.toList.getD i 0 ≤ 5) ∧ ∀ k, k < i → apartO (o.toList.getD k 0) (o.toList.getD i 0) := by
  unfold formed
  rw [fGo_iff]
  constructor
  · exact fun h i hi => ⟨(h i hi).1, (h i hi).2.2.2⟩
  · exact fun h i hi => ⟨(h i hi).1, (fun e => by cases e), fun _ => rfl, (h i hi).2⟩

end Go.Tup
