/-
  A slice of tuples among a law's arguments, opened. No condition.
-/
import Derived.Test.YtigenhcekepeaaaRow
import Derived.Test.YtigenhcekepeaaaTupSl
import Derived.Deep.Slices
namespace Go.Proofs.Ytigenhcekepeaaa
open Go.ChangeShapes Go.WideShapes Go.ChangeAt Go.RowKit Go.SL Go.Tup

theorem below_of_st1 {W W' : World} {c : Chunk} (hc : ∀ q ∈ c, W.heap[q.1]? = some q.2) (h : St W (keys [c]) W' [c]) : Below W.heap.size W W' :=
  ⟨h.os, h.tape, h.output, h.size, fun k hk => by
    by_cases hm : k ∈ keys [c]
    · simp only [keys, List.flatten_cons, List.flatten_nil, List.append_nil, List.mem_map] at hm
      obtain ⟨q, hq, rfl⟩ := hm
      rw [hc q hq]
      exact h.sat q (by simpa using hq)
    · exact h.frame k hk hm⟩

theorem law_calls1 {P : Program} {f : FuncId} {args : List Value} {c : Chunk} {W : World} (hc : ∀ q ∈ c, W.heap[q.1]? = some q.2) (hnd : (c.map (·.1)).Nodup) (h : CtQ P f args [c] (.bool true)) :
    Calls P f args.toArray W fun e W' => e = .returned (.bool true) ∧ Below W.heap.size W W' := by
  unfold CtQ Ct at h
  have hst : St W (keys [c]) W [c] := by
    refine ⟨by simpa [keys] using hnd, by simpa using hc, fun k hk => .inl hk, fun _ _ _ => rfl, Nat.le_refl _, rfl, rfl, rfl⟩
  refine (h W hst).mono fun e W' ⟨v, H', h1, ⟨h2, h3⟩, h4⟩ => ?_
  subst h2 h3
  exact ⟨h1, below_of_st1 hc h4⟩

theorem flat_of (cs : List Value) : ∀ (len off : Nat), (∀ i, i < len → ∃ t : T5, ∀ j, j < 5 → cs[off + i * 5 + j]? = (tcells t)[j]?) → ∃ ts : List T5, ts.length = len ∧ (cs.drop off).take (len * 5) = flat ts
  | 0, off, _ => ⟨[], rfl, by simp [flat]⟩
  | len + 1, off, h => by
    obtain ⟨t, ht⟩ := h 0 (by omega)
    obtain ⟨ts, hl, he⟩ := flat_of cs len (off + 5) (fun i hi => by
      obtain ⟨t, ht⟩ := h (i + 1) (by omega)
      exact ⟨t, fun j hj => by rw [← ht j hj]; congr 1; omega⟩)
    refine ⟨t :: ts, by simp [hl], ?_⟩
    have hd : cs.drop off = tcells t ++ cs.drop (off + 5) := by
      apply List.ext_getElem?
      intro j
      rw [List.getElem?_drop]
      by_cases hj : j < 5
      · rw [List.getElem?_append_left (by simpa [tcells] using hj), ← ht j hj]; simp
      · rw [List.getElem?_append_right (by simp [tcells]; omega), List.getElem?_drop]
        congr 1
        simp [tcells]; omega
    rw [hd, flat, ← he, List.take_append]
    rw [List.take_of_length_le (by simp [tcells]; omega)]
    congr 2
    simp [tcells]; omega

theorem open_tuples {H : Type} {enc : TypeId × Value → H} {P : Program} {w : World} {base : Nat} {t E e : TypeId} {v : Value} {d : DataW H} {ps : List MemPlace} (ht : P.underlying t = some (.slice E)) (hE : P.underlying E = some (.array 5 e))
    (he : P.underlying e = some (.int .i64)) (hcE : P.cellsOf E = 5) (hce : P.cellsOf e = 1) (h : DataW.Trod enc P w 0 (fun _ => true) true t v d ps) (hok : Value.okWide P w .any base t v) :
    ∃ p n cap ts c, v = .slice p n cap ∧ RV p n ts c ∧ n ≤ maxLen ∧ (∀ q ∈ c, w.heap[q.1]? = some q.2) ∧ (c.map (·.1)).Nodup := by
  obtain ⟨a, len, cap, rfl⟩ := okWide_slice ht hok
  obtain ⟨fuel, h⟩ := h
  rcases Deep.open_slice ht h with ⟨h0, _⟩ | ⟨a', len', cap', m, n, D, Pl, h0, hb, hl, hm, hmm, _, hx⟩
  · simp [Value.cells] at h0
    obtain ⟨rfl, rfl, rfl⟩ := h0
    exact ⟨none, 0, 0, [], [], rfl, ⟨rfl, .inl ⟨rfl, rfl⟩⟩, by decide, by simp, by simp⟩
  · simp [Value.cells] at h0
    obtain ⟨rfl, rfl, rfl⟩ := h0
    by_cases hz : len = 0
    · subst hz
      exact ⟨some a', 0, cap, [], [], rfl, ⟨rfl, .inl ⟨rfl, rfl⟩⟩, by decide, by simp, by simp⟩
    · simp only [if_true] at hmm
      subst hmm
      have each : ∀ i, i < len → ∃ t : T5, ∀ j, j < 5 → w.cell? ((a'.add (i * 5)).add j) = (tcells t)[j]? := by
        intro i hi
        obtain ⟨cs', h1, h2⟩ := hx i (by omega)
        rw [hcE] at h1
        obtain ⟨xs, k, _, _, hlen, hxl, hxe⟩ := DataW.trod_array hE h2
        rw [hcE] at hlen
        have hcell : ∀ j, j < 5 → w.cell? ((a'.add (i * 5)).add j) = cs'[j]? := by
          intro j hj
          simp only [World.cells?, Nat.zero_le, if_true] at h1
          exact mapM_some_get h1 j j (by simp [hj])
        have hint : ∀ j, j < 5 → ∃ x, cs'[j]? = some (.int .i64 x) := by
          intro j hj
          have hj' := hxe j hj
          rw [hce, Nat.mul_one] at hj'
          rw [List.getElem?_eq_getElem (by omega)] at hj'
          obtain ⟨x, hx1, _⟩ := DataW.trod_int he hj'
          refine ⟨x, ?_⟩
          have := congrArg (·[0]?) hx1
          simpa [List.getElem?_take, List.getElem?_drop] using this
        obtain ⟨x0, h0⟩ := hint 0 (by omega)
        obtain ⟨x1, h1⟩ := hint 1 (by omega)
        obtain ⟨x2, h2⟩ := hint 2 (by omega)
        obtain ⟨x3, h3⟩ := hint 3 (by omega)
        obtain ⟨x4, h4⟩ := hint 4 (by omega)
        refine ⟨⟨x0, x1, x2, x3, x4⟩, fun j hj => ?_⟩
        rw [hcell j hj]
        match j, hj with
        | 0, _ => exact h0
        | 1, _ => exact h1
        | 2, _ => exact h2
        | 3, _ => exact h3
        | 4, _ => exact h4
      obtain ⟨b, off, spot⟩ := a'
      obtain ⟨t0, ht0⟩ := each 0 (by omega)
      have hc0 := ht0 0 (by omega)
      have hs : spot = none := by
        cases spot with
        | none => rfl
        | some s =>
          exfalso
          simp only [Addr.add, World.cell?, tcells, List.getElem?_cons_zero] at hc0
          revert hc0
          split <;> simp
      subst hs
      have hadd : ∀ i j, ((⟨b, off, none⟩ : Addr).add i).add j = ⟨b, off + i + j, none⟩ := fun i j => by rw [Addr.add_mk, Addr.add_mk]
      cases hbk : w.heap[b]? with
      | none => rw [hadd] at hc0; simp [World.cell?, hbk, tcells] at hc0
      | some ob =>
        cases ob with
        | cells arr T fz =>
          obtain ⟨ts, hts, hflat⟩ := flat_of arr.toList len off (fun i hi => by
            obtain ⟨t, ht⟩ := each i hi
            refine ⟨t, fun j hj => ?_⟩
            rw [← ht j hj, hadd, cell_of_row w b _ arr T fz hbk]
            simp)
          refine ⟨_, len, _, ts, [(b, rowf arr.toList T fz)], rfl, ⟨hts, .inr ⟨b, off, arr.toList, T, fz, rfl, rfl, hflat⟩⟩, by omega, ?_, by simp⟩
          intro q hq
          simp only [List.mem_singleton] at hq
          subst hq
          simpa [rowf] using hbk
        | _ => rw [hadd] at hc0; simp [World.cell?, hbk, tcells] at hc0
end Go.Proofs.Ytigenhcekepeaaa
