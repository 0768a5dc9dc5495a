/-
  The separation logic's third part: function values, slices that grow, slices of slices, rows made. No condition.
-/
import Derived.Test.YtigenhcekepeaaaSl2
import Derived.Laws.OwnMore
namespace Go.SL
open Go.RowKit

class ElemT (P : Program) (E : TypeId) (sz bytes : outParam Nat) (zs : outParam (List Value)) : Prop where
  info : (P.info? E).map (fun i => (i.size, i.bytes, i.zero.map fun z => z.cells.toList)) = some (sz, bytes, some zs)

theorem ElemT.get {P : Program} {E sz bytes : Nat} {zs : List Value} (h : ElemT P E sz bytes zs) : ∃ i z, P.info? E = some i ∧ i.size = sz ∧ i.bytes = bytes ∧ i.zero = some z ∧ z.cells = zs.toArray := by
  have := h.info
  cases hi : P.info? E with
  | none => simp [hi] at this
  | some i =>
    simp only [hi, Option.map_some, Option.some.injEq, Prod.mk.injEq] at this
    obtain ⟨h1, h2, h3⟩ := this
    cases hz : i.zero with
    | none => simp [hz] at h3
    | some z =>
      simp only [hz, Option.map_some, Option.some.injEq] at h3
      exact ⟨i, z, rfl, h1, h2, hz, by rw [← h3]⟩

theorem Take.st {w0 w : World} {S : List Nat} {c : Chunk} {H H1 : Hp} (h : Take c H H1) (hw : St w0 S w H) : St w0 S w (c :: H1) := by
  unfold Take at h
  exact hw.perm (by simpa using h)

theorem nmem {i : Nat} {l : List Nat} (h : l.contains i = false) : ¬ i ∈ l := by simpa using h

theorem Take.nil {H : Hp} : Take [] H H := by unfold Take; simp

section ops
variable {P : Program} {ops : Array Oper} {Q : Exit → Act → World → Prop} {cls : Nat → Oper → Cls} {w0 : World} {S : List Nat} {n : Nat}
variable {k : Nat} {l : List (Nat × Oper)} {L : Slots} {D : List Deferred} {H : Hp} {qs : List Rd}
variable {d : Nat} {ty : TypeId} {pos : String} {af : Array Edge} {g : Option (Nat × Bool)}

/- function values -/
theorem R.makeFunc {fn : Fn} {as bs : List Operand} {vs us : List Value} (hx : evs L as = some vs) (hy : evs L bs = some us)
    (hc : cls k ⟨some d, .makeFunc fn as.toArray bs.toArray, ty, pos, af, g⟩ = .pure) (hn : d < n)
    (h : R P ops Q cls w0 S n l ((d, .func fn vs.toArray us.toArray) :: L) D H qs) : R1 P ops Q cls w0 S n k ⟨some d, .makeFunc fn as.toArray bs.toArray, ty, pos, af, g⟩ l L D H qs :=
  R1.pureStep hc rfl hn (fun a hf w => by
    have h1 := hf.evals hx
    have h2 := hf.evals hy
    simp [execOp, Instr.makeFunc, h1, h2]) h

section calls
variable {f : FuncId} {x : Operand} {as : List Operand} {aT : Array TypeId} {fs vs us : List Value} {Hf F : Hp} {Rf : Value → Hp → Prop}

theorem run_callV [hf : Callable P f] {a : Act} (hfr : Fr n a L) (hx : ev L x = some (.func (.func f) fs.toArray us.toArray)) (hargs : evs L as = some vs) {dst : Option Tmp} (w : World) :
    (execOp a.eval ⟨dst, .call ⟨.value x, as.toArray, aT⟩, ty, pos, af, g⟩).run P w = .ok (.enter f (fs ++ vs ++ us).toArray) w := by
  have h1 := hfr.evals hargs
  have h2 := hfr.eval hx
  simp [execOp, resolve, Deferred.ofValue, h2, invoke, hf.run, h1]

theorem R.callV (hx : ev L x = some (.func (.func f) fs.toArray us.toArray)) (hf : Callable P f) (hargs : evs L as = some vs) (hct : Ct P f (fs ++ vs ++ us) Hf Rf) (hs : Split H Hf F)
    (hc : cls k ⟨some d, .call ⟨.value x, as.toArray, aT⟩, ty, pos, af, g⟩ = .eff []) (hn : d < n) (h : ∀ v H', Rf v H' → R P ops Q cls w0 S n l ((d, v) :: L) D (H' ++ F) qs) :
    R1 P ops Q cls w0 S n k ⟨some d, .call ⟨.value x, as.toArray, aT⟩, ty, pos, af, g⟩ l L D H qs := by
  refine R1.effStep hc hn fun a w hfr hst => ?_
  unfold Split at hs
  have hst' : St w0 S w (Hf ++ F) := hst.perm hs
  simp only [OpOk, run_callV hfr hx hargs]
  exact (hct.frame hst').mono fun e w' ⟨v, H', h1, h2, h3⟩ => ⟨v, h1, H' ++ F, h3, (by intro _ _ h; cases h), h v H' h2⟩

theorem R.callVP {v : Value} (hx : ev L x = some (.func (.func f) fs.toArray us.toArray)) (hf : Callable P f) (hargs : evs L as = some vs) (hct : CtQ P f (fs ++ vs ++ us) Hf v) (hs : Split H Hf F)
    (hc : cls k ⟨some d, .call ⟨.value x, as.toArray, aT⟩, ty, pos, af, g⟩ = .eff []) (hn : d < n) (h : R P ops Q cls w0 S n l ((d, v) :: L) D H qs) :
    R1 P ops Q cls w0 S n k ⟨some d, .call ⟨.value x, as.toArray, aT⟩, ty, pos, af, g⟩ l L D H qs := by
  refine R1.effStep hc hn fun a w hfr hst => ?_
  unfold Split at hs
  have hst' : St w0 S w (Hf ++ F) := hst.perm hs
  simp only [OpOk, run_callV hfr hx hargs]
  exact (hct.frame hst').mono fun e w' ⟨v', H', h1, ⟨h2, h3⟩, h4⟩ => ⟨v', h1, H, (by subst h3; exact h4.perm hs.symm), (by intro _ _ h; cases h), (by subst h2; exact h)⟩
end calls

/- a slice made of its elements -/
def zrep : Nat → List Value → List Value
  | 0, _ => []
  | m + 1, zs => zs ++ zrep m zs

theorem zrep_length (m : Nat) (zs : List Value) : (zrep m zs).length = m * zs.length := by
  induction m with
  | zero => simp [zrep]
  | succ m ih => simp [zrep, ih, Nat.succ_mul, Nat.add_comm]

theorem zrep_get (zs : List Value) (hz : 0 < zs.length) : ∀ (m i : Nat), i < m * zs.length → (zrep m zs)[i]? = zs[i % zs.length]?
  | 0, i, h => by omega
  | m + 1, i, h => by
    rw [zrep, List.getElem?_append]
    split
    · rename_i h1; rw [Nat.mod_eq_of_lt h1]
    · rename_i h1
      rw [Nat.succ_mul] at h
      rw [zrep_get zs hz m _ (by omega)]
      have : i % zs.length = (i - zs.length) % zs.length := by rw [Nat.mod_eq_sub_mod (by omega)]
      rw [this]

theorem zero_row (m : Nat) (zs : List Value) (hz : 0 < zs.length) : (Array.range (m * zs.length)).map (zs.toArray[· % zs.toArray.size]!) = (zrep m zs).toArray := by
  apply Array.ext
  · simp [zrep_length]
  · intro i h1 h2
    simp only [Array.size_map, Array.size_range] at h1
    have h3 : i % zs.length < zs.length := Nat.mod_lt _ hz
    have := zrep_get zs hz m i h1
    rw [List.getElem?_eq_getElem (by simpa [zrep_length] using h1), List.getElem?_eq_getElem h3] at this
    simp only [Option.some.injEq] at this
    simp only [Array.getElem_map, Array.getElem_range, List.getElem_toArray, this, List.size_toArray]
    rw [getElem!_pos _ _ (by simpa using h3)]
    simp

theorem R.buildSlice {T E sz bytes : Nat} {zs : List Value} [ht : SliceT P T E sz] [he : ElemT P E sz bytes zs] {m : Nat} {ps : List (Nat × Operand)} {vs : List (Nat × Value)} {cs cs' : List Value}
    (hx : evParts L ps = some vs) (hf : fillL (fun i => some (i * sz, sz)) (zrep m zs) vs = some cs) (heq : cs = cs') (hm : m * sz ≤ 16777216) (hz : zs.length = sz) (hpos : 0 < m * sz)
    (hc : cls k ⟨some d, .buildSlice T m ps.toArray, ty, pos, af, g⟩ = .grow) (hn : d < n)
    (h : ∀ b, R P ops Q cls w0 S n l ((d, .slice (some ⟨b, 0, none⟩) m m) :: L) D ([(b, row cs' E)] :: H) qs) : R1 P ops Q cls w0 S n k ⟨some d, .buildSlice T m ps.toArray, ty, pos, af, g⟩ l L D H qs :=
  R1.growStep (mk := fun b => .slice (some ⟨b, 0, none⟩) m m) (ob := row cs' E) hc rfl hn (fun a hfr w => by
    subst heq
    obtain ⟨i, z, h1, h2, h3, h4, h5⟩ := he.get
    have hp := hfr.parts hx
    have hzr : (zeroValue E).run P w = .ok z w := by simp [zeroValue, typeInfo, h1, h4]
    have hsz := ht.size w
    have hpos' : ¬ (m * sz = 0) := by omega
    have h6 : (ps.toArray.map fun (i, x) => (i, a.eval x)) = vs.toArray := by rw [← hp]; simp
    have h7 : (Array.range (m * sz)).map (z.cells[· % z.cells.size]!) = (zrep m zs).toArray := by
      rw [h5, ← hz]; exact zero_row m zs (by rw [hz]; exact Nat.pos_of_mul_pos_left hpos)
    have h8 : Instr.fill (fun i => some (i * sz, sz)) (zrep m zs).toArray vs = some cs.toArray := by rw [fill_fillL, hf]; rfl
    have h16' : ¬ (16777216 < m * sz) := by omega
    simp [execOp, h6, Instr.buildSlice, run_underlying ht.und, hsz, hpos', h16', hzr, h7, h8, newRow, row]) h

/- a slice that grows -/
/-- a slice's own row: its elements, and the room behind them -/
def Vec (e sz : Nat) (p : Option Addr) (m cap : Nat) (xs : List Value) (c : Chunk) : Prop :=
  xs.length = m * sz ∧ ((p = none ∧ m = 0 ∧ cap = 0 ∧ c = []) ∨
    ∃ b rest, p = some ⟨b, 0, none⟩ ∧ c = [(b, row (xs ++ rest) e)] ∧ xs.length + rest.length = cap * sz ∧ m ≤ cap ∧ cap ≤ maxLen)

theorem Vec.nil (e sz : Nat) : Vec e sz none 0 0 [] [] := ⟨by simp, .inl ⟨rfl, rfl, rfl, rfl⟩⟩

theorem row_app (xs : List Value) (a : Array Value) (E : Nat) : row (xs ++ a.toList) E = .cells (xs.toArray ++ a) E (0, 0) := by
  unfold row
  congr 1
  apply Array.ext'
  simp

theorem St.allocDrew {w : World} (h : St w0 S w H) (o : Obj) : St w0 S (w.drew.alloc o) ([(w.heap.size, o)] :: H) := by
  have := (h.drew (w.drawn + 1)).alloc o
  exact this

theorem St.setRow {w : World} {b : Nat} {cs cs' : List Value} {e : Nat} (h : St w0 S w ([(b, row cs e)] :: H)) (hl : cs'.length = cs.length) : St w0 S (w.setRow b cs'.toArray) ([(b, row cs' e)] :: H) := by
  have hb : w.heap[b]? = some (row cs e) := h.sat (b, row cs e) (by simp)
  refine h.set (w' := w.setRow b cs'.toArray) (o' := row cs' e) ?_ ?_ ?_ rfl rfl rfl
  · simp [World.setRow]
  · exact setRow_heap w b cs.toArray cs'.toArray e (0, 0) hb
  · intro j hj
    exact setRow_other w b j _ hj

theorem R.append {T E sz bytes : Nat} {zs : List Value} [ht : SliceT P T E sz] [he : ElemT P E sz bytes zs] {x y : Operand} {p : Option Addr} {m cap : Nat} {xs : List Value} {c : Chunk} {H1 : Hp}
    {b q m' mc : Nat} {cs news : List Value} {E' : TypeId} {fz : Nat × Nat}
    (hx : ev L x = some (.slice p m cap)) (hy : ev L y = some (.slice (some ⟨b, q, none⟩) m' mc)) (hv : Vec E sz p m cap xs c) (htk : Take c H H1) (hb : Has b (rowf cs E' fz) H)
    (hnews : (cs.drop q).take (m' * sz) = news) (hl : news.length = m' * sz) (h1 : news.all Value.oneCell' = true) (hz : zs.length = sz) (hpos : 0 < m') (hmax : m + m' ≤ maxLen) (hby : (m + m') * bytes ≤ 140737488355328)
    (hc : cls k ⟨some d, .call ⟨.builtin .append, #[x, y], #[T, T]⟩, ty, pos, af, g⟩ = .eff []) (hn : d < n)
    (h : ∀ p' cap' c', Vec E sz p' (m + m') cap' (xs ++ news) c' → R P ops Q cls w0 S n l ((d, .slice p' (m + m') cap') :: L) D (c' :: H1) qs) :
    R1 P ops Q cls w0 S n k ⟨some d, .call ⟨.builtin .append, #[x, y], #[T, T]⟩, ty, pos, af, g⟩ l L D H qs := by
  refine R1.effStep hc hn fun a w hfr hst => ?_
  obtain ⟨i, z, e1, e2, e3, e4, e5⟩ := he.get
  have hzs : z.cells.size = sz := by rw [e5]; simpa using hz
  have hst1 := htk.st hst
  have hbl := hb.st hst
  have hnc : ∀ j u, news[j]? = some u → w.cell? ((⟨b, q, none⟩ : Addr).add j) = some u := by
    intro j u hu
    have : (⟨b, q, none⟩ : Addr).add j = ⟨b, q + j, none⟩ := by unfold Addr.add; split <;> simp_all
    rw [this, cell_of_row w b (q + j) cs.toArray E' fz hbl]
    rw [← hnews, List.getElem?_take] at hu
    split at hu
    · simpa [List.getElem?_drop] using hu
    · cases hu
  have hrun : ∀ v w', (Builtin.append_ #[T, T] ty #[.slice p m cap, .slice (some ⟨b, q, none⟩) m' mc]).run P w = .ok v w' →
      (execOp a.eval ⟨some d, .call ⟨.builtin .append, #[x, y], #[T, T]⟩, ty, pos, af, g⟩).run P w = .ok (.value v) w' := by
    intro v w' hr
    simp [execOp, resolve, invoke, Go.builtin, hfr.eval hx, hfr.eval hy, hr]
  have hcons : ∀ H' r, r ∈ qs → r.i ∈ ([] : List Nat) → r.Pr H' := by intro _ _ _ h; cases h
  have key : ∀ p' cap' c' w', (Builtin.append_ #[T, T] ty #[.slice p m cap, .slice (some ⟨b, q, none⟩) m' mc]).run P w = .ok (.slice p' (m + m') cap') w' →
      Vec E sz p' (m + m') cap' (xs ++ news) c' → St w0 S w' (c' :: H1) → OpOk P (execOp a.eval ⟨some d, .call ⟨.builtin .append, #[x, y], #[T, T]⟩, ty, pos, af, g⟩) w fun v w' => ∃ H', St w0 S w' H' ∧
        (∀ r ∈ qs, r.i ∈ ([] : List Nat) → r.Pr H') ∧ R P ops Q cls w0 S n l (addSlot L v (some d)) D H' qs := by
    intro p' cap' c' w' hr hv' hst'
    simp only [OpOk, hrun _ _ hr]
    exact ⟨_, hst', hcons _, h p' cap' c' hv'⟩
  have hlen : (xs ++ news).length = (m + m') * sz := by rw [List.length_append, hv.1, hl, Nat.add_mul]
  have h63 : m + m' ≤ 9223372036854775807 := by simp only [maxLen] at hmax; omega
  obtain ⟨hxl, hv⟩ := hv
  subst e2 e3
  rcases hv with ⟨rfl, rfl, rfl, rfl⟩ | ⟨b', rest, rfl, rfl, hrl, hmc, hcm⟩
  · have hx0 : xs = [] := List.eq_nil_of_length_eq_zero (by simpa using hxl)
    subst hx0
    simp only [Nat.zero_add] at h63 hby
    have hr := run_append_nil (P := P) w T ty E i z ht.und e1 e4 ⟨b, q, none⟩ m' mc news hl hnc hpos (by omega) (by omega)
    rw [e5] at hr
    refine key (some ⟨w.heap.size, 0, none⟩) (grownCap w m' 0 E) [(w.heap.size, row (news ++ (Builtin.zeroCells zs.toArray (grownCap w m' 0 E - m')).toList) E)] _ (by rw [Nat.zero_add]; exact hr) ?_ ?_
    · refine ⟨hlen, .inr ⟨w.heap.size, (Builtin.zeroCells zs.toArray (grownCap w m' 0 E - m')).toList, rfl, by simp, ?_, ?_, grownCap_le_maxLen w m' 0 E (by simpa using hmax)⟩⟩
      · have := grownCap_ge w m' 0 E
        have h9 : news.length + (Builtin.zeroCells zs.toArray (grownCap w m' 0 E - m')).toList.length = m' * i.size + (grownCap w m' 0 E - m') * i.size := by
          simp only [Array.length_toList, size_zeroCells, List.size_toArray, hl, hz]
        simp only [List.nil_append]
        rw [h9, ← Nat.add_mul]
        congr 1; omega
      · rw [Nat.zero_add]; exact grownCap_ge w m' 0 E
    · have hst2 : St w0 S w H1 := hst1.perm (by simp)
      have := hst2.allocDrew (row (news ++ (Builtin.zeroCells zs.toArray (grownCap w m' 0 E - m')).toList) E)
      rw [row_app] at this ⊢
      exact this
  · by_cases hroom : m + m' ≤ cap
    · have hg : w.heap[b']? = some (.cells (xs ++ rest).toArray E (0, 0)) := hst1.sat (b', row (xs ++ rest) E) (by simp)
      have hfit : m * i.size + news.length ≤ (xs ++ rest).toArray.size := by
        rw [hl, ← Nat.add_mul]
        simp only [List.size_toArray, List.length_append, hrl]
        exact Nat.mul_le_mul_right _ hroom
      have hr := run_append_room (P := P) w T ty E i ht.und e1 b' m cap (xs ++ rest).toArray hg ⟨b, q, none⟩ m' mc news hl hnc (by simpa using h1) hroom hfit
      have e6 : ((xs ++ rest).toArray.toList.take (m * i.size) ++ news ++ (xs ++ rest).toArray.toList.drop (m * i.size + news.length)) = (xs ++ news) ++ rest.drop news.length := by
        rw [← hxl]
        simp [List.drop_append]
      rw [e6] at hr
      have hfit' : news.length ≤ rest.length := by
        simp only [List.size_toArray, List.length_append] at hfit
        omega
      refine key (some ⟨b', 0, none⟩) cap [(b', row ((xs ++ news) ++ rest.drop news.length) E)] _ hr ?_ ?_
      · refine ⟨hlen, .inr ⟨b', rest.drop news.length, rfl, rfl, ?_, hroom, hcm⟩⟩
        simp only [List.length_append, List.length_drop]
        omega
      · exact hst1.setRow (by simp only [List.length_append, List.length_drop]; omega)
    · have hg : w.heap[b']? = some (.cells (xs ++ rest).toArray E (0, 0)) := hst1.sat (b', row (xs ++ rest) E) (by simp)
      have hoc : ∀ j u, xs[j]? = some u → w.cell? ((⟨b', 0, none⟩ : Addr).add j) = some u := by
        intro j u hu
        have : (⟨b', 0, none⟩ : Addr).add j = ⟨b', j, none⟩ := by unfold Addr.add; split <;> simp_all
        rw [this, cell_of_row w b' j _ E (0, 0) hg]
        have hj : j < xs.length := by
          rcases Nat.lt_or_ge j xs.length with h | h
          · exact h
          · rw [List.getElem?_eq_none h] at hu; cases hu
        simpa [List.getElem?_append_left hj] using hu
      have hr := run_append_grow (P := P) w T ty E i z ht.und e1 e4 ⟨b', 0, none⟩ m cap xs hxl hoc ⟨b, q, none⟩ m' mc news hl hnc (by omega) (by omega) (growslice_fits (by omega) hby)
      rw [e5] at hr
      refine key (some ⟨w.heap.size, 0, none⟩) (grownCap w (m + m') cap E) [(w.heap.size, row ((xs ++ news) ++ (Builtin.zeroCells zs.toArray (grownCap w (m + m') cap E - (m + m'))).toList) E)] _ hr ?_ ?_
      · refine ⟨hlen, .inr ⟨w.heap.size, _, rfl, rfl, ?_, grownCap_ge w (m + m') cap E, grownCap_le_maxLen w (m + m') cap E hmax⟩⟩
        have := grownCap_ge w (m + m') cap E
        simp only [hlen, Array.length_toList, size_zeroCells, List.size_toArray, hz, ← Nat.add_mul]
        congr 1; omega
      · have := hst1.drop.allocDrew (row ((xs ++ news) ++ (Builtin.zeroCells zs.toArray (grownCap w (m + m') cap E - (m + m'))).toList) E)
        rw [row_app] at this ⊢
        have e7 : xs.toArray ++ news.toArray = (xs ++ news).toArray := by simp
        rw [← e7] at this ⊢
        exact this

def nthO : List Oper → Nat → Option Oper
  | [], _ => none
  | o :: _, 0 => some o
  | _ :: os, i + 1 => nthO os i
theorem nthO_eq : ∀ (os : List Oper) (i : Nat), nthO os i = os[i]?
  | [], _ => by simp [nthO]
  | _ :: _, 0 => rfl
  | _ :: os, i + 1 => by simp [nthO, nthO_eq os i]
def enumBy (os : List Oper) : List Nat → List (Nat × Oper)
  | [] => []
  | i :: is => match nthO os i with
    | some o => (i, o) :: enumBy os is
    | none => enumBy os is
theorem enumBy_get (os : List Oper) : ∀ (is : List Nat) (p : Nat × Oper), p ∈ enumBy os is → os[p.1]? = some p.2
  | [], p, h => by cases h
  | i :: is, p, h => by
    unfold enumBy at h
    cases hi : nthO os i with
    | none => simp only [hi] at h; exact enumBy_get os is p h
    | some o =>
      simp only [hi, List.mem_cons] at h
      rcases h with rfl | h
      · rw [← nthO_eq]; exact hi
      · exact enumBy_get os is p h
theorem G.drawOrd [hm : Mixed P] {id : Nat} {os : List Oper} {l : List (Nat × Oper)} (ord : List Nat) (ann : List (Nat × Cls)) (hl : enumBy os ord = l) (hok : drawOk os.toArray (std ann) (l.map (·.1)) = true)
    (h : R P os.toArray Q (std ann) w0 S n l L D H []) : G P Q w0 S n (.region id os.toArray true) L D H :=
  G.drawBy l ann (fun p hp => by subst hl; exact enumBy_get os ord p hp) hok h
end ops
end Go.SL
