/-
  Parts of the proof, put together: Sl1, Sl2, Sl3, Sl4, Sl5, Sl6, Sl7, Sl8. No condition.
-/
import Derived.ChangeKeysEq
import Derived.Defers
import Derived.KernelRfl
import Derived.LaidEql
import Derived.Laws.Alloc2
import Derived.Laws.Append
import Derived.Laws.AppendOwn
import Derived.Laws.Build
import Derived.Laws.CopyOwn
import Derived.Laws.Cover3
import Derived.Laws.Externs
import Derived.Laws.MakeOwn
import Derived.Laws.OwnMore
import Derived.Laws.Pointers
import Derived.Laws.Rows
import Derived.Laws.Sem
import Derived.Laws.Slices
import Derived.Laws.Small
import Derived.Laws.StructEq
import Derived.Laws.Tables
import Derived.Laws.Unary
import Derived.Laws.World
import Derived.MapKept
import Derived.Orders
set_option linter.unusedVariables false
set_option linter.unusedSimpArgs false
set_option linter.unnecessarySimpa false
namespace Go.SL
abbrev Slots := List (Nat × Value)
abbrev Chunk := List (Nat × Obj)
abbrev Hp := List Chunk
/-- the value of a slot -/
def lk (t : Nat) : Slots → Option Value
  | [] => none
  | (d, v) :: L => match Nat.beq t d with | true => some v | false => lk t L
def ev (L : Slots) : Operand → Option Value
  | .tmp t => lk t L
  | .const v => some v
  | .global g => some (.pointer (some ⟨g, 0, none⟩))
  | .func f => some (.func (.func f) #[] #[])
def evs (L : Slots) : List Operand → Option (List Value)
  | [] => some []
  | x :: xs => match ev L x with
    | some v => match evs L xs with
      | some vs => some (v :: vs)
      | none => none
    | none => none
structure Fr (n : Nat) (a : Act) (L : Slots) : Prop where
  size : a.tmps.size = n
  get : ∀ t v, lk t L = some v → a.tmps[t]? = some v
theorem lk_cons (t d : Nat) (v : Value) (L : Slots) : lk t ((d, v) :: L) = if t = d then some v else lk t L := by
  unfold lk
  by_cases h : t = d
  · subst h; simp
  · have : Nat.beq t d = false := by
      cases hb : Nat.beq t d with
      | false => rfl
      | true => exact absurd (Nat.eq_of_beq_eq_true hb) h
    rw [this]; simp only [if_neg h]; cases L <;> rfl
theorem Fr.put {n : Nat} {a : Act} {L : Slots} (h : Fr n a L) {d : Nat} (hd : d < n) (v : Value) : Fr n (a.put (some d) v) ((d, v) :: L) := by
  constructor
  · simp [Act.put, h.size]
  · intro t u ht
    rw [lk_cons] at ht
    simp only [Act.put]
    by_cases e : t = d
    · subst e
      simp only [if_true, Option.some.injEq] at ht
      subst ht
      rw [Array.getElem?_setIfInBounds_self_of_lt (by have := h.size; omega)]
    · rw [if_neg e] at ht
      rw [Array.getElem?_setIfInBounds_ne (fun x => e x.symm)]
      exact h.get t u ht
theorem Fr.put_none {n : Nat} {a : Act} {L : Slots} (h : Fr n a L) (v : Value) : Fr n (a.put none v) L := h
theorem Fr.eval {n : Nat} {a : Act} {L : Slots} (h : Fr n a L) {x : Operand} {v : Value} (hx : ev L x = some v) : a.eval x = v := by
  cases x with
  | tmp t =>
    have := h.get t v hx
    simp [Act.eval, this]
  | const u => simpa [ev, Act.eval] using hx
  | global g => simpa [ev, Act.eval] using hx
  | func f => simpa [ev, Act.eval] using hx
theorem Fr.evals {n : Nat} {a : Act} {L : Slots} (h : Fr n a L) : ∀ {xs : List Operand} {vs : List Value}, evs L xs = some vs → xs.map a.eval = vs
  | [], vs, hx => by simp [evs] at hx; simp [hx]
  | x :: xs, vs, hx => by
    unfold evs at hx
    cases h1 : ev L x with
    | none => simp [h1] at hx
    | some v =>
      simp only [h1] at hx
      cases h2 : evs L xs with
      | none => simp [h2] at hx
      | some us =>
        simp only [h2, Option.some.injEq] at hx
        subst hx
        simp [h.eval h1, h.evals h2]
/-- fewer slots known -/
theorem Fr.sub {n : Nat} {a : Act} {L L' : Slots} (h : Fr n a L) (hs : ∀ t v, lk t L' = some v → lk t L = some v) : Fr n a L' :=
  ⟨h.size, fun t v ht => h.get t v (hs t v ht)⟩
/-- a check that every slot of L' is known in L with the same value, slot by slot -/
def Subs (L : Slots) : Slots → Prop
  | [] => True
  | (d, v) :: L' => lk d L = some v ∧ Subs L L'
theorem Subs.lk {L : Slots} : ∀ {L' : Slots}, Subs L L' → ∀ t v, SL.lk t L' = some v → SL.lk t L = some v
  | [], _, t, v, h => by simp [SL.lk] at h
  | (d, u) :: L', hs, t, v, h => by
    rw [lk_cons] at h
    by_cases e : t = d
    · subst e; simp only [if_true, Option.some.injEq] at h; subst h; exact hs.1
    · rw [if_neg e] at h; exact Subs.lk hs.2 t v h
/-- the heap: chunks, each a list of blocks; the start's world w0, the blocks S that were handed in -/
def keys (H : Hp) : List Nat := H.flatten.map (·.1)
structure St (w0 : World) (S : List Nat) (w : World) (H : Hp) : Prop where
  nodup : (keys H).Nodup
  sat : ∀ p ∈ H.flatten, w.heap[p.1]? = some p.2
  own : ∀ k ∈ keys H, k ∈ S ∨ w0.heap.size ≤ k
  frame : ∀ b, b < w0.heap.size → b ∉ S → w.heap[b]? = w0.heap[b]?
  size : w0.heap.size ≤ w.heap.size
  os : w.os = w0.os
  tape : w.tape = w0.tape
  output : w.output = w0.output
theorem St.perm {w0 : World} {S : List Nat} {w : World} {H H' : Hp} (h : St w0 S w H) (hp : H.flatten.Perm H'.flatten) : St w0 S w H' :=
  { h with
    nodup := (hp.map _).nodup_iff.1 h.nodup
    sat := fun p hm => h.sat p (hp.mem_iff.2 hm)
    own := fun k hm => h.own k ((hp.map _).mem_iff.2 hm) }
theorem St.drop {w0 : World} {S : List Nat} {w : World} {c : Chunk} {H : Hp} (h : St w0 S w (c :: H)) : St w0 S w H :=
  { h with
    nodup := by have := h.nodup; simp [keys] at this ⊢; exact (List.nodup_append.1 this).2.1
    sat := fun p hm => h.sat p (by simp only [List.flatten_cons, List.mem_append]; exact .inr hm)
    own := fun k hm => h.own k (by simp only [keys, List.flatten_cons, List.map_append, List.mem_append]; exact .inr hm) }
theorem St.lt {w0 : World} {S : List Nat} {w : World} {H : Hp} (h : St w0 S w H) {p : Nat × Obj} (hp : p ∈ H.flatten) : p.1 < w.heap.size := by
  have := h.sat p hp
  exact (Array.getElem?_eq_some_iff.1 this).1
theorem St.drew {w0 : World} {S : List Nat} {w : World} {H : Hp} (h : St w0 S w H) (n : Nat) : St w0 S { w with drawn := n } H :=
  ⟨h.nodup, h.sat, h.own, h.frame, h.size, h.os, h.tape, h.output⟩
/-- a new block -/
theorem St.alloc {w0 : World} {S : List Nat} {w : World} {H : Hp} (h : St w0 S w H) (o : Obj) :
    St w0 S { w with heap := w.heap.push o } ([(w.heap.size, o)] :: H) where
  nodup := by
    have h1 := h.nodup
    simp only [keys, List.flatten_cons, List.map_cons, List.singleton_append, List.nodup_cons]
    refine ⟨fun hm => ?_, h1⟩
    obtain ⟨p, hp, he⟩ := List.mem_map.1 hm
    have := h.lt hp
    omega
  sat := by
    intro p hp
    simp only [List.flatten_cons, List.singleton_append, List.mem_cons] at hp
    rcases hp with rfl | hp
    · simp
    · have := h.lt hp
      simp only [Array.getElem?_push]
      rw [if_neg (by omega)]; exact h.sat p hp
  own := by
    intro k hk
    simp only [keys, List.flatten_cons, List.singleton_append, List.map_cons, List.mem_cons] at hk
    rcases hk with rfl | hk
    · right; exact h.size
    · exact h.own k hk
  frame := by
    intro b hb hs
    have := h.size
    simp only [Array.getElem?_push]
    rw [if_neg (by omega)]; exact h.frame b hb hs
  size := by have := h.size; simp; omega
  os := h.os
  tape := h.tape
  output := h.output
/-- a block of ours is written -/
theorem St.set {w0 : World} {S : List Nat} {w w' : World} {b : Nat} {o o' : Obj} {H : Hp} (h : St w0 S w ([(b, o)] :: H))
    (hsz : w'.heap.size = w.heap.size) (hb : w'.heap[b]? = some o') (hne : ∀ k, k ≠ b → w'.heap[k]? = w.heap[k]?)
    (hos : w'.os = w.os) (htp : w'.tape = w.tape) (hout : w'.output = w.output) : St w0 S w' ([(b, o')] :: H) where
  nodup := h.nodup
  sat := by
    intro p hp
    simp only [List.flatten_cons, List.singleton_append, List.mem_cons] at hp
    have hn := h.nodup
    simp only [keys, List.flatten_cons, List.singleton_append, List.map_cons, List.nodup_cons] at hn
    rcases hp with rfl | hp
    · exact hb
    · rw [hne]
      · exact h.sat p (by simp only [List.flatten_cons, List.singleton_append, List.mem_cons]; exact .inr hp)
      · rintro rfl
        exact hn.1 (List.mem_map.2 ⟨p, hp, rfl⟩)
  own := fun k hk => h.own k (by simpa [keys] using hk)
  frame := by
    intro k hk hs
    have hown := h.own b (by simp [keys])
    rw [hne]
    · exact h.frame k hk hs
    · rintro rfl
      rcases hown with h1 | h1
      · exact hs h1
      · omega
  size := by rw [hsz]; exact h.size
  os := by rw [hos, h.os]
  tape := by rw [htp, h.tape]
  output := by rw [hout, h.output]
/-- an operation's run, told by what it ends in -/
def OpOk (P : Program) (s : Sem Next) (w : World) (R : Value → World → Prop) : Prop :=
  match s.run P w with
  | .ok (.value v) w' => R v w'
  | .ok .skip w' => R undef w'
  | .ok (.enter f args) w' => Calls P f args w' (fun e w'' => ∃ v, e = .returned v ∧ R v w'')
  | _ => False
theorem OpOk.mono {P : Program} {s : Sem Next} {w : World} {R R' : Value → World → Prop} (h : OpOk P s w R) (hr : ∀ v w', R v w' → R' v w') : OpOk P s w R' := by
  unfold OpOk at *
  split <;> simp_all
  exact Calls.mono h fun e w' ⟨v, he, hv⟩ => ⟨v, he, hr _ _ hv⟩
theorem OpOk.ex {P : Program} {s : Sem Next} {w : World} {R : Value → World → Prop} (h : OpOk P s w R) : ∃ v w', R v w' := by
  unfold OpOk at h
  split at h
  · exact ⟨_, _, h⟩
  · exact ⟨_, _, h⟩
  · obtain ⟨e, w', fr, ⟨v, _, hv⟩, _⟩ := h []
    exact ⟨v, w', hv⟩
  · exact h.elim
theorem OpOk.wp {P : Program} {o : Oper} {a : Act} {w : World} {R : Value → World → Prop} {next : Act → World → Prop} {Q : Exit → Act → World → Prop}
    (h : OpOk P (execOp a.eval o) w R) (hr : ∀ v w', R v w' → next (a.put o.dst v) w') : o.wp P a w next Q := by
  unfold OpOk at h
  unfold Oper.wp
  split at h
  · rename_i v w' hq; rw [hq]; exact hr _ _ h
  · rename_i w' hq; rw [hq]; exact hr _ _ h
  · rename_i f args w' hq; rw [hq]
    refine Calls.mono h fun e w'' ⟨v, he, hv⟩ => ?_
    subst he
    exact hr _ _ hv
  · exact h.elim
/-- how an operation of a region stands to the others: it computes, it only reads, it makes one block, it does more (across those reads that it leaves as they were) -/
inductive Cls where
  | pure | quiet | grow | eff (cross : List Nat) | defer
/-- a read that can be made again with the same answer, as long as Pr holds of the heap -/
structure Rd where
  i : Nat
  Pr : Hp → Prop
section region
variable (P : Program) (ops : Array Oper) (Q : Exit → Act → World → Prop) (cls : Nat → Oper → Cls) (w0 : World) (S : List Nat)
/-- with Pr the read answers v and leaves the heap -/
def QSem (s : Sem Next) (v : Value) (Pr : Hp → Prop) : Prop :=
  (∀ H H', Pr H → H.flatten.Perm H'.flatten → Pr H') ∧ (∀ c H, Pr H → Pr (c :: H)) ∧
  ∀ H w, Pr H → St w0 S w H → OpOk P s w fun v' w' => v' = v ∧ St w0 S w' H
def W : List Nat → Act → Hp → List Rd → Prop
  | [], a, H, _ => ∀ w, St w0 S w H → Q .normal a w
  | i :: rest, a, H, qs =>
    match ops[i]? with
    | none => W rest a H qs
    | some o =>
      if Region.wanted o (yielded ops a.tmps) then
        match cls i o with
        | .pure => ∃ v, (∀ w, (execOp a.eval o).run P w = .ok (.value v) w) ∧ W rest (a.put o.dst v) H qs
        | .quiet => ∃ v Pr, QSem P w0 S (execOp a.eval o) v Pr ∧ Pr H ∧ W rest (a.put o.dst v) H (⟨i, Pr⟩ :: qs)
        | .grow => ∃ (mk : Nat → Value) (ob : Obj), (∀ w, (execOp a.eval o).run P w = .ok (.value (mk w.heap.size)) { w with heap := w.heap.push ob }) ∧
            ∀ b, (∃ w, St w0 S w ([(b, ob)] :: H)) → W rest (a.put o.dst (mk b)) ([(b, ob)] :: H) qs
        | .eff cross => ∀ w, St w0 S w H → OpOk P (execOp a.eval o) w fun v w' => ∃ H', St w0 S w' H' ∧
            (∀ r ∈ qs, r.i ∈ cross → r.Pr H') ∧ W rest (a.put o.dst v) H' qs
        | .defer => ∃ d, (∀ w, (execOp a.eval o).run P w = .ok (.defer d) w) ∧ W rest (({ a with defers := d :: a.defers } : Act).put o.dst undef) H qs
      else W rest (a.put o.dst undef) H qs
variable {P ops Q cls w0 S}
theorem W.perm : ∀ {l : List Nat} {a : Act} {H H' : Hp} {qs : List Rd}, W P ops Q cls w0 S l a H qs → H.flatten.Perm H'.flatten → W P ops Q cls w0 S l a H' qs
  | [], a, H, H', qs, h, hp => fun w hw => h w (hw.perm hp.symm)
  | i :: rest, a, H, H', qs, h, hp => by
    unfold W at *
    cases ho : ops[i]? with
    | none => simp only [ho] at *; exact W.perm h hp
    | some o =>
      simp only [ho] at *
      split
      · rename_i hw
        simp only [hw, if_true] at h
        cases hc : cls i o with
        | pure => simp only [hc] at *; obtain ⟨v, h1, h2⟩ := h; exact ⟨v, h1, W.perm h2 hp⟩
        | quiet => simp only [hc] at *; obtain ⟨v, Pr, h1, h2, h3⟩ := h; exact ⟨v, Pr, h1, h1.1 _ _ h2 hp, W.perm h3 hp⟩
        | grow =>
          simp only [hc] at *; obtain ⟨mk, ob, h1, h2⟩ := h
          refine ⟨mk, ob, h1, fun b hb => ?_⟩
          have hq : (([(b, ob)] :: H).flatten).Perm (([(b, ob)] :: H').flatten) := by simpa using hp.cons (b, ob)
          exact W.perm (h2 b (hb.imp fun w hw => hw.perm hq.symm)) hq
        | eff cross => simp only [hc] at *; exact fun w hw => h w (hw.perm hp.symm)
        | defer => simp only [hc] at *; obtain ⟨d, h1, h2⟩ := h; exact ⟨d, h1, W.perm h2 hp⟩
      · rename_i hw
        simp only [hw] at h
        exact W.perm h hp
/-- the reads' order and number do not matter -/
theorem W.reads : ∀ {l : List Nat} {a : Act} {H : Hp} {qs qs' : List Rd}, W P ops Q cls w0 S l a H qs → (∀ r ∈ qs', r ∈ qs) → W P ops Q cls w0 S l a H qs'
  | [], a, H, qs, qs', h, hp => h
  | i :: rest, a, H, qs, qs', h, hp => by
    unfold W at *
    cases ho : ops[i]? with
    | none => simp only [ho] at *; exact W.reads h hp
    | some o =>
      simp only [ho] at *
      split
      · rename_i hw
        simp only [hw, if_true] at h
        cases hc : cls i o with
        | pure => simp only [hc] at *; obtain ⟨v, h1, h2⟩ := h; exact ⟨v, h1, W.reads h2 hp⟩
        | quiet =>
          simp only [hc] at *; obtain ⟨v, Pr, h1, h2, h3⟩ := h
          refine ⟨v, Pr, h1, h2, W.reads h3 ?_⟩
          intro r hr
          rcases List.mem_cons.1 hr with rfl | hr
          · exact List.mem_cons_self
          · exact List.mem_cons_of_mem _ (hp r hr)
        | grow =>
          simp only [hc] at *; obtain ⟨mk, ob, h1, h2⟩ := h
          exact ⟨mk, ob, h1, fun b hb => W.reads (h2 b hb) hp⟩
        | eff cross =>
          simp only [hc] at *
          exact fun w hw => (h w hw).mono fun v w' ⟨H', h1, h2, h3⟩ => ⟨H', h1, fun r hr => h2 r (hp r hr), W.reads h3 hp⟩
        | defer => simp only [hc] at *; obtain ⟨d, h1, h2⟩ := h; exact ⟨d, h1, W.reads h2 hp⟩
      · rename_i hw
        simp only [hw] at h
        exact W.reads h hp
/-- one step of the text, in whatever world -/
theorem W.step {i : Nat} {rest : List Nat} {a : Act} {H : Hp} {qs : List Rd} (h : W P ops Q cls w0 S (i :: rest) a H qs) {w : World} (hw : St w0 S w H)
    {next : Act → World → Prop} (hn : ∀ a' w' H' qs', St w0 S w' H' → W P ops Q cls w0 S rest a' H' qs' → next a' w') : wpOp P ops Q i next a w := by
  unfold W at h
  unfold wpOp
  cases ho : ops[i]? with
  | none => simp only [ho] at *; exact hn _ _ _ _ hw h
  | some o =>
    simp only [ho] at *
    split
    · rename_i hwa
      simp only [hwa, if_true] at h
      left
      cases hc : cls i o with
      | pure =>
        simp only [hc] at h; obtain ⟨v, h1, h2⟩ := h
        simp only [Oper.wp, h1 w, Oper.upon]
        exact hn _ _ _ _ hw h2
      | quiet =>
        simp only [hc] at h; obtain ⟨v, Pr, h1, h2, h3⟩ := h
        exact (h1.2.2 H w h2 hw).wp fun v' w' ⟨e, hs⟩ => hn _ _ _ _ hs (e ▸ h3)
      | grow =>
        simp only [hc] at h; obtain ⟨mk, ob, h1, h2⟩ := h
        simp only [Oper.wp, h1 w, Oper.upon]
        exact hn _ _ _ _ (hw.alloc ob) (h2 _ ⟨_, hw.alloc ob⟩)
      | eff cross =>
        simp only [hc] at h
        exact (h w hw).wp fun v' w' ⟨H', hs, _, h3⟩ => hn _ _ _ _ hs h3
      | defer =>
        simp only [hc] at h; obtain ⟨d, h1, h2⟩ := h
        simp only [Oper.wp, h1 w, Oper.upon]
        exact hn _ _ _ _ hw h2
    · rename_i hwa
      simp only [hwa] at h
      exact hn _ _ _ _ hw h
theorem W.text : ∀ {l : List Nat} {a : Act} {H : Hp} {qs : List Rd}, W P ops Q cls w0 S l a H qs → ∀ {w : World}, St w0 S w H → wpOps P ops Q l a w
  | [], _, _, _, h, w, hw => h w hw
  | i :: rest, a, H, qs, h, w, hw => by
    rw [wpOps_cons]
    exact h.step hw fun a' w' H' qs' hs hW => W.text hW hs
/-- a region in the order of its text -/
theorem W.plain {id : Nat} {a : Act} {H : Hp} (h : W P ops Q cls w0 S (List.range ops.size) a H []) {w : World} (hw : St w0 S w H) :
    (Code.region id ops false).wp P Q a w := wp_region (h.text hw)
/-- which pairs may change their places -/
def pairOk (k : Nat) (x y : Cls) : Bool :=
  match x, y with
  | .defer, _ | _, .defer => false
  | .pure, _ | _, .pure => true
  | .quiet, .quiet | .quiet, .grow | .grow, .grow => true
  | .quiet, .eff cross => cross.contains k
  | _, _ => false
def swapOk (ops : Array Oper) (cls : Nat → Oper → Cls) (k i : Nat) : Bool :=
  match ops[k]?, ops[i]? with
  | some ok, some oi => ok.apart ops oi && pairOk k (cls k ok) (cls i oi) && Region.noSelect #[ok, oi]
  | _, _ => true
theorem run_put {ops : Array Oper} (o : Oper) (hs : ∀ cs b, o.op ≠ .select cs b) (a : Act) (dst : Option Tmp) (v : Value) (h : ∀ d, dst = some d → d ∉ o.looksAt ops) :
    execOp (a.put dst v).eval o = execOp a.eval o := execOp_put (ops := ops) o hs a dst v h
/-- an operation that makes a block makes one such block -/
theorem grow_same {s : Sem Next} {mk mk' : Nat → Value} {ob ob' : Obj} (h : ∀ w, s.run P w = .ok (.value (mk w.heap.size)) { w with heap := w.heap.push ob })
    (h' : ∀ w, s.run P w = .ok (.value (mk' w.heap.size)) { w with heap := w.heap.push ob' }) : mk = mk' ∧ ob = ob' := by
  constructor
  · funext n
    have := (h { (default : World) with heap := Array.replicate n ob }).symm.trans (h' _)
    simp only [Array.size_replicate, Result.ok.injEq, Next.value.injEq] at this
    exact this.1
  · have := (h default).symm.trans (h' default)
    simp only [Result.ok.injEq, Next.value.injEq, World.mk.injEq] at this
    have h2 := this.2.1
    have h3 := congrArg Array.back? h2
    simpa using h3
/-- two neighbours change their places -/
theorem W.swap {k i : Nat} {rest : List Nat} {a : Act} {H : Hp} {qs : List Rd} (h : W P ops Q cls w0 S (k :: i :: rest) a H qs)
    (hok : swapOk ops cls k i = true) (hex : ∃ w, St w0 S w H) : W P ops Q cls w0 S (i :: k :: rest) a H qs := by
  unfold swapOk at hok
  cases hk : ops[k]? with
  | none =>
    unfold W at h ⊢
    simp only [hk] at h
    unfold W at h
    cases hi : ops[i]? with
    | none => simp only [hi] at h ⊢; unfold W; simp only [hk]; exact h
    | some oi =>
      simp only [hi] at h ⊢
      split
      · rename_i hw
        simp only [hw, if_true] at h
        cases hc : cls i oi with
        | pure => simp only [hc] at h ⊢; obtain ⟨v, h1, h2⟩ := h; refine ⟨v, h1, ?_⟩; unfold W; simp only [hk]; exact h2
        | quiet => simp only [hc] at h ⊢; obtain ⟨v, Pr, h1, h2, h3⟩ := h; refine ⟨v, Pr, h1, h2, ?_⟩; unfold W; simp only [hk]; exact h3
        | grow => simp only [hc] at h ⊢; obtain ⟨mk, ob, h1, h2⟩ := h; refine ⟨mk, ob, h1, fun b hb => ?_⟩; unfold W; simp only [hk]; exact h2 b hb
        | eff cross =>
          simp only [hc] at h ⊢
          exact fun w hw => (h w hw).mono fun v w' ⟨H', h1, h2, h3⟩ => ⟨H', h1, h2, by unfold W; simp only [hk]; exact h3⟩
        | defer => simp only [hc] at h ⊢; obtain ⟨d, h1, h2⟩ := h; refine ⟨d, h1, ?_⟩; unfold W; simp only [hk]; exact h2
      · rename_i hw
        simp only [hw] at h
        unfold W; simp only [hk]; exact h
  | some ok =>
    cases hi : ops[i]? with
    | none =>
      unfold W at h ⊢
      simp only [hk] at h
      simp only [hi]
      unfold W
      simp only [hk]
      split
      · rename_i hw
        simp only [hw, if_true] at h
        cases hc : cls k ok with
        | pure => simp only [hc] at h ⊢; obtain ⟨v, h1, h2⟩ := h; refine ⟨v, h1, ?_⟩; unfold W at h2; simp only [hi] at h2; exact h2
        | quiet => simp only [hc] at h ⊢; obtain ⟨v, Pr, h1, h2, h3⟩ := h; refine ⟨v, Pr, h1, h2, ?_⟩; unfold W at h3; simp only [hi] at h3; exact h3
        | grow => simp only [hc] at h ⊢; obtain ⟨mk, ob, h1, h2⟩ := h; refine ⟨mk, ob, h1, fun b hb => ?_⟩; have h2 := h2 b hb; unfold W at h2; simp only [hi] at h2; exact h2
        | eff cross =>
          simp only [hc] at h ⊢
          exact fun w hw => (h w hw).mono fun v w' ⟨H', h1, h2, h3⟩ => ⟨H', h1, h2, by unfold W at h3; simp only [hi] at h3; exact h3⟩
        | defer => simp only [hc] at h ⊢; obtain ⟨d, h1, h2⟩ := h; refine ⟨d, h1, ?_⟩; unfold W at h2; simp only [hi] at h2; exact h2
      · rename_i hw
        simp only [hw] at h
        unfold W at h; simp only [hi] at h; exact h
    | some oi =>
      simp only [hk, hi, Bool.and_eq_true] at hok
      obtain ⟨⟨hap, hpair⟩, hsel⟩ := hok
      have hsk : ∀ cs b, ok.op ≠ .select cs b := fun cs b => Region.noSelect_spec hsel 0 ok cs b rfl
      have hsi : ∀ cs b, oi.op ≠ .select cs b := fun cs b => Region.noSelect_spec hsel 1 oi cs b rfl
      obtain ⟨ap1, ap2, ap3⟩ := Oper.apart_spec hap
      have hne' : ∀ d, ok.dst = some d → oi.dst ≠ some d := ap2
      -- what the one does, the other does not see
      have ei : ∀ (a : Act) v, execOp (a.put ok.dst v).eval oi = execOp a.eval oi := fun a v => run_put oi hsi a ok.dst v ap1
      have ek : ∀ (a : Act) v, execOp (a.put oi.dst v).eval ok = execOp a.eval ok := fun a v => run_put ok hsk a oi.dst v ap3
      have wi : ∀ (a : Act) v, Region.wanted oi (yielded ops (a.put ok.dst v).tmps) = Region.wanted oi (yielded ops a.tmps) := fun a v => wanted_put oi a ok.dst v ap1
      have wk : ∀ (a : Act) v, Region.wanted ok (yielded ops (a.put oi.dst v).tmps) = Region.wanted ok (yielded ops a.tmps) := fun a v => wanted_put ok a oi.dst v ap3
      have pc : ∀ (a : Act) v u, (a.put ok.dst v).put oi.dst u = (a.put oi.dst u).put ok.dst v := fun a v u => Act.put_comm a v u hne'
      unfold W at h ⊢
      simp only [hk] at h
      simp only [hi]
      unfold W at h ⊢
      simp only [hi] at h
      simp only [hk, wk, ek]
      simp only [wi, ei, pc] at h
      by_cases hwk : Region.wanted ok (yielded ops a.tmps) = true <;> by_cases hwi : Region.wanted oi (yielded ops a.tmps) = true
      · simp only [hwk, hwi, if_true] at h ⊢
        unfold pairOk at hpair
        cases hck : cls k ok with
        | defer => simp [hck] at hpair
        | pure =>
          simp only [hck] at h hpair ⊢
          obtain ⟨v, h1, h2⟩ := h
          cases hci : cls i oi with
          | defer => simp [hci] at hpair
          | pure => simp only [hci] at h2 ⊢; obtain ⟨u, h3, h4⟩ := h2; exact ⟨u, h3, v, h1, h4⟩
          | quiet => simp only [hci] at h2 ⊢; obtain ⟨u, Pr, h3, h4, h5⟩ := h2; exact ⟨u, Pr, h3, h4, v, h1, h5⟩
          | grow => simp only [hci] at h2 ⊢; obtain ⟨mk, ob, h3, h4⟩ := h2; exact ⟨mk, ob, h3, fun b hb => ⟨v, h1, h4 b hb⟩⟩
          | eff cross =>
            simp only [hci] at h2 ⊢
            exact fun w hw => (h2 w hw).mono fun u w' ⟨H', h3, h4, h5⟩ => ⟨H', h3, h4, v, h1, h5⟩
        | quiet =>
          simp only [hck] at h hpair ⊢
          obtain ⟨v, Pr, h1, h2, h3⟩ := h
          cases hci : cls i oi with
          | defer => simp [hci] at hpair
          | pure => simp only [hci] at h3 ⊢; obtain ⟨u, h4, h5⟩ := h3; exact ⟨u, h4, v, Pr, h1, h2, h5⟩
          | quiet =>
            simp only [hci] at h3 ⊢; obtain ⟨u, Pr', h4, h5, h6⟩ := h3
            refine ⟨u, Pr', h4, h5, v, Pr, h1, h2, h6.reads ?_⟩
            intro r hr
            simp only [List.mem_cons] at hr ⊢
            rcases hr with hr | hr | hr
            · exact .inr (.inl hr)
            · exact .inl hr
            · exact .inr (.inr hr)
          | grow => simp only [hci] at h3 ⊢; obtain ⟨mk, ob, h4, h5⟩ := h3; exact ⟨mk, ob, h4, fun b hb => ⟨v, Pr, h1, h1.2.1 _ _ h2, h5 b hb⟩⟩
          | eff cross =>
            simp only [hci] at h3 hpair ⊢
            refine fun w hw => (h3 w hw).mono fun u w' ⟨H', h4, h5, h6⟩ => ⟨H', h4, fun r hr => h5 r (List.mem_cons_of_mem _ hr), v, Pr, h1, ?_, h6⟩
            exact h5 ⟨k, Pr⟩ List.mem_cons_self (by simpa using hpair)
        | grow =>
          simp only [hck] at h hpair ⊢
          obtain ⟨mk, ob, h1, h2⟩ := h
          cases hci : cls i oi with
          | defer => simp [hci] at hpair
          | pure =>
            simp only [hci] at h2 ⊢
            obtain ⟨w1, hw1⟩ := hex
            obtain ⟨u, h3, h4⟩ := h2 w1.heap.size ⟨_, hw1.alloc ob⟩
            refine ⟨u, h3, mk, ob, h1, fun b hb => ?_⟩
            obtain ⟨u', h5, h6⟩ := h2 b hb
            have := (h3 default).symm.trans (h5 default)
            simp only [Result.ok.injEq, Next.value.injEq, and_true] at this
            subst this; exact h6
          | quiet => simp [hci] at hpair
          | grow =>
            simp only [hci] at h2 ⊢
            obtain ⟨w1, hw1⟩ := hex
            obtain ⟨mk', ob', h3, _⟩ := h2 w1.heap.size ⟨_, hw1.alloc ob⟩
            refine ⟨mk', ob', h3, fun b' _ => ⟨mk, ob, h1, fun b ⟨w, hb⟩ => ?_⟩⟩
            have hb2 : St w0 S w ([(b', ob')] :: [(b, ob)] :: H) := hb.perm (by simpa using List.Perm.swap (b', ob') (b, ob) H.flatten)
            obtain ⟨mk2, ob2, h5, h6⟩ := h2 b ⟨w, hb2.drop⟩
            obtain ⟨e1, e2⟩ := grow_same h3 h5
            subst e1 e2
            exact (h6 b' ⟨w, hb2⟩).perm (by simpa using List.Perm.swap (b, ob) (b', ob') H.flatten)
          | eff cross => simp [hci] at hpair
        | eff cross =>
          simp only [hck] at h hpair ⊢
          cases hci : cls i oi with
          | defer => simp [hci] at hpair
          | pure =>
            simp only [hci] at h ⊢
            obtain ⟨w1, hw1⟩ := hex
            obtain ⟨_, _, _, _, _, u, h3, _⟩ := (h w1 hw1).ex
            refine ⟨u, h3, fun w hw => (h w hw).mono fun v w' ⟨H', h4, h5, u', h6, h7⟩ => ⟨H', h4, h5, ?_⟩⟩
            have := (h3 default).symm.trans (h6 default)
            simp only [Result.ok.injEq, Next.value.injEq, and_true] at this
            subst this; exact h7
          | quiet => simp [hci] at hpair
          | grow => simp [hci] at hpair
          | eff cross' => simp [hci] at hpair
      · simp only [hwk, hwi, if_true] at h ⊢
        unfold pairOk at hpair
        cases hck : cls k ok with
        | defer => simp [hck] at hpair
        | pure => simp only [hck] at h ⊢; exact h
        | quiet => simp only [hck] at h ⊢; exact h
        | grow => simp only [hck] at h ⊢; exact h
        | eff cross => simp only [hck] at h ⊢; exact h
      · simp only [hwk, hwi, if_true] at h ⊢
        unfold pairOk at hpair
        cases hci : cls i oi with
        | defer => exfalso; cases hck : cls k ok <;> simp [hci, hck] at hpair
        | pure => simp only [hci] at h ⊢; exact h
        | quiet => simp only [hci] at h ⊢; exact h
        | grow => simp only [hci] at h ⊢; exact h
        | eff cross => simp only [hci] at h ⊢; exact h
      · simp only [hwk, hwi] at h ⊢
        exact h
theorem W.cons_congr {k : Nat} {l l' : List Nat} {a : Act} {H : Hp} {qs : List Rd} (h : W P ops Q cls w0 S (k :: l) a H qs) (hex : ∃ w, St w0 S w H)
    (hc : ∀ a H qs, (∃ w, St w0 S w H) → W P ops Q cls w0 S l a H qs → W P ops Q cls w0 S l' a H qs) : W P ops Q cls w0 S (k :: l') a H qs := by
  unfold W at h ⊢
  cases ho : ops[k]? with
  | none => simp only [ho] at h ⊢; exact hc _ _ _ hex h
  | some o =>
    simp only [ho] at h ⊢
    split
    · rename_i hw
      simp only [hw, if_true] at h
      cases hcl : cls k o with
      | pure => simp only [hcl] at h ⊢; obtain ⟨v, h1, h2⟩ := h; exact ⟨v, h1, hc _ _ _ hex h2⟩
      | quiet => simp only [hcl] at h ⊢; obtain ⟨v, Pr, h1, h2, h3⟩ := h; exact ⟨v, Pr, h1, h2, hc _ _ _ hex h3⟩
      | grow => simp only [hcl] at h ⊢; obtain ⟨mk, ob, h1, h2⟩ := h; exact ⟨mk, ob, h1, fun b hb => hc _ _ _ hb (h2 b hb)⟩
      | eff cross =>
        simp only [hcl] at h ⊢
        exact fun w hw => (h w hw).mono fun v w' ⟨H', h1, h2, h3⟩ => ⟨H', h1, h2, hc _ _ _ ⟨_, h1⟩ h3⟩
      | defer => simp only [hcl] at h ⊢; obtain ⟨d, h1, h2⟩ := h; exact ⟨d, h1, hc _ _ _ hex h2⟩
    · rename_i hw
      simp only [hw] at h
      exact hc _ _ _ hex h
theorem W.front {i : Nat} {l2 : List Nat} : ∀ {l1 : List Nat} {a : Act} {H : Hp} {qs : List Rd}, W P ops Q cls w0 S (l1 ++ i :: l2) a H qs →
    (∃ w, St w0 S w H) → (∀ k ∈ l1, swapOk ops cls k i = true) → W P ops Q cls w0 S (i :: (l1 ++ l2)) a H qs
  | [], _, _, _, h, _, _ => h
  | k :: l1, a, H, qs, h, hex, hok => by
    have h1 : W P ops Q cls w0 S (k :: i :: (l1 ++ l2)) a H qs :=
      W.cons_congr h hex fun a H qs hx hW => W.front hW hx fun j hj => hok j (List.mem_cons_of_mem _ hj)
    exact h1.swap (hok k List.mem_cons_self) hex
/-- the places that stand ahead of an operation by its binding edges -/
def preds (ops : Array Oper) (i : Nat) : List Nat :=
  match ops[i]? with
  | some o => (o.after.toList.filter (Region.binds .any)).map (·.on)
  | none => []
def reach (ops : Array Oper) : Nat → Nat → Nat → Bool
  | 0, j, x => (preds ops j).contains x
  | n + 1, j, x => (preds ops j).contains x || (preds ops j).any fun p => reach ops n p x
/-- ord is a list of all places, each behind those that it must stand behind; and where one may overtake another the two are alike in either order -/
def orderOk (ops : Array Oper) (cls : Nat → Oper → Cls) : List Nat → List Nat → Bool
  | _, [] => true
  | done, i :: rest =>
    ((preds ops i).all (fun p => done.contains p) &&
    rest.all (fun j => j != i && (reach ops rest.length j i || swapOk ops cls i j))) && orderOk ops cls (i :: done) rest
def drawOk (ops : Array Oper) (cls : Nat → Oper → Cls) (ord : List Nat) : Bool :=
  (List.range ops.size).all (fun i => ord.contains i) && decide (ord.length ≤ ops.size) && ord.all (fun i => decide (i < ops.size)) && orderOk ops cls [] ord
theorem sublist_pair {x y : Nat} : ∀ {l : List Nat}, (x :: y :: []).Sublist l → ∃ s t, l = s ++ x :: t ∧ y ∈ t
  | [], h => by cases h
  | z :: l, h => by
    cases h with
    | cons _ h => obtain ⟨s, t, rfl, hy⟩ := sublist_pair h; exact ⟨z :: s, t, rfl, hy⟩
    | cons_cons _ h => exact ⟨[], l, rfl, List.singleton_sublist.1 h⟩
/-- x stands ahead of j, through whatever edges -/
inductive Anc (ops : Array Oper) : Nat → Nat → Prop
  | one {j x : Nat} : x ∈ preds ops j → Anc ops j x
  | step {j p x : Nat} : p ∈ preds ops j → Anc ops p x → Anc ops j x
theorem reach_anc : ∀ (n : Nat) (j x : Nat), reach ops n j x = true → Anc ops j x
  | 0, j, x, h => by
    simp only [reach] at h
    exact .one (by simpa using h)
  | n + 1, j, x, h => by
    simp only [reach, Bool.or_eq_true, List.any_eq_true] at h
    rcases h with h | ⟨p, hp, h⟩
    · exact .one (by simpa using h)
    · exact .step hp (reach_anc n p x h)
theorem anc_listed {listed : Nat → Prop} (hcl : ∀ j, listed j → ∀ p ∈ preds ops j, listed p) {j x : Nat} (h : Anc ops j x) : (∀ p ∈ preds ops j, listed p) → listed x := by
  induction h with
  | one hx => exact fun hp => hp _ hx
  | step hp _ ih => exact fun hq => ih (hcl _ (hq _ hp))
theorem orderOk_spec : ∀ {l done : List Nat}, orderOk ops cls done l = true → ∀ l1 x l2, l = l1 ++ x :: l2 →
    (∀ p ∈ preds ops x, p ∈ done ∨ p ∈ l1) ∧ ∀ j ∈ l2, j ≠ x ∧ (Anc ops j x ∨ swapOk ops cls x j = true)
  | [], _, _, l1, x, l2, he => by cases l1 <;> simp at he
  | i :: rest, done, h, l1, x, l2, he => by
    simp only [orderOk, Bool.and_eq_true, List.all_eq_true, List.contains_iff_mem, bne_iff_ne, Bool.or_eq_true] at h
    obtain ⟨⟨h1, h2⟩, h3⟩ := h
    cases l1 with
    | nil =>
      simp only [List.nil_append, List.cons.injEq] at he
      obtain ⟨rfl, rfl⟩ := he
      exact ⟨fun p hp => .inl (h1 p hp), fun j hj => ⟨(h2 j hj).1, (h2 j hj).2.imp (reach_anc _ _ _) id⟩⟩
    | cons y l1 =>
      simp only [List.cons_append, List.cons.injEq] at he
      obtain ⟨rfl, rfl⟩ := he
      obtain ⟨h4, h5⟩ := orderOk_spec h3 l1 x l2 rfl
      refine ⟨fun p hp => ?_, h5⟩
      rcases h4 p hp with h | h
      · rcases List.mem_cons.1 h with rfl | h
        · exact .inr List.mem_cons_self
        · exact .inl h
      · exact .inr (List.mem_cons_of_mem _ h)
theorem orderOk_nodup : ∀ {l done : List Nat}, orderOk ops cls done l = true → l.Nodup
  | [], _, _ => List.nodup_nil
  | i :: rest, done, h => by
    simp only [orderOk, Bool.and_eq_true, List.all_eq_true, bne_iff_ne] at h
    exact List.nodup_cons.2 ⟨fun hm => (h.1.2 i hm).1 rfl, orderOk_nodup h.2⟩
theorem W.any {ord : List Nat} (hord : orderOk ops cls [] ord = true) (hall : ∀ i, i < ops.size → i ∈ ord) (hlt : ∀ i ∈ ord, i < ops.size) :
    ∀ (fuel : Nat) (listed : Array Bool) (a : Act) (H : Hp) (qs : List Rd), listed.size = ops.size →
      (∀ j, listed.getD j false = true → ∀ p ∈ preds ops j, listed.getD p false = true) →
      (ord.filter fun j => !listed.getD j true).length ≤ fuel → W P ops Q cls w0 S (ord.filter fun j => !listed.getD j true) a H qs →
      ∀ w, St w0 S w H → wpAny P .any ops Q fuel listed a w := by
  have hready : ∀ (listed : Array Bool) i, i ∈ Region.ready .any ops listed → listed.getD i true = false ∧ i < ops.size ∧ ∀ p ∈ preds ops i, listed.getD p false = true := by
    intro listed i hi
    obtain ⟨h1, o, ho, h2⟩ := mem_ready.1 hi
    refine ⟨h1, (Array.getElem?_eq_some_iff.1 ho).1, fun p hp => ?_⟩
    simp only [preds, ho, List.mem_map, List.mem_filter, Array.mem_toList_iff] at hp
    obtain ⟨e, ⟨he, hb⟩, rfl⟩ := hp
    exact h2 e he hb
  have hnil : ∀ (listed : Array Bool), listed.size = ops.size → (ord.filter fun j => !listed.getD j true) = [] → Region.ready .any ops listed = [] := by
    intro listed hsz hl
    rw [List.eq_nil_iff_forall_not_mem]
    intro i hi
    obtain ⟨h1, h2, _⟩ := hready listed i hi
    have : i ∈ ord.filter fun j => !listed.getD j true := List.mem_filter.2 ⟨hall i h2, by rw [h1]; rfl⟩
    rw [hl] at this; cases this
  have hsome : ∀ (listed : Array Bool), listed.size = ops.size → ∀ x l, (ord.filter fun j => !listed.getD j true) = x :: l → x ∈ Region.ready .any ops listed := by
    intro listed hsz x l hl
    obtain ⟨l1, l2, hsp, hno, hx, -⟩ := List.filter_eq_cons_iff.1 hl
    have hxlt := hlt x (by rw [hsp]; simp)
    refine mem_ready.2 ⟨by simpa using hx, ops[x], Array.getElem?_eq_getElem hxlt, fun e he hb => ?_⟩
    have hp : e.on ∈ preds ops x := by
      simp only [preds, Array.getElem?_eq_getElem hxlt, List.mem_map, List.mem_filter, Array.mem_toList_iff]
      exact ⟨e, ⟨he, hb⟩, rfl⟩
    rcases (orderOk_spec hord l1 x l2 hsp).1 _ hp with h | h
    · cases h
    · have h1 := hno _ h
      have h2 := hlt e.on (by rw [hsp]; simp [h])
      simp only [Bool.not_eq_true, Bool.not_eq_false'] at h1
      simp only [Array.getD_eq_getD_getElem?, Array.getElem?_eq_getElem (show e.on < listed.size by omega), Option.getD_some] at h1 ⊢
      exact h1
  intro fuel
  induction fuel with
  | zero =>
    intro listed a H qs hsz hcl hlen hW w hw
    have hl : (ord.filter fun j => !listed.getD j true) = [] := List.length_eq_zero_iff.1 (Nat.le_zero.1 hlen)
    rw [hl] at hW
    exact ⟨hnil listed hsz hl, hW w hw⟩
  | succ fuel ih =>
    intro listed a H qs hsz hcl hlen hW w hw
    refine ⟨fun hr => ?_, fun i hi => ?_⟩
    · cases hl : (ord.filter fun j => !listed.getD j true) with
      | nil => rw [hl] at hW; exact hW w hw
      | cons x l =>
        have := hsome listed hsz x l hl
        rw [hr] at this; cases this
    · obtain ⟨hun, hilt, hpre⟩ := hready listed i hi
      have hmem : i ∈ ord.filter fun j => !listed.getD j true := List.mem_filter.2 ⟨hall i hilt, by rw [hun]; rfl⟩
      obtain ⟨l1, l2, hsp⟩ := List.append_of_mem hmem
      have hnd : (l1 ++ i :: l2).Nodup := hsp ▸ (orderOk_nodup hord).sublist List.filter_sublist
      have hsw : ∀ k ∈ l1, swapOk ops cls k i = true := by
        intro k hk
        -- in ord k stands ahead of i
        have hsub : (k :: i :: []).Sublist ord := by
          have h1 : (k :: i :: []).Sublist (l1 ++ i :: l2) := by
            obtain ⟨s, t, rfl⟩ := List.append_of_mem hk
            simp only [List.append_assoc, List.cons_append]
            refine List.Sublist.trans ?_ (List.sublist_append_right s _)
            exact (List.Sublist.cons_cons _ (List.Sublist.trans (List.Sublist.cons_cons _ (List.nil_sublist l2)) (List.sublist_append_right t _)))
          rw [← hsp] at h1
          exact h1.trans List.filter_sublist
        obtain ⟨s, t, hst, hit⟩ := sublist_pair hsub
        rcases ((orderOk_spec hord s k t hst).2 i hit).2 with h | h
        · exfalso
          have := anc_listed (listed := fun j => listed.getD j false = true) hcl h hpre
          have hkun : listed.getD k true = false := by
            have : k ∈ ord.filter fun j => !listed.getD j true := by rw [hsp]; simp [hk]
            simpa using (List.mem_filter.1 this).2
          have hklt : k < listed.size := by
            have := hlt k (List.mem_filter.1 (show k ∈ ord.filter fun j => !listed.getD j true by rw [hsp]; simp [hk])).1; omega
          simp only [Array.getD_eq_getD_getElem?, Array.getElem?_eq_getElem hklt, Option.getD_some] at this hkun
          rw [this] at hkun; cases hkun
        · exact h
      rw [hsp] at hW
      have hF := W.front hW ⟨w, hw⟩ hsw
      have hnew : (ord.filter fun j => !(listed.setIfInBounds i true).getD j true) = l1 ++ l2 := by
        have h1 : (ord.filter fun j => !(listed.setIfInBounds i true).getD j true) = (ord.filter fun j => !listed.getD j true).filter (· != i) := by
          rw [List.filter_filter]
          apply List.filter_congr
          intro j _
          by_cases hji : j = i
          · subst hji
            simp [show j < listed.size by omega]
          · rw [getD_set_ne true (Ne.symm hji)]
            simp [hji]
        rw [h1, hsp]
        obtain ⟨hn1, hn2, hn3⟩ := List.nodup_append.1 hnd
        have hi1 : i ∉ l1 := fun h => hn3 i h i (by simp) rfl
        have hi2 : i ∉ l2 := (List.nodup_cons.1 hn2).1
        have f1 : l1.filter (· != i) = l1 := List.filter_eq_self.2 fun x hx => by have hxi : x ≠ i := fun e => hi1 (e ▸ hx); simpa using hxi
        have f2 : l2.filter (· != i) = l2 := List.filter_eq_self.2 fun x hx => by have hxi : x ≠ i := fun e => hi2 (e ▸ hx); simpa using hxi
        simp [List.filter_append, f1, f2]
      refine hF.step hw fun a' w' H' qs' hs hW' => ?_
      refine ih (listed.setIfInBounds i true) a' H' qs' (by simp [hsz]) ?_ (by rw [hnew]; have := congrArg List.length hsp; rw [List.length_append, List.length_cons] at this; rw [List.length_append]; omega) (by rw [hnew]; exact hW') w' hs
      intro j hj p hp
      by_cases hji : j = i
      · subst hji; exact getD_set_true (hpre p hp)
      · rw [getD_set_ne false (Ne.symm hji)] at hj
        exact getD_set_true (hcl j hj p hp)
/-- a region whose order is open: it is enough to go through it in one order -/
theorem W.draw {id : Nat} {a : Act} {H : Hp} (ord : List Nat) (hm : P.follows .mixedOrders = true) (hord : drawOk ops cls ord = true) (h : W P ops Q cls w0 S ord a H [])
    {w : World} (hw : St w0 S w H) : (Code.region id ops true).wp P Q a w := by
  simp only [drawOk, Bool.and_eq_true, List.all_eq_true, List.contains_iff_mem, decide_eq_true_eq, List.mem_range] at hord
  obtain ⟨⟨⟨h1, h4⟩, h2⟩, h3⟩ := hord
  have hf : (ord.filter fun j => !(Array.replicate ops.size false).getD j true) = ord := by
    apply List.filter_eq_self.2
    intro j hj
    simp [h2 j hj]
  refine wp_region_any hm (W.any h3 h1 h2 ops.size _ a H [] (by simp) ?_ ?_ (by rw [hf]; exact h) _ (hw.drew _))
  · intro j hj
    simp [Array.getD_eq_getD_getElem?, Array.getElem?_replicate] at hj
    split at hj <;> simp at hj
  · rw [hf]; exact h4
end region
end Go.SL
namespace Go.SL
open Go.RowKit
theorem nle {a b : Nat} (h : Nat.ble a b = true) : a ≤ b := Nat.le_of_ble_eq_true h
/-- a test, kept shut -/
@[irreducible] def dec (p : Prop) [Decidable p] : Bool := decide p
theorem dec_eq (p : Prop) [Decidable p] : dec p = decide p := by unfold dec; rfl
theorem dec_iff {p : Prop} [Decidable p] : dec p = true ↔ p := by rw [dec_eq]; exact decide_eq_true_iff
theorem dec_true {p : Prop} [Decidable p] (h : p) : dec p = true := dec_iff.2 h
theorem dec_false {p : Prop} [Decidable p] (h : ¬ p) : dec p = false := by rw [dec_eq]; exact decide_eq_false h
theorem dec_congr {p q : Prop} [Decidable p] [Decidable q] (h : p ↔ q) : dec p = dec q := by rw [dec_eq, dec_eq]; exact decide_eq_decide.2 h
/-- a block of cells -/
def row (cs : List Value) (T : TypeId) : Obj := .cells cs.toArray T (0, 0)
/-- a block of cells of which some may be frozen -/
def rowf (cs : List Value) (T : TypeId) (fz : Nat × Nat) : Obj := .cells cs.toArray T fz
def dstOf (ops : Array Oper) (j : Nat) : Option Tmp := (ops[j]?).bind (·.dst)
def Want (ops : Array Oper) (L : Slots) : Option (Nat × Bool) → Prop
  | none => True
  | some (j, b) => ∃ t, dstOf ops j = some t ∧ lk t L = some (.bool b)
def addSlot (L : Slots) (v : Value) : Option Tmp → Slots
  | some d => (d, v) :: L
  | none => L
def okDst (n : Nat) : Option Tmp → Prop
  | some d => d < n
  | none => True
def annLk (i : Nat) : List (Nat × Cls) → Option Cls
  | [] => none
  | (j, c) :: l => match Nat.beq i j with | true => some c | false => annLk i l
/-- the usual class of an operation -/
def kind : Op → Cls
  | .load .. => .quiet
  | .alloc .. | .box .. | .buildSlice .. | .makeMap .. | .makeSlice .. => .grow
  | .store .. | .lookup .. | .mapUpdate .. | .insert .. | .range .. | .next .. | .entry .. => .eff []
  | .call { callee := .builtin .len, .. } | .call { callee := .builtin .cap, .. } | .call { callee := .builtin .max, .. } | .call { callee := .builtin .min, .. } => .pure
  | .call .. => .eff []
  | .defer .. => .defer
  | _ => .pure
def std (ann : List (Nat × Cls)) (i : Nat) (o : Oper) : Cls :=
  match annLk i ann with
  | some c => c
  | none => kind o.op
def enum : Nat → List Oper → List (Nat × Oper)
  | _, [] => []
  | k, o :: os => (k, o) :: enum (k + 1) os
theorem enum_get : ∀ (os : List Oper) (k : Nat) (p : Nat × Oper), p ∈ enum k os → k ≤ p.1 ∧ os[p.1 - k]? = some p.2
  | [], k, p, h => by simp [enum] at h
  | o :: os, k, p, h => by
    simp only [enum, List.mem_cons] at h
    rcases h with rfl | h
    · simp
    · obtain ⟨h1, h2⟩ := enum_get os (k + 1) p h
      refine ⟨by omega, ?_⟩
      have : p.1 - k = (p.1 - (k + 1)) + 1 := by omega
      rw [this]; simpa using h2
theorem enum_range : ∀ (os : List Oper) (k : Nat), (enum k os).map (·.1) = List.range' k os.length
  | [], k => by simp [enum]
  | o :: os, k => by simp [enum, enum_range os (k + 1), List.range'_succ]
section
variable (P : Program) (ops : Array Oper) (Q : Exit → Act → World → Prop) (cls : Nat → Oper → Cls) (w0 : World) (S : List Nat) (n : Nat)
def R (l : List (Nat × Oper)) (L : Slots) (D : List Deferred) (H : Hp) (qs : List Rd) : Prop :=
  (∀ p ∈ l, ops[p.1]? = some p.2) → ∀ a, Fr n a L → a.defers = D → W P ops Q cls w0 S (l.map (·.1)) a H qs
/-- at an operation that is to be done -/
def R1 (k : Nat) (o : Oper) (l : List (Nat × Oper)) (L : Slots) (D : List Deferred) (H : Hp) (qs : List Rd) : Prop :=
  (∀ p ∈ (k, o) :: l, ops[p.1]? = some p.2) → ∀ a, Fr n a L → a.defers = D → Region.wanted o (yielded ops a.tmps) = true → W P ops Q cls w0 S (k :: l.map (·.1)) a H qs
/-- at an exit -/
def Dn (e : Exit) (L : Slots) (D : List Deferred) (H : Hp) : Prop := ∀ a w, Fr n a L → a.defers = D → St w0 S w H → Q e a w
/-- at a piece of code -/
def G (c : Code) (L : Slots) (D : List Deferred) (H : Hp) : Prop := ∀ a w, Fr n a L → a.defers = D → St w0 S w H → c.wp P Q a w
end
section steps
variable {P : Program} {ops : Array Oper} {Q : Exit → Act → World → Prop} {cls : Nat → Oper → Cls} {w0 : World} {S : List Nat} {n : Nat}
variable {k : Nat} {o : Oper} {l : List (Nat × Oper)} {L : Slots} {D : List Deferred} {H : Hp} {qs : List Rd}
@[simp] theorem put_defers (a : Act) (d : Option Tmp) (v : Value) : (a.put d v).defers = a.defers := by cases d <;> rfl
theorem Fr.add {a : Act} (h : Fr n a L) {d : Option Tmp} (hd : okDst n d) (v : Value) : Fr n (a.put d v) (addSlot L v d) := by
  cases d with
  | none => exact h
  | some d => exact h.put hd v
theorem wanted_of {a : Act} (h : Fr n a L) (hw : Want ops L o.guard) : Region.wanted o (yielded ops a.tmps) = true := by
  unfold Region.wanted
  cases hg : o.guard with
  | none => rfl
  | some g =>
    obtain ⟨j, b⟩ := g
    rw [hg] at hw
    obtain ⟨t, h1, h2⟩ := hw
    have := h.get t _ h2
    simp only [dstOf] at h1
    simp [yielded, h1, this]
theorem unwanted_of {a : Act} (h : Fr n a L) {j : Nat} {b : Bool} (hg : o.guard = some (j, b)) {t : Nat} (h1 : dstOf ops j = some t) (h2 : lk t L = some (.bool (!b))) :
    Region.wanted o (yielded ops a.tmps) = false := by
  unfold Region.wanted
  have := h.get t _ h2
  simp only [dstOf] at h1
  rw [hg]
  cases b <;> simp [yielded, h1, this]
theorem R.nil (h : Dn Q w0 S n .normal L D H) : R P ops Q cls w0 S n [] L D H qs := fun _ a hf hd w hw => h a w hf hd hw
theorem R.skip {d : Nat} {op : Op} {ty : TypeId} {pos : String} {af : Array Edge} {j : Nat} {b : Bool} {t : Nat} (h1 : dstOf ops j = some t := by exact rfl) (h2 : lk t L = some (.bool (!b)) := by exact rfl) (hn : d < n := by exact nle rfl)
    (h : R P ops Q cls w0 S n l ((d, undef) :: L) D H qs) : R P ops Q cls w0 S n ((k, ⟨some d, op, ty, pos, af, some (j, b)⟩) :: l) L D H qs := by
  intro hl a hf hD
  have ho := hl _ List.mem_cons_self
  simp only [List.map_cons]
  unfold W
  simp only [ho, unwanted_of (o := ⟨some d, op, ty, pos, af, some (j, b)⟩) hf rfl h1 h2]
  exact h (fun p hp => hl p (List.mem_cons_of_mem _ hp)) _ (hf.put hn _) (by simpa using hD)
theorem unwanted_undef {a : Act} (h : Fr n a L) {j : Nat} {b : Bool} (hg : o.guard = some (j, b)) {t : Nat} (h1 : dstOf ops j = some t) (h2 : lk t L = some undef) :
    Region.wanted o (yielded ops a.tmps) = false := by
  unfold Region.wanted
  have := h.get t _ h2
  simp only [dstOf] at h1
  rw [hg]
  cases b <;> simp [yielded, h1, this, undef]
theorem R.skipU {d : Nat} {op : Op} {ty : TypeId} {pos : String} {af : Array Edge} {j : Nat} {b : Bool} {t : Nat} (h1 : dstOf ops j = some t := by exact rfl) (h2 : lk t L = some undef := by exact rfl) (hn : d < n := by exact nle rfl)
    (h : R P ops Q cls w0 S n l ((d, undef) :: L) D H qs) : R P ops Q cls w0 S n ((k, ⟨some d, op, ty, pos, af, some (j, b)⟩) :: l) L D H qs := by
  intro hl a hf hD
  have ho := hl _ List.mem_cons_self
  simp only [List.map_cons]
  unfold W
  simp only [ho, unwanted_undef (o := ⟨some d, op, ty, pos, af, some (j, b)⟩) hf rfl h1 h2]
  exact h (fun p hp => hl p (List.mem_cons_of_mem _ hp)) _ (hf.put hn _) (by simpa using hD)
theorem R.skipN {op : Op} {ty : TypeId} {pos : String} {af : Array Edge} {j : Nat} {b : Bool} {t : Nat} (h1 : dstOf ops j = some t := by exact rfl) (h2 : lk t L = some (.bool (!b)) := by exact rfl)
    (h : R P ops Q cls w0 S n l L D H qs) : R P ops Q cls w0 S n ((k, ⟨none, op, ty, pos, af, some (j, b)⟩) :: l) L D H qs := by
  intro hl a hf hD
  have ho := hl _ List.mem_cons_self
  simp only [List.map_cons]
  unfold W
  simp only [ho, unwanted_of (o := ⟨none, op, ty, pos, af, some (j, b)⟩) hf rfl h1 h2]
  exact h (fun p hp => hl p (List.mem_cons_of_mem _ hp)) _ hf (by simpa using hD)
theorem R.weaken {L' : Slots} (hs : ∀ a, Fr n a L → Fr n a L') (h : R P ops Q cls w0 S n l L' D H qs) : R P ops Q cls w0 S n l L D H qs :=
  fun hl a hf hD => h hl a (hs a hf) hD
/-- a guard that hangs on a proposition: both ways -/
theorem R.split {j : Nat} {b : Bool} {t : Nat} {p : Prop} {_ : Decidable p} (_ : o.guard = some (j, b)) (_ : dstOf ops j = some t) (h2 : lk t L = some (.bool (dec p)))
    (ht : p → R P ops Q cls w0 S n ((k, o) :: l) ((t, .bool true) :: L) D H qs) (hf : ¬ p → R P ops Q cls w0 S n ((k, o) :: l) ((t, .bool false) :: L) D H qs) :
    R P ops Q cls w0 S n ((k, o) :: l) L D H qs := by
  by_cases hp : p
  · refine R.weaken (fun a hf => hf.sub fun t' v hv => ?_) (ht hp)
    rw [lk_cons] at hv
    split at hv
    · rename_i e; subst e; rw [h2]; simpa [dec_eq, hp] using hv
    · exact hv
  · refine R.weaken (fun a hf => hf.sub fun t' v hv => ?_) (hf hp)
    rw [lk_cons] at hv
    split at hv
    · rename_i e; subst e; rw [h2]; simpa [dec_eq, hp] using hv
    · exact hv
theorem R.splitT {j : Nat} {b : Bool} {t : Nat} {p : Prop} {_ : Decidable p} (h0 : o.guard = some (j, b) := by exact rfl) (h1 : dstOf ops j = some t := by exact rfl) (h2 : lk t L = some (.bool (dec p)) := by exact rfl)
    (hp : p := by omega) (ht : R P ops Q cls w0 S n ((k, o) :: l) ((t, .bool true) :: L) D H qs) : R P ops Q cls w0 S n ((k, o) :: l) L D H qs :=
  R.split h0 h1 h2 (fun _ => ht) (fun h => absurd hp h)
theorem R.splitF {j : Nat} {b : Bool} {t : Nat} {p : Prop} {_ : Decidable p} (h0 : o.guard = some (j, b) := by exact rfl) (h1 : dstOf ops j = some t := by exact rfl) (h2 : lk t L = some (.bool (dec p)) := by exact rfl)
    (hp : ¬ p := by omega) (ht : R P ops Q cls w0 S n ((k, o) :: l) ((t, .bool false) :: L) D H qs) : R P ops Q cls w0 S n ((k, o) :: l) L D H qs :=
  R.split h0 h1 h2 (fun h => absurd h hp) (fun _ => ht)
theorem R.splitB {j : Nat} {b : Bool} {t : Nat} {p : Bool} (_ : o.guard = some (j, b)) (_ : dstOf ops j = some t) (h2 : lk t L = some (.bool p))
    (ht : p = true → R P ops Q cls w0 S n ((k, o) :: l) ((t, .bool true) :: L) D H qs) (hf : p = false → R P ops Q cls w0 S n ((k, o) :: l) ((t, .bool false) :: L) D H qs) :
    R P ops Q cls w0 S n ((k, o) :: l) L D H qs := by
  cases p with
  | true =>
    refine R.weaken (fun a hf => hf.sub fun t' v hv => ?_) (ht rfl)
    rw [lk_cons] at hv
    split at hv
    · rename_i e; subst e; rw [h2]; exact hv
    · exact hv
  | false =>
    refine R.weaken (fun a hf => hf.sub fun t' v hv => ?_) (hf rfl)
    rw [lk_cons] at hv
    split at hv
    · rename_i e; subst e; rw [h2]; exact hv
    · exact hv
theorem R.splitVT {j : Nat} {b : Bool} {t : Nat} {p : Bool} (h0 : o.guard = some (j, b) := by exact rfl) (h1 : dstOf ops j = some t := by exact rfl) (h2 : lk t L = some (.bool p) := by exact rfl) (hp : p = true := by assumption)
    (h : R P ops Q cls w0 S n ((k, o) :: l) ((t, .bool true) :: L) D H qs) : R P ops Q cls w0 S n ((k, o) :: l) L D H qs :=
  R.splitB h0 h1 h2 (fun _ => h) (fun e => by rw [hp] at e; cases e)
theorem R.splitVF {j : Nat} {b : Bool} {t : Nat} {p : Bool} (h0 : o.guard = some (j, b) := by exact rfl) (h1 : dstOf ops j = some t := by exact rfl) (h2 : lk t L = some (.bool p) := by exact rfl) (hp : p = false := by assumption)
    (h : R P ops Q cls w0 S n ((k, o) :: l) ((t, .bool false) :: L) D H qs) : R P ops Q cls w0 S n ((k, o) :: l) L D H qs :=
  R.splitB h0 h1 h2 (fun e => by rw [hp] at e; cases e) (fun _ => h)
/-- an operation without a guard, or with one that says yes -/
theorem R.enter0 {d : Option Tmp} {op : Op} {ty : TypeId} {pos : String} {af : Array Edge} (h : R1 P ops Q cls w0 S n k ⟨d, op, ty, pos, af, none⟩ l L D H qs) :
    R P ops Q cls w0 S n ((k, ⟨d, op, ty, pos, af, none⟩) :: l) L D H qs := fun hl a hf hD => h hl a hf hD rfl
theorem R.enterT {j : Nat} {b : Bool} {t : Nat} (hg : o.guard = some (j, b) := by exact rfl) (h1 : dstOf ops j = some t := by exact rfl) (h2 : lk t L = some (.bool b) := by exact rfl) (h : R1 P ops Q cls w0 S n k o l L D H qs) :
    R P ops Q cls w0 S n ((k, o) :: l) L D H qs := fun hl a hf hD => h hl a hf hD (wanted_of hf (by rw [hg]; exact ⟨t, h1, h2⟩))
theorem R1.pureStep {d : Nat} {v : Value} (hc : cls k o = .pure) (hd : o.dst = some d) (hn : d < n)
    (hv : ∀ a, Fr n a L → ∀ w, (execOp a.eval o).run P w = .ok (.value v) w) (h : R P ops Q cls w0 S n l ((d, v) :: L) D H qs) :
    R1 P ops Q cls w0 S n k o l L D H qs := by
  intro hl a hf hD hwt
  have ho := hl _ List.mem_cons_self
  unfold W
  simp only [ho, hwt, if_true, hc]
  exact ⟨v, hv a hf, h (fun p hp => hl p (List.mem_cons_of_mem _ hp)) _ (by rw [hd]; exact hf.put hn v) (by simpa using hD)⟩
theorem R1.quietStep {d : Nat} {v : Value} {Pr : Hp → Prop} (hc : cls k o = .quiet) (hd : o.dst = some d) (hn : d < n)
    (hv : ∀ a, Fr n a L → QSem P w0 S (execOp a.eval o) v Pr) (hp : Pr H) (h : R P ops Q cls w0 S n l ((d, v) :: L) D H (⟨k, Pr⟩ :: qs)) :
    R1 P ops Q cls w0 S n k o l L D H qs := by
  intro hl a hf hD hwt
  have ho := hl _ List.mem_cons_self
  unfold W
  simp only [ho, hwt, if_true, hc]
  exact ⟨v, Pr, hv a hf, hp, h (fun p hp => hl p (List.mem_cons_of_mem _ hp)) _ (by rw [hd]; exact hf.put hn v) (by simpa using hD)⟩
theorem R1.growStep {d : Nat} {mk : Nat → Value} {ob : Obj} (hc : cls k o = .grow) (hd : o.dst = some d) (hn : d < n)
    (hv : ∀ a, Fr n a L → ∀ w, (execOp a.eval o).run P w = .ok (.value (mk w.heap.size)) { w with heap := w.heap.push ob })
    (h : ∀ b, R P ops Q cls w0 S n l ((d, mk b) :: L) D ([(b, ob)] :: H) qs) :
    R1 P ops Q cls w0 S n k o l L D H qs := by
  intro hl a hf hD hwt
  have ho := hl _ List.mem_cons_self
  unfold W
  simp only [ho, hwt, if_true, hc]
  exact ⟨mk, ob, hv a hf, fun b _ => h b (fun p hp => hl p (List.mem_cons_of_mem _ hp)) _ (by rw [hd]; exact hf.put hn _) (by simpa using hD)⟩
theorem R1.effStep {cross : List Nat} (hc : cls k o = .eff cross) (hn : okDst n o.dst)
    (hv : ∀ a w, Fr n a L → St w0 S w H → OpOk P (execOp a.eval o) w fun v w' => ∃ H', St w0 S w' H' ∧
      (∀ r ∈ qs, r.i ∈ cross → r.Pr H') ∧ R P ops Q cls w0 S n l (addSlot L v o.dst) D H' qs) :
    R1 P ops Q cls w0 S n k o l L D H qs := by
  intro hl a hf hD hwt
  have ho := hl _ List.mem_cons_self
  unfold W
  simp only [ho, hwt, if_true, hc]
  exact fun w hs => (hv a w hf hs).mono fun v w' ⟨H', h1, h2, h3⟩ => ⟨H', h1, h2, h3 (fun p hp => hl p (List.mem_cons_of_mem _ hp)) _ (hf.add hn v) (by simpa using hD)⟩
theorem R1.deferStep {d : Deferred} (hc : cls k o = .defer) (hd : o.dst = none)
    (hv : ∀ a, Fr n a L → ∀ w, (execOp a.eval o).run P w = .ok (.defer d) w) (h : R P ops Q cls w0 S n l L (d :: D) H qs) :
    R1 P ops Q cls w0 S n k o l L D H qs := by
  intro hl a hf hD hwt
  have ho := hl _ List.mem_cons_self
  unfold W
  simp only [ho, hwt, if_true, hc]
  exact ⟨d, hv a hf, h (fun p hp => hl p (List.mem_cons_of_mem _ hp)) _ (by rw [hd]; exact ⟨hf.size, hf.get⟩) (by rw [hd]; simp [Act.put, hD])⟩
/-- some chunks out of a heap -/
def Take (c : Chunk) (H H1 : Hp) : Prop := H.flatten.Perm (c ++ H1.flatten)
theorem Take.here {c : Chunk} {H : Hp} : Take c (c :: H) H := by simp [Take]
theorem Take.there {c c' : Chunk} {H H1 : Hp} (h : Take c H H1) : Take c (c' :: H) (c' :: H1) := by
  unfold Take at *
  simp only [List.flatten_cons]
  refine (List.Perm.append_left c' h).trans ?_
  rw [← List.append_assoc, ← List.append_assoc]
  exact List.Perm.append_right _ List.perm_append_comm
def Split (H Hf F : Hp) : Prop := H.flatten.Perm (Hf ++ F).flatten
theorem Split.nil {H : Hp} : Split H [] H := by simp [Split]
theorem Split.cons {c : Chunk} {H H1 Hf F : Hp} (h1 : Take c H H1) (h2 : Split H1 Hf F) : Split H (c :: Hf) F := by
  unfold Split Take at *
  simp only [List.cons_append, List.flatten_cons]
  exact h1.trans (List.Perm.append_left c h2)
theorem Split.all {H : Hp} : Split H H [] := by simp [Split]
/-- the block b is there -/
def Has (b : Nat) (ob : Obj) (H : Hp) : Prop := (b, ob) ∈ H.flatten
theorem Has.here {b : Nat} {ob : Obj} {c : Chunk} {H : Hp} : Has b ob (((b, ob) :: c) :: H) := by simp [Has]
theorem Has.there {b : Nat} {ob : Obj} {c : Chunk} {H : Hp} (h : Has b ob H) : Has b ob (c :: H) := by
  unfold Has at *; simp only [List.flatten_cons, List.mem_append]; exact .inr h
theorem Has.in_ {b : Nat} {ob : Obj} {c : Chunk} {H : Hp} (h : (b, ob) ∈ c) : Has b ob (c :: H) := by
  unfold Has at *; simp only [List.flatten_cons, List.mem_append]; exact .inl h
theorem Has.st {b : Nat} {ob : Obj} {w : World} (h : Has b ob H) (hw : St w0 S w H) : w.heap[b]? = some ob := hw.sat _ h
theorem Has.perm {b : Nat} {ob : Obj} {H H' : Hp} (h : Has b ob H) (hp : H.flatten.Perm H'.flatten) : Has b ob H' := hp.mem_iff.1 h
/-- the block b is written -/
def Upd (b : Nat) (ob ob' : Obj) (H H' : Hp) : Prop := ∃ F, Take [(b, ob)] H F ∧ Take [(b, ob')] H' F
theorem Upd.here {b : Nat} {ob ob' : Obj} {H : Hp} : Upd b ob ob' ([(b, ob)] :: H) ([(b, ob')] :: H) := ⟨H, .here, .here⟩
theorem Upd.there {b : Nat} {ob ob' : Obj} {c : Chunk} {H H' : Hp} (h : Upd b ob ob' H H') : Upd b ob ob' (c :: H) (c :: H') :=
  let ⟨F, h1, h2⟩ := h; ⟨c :: F, h1.there, h2.there⟩
theorem Upd.st {b : Nat} {ob ob' : Obj} {H' : Hp} {w w' : World} (h : Upd b ob ob' H H') (hw : St w0 S w H)
    (hsz : w'.heap.size = w.heap.size) (hb : w'.heap[b]? = some ob') (hne : ∀ k, k ≠ b → w'.heap[k]? = w.heap[k]?)
    (hos : w'.os = w.os) (htp : w'.tape = w.tape) (hout : w'.output = w.output) : St w0 S w' H' := by
  obtain ⟨F, h1, h2⟩ := h
  have e1 : St w0 S w ([(b, ob)] :: F) := hw.perm (by simpa [Take] using h1)
  exact (e1.set hsz hb hne hos htp hout).perm (by simpa [Take] using h2.symm)
theorem Upd.has {b : Nat} {ob ob' : Obj} {H' : Hp} (h : Upd b ob ob' H H') : Has b ob H := by
  obtain ⟨F, h1, _⟩ := h
  exact h1.mem_iff.2 (by simp)
end steps
/- what the program's tables say of a type, as classes -/
class Cell1 (P : Program) (T : TypeId) : Prop where
  agg : ∀ w, (isAgg T).run P w = .ok false w
  size : ∀ w, (sizeOf T).run P w = .ok 1 w
class AggN (P : Program) (T : TypeId) (m : outParam Nat) : Prop where
  agg : ∀ w, (isAgg T).run P w = .ok true w
  size : ∀ w, (sizeOf T).run P w = .ok m w
class FieldOff (P : Program) (T i : Nat) (off : outParam Nat) : Prop where
  run : ∀ a w, (Instr.fieldAt T (.pointer (some a)) i).run P w = .ok (.pointer (some (a.add off))) w
/-- a field of one cell, out of a struct's value -/
class Field1 (P : Program) (T i : Nat) (off : outParam Nat) : Prop where
  run : ∀ (cs : Array Value) v w, cs[off]? = some v → (Instr.field T (.agg cs) i).run P w = .ok v w
/-- a field of m cells, out of a struct's value -/
class FieldN (P : Program) (T i : Nat) (off m : outParam Nat) : Prop where
  run : ∀ (cs : Array Value) w, (Instr.field T (.agg cs) i).run P w = .ok (.agg (cs.extract off (off + m))) w
class SliceT (P : Program) (T : TypeId) (E sz : outParam Nat) : Prop where
  und : P.underlying T = some (.slice E)
  size : ∀ w, (sizeOf E).run P w = .ok sz w
class ArrT (P : Program) (T : TypeId) (m E sz : outParam Nat) : Prop where
  und : P.underlying T = some (.array m E)
  size : ∀ w, (sizeOf E).run P w = .ok sz w
class ZeroV (P : Program) (T : TypeId) (vs : outParam (List Value)) : Prop where
  run : ∃ z : Value, z.cells = vs.toArray ∧ ∀ w, (zeroValue T).run P w = .ok z w
class IntT (P : Program) (T : TypeId) (k : outParam IntKind) : Prop where
  und : P.underlying T = some (.int k)
class PtrT (P : Program) (T : TypeId) : Prop where
  und : P.underlying T = some (.pointer (P.pointee T))
class BoolT (P : Program) (T : TypeId) : Prop where
  und : P.underlying T = some .bool
class MapT (P : Program) (T : TypeId) (K E : outParam Nat) : Prop where
  und : P.underlying T = some (.map K E)
/-- where the parts of a struct or an array stand, and what it holds at first -/
class BuildT (P : Program) (T : TypeId) (pl : outParam (Nat → Option (Nat × Nat))) (zero : outParam (List Value)) : Prop where
  built : ∀ parts, P.built T parts = Instr.fill pl zero.toArray parts
class ConcT (P : Program) (T : TypeId) : Prop where
  conc : P.concrete T = true
class Callable (P : Program) (f : FuncId) : Prop where
  run : ∀ args w, (callFunc f args).run P w = .ok (.enter f args) w
class Mixed (P : Program) : Prop where
  mixed : P.follows .mixedOrders = true
theorem BuildT.ofS {P : Program} {T : TypeId} {pl : List (Nat × Nat)} {zero : List Value} (h : ∀ parts, P.built T parts = Instr.fill (pl.toArray[·]?) zero.toArray parts) :
    BuildT P T (fun i => pl[i]?) zero := ⟨fun parts => by rw [h]; simp⟩
theorem Field1.of {P : Program} {T i off : Nat} (fs : Array Field) (f : Field) (hu : P.underlying T = some (.struct fs)) (hf : fs[i]? = some f) (ho : f.offset = off)
    (ha : ∀ w, (isAgg f.type).run P w = .ok false w) : Field1 P T i off := ⟨fun cs v w hv => by
  simp [Instr.field, underlying, hu, hf, asAgg, part, ha, ho, hv]⟩
theorem FieldN.of {P : Program} {T i off m : Nat} (fs : Array Field) (f : Field) (hu : P.underlying T = some (.struct fs)) (hf : fs[i]? = some f) (ho : f.offset = off)
    (ha : ∀ w, (isAgg f.type).run P w = .ok true w) (hs : ∀ w, (sizeOf f.type).run P w = .ok m w) : FieldN P T i off m := ⟨fun cs w => by
  simp [Instr.field, underlying, hu, hf, asAgg, part, ha, hs, ho]⟩
theorem FieldOff.of {P : Program} {T i off m : Nat} (fs : Array Field) (f : Field) (hu : P.underlying T = some (.struct fs)) (hf : fs[i]? = some f) (ho : f.offset = off)
    (hs : ∀ w, (sizeOf f.type).run P w = .ok (m + 1) w) : FieldOff P T i off := ⟨fun a w => by
  simp [Instr.fieldAt, underlying, hu, hf, Instr.sureAddr, fieldPlace, hs, ho]⟩
/-- arrays of five ints, structs of four ints, held against each other -/
class Eq5 (P : Program) (T : TypeId) : Prop where
  guard : ∀ op x y xs ys w, (eqGuard op T x y (.agg xs) (.agg ys)).run P w = .ok () w
  run : ∀ (a0 a1 a2 a3 a4 b0 b1 b2 b3 b4 : Int) w, (Op.equal T (.agg #[.int .i64 a0, .int .i64 a1, .int .i64 a2, .int .i64 a3, .int .i64 a4])
    (.agg #[.int .i64 b0, .int .i64 b1, .int .i64 b2, .int .i64 b3, .int .i64 b4])).run P w = .ok (decide (a0 = b0 ∧ a1 = b1 ∧ a2 = b2 ∧ a3 = b3 ∧ a4 = b4)) w
class Eq4 (P : Program) (T : TypeId) : Prop where
  guard : ∀ op x y xs ys w, (eqGuard op T x y (.agg xs) (.agg ys)).run P w = .ok () w
  run : ∀ (a0 a1 a2 a3 b0 b1 b2 b3 : Int) w, (Op.equal T (.agg #[.int .i64 a0, .int .i64 a1, .int .i64 a2, .int .i64 a3])
    (.agg #[.int .i64 b0, .int .i64 b1, .int .i64 b2, .int .i64 b3])).run P w = .ok (decide (a0 = b0 ∧ a1 = b1 ∧ a2 = b2 ∧ a3 = b3)) w
theorem Eq5.of {P : Program} {T e : TypeId} {k : IntKind} {i : TypeInfo} (hu : P.underlying T = some (.array 5 e)) (he : P.underlying e = some (.int k)) (hi : P.info? e = some i)
    (hag : ∀ w, (isAgg e).run P w = .ok false w) (hsz : P.cellsOf e = 1) (hg : P.eqGuardType P.depth T = false) : Eq5 P T where
  guard := fun op x y xs ys w => run_eqGuard_agg w op T x y xs ys hg
  run := by
    intro a0 a1 a2 a3 a4 b0 b1 b2 b3 b4 w
    have h := run_equalIn_array (P := P) w 9999 (t := T) #[.int .i64 a0, .int .i64 a1, .int .i64 a2, .int .i64 a3, .int .i64 a4] #[.int .i64 b0, .int .i64 b1, .int .i64 b2, .int .i64 b3, .int .i64 b4] hu hi
    unfold Op.equal Op.maxDepth
    rw [h, hsz]
    have hi : ∀ (a b : Int) w, (Op.equalIn 9999 e (.int .i64 a) (.int .i64 b)).run P w = .ok (a == b) w := fun a b w => run_equalIn_int w 9998 e .i64 k a b he
    rw [show List.range 5 = [0, 1, 2, 3, 4] from rfl]
    simp [Op.eqItems, part, hag, hi]
    by_cases h0 : a0 = b0 <;> by_cases h1 : a1 = b1 <;> by_cases h2 : a2 = b2 <;> by_cases h3 : a3 = b3 <;> by_cases h4 : a4 = b4 <;> simp [h0, h1, h2, h3, h4]
theorem Eq4.of {P : Program} {T e : TypeId} {k : IntKind} {x0 x1 x2 x3 : Field} (hu : P.underlying T = some (.struct #[x0, x1, x2, x3]))
    (hx : [x0, x1, x2, x3].all (fun f => f.name != "_" && f.type == e) = true) (ho : x0.offset = 0 ∧ x1.offset = 1 ∧ x2.offset = 2 ∧ x3.offset = 3)
    (he : P.underlying e = some (.int k)) (hag : ∀ w, (isAgg e).run P w = .ok false w) (hg : P.eqGuardType P.depth T = false) (hp : P.stoodInHeld T = false) : Eq4 P T where
  guard := fun op x y xs ys w => run_eqGuard_agg w op T x y xs ys hg
  run := by
    intro a0 a1 a2 a3 b0 b1 b2 b3 w
    have hfo : P.fieldsOf T = #[x0, x1, x2, x3] := by simp [Program.fieldsOf, hu]
    have h := run_equalIn_struct (P := P) w 9999 T #[.int .i64 a0, .int .i64 a1, .int .i64 a2, .int .i64 a3] #[.int .i64 b0, .int .i64 b1, .int .i64 b2, .int .i64 b3] (by rw [hfo]; exact hu) hp
    unfold Op.equal Op.maxDepth
    rw [h, hfo]
    have hi : ∀ (a b : Int) w, (Op.equalIn 9999 e (.int .i64 a) (.int .i64 b)).run P w = .ok (a == b) w := fun a b w => run_equalIn_int w 9998 e .i64 k a b he
    simp only [List.all_cons, List.all_nil, Bool.and_true, Bool.and_eq_true, bne_iff_ne, beq_iff_eq] at hx
    obtain ⟨⟨n0, t0⟩, ⟨n1, t1⟩, ⟨n2, t2⟩, ⟨n3, t3⟩⟩ := hx
    obtain ⟨o0, o1, o2, o3⟩ := ho
    simp [Op.eqFields, n0, n1, n2, n3, t0, t1, t2, t3, o0, o1, o2, o3, part, hag, hi]
    by_cases h0 : a0 = b0 <;> by_cases h1 : a1 = b1 <;> by_cases h2 : a2 = b2 <;> by_cases h3 : a3 = b3 <;> simp [h0, h1, h2, h3]
theorem ad1 (j : Nat) : 0 + j * 1 = j := by omega
theorem ad2 (p j : Nat) : p + j * 1 = p + j := by omega
theorem ad3 (j sz : Nat) : 0 + j * sz = j * sz := by omega
section wraps
theorem wrap_i64 {n : Int} (h : -9223372036854775808 ≤ n ∧ n ≤ 9223372036854775807) : IntKind.wrap .i64 n = n := by
  have h1 : (9223372036854775808 : Int) = 2 ^ (64 - 1) := by decide
  simp only [IntKind.wrap, IntKind.bits, IntKind.signed, Bool.true_and, decide_eq_true_eq, ← h1]; split <;> omega
theorem wrap_i32 {n : Int} (h : -2147483648 ≤ n ∧ n ≤ 2147483647) : IntKind.wrap .i32 n = n := by
  have h1 : (2147483648 : Int) = 2 ^ (32 - 1) := by decide
  simp only [IntKind.wrap, IntKind.bits, IntKind.signed, Bool.true_and, decide_eq_true_eq, ← h1]; split <;> omega
theorem wrap_u64 {n : Int} (h : 0 ≤ n ∧ n ≤ 18446744073709551615) : IntKind.wrap .u64 n = n := by
  simp only [IntKind.wrap, IntKind.bits, IntKind.signed, Bool.false_and]; simp; omega
theorem wrap_u32 {n : Int} (h : 0 ≤ n ∧ n ≤ 4294967295) : IntKind.wrap .u32 n = n := by
  simp only [IntKind.wrap, IntKind.bits, IntKind.signed, Bool.false_and]; simp; omega
theorem wrap_u16 {n : Int} (h : 0 ≤ n ∧ n ≤ 65535) : IntKind.wrap .u16 n = n := by
  simp only [IntKind.wrap, IntKind.bits, IntKind.signed, Bool.false_and]; simp; omega
theorem wrap_u8 {n : Int} (h : 0 ≤ n ∧ n ≤ 255) : IntKind.wrap .u8 n = n := by
  simp only [IntKind.wrap, IntKind.bits, IntKind.signed, Bool.false_and]; simp; omega
end wraps
section ops
variable {P : Program} {ops : Array Oper} {Q : Exit → Act → World → Prop} {cls : Nat → Oper → Cls} {w0 : World} {S : List Nat} {n : Nat}
variable {k : Nat} {l : List (Nat × Oper)} {L : Slots} {D : List Deferred} {H : Hp} {qs : List Rd}
variable {d : Nat} {ty : TypeId} {pos : String} {af : Array Edge} {g : Option (Nat × Bool)}
theorem R.move {x : Operand} {v : Value} (hx : ev L x = some v := by exact rfl) (hc : cls k ⟨some d, .move x, ty, pos, af, g⟩ = .pure := by exact rfl) (hn : d < n := by exact nle rfl)
    (h : R P ops Q cls w0 S n l ((d, v) :: L) D H qs) : R1 P ops Q cls w0 S n k ⟨some d, .move x, ty, pos, af, g⟩ l L D H qs :=
  R1.pureStep hc rfl hn (fun a hf w => by simp [execOp, hf.eval hx]) h
theorem R.assign {x : Operand} {v : Value} (hx : ev L x = some v := by exact rfl) (hc : cls k ⟨some d, .assign x, ty, pos, af, g⟩ = .pure := by exact rfl) (hn : d < n := by exact nle rfl)
    (h : R P ops Q cls w0 S n l ((d, v) :: L) D H qs) : R1 P ops Q cls w0 S n k ⟨some d, .assign x, ty, pos, af, g⟩ l L D H qs :=
  R1.pureStep hc rfl hn (fun a hf w => by simp [execOp, hf.eval hx]) h
theorem R.pickT {c x y : Operand} {v : Value} (hb : ev L c = some (.bool true) := by exact rfl) (hx : ev L x = some v := by exact rfl) (hc : cls k ⟨some d, .pick c x y, ty, pos, af, g⟩ = .pure := by exact rfl) (hn : d < n := by exact nle rfl)
    (h : R P ops Q cls w0 S n l ((d, v) :: L) D H qs) : R1 P ops Q cls w0 S n k ⟨some d, .pick c x y, ty, pos, af, g⟩ l L D H qs :=
  R1.pureStep hc rfl hn (fun a hf w => by simp [execOp, hf.eval hb, hf.eval hx, asBool]) h
theorem R.pickF {c x y : Operand} {v : Value} (hb : ev L c = some (.bool false) := by exact rfl) (hx : ev L y = some v := by exact rfl) (hc : cls k ⟨some d, .pick c x y, ty, pos, af, g⟩ = .pure := by exact rfl) (hn : d < n := by exact nle rfl)
    (h : R P ops Q cls w0 S n l ((d, v) :: L) D H qs) : R1 P ops Q cls w0 S n k ⟨some d, .pick c x y, ty, pos, af, g⟩ l L D H qs :=
  R1.pureStep hc rfl hn (fun a hf w => by simp [execOp, hf.eval hb, hf.eval hx, asBool]) h
theorem R.nilCheck {x : Operand} {a : Addr} (hx : ev L x = some (.pointer (some a)) := by exact rfl) (hc : cls k ⟨some d, .nilCheck x, ty, pos, af, g⟩ = .pure := by exact rfl) (hn : d < n := by exact nle rfl)
    (h : R P ops Q cls w0 S n l ((d, .pointer (some a)) :: L) D H qs) : R1 P ops Q cls w0 S n k ⟨some d, .nilCheck x, ty, pos, af, g⟩ l L D H qs :=
  R1.pureStep hc rfl hn (fun a hf w => by simp [execOp, hf.eval hx]) h
theorem Addr.add_mk (b o m : Nat) : (⟨b, o, none⟩ : Addr).add m = ⟨b, o + m, none⟩ := by
  unfold Go.Addr.add
  split
  · rename_i h; subst h; rfl
  · rfl
theorem R.fieldAddr {T i off : Nat} [ho : FieldOff P T i off] {x : Operand} {b p : Nat} (hx : ev L x = some (.pointer (some ⟨b, p, none⟩)) := by exact rfl) {q : Nat} (hq : p + off = q := by ((first | exact ad1 _ | exact ad4 _ _ | exact Nat.zero_add _ | exact Nat.add_zero _ | exact ad2 _ _ | exact ad3 _ _ | (simp only [Nat.reduceAdd]; done) | exact rfl)))
    (hc : cls k ⟨some d, .fieldAddr T x i, ty, pos, af, g⟩ = .pure := by exact rfl) (hn : d < n := by exact nle rfl)
    (h : R P ops Q cls w0 S n l ((d, .pointer (some ⟨b, q, none⟩)) :: L) D H qs) : R1 P ops Q cls w0 S n k ⟨some d, .fieldAddr T x i, ty, pos, af, g⟩ l L D H qs :=
  R1.pureStep hc rfl hn (fun a hf w => by subst hq; simp [execOp, hf.eval hx, ho.run, Addr.add_mk]) h
theorem R.field1 {T i off : Nat} [ho : Field1 P T i off] {x : Operand} {cs : List Value} {v : Value} (hx : ev L x = some (.agg cs.toArray) := by exact rfl) (hv : cs[off]? = some v := by ((first | exact rfl | assumption)))
    (hc : cls k ⟨some d, .field T x i, ty, pos, af, g⟩ = .pure := by exact rfl) (hn : d < n := by exact nle rfl)
    (h : R P ops Q cls w0 S n l ((d, v) :: L) D H qs) : R1 P ops Q cls w0 S n k ⟨some d, .field T x i, ty, pos, af, g⟩ l L D H qs :=
  R1.pureStep hc rfl hn (fun a hf w => by simp [execOp, hf.eval hx, ho.run cs.toArray v w (by simpa using hv)]) h
theorem R.fieldN {T i off m : Nat} [ho : FieldN P T i off m] {x : Operand} {cs vs : List Value} (hx : ev L x = some (.agg cs.toArray) := by exact rfl) (hv : (cs.drop off).take m = vs := by ((first | assumption | (dsimp only [List.drop, List.take]; try exact rfl) | exact rfl)))
    (hc : cls k ⟨some d, .field T x i, ty, pos, af, g⟩ = .pure := by exact rfl) (hn : d < n := by exact nle rfl)
    (h : R P ops Q cls w0 S n l ((d, .agg vs.toArray) :: L) D H qs) : R1 P ops Q cls w0 S n k ⟨some d, .field T x i, ty, pos, af, g⟩ l L D H qs :=
  R1.pureStep hc rfl hn (fun a hf w => by
    have e : (cs.toArray.extract off (off + m)) = vs.toArray := by
      rw [← hv]; simp
    simp [execOp, hf.eval hx, ho.run, e]) h
/-- an element of a slice: its address -/
theorem R.indexAddr {T E sz : Nat} [ho : SliceT P T E sz] {x y : Operand} {b p len cap j : Nat} {kk : IntKind} {i : Int} (hx : ev L x = some (.slice (some ⟨b, p, none⟩) len cap) := by exact rfl)
    (hy : ev L y = some (.int kk i) := by exact rfl) (h0 : 0 ≤ i ∧ i < len := by ((first | omega | (constructor <;> omega) | (refine ⟨?_, ?_, ?_⟩ <;> omega) | (refine ⟨?_, ?_, ?_, ?_⟩ <;> omega)))) (hj : i.toNat = j := by ((first | (with_reducible exact Int.toNat_natCast _) | assumption | exact rfl))) {q : Nat} (hq : p + j * sz = q := by ((first | exact ad1 _ | exact ad4 _ _ | exact Nat.zero_add _ | exact Nat.add_zero _ | exact ad2 _ _ | exact ad3 _ _ | (simp only [Nat.reduceAdd]; done) | exact rfl)))
    (hc : cls k ⟨some d, .indexAddr T x y, ty, pos, af, g⟩ = .pure := by exact rfl) (hn : d < n := by exact nle rfl)
    (h : R P ops Q cls w0 S n l ((d, .pointer (some ⟨b, q, none⟩)) :: L) D H qs) : R1 P ops Q cls w0 S n k ⟨some d, .indexAddr T x y, ty, pos, af, g⟩ l L D H qs :=
  R1.pureStep hc rfl hn (fun a hf w => by
    subst hj; subst hq
    simp [execOp, hf.eval hx, hf.eval hy, Instr.indexAt, asIntOf, underlying, ho.und, ho.size, h0, Addr.add_mk]) h
/-- an element of an array in memory: its address -/
theorem R.indexAddrA {T m E sz : Nat} [ho : ArrT P T m E sz] {x y : Operand} {b p j : Nat} {kk : IntKind} {i : Int} (hx : ev L x = some (.pointer (some ⟨b, p, none⟩)) := by exact rfl)
    (hy : ev L y = some (.int kk i) := by exact rfl) (h0 : 0 ≤ i ∧ i < m := by ((first | omega | (constructor <;> omega) | (refine ⟨?_, ?_, ?_⟩ <;> omega) | (refine ⟨?_, ?_, ?_, ?_⟩ <;> omega)))) (hj : i.toNat = j := by ((first | (with_reducible exact Int.toNat_natCast _) | assumption | exact rfl))) {q : Nat} (hq : p + j * sz = q := by ((first | exact ad1 _ | exact ad4 _ _ | exact Nat.zero_add _ | exact Nat.add_zero _ | exact ad2 _ _ | exact ad3 _ _ | (simp only [Nat.reduceAdd]; done) | exact rfl)))
    (hc : cls k ⟨some d, .indexAddr T x y, ty, pos, af, g⟩ = .pure := by exact rfl) (hn : d < n := by exact nle rfl)
    (h : R P ops Q cls w0 S n l ((d, .pointer (some ⟨b, q, none⟩)) :: L) D H qs) : R1 P ops Q cls w0 S n k ⟨some d, .indexAddr T x y, ty, pos, af, g⟩ l L D H qs :=
  R1.pureStep hc rfl hn (fun a hf w => by
    subst hj; subst hq
    simp [execOp, hf.eval hx, hf.eval hy, Instr.indexAt, asIntOf, underlying, ho.und, ho.size, h0, Addr.add_mk, Instr.sureAddr]) h
/-- an element of one cell out of an array's value -/
theorem R.index1 {T m E : Nat} [ho : ArrT P T m E 1] [hE : Cell1 P E] {x y : Operand} {cs : List Value} {j : Nat} {kk : IntKind} {i : Int} {v : Value} (hx : ev L x = some (.agg cs.toArray) := by exact rfl)
    (hy : ev L y = some (.int kk i) := by exact rfl) (h0 : 0 ≤ i ∧ i < m := by ((first | omega | (constructor <;> omega) | (refine ⟨?_, ?_, ?_⟩ <;> omega) | (refine ⟨?_, ?_, ?_, ?_⟩ <;> omega)))) (hj : i.toNat = j := by ((first | (with_reducible exact Int.toNat_natCast _) | assumption | exact rfl))) (hv : cs[j]? = some v := by ((first | exact rfl | assumption)))
    (hc : cls k ⟨some d, .index T x y, ty, pos, af, g⟩ = .pure := by exact rfl) (hn : d < n := by exact nle rfl)
    (h : R P ops Q cls w0 S n l ((d, v) :: L) D H qs) : R1 P ops Q cls w0 S n k ⟨some d, .index T x y, ty, pos, af, g⟩ l L D H qs :=
  R1.pureStep hc rfl hn (fun a hf w => by
    subst hj
    simp [execOp, hf.eval hx, hf.eval hy, Instr.index, asIntOf, underlying, ho.und, ho.size, h0, part, hE.agg, hv]) h
/-- an element of sz cells out of an array's value -/
theorem R.indexN {T m E sz : Nat} [ho : ArrT P T m E sz] [hE : AggN P E sz] {x y : Operand} {cs vs : List Value} {j : Nat} {kk : IntKind} {i : Int} (hx : ev L x = some (.agg cs.toArray) := by exact rfl)
    (hy : ev L y = some (.int kk i) := by exact rfl) (h0 : 0 ≤ i ∧ i < m := by ((first | omega | (constructor <;> omega) | (refine ⟨?_, ?_, ?_⟩ <;> omega) | (refine ⟨?_, ?_, ?_, ?_⟩ <;> omega)))) (hj : i.toNat = j := by ((first | (with_reducible exact Int.toNat_natCast _) | assumption | exact rfl))) (hv : (cs.drop (j * sz)).take sz = vs := by ((first | assumption | (dsimp only [List.drop, List.take]; try exact rfl) | exact rfl)))
    (hc : cls k ⟨some d, .index T x y, ty, pos, af, g⟩ = .pure := by exact rfl) (hn : d < n := by exact nle rfl)
    (h : R P ops Q cls w0 S n l ((d, .agg vs.toArray) :: L) D H qs) : R1 P ops Q cls w0 S n k ⟨some d, .index T x y, ty, pos, af, g⟩ l L D H qs :=
  R1.pureStep hc rfl hn (fun a hf w => by
    subst hj
    simp [execOp, hf.eval hx, hf.eval hy, Instr.index, asIntOf, underlying, ho.und, ho.size, h0, part, hE.agg, hv]) h
theorem R.extract {x : Operand} {i : Nat} {vs : List Value} {v : Value} (hx : ev L x = some (.tuple vs.toArray) := by exact rfl) (hv : vs[i]? = some v := by exact rfl)
    (hc : cls k ⟨some d, .extract x i, ty, pos, af, g⟩ = .pure := by exact rfl) (hn : d < n := by exact nle rfl)
    (h : R P ops Q cls w0 S n l ((d, v) :: L) D H qs) : R1 P ops Q cls w0 S n k ⟨some d, .extract x i, ty, pos, af, g⟩ l L D H qs :=
  R1.pureStep hc rfl hn (fun a hf w => by simp [execOp, hf.eval hx, Instr.extract, hv]) h
/- integers -/
section ints
variable {T yT : TypeId} {x y : Operand} {kk : IntKind} {a b : Int}
theorem R.addw (hx : ev L x = some (.int kk a) := by exact rfl) (hy : ev L y = some (.int kk b) := by exact rfl) {v : Int} (hv : kk.wrap (a + b) = v := by ((first | assumption | exact wrap_i64 (by omega) | exact wrap_u64 (by omega) | exact wrap_u32 (by omega) | exact wrap_u8 (by omega) | exact rfl)))
    (hc : cls k ⟨some d, .binOp .add T x y yT, ty, pos, af, g⟩ = .pure := by exact rfl) (hn : d < n := by exact nle rfl)
    (h : R P ops Q cls w0 S n l ((d, .int kk v) :: L) D H qs) : R1 P ops Q cls w0 S n k ⟨some d, .binOp .add T x y yT, ty, pos, af, g⟩ l L D H qs :=
  R1.pureStep hc rfl hn (fun a hf w => by simp [execOp, hf.eval hx, hf.eval hy, eqGuard, binOp, Op.intArith, hv]) h
theorem R.subw (hx : ev L x = some (.int kk a) := by exact rfl) (hy : ev L y = some (.int kk b) := by exact rfl) {v : Int} (hv : kk.wrap (a - b) = v := by ((first | assumption | exact wrap_i64 (by omega) | exact wrap_u64 (by omega) | exact wrap_u32 (by omega) | exact wrap_u8 (by omega) | exact rfl)))
    (hc : cls k ⟨some d, .binOp .sub T x y yT, ty, pos, af, g⟩ = .pure := by exact rfl) (hn : d < n := by exact nle rfl)
    (h : R P ops Q cls w0 S n l ((d, .int kk v) :: L) D H qs) : R1 P ops Q cls w0 S n k ⟨some d, .binOp .sub T x y yT, ty, pos, af, g⟩ l L D H qs :=
  R1.pureStep hc rfl hn (fun a hf w => by simp [execOp, hf.eval hx, hf.eval hy, eqGuard, binOp, Op.intArith, hv]) h
theorem R.mulw (hx : ev L x = some (.int kk a) := by exact rfl) (hy : ev L y = some (.int kk b) := by exact rfl) {v : Int} (hv : kk.wrap (a * b) = v := by ((first | assumption | exact wrap_i64 (by omega) | exact wrap_u64 (by omega) | exact wrap_u32 (by omega) | exact wrap_u8 (by omega) | exact rfl)))
    (hc : cls k ⟨some d, .binOp .mul T x y yT, ty, pos, af, g⟩ = .pure := by exact rfl) (hn : d < n := by exact nle rfl)
    (h : R P ops Q cls w0 S n l ((d, .int kk v) :: L) D H qs) : R1 P ops Q cls w0 S n k ⟨some d, .binOp .mul T x y yT, ty, pos, af, g⟩ l L D H qs :=
  R1.pureStep hc rfl hn (fun a hf w => by simp [execOp, hf.eval hx, hf.eval hy, eqGuard, binOp, Op.intArith, hv]) h
theorem R.quow (hx : ev L x = some (.int kk a) := by exact rfl) (hy : ev L y = some (.int kk b) := by exact rfl) (hb : b ≠ 0 := by omega) {v : Int} (hv : kk.wrap (a.tdiv b) = v := by ((first | assumption | exact wrap_i64 (by omega) | exact wrap_u64 (by omega) | exact wrap_u32 (by omega) | exact wrap_u8 (by omega) | exact rfl)))
    (hc : cls k ⟨some d, .binOp .quo T x y yT, ty, pos, af, g⟩ = .pure := by exact rfl) (hn : d < n := by exact nle rfl)
    (h : R P ops Q cls w0 S n l ((d, .int kk v) :: L) D H qs) : R1 P ops Q cls w0 S n k ⟨some d, .binOp .quo T x y yT, ty, pos, af, g⟩ l L D H qs :=
  R1.pureStep hc rfl hn (fun a hf w => by simp [execOp, hf.eval hx, hf.eval hy, eqGuard, binOp, Op.intDiv, hv, hb]) h
theorem R.remw (hx : ev L x = some (.int kk a) := by exact rfl) (hy : ev L y = some (.int kk b) := by exact rfl) (hb : b ≠ 0 := by omega) {v : Int} (hv : a.tmod b = v := by exact rfl)
    (hc : cls k ⟨some d, .binOp .rem T x y yT, ty, pos, af, g⟩ = .pure := by exact rfl) (hn : d < n := by exact nle rfl)
    (h : R P ops Q cls w0 S n l ((d, .int kk v) :: L) D H qs) : R1 P ops Q cls w0 S n k ⟨some d, .binOp .rem T x y yT, ty, pos, af, g⟩ l L D H qs :=
  R1.pureStep hc rfl hn (fun a hf w => by simp [execOp, hf.eval hx, hf.eval hy, eqGuard, binOp, Op.intDiv, hv, hb]) h
/-- the bits of two integers, put together -/
def bits2 (op : BinOp) (kk : IntKind) (a b : Int) : Int :=
  match op with
  | .and => kk.wrap (BitVec.ofInt kk.bits a &&& BitVec.ofInt kk.bits b).toNat
  | .or => kk.wrap (BitVec.ofInt kk.bits a ||| BitVec.ofInt kk.bits b).toNat
  | .xor => kk.wrap (BitVec.ofInt kk.bits a ^^^ BitVec.ofInt kk.bits b).toNat
  | .andNot => kk.wrap (BitVec.ofInt kk.bits a &&& ~~~ BitVec.ofInt kk.bits b).toNat
  | _ => 0
theorem R.and (hx : ev L x = some (.int kk a) := by exact rfl) (hy : ev L y = some (.int kk b) := by exact rfl)
    (hc : cls k ⟨some d, .binOp .and T x y yT, ty, pos, af, g⟩ = .pure := by exact rfl) (hn : d < n := by exact nle rfl)
    (h : R P ops Q cls w0 S n l ((d, .int kk (bits2 .and kk a b)) :: L) D H qs) : R1 P ops Q cls w0 S n k ⟨some d, .binOp .and T x y yT, ty, pos, af, g⟩ l L D H qs :=
  R1.pureStep hc rfl hn (fun a hf w => by simp [execOp, hf.eval hx, hf.eval hy, eqGuard, binOp, Op.intBits, bits2]) h
theorem R.or (hx : ev L x = some (.int kk a) := by exact rfl) (hy : ev L y = some (.int kk b) := by exact rfl)
    (hc : cls k ⟨some d, .binOp .or T x y yT, ty, pos, af, g⟩ = .pure := by exact rfl) (hn : d < n := by exact nle rfl)
    (h : R P ops Q cls w0 S n l ((d, .int kk (bits2 .or kk a b)) :: L) D H qs) : R1 P ops Q cls w0 S n k ⟨some d, .binOp .or T x y yT, ty, pos, af, g⟩ l L D H qs :=
  R1.pureStep hc rfl hn (fun a hf w => by simp [execOp, hf.eval hx, hf.eval hy, eqGuard, binOp, Op.intBits, bits2]) h
theorem R.xor (hx : ev L x = some (.int kk a) := by exact rfl) (hy : ev L y = some (.int kk b) := by exact rfl)
    (hc : cls k ⟨some d, .binOp .xor T x y yT, ty, pos, af, g⟩ = .pure := by exact rfl) (hn : d < n := by exact nle rfl)
    (h : R P ops Q cls w0 S n l ((d, .int kk (bits2 .xor kk a b)) :: L) D H qs) : R1 P ops Q cls w0 S n k ⟨some d, .binOp .xor T x y yT, ty, pos, af, g⟩ l L D H qs :=
  R1.pureStep hc rfl hn (fun a hf w => by simp [execOp, hf.eval hx, hf.eval hy, eqGuard, binOp, Op.intBits, bits2]) h
theorem R.shl {yk : IntKind} (hx : ev L x = some (.int kk a) := by exact rfl) (hy : ev L y = some (.int yk b) := by exact rfl) (hb : 0 ≤ b := by omega) {v : Int} (hv : kk.wrap (a * 2 ^ (min b.toNat kk.bits)) = v := by ((first | assumption | exact wrap_i64 (by omega) | exact wrap_u64 (by omega) | exact wrap_u32 (by omega) | exact wrap_u8 (by omega) | exact rfl)))
    (hc : cls k ⟨some d, .binOp .shl T x y yT, ty, pos, af, g⟩ = .pure := by exact rfl) (hn : d < n := by exact nle rfl)
    (h : R P ops Q cls w0 S n l ((d, .int kk v) :: L) D H qs) : R1 P ops Q cls w0 S n k ⟨some d, .binOp .shl T x y yT, ty, pos, af, g⟩ l L D H qs :=
  R1.pureStep hc rfl hn (fun a hf w => by
    have : ¬ b < 0 := by omega
    simp [execOp, hf.eval hx, hf.eval hy, eqGuard, binOp, Op.shift, hv, this]) h
theorem R.shr {yk : IntKind} (hx : ev L x = some (.int kk a) := by exact rfl) (hy : ev L y = some (.int yk b) := by exact rfl) (hb : 0 ≤ b := by omega) {v : Int} (hv : a.fdiv (2 ^ (min b.toNat kk.bits)) = v := by ((first | assumption | exact rfl)))
    (hc : cls k ⟨some d, .binOp .shr T x y yT, ty, pos, af, g⟩ = .pure := by exact rfl) (hn : d < n := by exact nle rfl)
    (h : R P ops Q cls w0 S n l ((d, .int kk v) :: L) D H qs) : R1 P ops Q cls w0 S n k ⟨some d, .binOp .shr T x y yT, ty, pos, af, g⟩ l L D H qs :=
  R1.pureStep hc rfl hn (fun a hf w => by
    have : ¬ b < 0 := by omega
    simp [execOp, hf.eval hx, hf.eval hy, eqGuard, binOp, Op.shift, hv, this]) h
theorem R.lss (hx : ev L x = some (.int kk a) := by exact rfl) (hy : ev L y = some (.int kk b) := by exact rfl)
    (hc : cls k ⟨some d, .binOp .lss T x y yT, ty, pos, af, g⟩ = .pure := by exact rfl) (hn : d < n := by exact nle rfl)
    (h : R P ops Q cls w0 S n l ((d, .bool (dec (a < b))) :: L) D H qs) : R1 P ops Q cls w0 S n k ⟨some d, .binOp .lss T x y yT, ty, pos, af, g⟩ l L D H qs :=
  R1.pureStep hc rfl hn (fun a hf w => by simp [execOp, hf.eval hx, hf.eval hy, eqGuard, binOp, Op.intCmp, dec_eq]) h
theorem R.leq (hx : ev L x = some (.int kk a) := by exact rfl) (hy : ev L y = some (.int kk b) := by exact rfl)
    (hc : cls k ⟨some d, .binOp .leq T x y yT, ty, pos, af, g⟩ = .pure := by exact rfl) (hn : d < n := by exact nle rfl)
    (h : R P ops Q cls w0 S n l ((d, .bool (dec (a ≤ b))) :: L) D H qs) : R1 P ops Q cls w0 S n k ⟨some d, .binOp .leq T x y yT, ty, pos, af, g⟩ l L D H qs :=
  R1.pureStep hc rfl hn (fun a hf w => by simp [execOp, hf.eval hx, hf.eval hy, eqGuard, binOp, Op.intCmp, dec_eq]) h
theorem R.gtr (hx : ev L x = some (.int kk a) := by exact rfl) (hy : ev L y = some (.int kk b) := by exact rfl)
    (hc : cls k ⟨some d, .binOp .gtr T x y yT, ty, pos, af, g⟩ = .pure := by exact rfl) (hn : d < n := by exact nle rfl)
    (h : R P ops Q cls w0 S n l ((d, .bool (dec (b < a))) :: L) D H qs) : R1 P ops Q cls w0 S n k ⟨some d, .binOp .gtr T x y yT, ty, pos, af, g⟩ l L D H qs :=
  R1.pureStep hc rfl hn (fun a hf w => by simp [execOp, hf.eval hx, hf.eval hy, eqGuard, binOp, Op.intCmp, dec_eq]) h
theorem R.geq (hx : ev L x = some (.int kk a) := by exact rfl) (hy : ev L y = some (.int kk b) := by exact rfl)
    (hc : cls k ⟨some d, .binOp .geq T x y yT, ty, pos, af, g⟩ = .pure := by exact rfl) (hn : d < n := by exact nle rfl)
    (h : R P ops Q cls w0 S n l ((d, .bool (dec (b ≤ a))) :: L) D H qs) : R1 P ops Q cls w0 S n k ⟨some d, .binOp .geq T x y yT, ty, pos, af, g⟩ l L D H qs :=
  R1.pureStep hc rfl hn (fun a hf w => by simp [execOp, hf.eval hx, hf.eval hy, eqGuard, binOp, Op.intCmp, dec_eq]) h
theorem R.eql (hx : ev L x = some (.int kk a) := by exact rfl) (hy : ev L y = some (.int kk b) := by exact rfl)
    (hc : cls k ⟨some d, .binOp .eql T x y yT, ty, pos, af, g⟩ = .pure := by exact rfl) (hn : d < n := by exact nle rfl)
    (h : R P ops Q cls w0 S n l ((d, .bool (dec (a = b))) :: L) D H qs) : R1 P ops Q cls w0 S n k ⟨some d, .binOp .eql T x y yT, ty, pos, af, g⟩ l L D H qs :=
  R1.pureStep hc rfl hn (fun a hf w => by simp [execOp, hf.eval hx, hf.eval hy, eqGuard, binOp, Op.intCmp, dec_eq]; rfl) h
theorem R.neq (hx : ev L x = some (.int kk a) := by exact rfl) (hy : ev L y = some (.int kk b) := by exact rfl)
    (hc : cls k ⟨some d, .binOp .neq T x y yT, ty, pos, af, g⟩ = .pure := by exact rfl) (hn : d < n := by exact nle rfl)
    (h : R P ops Q cls w0 S n l ((d, .bool (dec (a ≠ b))) :: L) D H qs) : R1 P ops Q cls w0 S n k ⟨some d, .binOp .neq T x y yT, ty, pos, af, g⟩ l L D H qs :=
  R1.pureStep hc rfl hn (fun a hf w => by simp [execOp, hf.eval hx, hf.eval hy, eqGuard, binOp, Op.intCmp, dec_eq, bne]; rfl) h
theorem R.negw (hx : ev L x = some (.int kk a) := by exact rfl) {v : Int} (hv : kk.wrap (- a) = v := by ((first | assumption | exact wrap_i64 (by omega) | exact wrap_u64 (by omega) | exact wrap_u32 (by omega) | exact wrap_u8 (by omega) | exact rfl)))
    (hc : cls k ⟨some d, .unOp .neg T x, ty, pos, af, g⟩ = .pure := by exact rfl) (hn : d < n := by exact nle rfl)
    (h : R P ops Q cls w0 S n l ((d, .int kk v) :: L) D H qs) : R1 P ops Q cls w0 S n k ⟨some d, .unOp .neg T x, ty, pos, af, g⟩ l L D H qs :=
  R1.pureStep hc rfl hn (fun a hf w => by simp [execOp, hf.eval hx, Op.unary, Op.intArith, hv]) h
/-- all bits turned -/
def bitsNot (kk : IntKind) (a : Int) : Int := bits2 .xor kk (if kk.signed then -1 else kk.max) a
theorem R.xor1 (hx : ev L x = some (.int kk a) := by exact rfl)
    (hc : cls k ⟨some d, .unOp .xor T x, ty, pos, af, g⟩ = .pure := by exact rfl) (hn : d < n := by exact nle rfl)
    (h : R P ops Q cls w0 S n l ((d, .int kk (bitsNot kk a)) :: L) D H qs) : R1 P ops Q cls w0 S n k ⟨some d, .unOp .xor T x, ty, pos, af, g⟩ l L D H qs :=
  R1.pureStep hc rfl hn (fun a hf w => by simp [execOp, hf.eval hx, Op.unary, Op.intBits, bitsNot, bits2]) h
theorem R.not {c : Bool} (hx : ev L x = some (.bool c) := by exact rfl)
    (hc : cls k ⟨some d, .unOp .not T x, ty, pos, af, g⟩ = .pure := by exact rfl) (hn : d < n := by exact nle rfl)
    (h : R P ops Q cls w0 S n l ((d, .bool (!c)) :: L) D H qs) : R1 P ops Q cls w0 S n k ⟨some d, .unOp .not T x, ty, pos, af, g⟩ l L D H qs :=
  R1.pureStep hc rfl hn (fun a hf w => by simp [execOp, hf.eval hx, Op.unary]) h
theorem R.notP {p : Prop} {_ : Decidable p} (hx : ev L x = some (.bool (dec p)) := by exact rfl)
    (hc : cls k ⟨some d, .unOp .not T x, ty, pos, af, g⟩ = .pure := by exact rfl) (hn : d < n := by exact nle rfl)
    (h : R P ops Q cls w0 S n l ((d, .bool (dec (¬ p))) :: L) D H qs) : R1 P ops Q cls w0 S n k ⟨some d, .unOp .not T x, ty, pos, af, g⟩ l L D H qs :=
  R1.pureStep hc rfl hn (fun a hf w => by simp [execOp, hf.eval hx, Op.unary, dec_eq]) h
theorem R.convert {T2 : TypeId} {k2 k1 : IntKind} [h1 : IntT P T k1] [h2 : IntT P T2 k2] (hx : ev L x = some (.int kk a) := by exact rfl) {v : Int} (hv : k2.wrap a = v := by ((first | assumption | exact wrap_i64 (by omega) | exact wrap_u64 (by omega) | exact wrap_u32 (by omega) | exact wrap_u8 (by omega) | exact rfl)))
    (hc : cls k ⟨some d, .convert T T2 x, ty, pos, af, g⟩ = .pure := by exact rfl) (hn : d < n := by exact nle rfl)
    (h : R P ops Q cls w0 S n l ((d, .int k2 v) :: L) D H qs) : R1 P ops Q cls w0 S n k ⟨some d, .convert T T2 x, ty, pos, af, g⟩ l L D H qs :=
  R1.pureStep hc rfl hn (fun a hf w => by simp [execOp, hf.eval hx, Go.convert, underlying, h1.und, h2.und, Conv.intToInt, hv]) h
theorem R.max {aT : Array TypeId} {kb : IntKind} (hx : ev L x = some (.int kk a) := by exact rfl) (hy : ev L y = some (.int kb b) := by exact rfl)
    (hc : cls k ⟨some d, .call ⟨.builtin .max, #[x, y], aT⟩, ty, pos, af, g⟩ = .pure := by exact rfl) (hn : d < n := by exact nle rfl)
    (h : R P ops Q cls w0 S n l ((d, .int kk (max a b)) :: L) D H qs) : R1 P ops Q cls w0 S n k ⟨some d, .call ⟨.builtin .max, #[x, y], aT⟩, ty, pos, af, g⟩ l L D H qs :=
  R1.pureStep hc rfl hn (fun a hf w => by simp [execOp, resolve, invoke, Go.builtin, hf.eval hx, hf.eval hy, Builtin.max_, Builtin.max2]; omega) h
theorem R.min {aT : Array TypeId} {kb : IntKind} (hx : ev L x = some (.int kk a) := by exact rfl) (hy : ev L y = some (.int kb b) := by exact rfl)
    (hc : cls k ⟨some d, .call ⟨.builtin .min, #[x, y], aT⟩, ty, pos, af, g⟩ = .pure := by exact rfl) (hn : d < n := by exact nle rfl)
    (h : R P ops Q cls w0 S n l ((d, .int kk (min a b)) :: L) D H qs) : R1 P ops Q cls w0 S n k ⟨some d, .call ⟨.builtin .min, #[x, y], aT⟩, ty, pos, af, g⟩ l L D H qs :=
  R1.pureStep hc rfl hn (fun a hf w => by simp [execOp, resolve, invoke, Go.builtin, hf.eval hx, hf.eval hy, Builtin.min_, Builtin.min2]; omega) h
theorem R.len {aT E sz : Nat} [ho : SliceT P aT E sz] {p : Option Addr} {m c : Nat} (hx : ev L x = some (.slice p m c) := by exact rfl)
    (hc : cls k ⟨some d, .call ⟨.builtin .len, #[x], #[aT]⟩, ty, pos, af, g⟩ = .pure := by exact rfl) (hn : d < n := by exact nle rfl)
    (h : R P ops Q cls w0 S n l ((d, .int .i64 (m : Int)) :: L) D H qs) : R1 P ops Q cls w0 S n k ⟨some d, .call ⟨.builtin .len, #[x], #[aT]⟩, ty, pos, af, g⟩ l L D H qs :=
  R1.pureStep hc rfl hn (fun a hf w => by simp [execOp, resolve, invoke, Go.builtin, hf.eval hx, Builtin.len_, underlying, ho.und, goInt]) h
theorem R.cap {aT E sz : Nat} [ho : SliceT P aT E sz] {p : Option Addr} {m c : Nat} (hx : ev L x = some (.slice p m c) := by exact rfl)
    (hc : cls k ⟨some d, .call ⟨.builtin .cap, #[x], #[aT]⟩, ty, pos, af, g⟩ = .pure := by exact rfl) (hn : d < n := by exact nle rfl)
    (h : R P ops Q cls w0 S n l ((d, .int .i64 (c : Int)) :: L) D H qs) : R1 P ops Q cls w0 S n k ⟨some d, .call ⟨.builtin .cap, #[x], #[aT]⟩, ty, pos, af, g⟩ l L D H qs :=
  R1.pureStep hc rfl hn (fun a hf w => by simp [execOp, resolve, invoke, Go.builtin, hf.eval hx, Builtin.cap_, underlying, ho.und, goInt]) h
/- pointers, bools, structs held against each other -/
theorem R.eqlNil [ho : PtrT P T] {p : Option Addr} (hx : ev L x = some (.pointer p) := by exact rfl) (hy : ev L y = some (.pointer none) := by exact rfl)
    (hc : cls k ⟨some d, .binOp .eql T x y yT, ty, pos, af, g⟩ = .pure := by exact rfl) (hn : d < n := by exact nle rfl)
    (h : R P ops Q cls w0 S n l ((d, .bool p.isNone) :: L) D H qs) : R1 P ops Q cls w0 S n k ⟨some d, .binOp .eql T x y yT, ty, pos, af, g⟩ l L D H qs :=
  R1.pureStep hc rfl hn (fun a hf w => by simp [execOp, hf.eval hx, hf.eval hy, eqGuard, run_eql_pointer_nil _ T p ho.und]) h
theorem R.neqNil [ho : PtrT P T] {p : Option Addr} (hx : ev L x = some (.pointer p) := by exact rfl) (hy : ev L y = some (.pointer none) := by exact rfl)
    (hc : cls k ⟨some d, .binOp .neq T x y yT, ty, pos, af, g⟩ = .pure := by exact rfl) (hn : d < n := by exact nle rfl)
    (h : R P ops Q cls w0 S n l ((d, .bool (!p.isNone)) :: L) D H qs) : R1 P ops Q cls w0 S n k ⟨some d, .binOp .neq T x y yT, ty, pos, af, g⟩ l L D H qs :=
  R1.pureStep hc rfl hn (fun a hf w => by simp [execOp, hf.eval hx, hf.eval hy, eqGuard, run_neq_pointer_nil _ T p ho.und]) h
theorem R.eqlBool [ho : BoolT P T] {p q : Bool} (hx : ev L x = some (.bool p) := by exact rfl) (hy : ev L y = some (.bool q) := by exact rfl)
    (hc : cls k ⟨some d, .binOp .eql T x y yT, ty, pos, af, g⟩ = .pure := by exact rfl) (hn : d < n := by exact nle rfl)
    (h : R P ops Q cls w0 S n l ((d, .bool (p == q)) :: L) D H qs) : R1 P ops Q cls w0 S n k ⟨some d, .binOp .eql T x y yT, ty, pos, af, g⟩ l L D H qs :=
  R1.pureStep hc rfl hn (fun a hf w => by simp [execOp, hf.eval hx, hf.eval hy, eqGuard, run_eql_bool _ T p q ho.und]) h
theorem R.neqBool [ho : BoolT P T] {p q : Bool} (hx : ev L x = some (.bool p) := by exact rfl) (hy : ev L y = some (.bool q) := by exact rfl)
    (hc : cls k ⟨some d, .binOp .neq T x y yT, ty, pos, af, g⟩ = .pure := by exact rfl) (hn : d < n := by exact nle rfl)
    (h : R P ops Q cls w0 S n l ((d, .bool (!(p == q))) :: L) D H qs) : R1 P ops Q cls w0 S n k ⟨some d, .binOp .neq T x y yT, ty, pos, af, g⟩ l L D H qs :=
  R1.pureStep hc rfl hn (fun a hf w => by simp [execOp, hf.eval hx, hf.eval hy, eqGuard, run_neq_bool _ T p q ho.und]) h
theorem R.eql5 [ho : Eq5 P T] {a0 a1 a2 a3 a4 b0 b1 b2 b3 b4 : Int} (hx : ev L x = some (.agg #[.int .i64 a0, .int .i64 a1, .int .i64 a2, .int .i64 a3, .int .i64 a4]) := by exact rfl)
    (hy : ev L y = some (.agg #[.int .i64 b0, .int .i64 b1, .int .i64 b2, .int .i64 b3, .int .i64 b4]) := by exact rfl)
    (hc : cls k ⟨some d, .binOp .eql T x y yT, ty, pos, af, g⟩ = .pure := by exact rfl) (hn : d < n := by exact nle rfl)
    (h : R P ops Q cls w0 S n l ((d, .bool (dec (a0 = b0 ∧ a1 = b1 ∧ a2 = b2 ∧ a3 = b3 ∧ a4 = b4))) :: L) D H qs) : R1 P ops Q cls w0 S n k ⟨some d, .binOp .eql T x y yT, ty, pos, af, g⟩ l L D H qs :=
  R1.pureStep hc rfl hn (fun a hf w => by simp [execOp, hf.eval hx, hf.eval hy, ho.guard, binOp, ho.run, dec_eq]) h
theorem R.neq5 [ho : Eq5 P T] {a0 a1 a2 a3 a4 b0 b1 b2 b3 b4 : Int} (hx : ev L x = some (.agg #[.int .i64 a0, .int .i64 a1, .int .i64 a2, .int .i64 a3, .int .i64 a4]) := by exact rfl)
    (hy : ev L y = some (.agg #[.int .i64 b0, .int .i64 b1, .int .i64 b2, .int .i64 b3, .int .i64 b4]) := by exact rfl)
    (hc : cls k ⟨some d, .binOp .neq T x y yT, ty, pos, af, g⟩ = .pure := by exact rfl) (hn : d < n := by exact nle rfl)
    (h : R P ops Q cls w0 S n l ((d, .bool (dec (¬ (a0 = b0 ∧ a1 = b1 ∧ a2 = b2 ∧ a3 = b3 ∧ a4 = b4)))) :: L) D H qs) : R1 P ops Q cls w0 S n k ⟨some d, .binOp .neq T x y yT, ty, pos, af, g⟩ l L D H qs :=
  R1.pureStep hc rfl hn (fun a hf w => by simp [execOp, hf.eval hx, hf.eval hy, ho.guard, binOp, ho.run, dec_eq]) h
theorem R.eql4 [ho : Eq4 P T] {a0 a1 a2 a3 b0 b1 b2 b3 : Int} (hx : ev L x = some (.agg #[.int .i64 a0, .int .i64 a1, .int .i64 a2, .int .i64 a3]) := by exact rfl)
    (hy : ev L y = some (.agg #[.int .i64 b0, .int .i64 b1, .int .i64 b2, .int .i64 b3]) := by exact rfl)
    (hc : cls k ⟨some d, .binOp .eql T x y yT, ty, pos, af, g⟩ = .pure := by exact rfl) (hn : d < n := by exact nle rfl)
    (h : R P ops Q cls w0 S n l ((d, .bool (dec (a0 = b0 ∧ a1 = b1 ∧ a2 = b2 ∧ a3 = b3))) :: L) D H qs) : R1 P ops Q cls w0 S n k ⟨some d, .binOp .eql T x y yT, ty, pos, af, g⟩ l L D H qs :=
  R1.pureStep hc rfl hn (fun a hf w => by simp [execOp, hf.eval hx, hf.eval hy, ho.guard, binOp, ho.run, dec_eq]) h
end ints
/- memory -/
theorem cell_of {w : World} {b off : Nat} {cs : List Value} {E : TypeId} {fz : Nat × Nat} (hb : w.heap[b]? = some (rowf cs E fz)) : w.cell? ⟨b, off, none⟩ = cs[off]? := by
  simp [World.cell?, hb, rowf]
/-- a read of one cell holds as long as the cell holds the same -/
def CellPr (b off : Nat) (v : Value) (H : Hp) : Prop := ∃ cs E fz, Has b (rowf cs E fz) H ∧ cs[off]? = some v
theorem CellPr.perm {b off : Nat} {v : Value} {H H' : Hp} (h : CellPr b off v H) (hp : H.flatten.Perm H'.flatten) : CellPr b off v H' :=
  let ⟨cs, E, fz, h1, h2⟩ := h; ⟨cs, E, fz, h1.perm hp, h2⟩
theorem CellPr.there {b off : Nat} {v : Value} {c : Chunk} {H : Hp} (h : CellPr b off v H) : CellPr b off v (c :: H) :=
  let ⟨cs, E, fz, h1, h2⟩ := h; ⟨cs, E, fz, h1.there, h2⟩
theorem R.load1 {T : TypeId} [ho : Cell1 P T] {x : Operand} {b off : Nat} {cs : List Value} {E : TypeId} {fz : Nat × Nat} {v : Value} (hx : ev L x = some (.pointer (some ⟨b, off, none⟩)) := by exact rfl)
    (hh : Has b (rowf cs E fz) H := by ((repeat (first | exact Has.here | apply Has.there)))) (hv : cs[off]? = some v := by ((first | exact rfl | assumption))) (hc : cls k ⟨some d, .load T x, ty, pos, af, g⟩ = .quiet := by exact rfl) (hn : d < n := by exact nle rfl)
    (h : R P ops Q cls w0 S n l ((d, v) :: L) D H (⟨k, CellPr b off v⟩ :: qs)) : R1 P ops Q cls w0 S n k ⟨some d, .load T x, ty, pos, af, g⟩ l L D H qs := by
  refine R1.quietStep (Pr := CellPr b off v) hc rfl hn (fun a hf => ⟨fun _ _ h hp => h.perm hp, fun _ _ h => h.there, fun H w ⟨cs, E, fz, h1, h2⟩ hs => ?_⟩) ⟨cs, E, fz, hh, hv⟩ h
  have hcell : w.cell? ⟨b, off, none⟩ = some v := by rw [cell_of (h1.st hs)]; exact h2
  simp [OpOk, execOp, hf.eval hx, Instr.loadAt, Instr.sureAddr, loadVar, ho.agg, hcell, hs]
def CellsPr (b off : Nat) (vs : List Value) (H : Hp) : Prop := ∃ cs E fz, Has b (rowf cs E fz) H ∧ (cs.drop off).take vs.length = vs
theorem CellsPr.perm {b off : Nat} {v : List Value} {H H' : Hp} (h : CellsPr b off v H) (hp : H.flatten.Perm H'.flatten) : CellsPr b off v H' :=
  let ⟨cs, E, fz, h1, h2⟩ := h; ⟨cs, E, fz, h1.perm hp, h2⟩
theorem CellsPr.there {b off : Nat} {v : List Value} {c : Chunk} {H : Hp} (h : CellsPr b off v H) : CellsPr b off v (c :: H) :=
  let ⟨cs, E, fz, h1, h2⟩ := h; ⟨cs, E, fz, h1.there, h2⟩
theorem R.loadN {T m : Nat} [ho : AggN P T m] {x : Operand} {b off : Nat} {cs vs : List Value} {E : TypeId} {fz : Nat × Nat} (hx : ev L x = some (.pointer (some ⟨b, off, none⟩)) := by exact rfl)
    (hh : Has b (rowf cs E fz) H := by ((repeat (first | exact Has.here | apply Has.there)))) (hv : (cs.drop off).take m = vs := by ((first | assumption | (dsimp only [List.drop, List.take]; try exact rfl) | exact rfl))) (hl : vs.length = m := by ((first | exact rfl | assumption | (simp; done)))) (hc : cls k ⟨some d, .load T x, ty, pos, af, g⟩ = .quiet := by exact rfl) (hn : d < n := by exact nle rfl)
    (h : R P ops Q cls w0 S n l ((d, .agg vs.toArray) :: L) D H (⟨k, CellsPr b off vs⟩ :: qs)) : R1 P ops Q cls w0 S n k ⟨some d, .load T x, ty, pos, af, g⟩ l L D H qs := by
  refine R1.quietStep (Pr := CellsPr b off vs) hc rfl hn (fun a hf => ⟨fun _ _ h hp => h.perm hp, fun _ _ h => h.there, fun H w ⟨cs, E, fz, h1, h2⟩ hs => ?_⟩) ⟨cs, E, fz, hh, by rw [hl]; exact hv⟩ h
  have hcell : ∀ j v, vs[j]? = some v → w.cell? ((⟨b, off, none⟩ : Addr).add j) = some v := by
    intro j v hj
    rw [Addr.add_mk, cell_of (h1.st hs)]
    rw [← h2, List.getElem?_take, List.getElem?_drop] at hj
    split at hj
    · exact hj
    · cases hj
  have := run_loadCells_list (P := P) w ⟨b, off, none⟩ vs hcell
  rw [hl] at this
  simp [OpOk, execOp, hf.eval hx, Instr.loadAt, Instr.sureAddr, loadVar, ho.agg, ho.size, this, hs]
theorem setCell_st {b off : Nat} {cs : List Value} {E : TypeId} {v : Value} {H' : Hp} {w : World} (hu : Upd b (row cs E) (row (cs.set off v) E) H H') (hw : St w0 S w H) :
    St w0 S (w.setCell ⟨b, off, none⟩ v) H' := by
  refine hu.st hw (by simp) ?_ ?_ rfl rfl rfl
  · have := hu.has.st hw
    simp only [World.setCell, Array.getElem?_modify, if_true, this, Option.map_some, row]
    simp
  · intro j hj
    simp only [World.setCell, Array.getElem?_modify]
    rw [if_neg (fun e => hj e.symm)]
theorem R.store1 {T : TypeId} [ho : Cell1 P T] {x y : Operand} {b off : Nat} {cs cs' : List Value} {E : TypeId} {v : Value} {H' : Hp} {cr : List Nat} (hx : ev L x = some (.pointer (some ⟨b, off, none⟩)) := by exact rfl)
    (hy : ev L y = some v := by exact rfl) (h1 : v.oneCell' = true := by ((first | exact rfl | assumption))) (hu : Upd b (row cs E) (row cs' E) H H' := by ((repeat (first | exact Upd.here | apply Upd.there)))) (hs : cs.set off v = cs' := by ((first | assumption | (dsimp only [List.set]; try exact rfl) | exact rfl))) (hlt : off < cs.length := by ((first | decide | omega | (simp; done) | (simp; omega))))
    (hc : cls k ⟨none, .store T x y, ty, pos, af, g⟩ = .eff cr := by exact rfl) (hq : ∀ r ∈ qs, r.i ∈ cr → r.Pr H' := by ((first | (intro _ _ h; cases h; done) | (repeat (first | exact qok_nil | (apply qok_cons; (· first | (intro hc; exact absurd hc (nmem rfl)) | (intro _; apply CellPr.mk; (· repeat (first | exact Has.here | apply Has.there)); (first | exact rfl | assumption)) | (intro _; apply CellsPr.mk; (· repeat (first | exact Has.here | apply Has.there)); (first | exact rfl | assumption)))))))))
    (h : R P ops Q cls w0 S n l L D H' qs) : R1 P ops Q cls w0 S n k ⟨none, .store T x y, ty, pos, af, g⟩ l L D H qs := by
  refine R1.effStep hc trivial fun a w hf hst => ?_
  have hcell : w.cell? ⟨b, off, none⟩ = some cs[off] := by
    rw [cell_of (fz := (0, 0)) (hu.has.st hst)]; simp [hlt]
  have hfz : w.frozen? ⟨b, off, none⟩ = false := by simp [World.frozen?, hu.has.st hst, row]
  have hcs : v.cells = #[v] := by cases v <;> first | rfl | simp [Value.oneCell'] at h1
  have hrun := run_store P w ⟨b, off, none⟩ v .plain h1
  simp only [hcell, hfz] at hrun
  subst hs
  have hst' := setCell_st hu hst
  have hrun' : (store ((⟨b, off, none⟩ : Addr).add 0) v).run P w = .ok () (w.setCell ⟨b, off, none⟩ v) := by
    rw [Addr.add_mk]; simpa using hrun
  have : (execOp a.eval ⟨none, .store T x y, ty, pos, af, g⟩).run P w = .ok .skip (w.setCell ⟨b, off, none⟩ v) := by
    simp [execOp, hf.eval hx, hf.eval hy, Instr.storeAt, Instr.sureAddr, storeVar, ho.size, hcs, storeCells, hrun']
  simp only [OpOk, this]
  exact ⟨H', hst', hq, h⟩
/-- a list written into another one from a place on -/
def setL : List Value → Nat → List Value → List Value
  | cs, _, [] => cs
  | cs, off, v :: vs => setL (cs.set off v) (off + 1) vs
theorem length_setL : ∀ (vs cs : List Value) (off : Nat), (setL cs off vs).length = cs.length
  | [], _, _ => rfl
  | v :: vs, cs, off => by rw [setL, length_setL vs]; simp
theorem run_storeCells_setL (P : Program) {b : Nat} {E : TypeId} {F : Hp} : ∀ (vs cs : List Value) (off i : Nat) (w : World), St w0 S w ([(b, row cs E)] :: F) → off + i + vs.length ≤ cs.length →
    (∀ v ∈ vs, v.oneCell' = true) → ∃ w', (storeCells ⟨b, off, none⟩ vs i).run P w = .ok () w' ∧ St w0 S w' ([(b, row (setL cs (off + i) vs) E)] :: F)
  | [], cs, off, i, w, hst, _, _ => ⟨w, rfl, hst⟩
  | v :: vs, cs, off, i, w, hst, hlen, h1 => by
    simp only [List.length_cons] at hlen
    have hv := h1 v List.mem_cons_self
    have hh : Has b (row cs E) ([(b, row cs E)] :: F) := Has.here
    have hcell : w.cell? ⟨b, off + i, none⟩ = some (cs[off + i]'(by omega)) := by
      rw [cell_of (fz := (0, 0)) (hh.st hst)]; simp [show off + i < cs.length by omega]
    have hfz : w.frozen? ⟨b, off + i, none⟩ = false := by simp [World.frozen?, hh.st hst, row]
    have hrun := run_store P w ⟨b, off + i, none⟩ v .plain hv
    simp only [hcell, hfz] at hrun
    have hst' : St w0 S (w.setCell ⟨b, off + i, none⟩ v) ([(b, row (cs.set (off + i) v) E)] :: F) := setCell_st Upd.here hst
    obtain ⟨w', h2, h3⟩ := run_storeCells_setL P vs (cs.set (off + i) v) off (i + 1) _ hst' (by simp; omega) (fun u hu => h1 u (List.mem_cons_of_mem _ hu))
    refine ⟨w', ?_, h3⟩
    rw [storeCells, Sem.run_bind, Addr.add_mk]
    simp only [hrun, Bool.false_eq_true, if_false, Result.andThen_ok]
    exact h2
theorem R.storeN {T m : Nat} [ho : AggN P T m] {x y : Operand} {b off : Nat} {cs cs' vs : List Value} {E : TypeId} {H' : Hp} {cr : List Nat} (hx : ev L x = some (.pointer (some ⟨b, off, none⟩)) := by exact rfl)
    (hy : ev L y = some (.agg vs.toArray) := by exact rfl) (h1 : vs.all Value.oneCell' = true := by ((first | exact rfl | assumption))) (hl : vs.length = m := by ((first | exact rfl | assumption))) (hu : Upd b (row cs E) (row cs' E) H H' := by ((repeat (first | exact Upd.here | apply Upd.there)))) (hs : setL cs off vs = cs' := by ((first | assumption | (dsimp only [setL, List.set, Value.cells, List.toList_toArray]; try exact rfl) | exact rfl))) (hlt : off + m ≤ cs.length := by ((first | decide | omega | (simp; done) | (simp; omega))))
    (hc : cls k ⟨none, .store T x y, ty, pos, af, g⟩ = .eff cr := by exact rfl) (hq : ∀ r ∈ qs, r.i ∈ cr → r.Pr H' := by ((first | (intro _ _ h; cases h; done) | (repeat (first | exact qok_nil | (apply qok_cons; (· first | (intro hc; exact absurd hc (nmem rfl)) | (intro _; apply CellPr.mk; (· repeat (first | exact Has.here | apply Has.there)); (first | exact rfl | assumption)) | (intro _; apply CellsPr.mk; (· repeat (first | exact Has.here | apply Has.there)); (first | exact rfl | assumption)))))))))
    (h : R P ops Q cls w0 S n l L D H' qs) : R1 P ops Q cls w0 S n k ⟨none, .store T x y, ty, pos, af, g⟩ l L D H qs := by
  refine R1.effStep hc trivial fun a w hf hst => ?_
  subst hs
  obtain ⟨F, t1, t2⟩ := hu
  have e1 : St w0 S w ([(b, row cs E)] :: F) := hst.perm (by simpa [Take] using t1)
  obtain ⟨w', h2, h3⟩ := run_storeCells_setL P vs cs off 0 w e1 (by omega) (by simpa using h1)
  have hst' : St w0 S w' H' := h3.perm (by simpa [Take] using t2.symm)
  have : (execOp a.eval ⟨none, .store T x y, ty, pos, af, g⟩).run P w = .ok .skip w' := by
    simp [execOp, hf.eval hx, hf.eval hy, Instr.storeAt, Instr.sureAddr, storeVar, ho.size, Value.cells, hl, h2]
  simp only [OpOk, this]
  exact ⟨H', hst', hq, h⟩
def fillL (pl : Nat → Option (Nat × Nat)) : List Value → List (Nat × Value) → Option (List Value)
  | cs, [] => some cs
  | cs, (i, v) :: rest =>
    match pl i with
    | none => none
    | some (off, size) => if v.cells.size ≠ size || off + v.cells.size > cs.length then none else fillL pl (setL cs off v.cells.toList) rest
theorem foldl_setL : ∀ (vs cs : List Value) (off i : Nat), ((vs.zipIdx i).foldl (fun (cs : Array Value) (c, j) => cs.setIfInBounds (off + j) c) cs.toArray) = (setL cs (off + i) vs).toArray
  | [], _, _, _ => rfl
  | v :: vs, cs, off, i => by
    simp only [List.zipIdx_cons, List.foldl_cons, List.setIfInBounds_toArray]
    rw [foldl_setL vs (cs.set (off + i) v) off (i + 1)]
    rfl
theorem fill_fillL (pl : Nat → Option (Nat × Nat)) : ∀ (parts : List (Nat × Value)) (cs : List Value), Instr.fill pl cs.toArray parts = (fillL pl cs parts).map List.toArray
  | [], cs => rfl
  | (i, v) :: rest, cs => by
    unfold Instr.fill fillL
    cases pl i with
    | none => rfl
    | some p =>
      obtain ⟨off, size⟩ := p
      simp only [List.size_toArray]
      split
      · rfl
      · rw [← Array.foldl_toList]
        have h := foldl_setL v.cells.toList cs off 0
        simp only [Array.toList_zipIdx, Nat.add_zero] at h ⊢
        rw [h]
        exact fill_fillL pl rest _
def evParts (L : Slots) : List (Nat × Operand) → Option (List (Nat × Value))
  | [] => some []
  | (i, x) :: xs => match ev L x with
    | some v => match evParts L xs with
      | some vs => some ((i, v) :: vs)
      | none => none
    | none => none
theorem Fr.parts {n : Nat} {a : Act} {L : Slots} (h : Fr n a L) : ∀ {xs : List (Nat × Operand)} {vs : List (Nat × Value)}, evParts L xs = some vs → xs.map (fun (i, x) => (i, a.eval x)) = vs
  | [], vs, hx => by simp [evParts] at hx; simp [hx]
  | (i, x) :: xs, vs, hx => by
    unfold evParts at hx
    cases h1 : ev L x with
    | none => simp [h1] at hx
    | some v =>
      simp only [h1] at hx
      cases h2 : evParts L xs with
      | none => simp [h2] at hx
      | some us =>
        simp only [h2, Option.some.injEq] at hx
        subst hx
        simp [h.eval h1, h.parts h2]
theorem R.build {T : TypeId} {pl : Nat → Option (Nat × Nat)} {zero : List Value} [ho : BuildT P T pl zero] {ps : List (Nat × Operand)} {vs : List (Nat × Value)} {cs cs' : List Value}
    (hx : evParts L ps = some vs := by exact rfl) (hf : fillL pl zero vs = some cs := by exact rfl) (he : cs = cs' := by ((first | assumption | (dsimp only [setL, List.set, Value.cells, List.toList_toArray]; try exact rfl) | exact rfl)))
    (hc : cls k ⟨some d, .build T ps.toArray, ty, pos, af, g⟩ = .pure := by exact rfl) (hn : d < n := by exact nle rfl)
    (h : R P ops Q cls w0 S n l ((d, .agg cs'.toArray) :: L) D H qs) : R1 P ops Q cls w0 S n k ⟨some d, .build T ps.toArray, ty, pos, af, g⟩ l L D H qs :=
  R1.pureStep hc rfl hn (fun a hfr w => by
    subst he
    have h1 := hfr.parts hx
    have h2 : P.built T vs = some cs.toArray := by rw [ho.built, fill_fillL, hf]; rfl
    have h3 := run_build (P := P) w T vs.toArray cs.toArray h2
    have h4 : (ps.toArray.map fun (i, x) => (i, a.eval x)) = vs.toArray := by rw [← h1]; simp
    simp only [execOp, h4, Sem.run_bind, h3, Result.andThen_ok, Sem.run_pure]) h
theorem R.alloc {T : TypeId} {vs : List Value} [ho : ZeroV P T vs]
    (hc : cls k ⟨some d, .alloc T, ty, pos, af, g⟩ = .grow := by exact rfl) (hn : d < n := by exact nle rfl)
    (h : ∀ b, R P ops Q cls w0 S n l ((d, .pointer (some ⟨b, 0, none⟩)) :: L) D ([(b, row vs T)] :: H) qs) : R1 P ops Q cls w0 S n k ⟨some d, .alloc T, ty, pos, af, g⟩ l L D H qs :=
  R1.growStep (mk := fun b => .pointer (some ⟨b, 0, none⟩)) (ob := row vs T) hc rfl hn (fun a hf w => by
    obtain ⟨z, hz, hr⟩ := ho.run
    simp [execOp, Instr.alloc, hr, newVar, newRow, hz, row]) h
theorem R.box {T : TypeId} {x : Operand} {v : Value} {vs : List Value} (hx : ev L x = some v := by exact rfl) (hz : v.cells = vs.toArray := by exact rfl)
    (hc : cls k ⟨some d, .box T x, ty, pos, af, g⟩ = .grow := by exact rfl) (hn : d < n := by exact nle rfl)
    (h : ∀ b, R P ops Q cls w0 S n l ((d, .pointer (some ⟨b, 0, none⟩)) :: L) D ([(b, row vs T)] :: H) qs) : R1 P ops Q cls w0 S n k ⟨some d, .box T x, ty, pos, af, g⟩ l L D H qs :=
  R1.growStep (mk := fun b => .pointer (some ⟨b, 0, none⟩)) (ob := row vs T) hc rfl hn (fun a hf w => by
    simp [execOp, Instr.box, hf.eval hx, newVar, newRow, hz, row]) h
end ops
theorem St.sub {w0 : World} {S : List Nat} {w : World} {H H' F : Hp} (h : St w0 S w H) (hs : Split H H' F) : St w0 S w H' := by
  have h1 : St w0 S w (H' ++ F) := h.perm hs
  have h3 : St w0 S w (F ++ H') := h1.perm (by simp only [List.flatten_append]; exact List.perm_append_comm)
  clear h1 hs h
  induction F with
  | nil => exact h3
  | cons c F ih => exact ih h3.drop
section code
variable {P : Program} {Q : Exit → Act → World → Prop} {w0 : World} {S : List Nat} {n : Nat}
variable {L : Slots} {D : List Deferred} {H : Hp}
theorem G.plain {id : Nat} {os : List Oper} {l : List (Nat × Oper)} (hl : enum 0 os = l := by (first | (dsimp only [enum, Nat.reduceAdd]; try exact rfl) | exact rfl)) (h : R P os.toArray Q (std []) w0 S n l L D H []) :
    G P Q w0 S n (.region id os.toArray false) L D H := by
  intro a w hf hD hw
  subst hl
  have h1 := h (fun p hp => by simpa using (enum_get os 0 p hp).2) a hf hD
  rw [enum_range, ← List.range_eq_range'] at h1
  exact W.plain (by simpa using h1) hw
theorem G.draw [hm : Mixed P] {id : Nat} {os : List Oper} {l : List (Nat × Oper)} (ann : List (Nat × Cls)) (hl : enum 0 os = l := by (first | (dsimp only [enum, Nat.reduceAdd]; try exact rfl) | exact rfl)) (hok : drawOk os.toArray (std ann) (List.range os.length) = true := by (decide +kernel))
    (h : R P os.toArray Q (std ann) w0 S n l L D H []) : G P Q w0 S n (.region id os.toArray true) L D H := by
  intro a w hf hD hw
  subst hl
  have h1 := h (fun p hp => by simpa using (enum_get os 0 p hp).2) a hf hD
  rw [enum_range, ← List.range_eq_range'] at h1
  exact W.draw _ hm.mixed hok h1 hw
/-- in another order than the text's -/
theorem G.drawBy [hm : Mixed P] {id : Nat} {os : List Oper} (l : List (Nat × Oper)) (ann : List (Nat × Cls)) (hl : ∀ p ∈ l, os[p.1]? = some p.2) (hok : drawOk os.toArray (std ann) (l.map (·.1)) = true)
    (h : R P os.toArray Q (std ann) w0 S n l L D H []) : G P Q w0 S n (.region id os.toArray true) L D H := by
  intro a w hf hD hw
  have h1 := h (fun p hp => by simpa using hl p hp) a hf hD
  exact W.draw _ hm.mixed hok h1 hw
theorem G.seq {x y : Code} (h : G P (Exit.then (fun a w => y.wp P Q a w) Q) w0 S n x L D H) : G P Q w0 S n (.seq x y) L D H :=
  fun a w hf hD hw => wp_seq (h a w hf hD hw)
theorem G.skip (h : Dn Q w0 S n .normal L D H) : G P Q w0 S n .skip L D H := fun a w hf hD hw => wp_skip (h a w hf hD hw)
theorem G.ret (h : Dn Q w0 S n .ret L D H) : G P Q w0 S n .ret L D H := fun a w hf hD hw => wp_ret (h a w hf hD hw)
theorem G.exit {id : Nat} (h : Dn Q w0 S n (.exit id) L D H) : G P Q w0 S n (.exit id) L D H := fun a w hf hD hw => wp_exit (h a w hf hD hw)
theorem G.block {id : Nat} {c : Code} (h : G P (Exit.inBlock id Q) w0 S n c L D H) : G P Q w0 S n (.block id c) L D H :=
  fun a w hf hD hw => wp_block (h a w hf hD hw)
theorem G.condT {c : Operand} {x y : Code} (hc : ev L c = some (.bool true) := by exact rfl) (h : G P Q w0 S n x L D H) : G P Q w0 S n (.cond c x y) L D H :=
  fun a w hf hD hw => wp_cond_true (hf.eval hc) (h a w hf hD hw)
theorem G.condF {c : Operand} {x y : Code} (hc : ev L c = some (.bool false) := by exact rfl) (h : G P Q w0 S n y L D H) : G P Q w0 S n (.cond c x y) L D H :=
  fun a w hf hD hw => wp_cond_false (hf.eval hc) (h a w hf hD hw)
theorem G.condP {c : Operand} {x y : Code} {p : Prop} {_ : Decidable p} (hc : ev L c = some (.bool (dec p))) (ht : p → G P Q w0 S n x L D H) (hf : ¬ p → G P Q w0 S n y L D H) :
    G P Q w0 S n (.cond c x y) L D H :=
  fun a w hfr hD hw => wp_cond_split (hfr.eval hc) (fun e => ht (dec_iff.1 e) a w hfr hD hw) (fun e => hf (fun hp => by rw [dec_true hp] at e; cases e) a w hfr hD hw)
theorem G.condPT {c : Operand} {x y : Code} {p : Prop} {_ : Decidable p} (hc : ev L c = some (.bool (dec p)) := by exact rfl) (hp : p := by (first | decide | omega)) (ht : G P Q w0 S n x L D H) : G P Q w0 S n (.cond c x y) L D H :=
  G.condP hc (fun _ => ht) (fun h => absurd hp h)
theorem G.condPF {c : Operand} {x y : Code} {p : Prop} {_ : Decidable p} (hc : ev L c = some (.bool (dec p)) := by exact rfl) (hp : ¬ p := by (first | decide | omega)) (ht : G P Q w0 S n y L D H) : G P Q w0 S n (.cond c x y) L D H :=
  G.condP hc (fun h => absurd h hp) (fun _ => ht)
theorem G.condB {c : Operand} {x y : Code} {b : Bool} (hc : ev L c = some (.bool b)) (ht : b = true → G P Q w0 S n x L D H) (hf : b = false → G P Q w0 S n y L D H) :
    G P Q w0 S n (.cond c x y) L D H :=
  fun a w hfr hD hw => wp_cond_split (hfr.eval hc) (fun e => ht e a w hfr hD hw) (fun e => hf e a w hfr hD hw)
theorem G.condVT {c : Operand} {x y : Code} {b : Bool} (hc : ev L c = some (.bool b) := by exact rfl) (hb : b = true := by assumption) (h : G P Q w0 S n x L D H) : G P Q w0 S n (.cond c x y) L D H :=
  G.condT (by rw [hc, hb]) h
theorem G.condVF {c : Operand} {x y : Code} {b : Bool} (hc : ev L c = some (.bool b) := by exact rfl) (hb : b = false := by assumption) (h : G P Q w0 S n y L D H) : G P Q w0 S n (.cond c x y) L D H :=
  G.condF (by rw [hc, hb]) h
/-- fewer slots, fewer chunks -/
theorem G.to {c : Code} {L' : Slots} {H' F : Hp} (hL : Subs L L') (hH : Split H H' F) (h : G P Q w0 S n c L' D H') : G P Q w0 S n c L D H :=
  fun a w hf hD hw => h a w (hf.sub fun t v => hL.lk t v) hD (hw.sub hH)
/- exits through the pieces around -/
theorem Dn.next {y : Code} (h : G P Q w0 S n y L D H) : Dn (Exit.then (fun a w => y.wp P Q a w) Q) w0 S n .normal L D H := h
theorem Dn.blockEnd {id : Nat} (h : Dn Q w0 S n .normal L D H) : Dn (Exit.inBlock id Q) w0 S n .normal L D H := h
theorem Dn.exitHere {id : Nat} (h : Dn Q w0 S n .normal L D H) : Dn (Exit.inBlock id Q) w0 S n (.exit id) L D H := fun a w hf hD hw => by
  simp only [Exit.inBlock, if_true]; exact h a w hf hD hw
theorem Dn.exitPast {id id' : Nat} (hne : id ≠ id') (h : Dn Q w0 S n (.exit id) L D H) : Dn (Exit.inBlock id' Q) w0 S n (.exit id) L D H := fun a w hf hD hw => by
  simp only [Exit.inBlock, if_neg hne]; exact h a w hf hD hw
theorem Dn.exitThen {id : Nat} {K : Act → World → Prop} (h : Dn Q w0 S n (.exit id) L D H) : Dn (Exit.then K Q) w0 S n (.exit id) L D H := h
theorem Dn.retThen {K : Act → World → Prop} (h : Dn Q w0 S n .ret L D H) : Dn (Exit.then K Q) w0 S n .ret L D H := h
theorem Dn.retBlock {id : Nat} (h : Dn Q w0 S n .ret L D H) : Dn (Exit.inBlock id Q) w0 S n .ret L D H := h
/- a loop -/
def LoopK {X : Type} (w0 : World) (S : List Nat) (n : Nat) (D : List Deferred) (I : X → Prop) (Lx : X → Slots) (Hx : X → Hp) (μ : X → Nat) (x : X) (a : Act) (w : World) : Prop :=
  ∃ x', I x' ∧ μ x' < μ x ∧ Fr n a (Lx x') ∧ a.defers = D ∧ St w0 S w (Hx x')
theorem Dn.round {X : Type} {I : X → Prop} {Lx : X → Slots} {Hx : X → Hp} {μ : X → Nat} {x : X} {F : Hp} (x' : X) (hI : I x') (hμ : μ x' < μ x) (hL : Subs L (Lx x') := by repeat (first | exact trivial | refine ⟨rfl, ?_⟩)) (hH : Split H (Hx x') F := by repeat (first | exact Split.nil | (apply Split.cons; · (repeat (first | exact Take.here | apply Take.there | exact Take.nil))))) :
    Dn (Exit.then (LoopK w0 S n D I Lx Hx μ x) Q) w0 S n .normal L D H :=
  fun _ _ hf hD hw => ⟨x', hI, hμ, hf.sub fun t v => hL.lk t v, hD, hw.sub hH⟩
theorem loop_wp {c : Code} (J : Nat → Act → World → Prop) (body : ∀ m a w, J m a w → c.wp P (Exit.then (fun a' w' => ∃ m', m' < m ∧ J m' a' w') Q) a w) :
    ∀ m a w, J m a w → (Code.loop c).wp P Q a w := by
  intro m a w h b k cs
  have key : ∀ m a w, J m a w → ∃ e a' w', Q e a' w' ∧ Arrives P (lone (b.at a (.code c :: .inLoop c :: k)) cs w) b k cs e a' w' := by
    intro m
    induction m using Nat.strongRecOn with
    | _ m ih =>
      intro a w hJ
      obtain ⟨e, a₁, w₁, hq, harr⟩ := body m a w hJ b (.inLoop c :: k) cs
      cases e with
      | normal =>
        obtain ⟨m', hlt, hJ'⟩ := hq
        obtain ⟨e₂, a₂, w₂, hq₂, harr₂⟩ := ih m' hlt a₁ w₁ hJ'
        exact ⟨e₂, a₂, w₂, hq₂, .of_steps (Steps.trans harr (.one step_inLoop)) harr₂⟩
      | exit id => exact ⟨_, a₁, w₁, hq, .pass (x := .inLoop c) rfl (fun _ _ => .inl (by simp)) harr⟩
      | goto l => exact ⟨_, a₁, w₁, hq, .pass (x := .inLoop c) rfl (fun _ _ => .inl (by simp)) harr⟩
      | ret => exact ⟨_, a₁, w₁, hq, .pass (x := .inLoop c) rfl (fun _ _ => .inl (by simp)) harr⟩
      | panic ch => exact ⟨_, a₁, w₁, hq, .pass (x := .inLoop c) rfl (fun _ _ => .inl (by simp)) harr⟩
      | outgrown => exact ⟨_, a₁, w₁, hq, .pass (x := .inLoop c) rfl (fun _ _ => .inl (by simp)) harr⟩
  obtain ⟨e, a', w', hq, harr⟩ := key m a w h
  exact ⟨e, a', w', hq, .of_steps (.one step_loop) harr⟩
theorem G.loop {X : Type} (I : X → Prop) (Lx : X → Slots) (Hx : X → Hp) (μ : X → Nat) (x0 : X) {c : Code} {F : Hp} (hI : I x0) (hL : Subs L (Lx x0) := by repeat (first | exact trivial | refine ⟨rfl, ?_⟩)) (hH : Split H (Hx x0) F := by repeat (first | exact Split.nil | (apply Split.cons; · (repeat (first | exact Take.here | apply Take.there | exact Take.nil)))))
    (body : ∀ x, I x → G P (Exit.then (LoopK w0 S n D I Lx Hx μ x) Q) w0 S n c (Lx x) D (Hx x)) : G P Q w0 S n (.loop c) L D H := by
  intro a w hf hD hw
  refine loop_wp (fun m a w => ∃ x, μ x = m ∧ I x ∧ Fr n a (Lx x) ∧ a.defers = D ∧ St w0 S w (Hx x)) ?_ (μ x0) a w ⟨x0, rfl, hI, hf.sub fun t v => hL.lk t v, hD, hw.sub hH⟩
  rintro m a w ⟨x, rfl, hI, hf, hD, hw⟩
  refine wp_mono (body x hI a w hf hD hw) fun e a w hq => ?_
  cases e <;> try exact hq
  obtain ⟨x', h1, h2, h3, h4, h5⟩ := hq
  exact ⟨_, h2, x', rfl, h1, h3, h4, h5⟩
/-- ways that meet again: what is known behind a piece of code -/
def CutK {X : Type} (w0 : World) (S : List Nat) (n : Nat) (D : List Deferred) (I : X → Prop) (Lx : X → Slots) (Hx : X → Hp) (a : Act) (w : World) : Prop :=
  ∃ x, I x ∧ Fr n a (Lx x) ∧ a.defers = D ∧ St w0 S w (Hx x)
theorem G.cut {X : Type} (I : X → Prop) (Lx : X → Slots) (Hx : X → Hp) {D' : List Deferred} {x y : Code} (h1 : G P (Exit.then (CutK w0 S n D' I Lx Hx) Q) w0 S n x L D H)
    (h2 : ∀ z, I z → G P Q w0 S n y (Lx z) D' (Hx z)) : G P Q w0 S n (.seq x y) L D H := fun a w hf hD hw => by
  refine wp_seq (wp_mono (h1 a w hf hD hw) fun e a w hq => ?_)
  cases e <;> try exact hq
  obtain ⟨z, h3, h4, h5, h6⟩ := hq
  exact h2 z h3 a w h4 h5 h6
theorem Dn.meet {X : Type} {I : X → Prop} {Lx : X → Slots} {Hx : X → Hp} {F : Hp} (x : X) (hI : I x) (hL : Subs L (Lx x) := by repeat (first | exact trivial | refine ⟨rfl, ?_⟩)) (hH : Split H (Hx x) F := by repeat (first | exact Split.nil | (apply Split.cons; · (repeat (first | exact Take.here | apply Take.there | exact Take.nil))))) :
    Dn (Exit.then (CutK w0 S n D I Lx Hx) Q) w0 S n .normal L D H :=
  fun _ _ hf hD hw => ⟨x, hI, hf.sub fun t v => hL.lk t v, hD, hw.sub hH⟩
end code
/- contracts -/
def Post (w0 : World) (S : List Nat) (R : Value → Hp → Prop) (e : Ending) (w : World) : Prop := ∃ v H', e = .returned v ∧ R v H' ∧ St w0 S w H'
/-- called with these arguments over these chunks the function returns a value and leaves chunks as R says; no other block that was there turns -/
def Ct (P : Program) (f : FuncId) (args : List Value) (H : Hp) (R : Value → Hp → Prop) : Prop :=
  ∀ w, St w (keys H) w H → Calls P f args.toArray w (Post w (keys H) R)
/-- the same of a deferred call -/
def Cd (P : Program) (f : FuncId) (args : List Value) (H : Hp) (R : Value → Hp → Prop) : Prop :=
  ∀ u w, St w (keys H) w H → CallsD P f args.toArray u w fun e u' w' => u' = u ∧ Post w (keys H) R e w'
/-- the answer is known ahead, and the chunks stay -/
abbrev CtQ (P : Program) (f : FuncId) (args : List Value) (H : Hp) (v : Value) : Prop := Ct P f args H fun v' H' => v' = v ∧ H' = H
theorem Ct.mono {P : Program} {f : FuncId} {args : List Value} {H : Hp} {R R' : Value → Hp → Prop} (h : Ct P f args H R) (hr : ∀ v H', R v H' → R' v H') : Ct P f args H R' :=
  fun w hw => (h w hw).mono fun _ _ ⟨v, H', h1, h2, h3⟩ => ⟨v, H', h1, hr _ _ h2, h3⟩
theorem St.self {w0 : World} {S : List Nat} {w : World} {Hf F : Hp} (h : St w0 S w (Hf ++ F)) : St w (keys Hf) w Hf where
  nodup := by have := h.nodup; simp only [keys, List.flatten_append, List.map_append] at this ⊢; exact (List.nodup_append.1 this).1
  sat := fun p hp => h.sat p (by simp only [List.flatten_append, List.mem_append]; exact .inl hp)
  own := fun k hk => .inl hk
  frame := fun _ _ _ => rfl
  size := Nat.le_refl _
  os := rfl
  tape := rfl
  output := rfl
theorem St.framed {w0 : World} {S : List Nat} {w w' : World} {Hf F H' : Hp} (h : St w0 S w (Hf ++ F)) (h' : St w (keys Hf) w' H') : St w0 S w' (H' ++ F) where
  nodup := by
    have h1 := h.nodup
    simp only [keys, List.flatten_append, List.map_append] at h1 ⊢
    obtain ⟨_, hF, hd⟩ := List.nodup_append.1 h1
    refine List.nodup_append.2 ⟨h'.nodup, hF, ?_⟩
    intro a ha b hb e
    subst e
    rcases h'.own a ha with h2 | h2
    · exact hd a h2 a hb rfl
    · obtain ⟨p, hp, rfl⟩ := List.mem_map.1 hb
      have := h.lt (p := p) (by simp only [List.flatten_append, List.mem_append]; exact .inr hp)
      omega
  sat := by
    intro p hp
    simp only [List.flatten_append, List.mem_append] at hp
    rcases hp with hp | hp
    · exact h'.sat p hp
    · have hin : p ∈ (Hf ++ F).flatten := by simp only [List.flatten_append, List.mem_append]; exact .inr hp
      rw [h'.frame p.1 (h.lt hin)]
      · exact h.sat p hin
      · intro hk
        have h1 := h.nodup
        simp only [keys, List.flatten_append, List.map_append] at h1
        exact (List.nodup_append.1 h1).2.2 p.1 hk p.1 (List.mem_map.2 ⟨p, hp, rfl⟩) rfl
  own := by
    intro k hk
    simp only [keys, List.flatten_append, List.map_append, List.mem_append] at hk
    rcases hk with hk | hk
    · rcases h'.own k hk with h1 | h1
      · exact h.own k (by simp only [keys, List.flatten_append, List.map_append, List.mem_append]; exact .inl h1)
      · right; have := h.size; omega
    · exact h.own k (by simp only [keys, List.flatten_append, List.map_append, List.mem_append]; exact .inr hk)
  frame := by
    intro b hb hs
    rw [h'.frame b (by have := h.size; omega), h.frame b hb hs]
    intro hk
    rcases h.own b (by simp only [keys, List.flatten_append, List.map_append, List.mem_append]; exact .inl hk) with h1 | h1
    · exact hs h1
    · omega
  size := by have := h.size; have := h'.size; omega
  os := h'.os.trans h.os
  tape := h'.tape.trans h.tape
  output := h'.output.trans h.output
theorem Ct.frame {P : Program} {f : FuncId} {args : List Value} {Hf F : Hp} {R : Value → Hp → Prop} (h : Ct P f args Hf R) {w0 : World} {S : List Nat} {w : World} (hw : St w0 S w (Hf ++ F)) :
    Calls P f args.toArray w fun e w' => ∃ v H', e = .returned v ∧ R v H' ∧ St w0 S w' (H' ++ F) :=
  (h w hw.self).mono fun _ _ ⟨v, H', h1, h2, h3⟩ => ⟨v, H', h1, h2, hw.framed h3⟩
def argSlots : Nat → List Value → Slots
  | _, [] => []
  | i, v :: vs => (i, v) :: argSlots (i + 1) vs
theorem lk_argSlots : ∀ (vs : List Value) (i t : Nat) (v : Value), lk t (argSlots i vs) = some v → i ≤ t ∧ vs[t - i]? = some v
  | [], i, t, v, h => by simp [argSlots, lk] at h
  | u :: vs, i, t, v, h => by
    rw [argSlots, lk_cons] at h
    split at h
    · rename_i e; subst e; simpa using h
    · obtain ⟨h1, h2⟩ := lk_argSlots vs (i + 1) t v h
      refine ⟨by omega, ?_⟩
      have : t - i = (t - (i + 1)) + 1 := by omega
      rw [this]; simpa using h2
theorem fr_start {n : Nat} {args : List Value} (hn : args.length ≤ n) : Fr n ⟨args.toArray ++ Array.replicate (n - args.toArray.size) undef, []⟩ (argSlots 0 args) where
  size := by simp; omega
  get := by
    intro t v h
    obtain ⟨_, h2⟩ := lk_argSlots args 0 t v h
    have hlt := (List.getElem?_eq_some_iff.1 h2).1
    rw [Array.getElem?_append_left (by simpa using hlt)]
    simpa using h2
/-- the results of a function, out of slots and cells -/
inductive Res (P : Program) (L : Slots) (H : Hp) : List ResultVar → List Value → Prop
  | nil : Res P L H [] []
  | tmp {t : Tmp} {v : Value} {rs : List ResultVar} {vs : List Value} : lk t L = some v → Res P L H rs vs → Res P L H (.tmp t :: rs) (v :: vs)
  | cellN {t : Tmp} {T m : Nat} {b off : Nat} {cs us : List Value} {E : TypeId} {fz : Nat × Nat} {rs : List ResultVar} {vs : List Value} : AggN P T m → lk t L = some (.pointer (some ⟨b, off, none⟩)) →
      Has b (rowf cs E fz) H → (cs.drop off).take m = us → us.length = m → Res P L H rs vs → Res P L H (.cell t T :: rs) (.agg us.toArray :: vs)
  | cell1 {t : Tmp} {T : Nat} {b off : Nat} {cs : List Value} {u : Value} {E : TypeId} {fz : Nat × Nat} {rs : List ResultVar} {vs : List Value} : Cell1 P T → lk t L = some (.pointer (some ⟨b, off, none⟩)) →
      Has b (rowf cs E fz) H → cs[off]? = some u → Res P L H rs vs → Res P L H (.cell t T :: rs) (u :: vs)
def packV : List Value → Value
  | [v] => v
  | vs => .tuple vs.toArray
section contracts
variable {P : Program} {f : FuncId} {fn : Func} {c : Code} {n : Nat} {args : List Value} {H : Hp} {R : Value → Hp → Prop}
theorem Ct.intro (hf : P.funcs[f]? = some fn) (hb : fn.body = some c) (ht : fn.ntmps = n) (hn : args.length ≤ n)
    (h : ∀ w0, G P (bodyPost P fn (Post w0 (keys H) R)) w0 (keys H) n c (argSlots 0 args) [] H) : Ct P f args H R := fun w hw =>
  calls_of_wp hf hb (by rw [ht]; exact h w _ _ (fr_start hn) rfl hw)
theorem Cd.intro (hf : P.funcs[f]? = some fn) (hb : fn.body = some c) (ht : fn.ntmps = n) (hn : args.length ≤ n)
    (h : ∀ w0, G P (bodyPost P fn (Post w0 (keys H) R)) w0 (keys H) n c (argSlots 0 args) [] H) : Cd P f args H R := fun u w hw =>
  callsD_of_wp hf hb (by rw [ht]; exact h w _ _ (fr_start hn) rfl hw)
theorem Ct.introD (hf : P.funcs[f]? = some fn) (hb : fn.body = some c) (ht : fn.ntmps = n) (hn : args.length ≤ n)
    (h : ∀ w0, G P (bodyPostD P fn (Post w0 (keys H) R)) w0 (keys H) n c (argSlots 0 args) [] H) : Ct P f args H R := fun w hw =>
  calls_of_wp_defers hf hb (by rw [ht]; exact h w _ _ (fr_start hn) rfl hw)
theorem run_mapM_res {w0 : World} {S : List Nat} {a : Act} {L : Slots} {H : Hp} (hf : Fr n a L) (w : World) (hw : St w0 S w H) : ∀ (rs : List ResultVar) (vs : List Value), Res P L H rs vs →
    (rs.mapM fun | ResultVar.tmp t => (pure (a.tmps.getD t undef) : Sem Value) | .cell x t => do loadVar t (← asAddr (a.tmps.getD x undef))).run P w = .ok vs w := by
  intro rs vs h
  induction h with
  | nil => simp
  | @tmp t v rs vs h1 _ ih =>
    have := hf.get t v h1
    rw [List.mapM_cons, Sem.run_bind]
    have e : (a.tmps.getD t undef) = v := by simp [this]
    simp only [e, Sem.run_pure, Result.andThen_ok]
    rw [Sem.run_bind, ih]
    rfl
  | @cellN t T m b off cs us E fz rs vs ha h1 hh hv hl _ ih =>
    have := hf.get t _ h1
    rw [List.mapM_cons, Sem.run_bind]
    have e : (a.tmps.getD t undef) = .pointer (some ⟨b, off, none⟩) := by simp [this]
    have hcell : ∀ j v, us[j]? = some v → w.cell? ((⟨b, off, none⟩ : Addr).add j) = some v := by
      intro j v hj
      rw [Addr.add_mk, cell_of (hh.st hw)]
      rw [← hv, List.getElem?_take, List.getElem?_drop] at hj
      split at hj
      · exact hj
      · cases hj
    have h2 := run_loadCells_list (P := P) w ⟨b, off, none⟩ us hcell
    rw [hl] at h2
    have h3 : (loadVar T ⟨b, off, none⟩).run P w = .ok (.agg us.toArray) w := by simp [loadVar, ha.agg, ha.size, h2]
    have h4 : ((do let x ← asAddr (a.tmps.getD t undef); loadVar T x) : Sem Value).run P w = .ok (.agg us.toArray) w := by rw [e]; simp [asAddr, h3]
    erw [h4]
    simp only [Result.andThen_ok]
    rw [Sem.run_bind, ih]
    rfl
  | @cell1 t T b off cs u E fz rs vs ha h1 hh hv _ ih =>
    have := hf.get t _ h1
    rw [List.mapM_cons, Sem.run_bind]
    have e : (a.tmps.getD t undef) = .pointer (some ⟨b, off, none⟩) := by simp [this]
    have hcell : w.cell? ⟨b, off, none⟩ = some u := by rw [cell_of (hh.st hw)]; exact hv
    have h3 : (loadVar T ⟨b, off, none⟩).run P w = .ok u w := by simp [loadVar, ha.agg, hcell]
    have h4 : ((do let x ← asAddr (a.tmps.getD t undef); loadVar T x) : Sem Value).run P w = .ok u w := by rw [e]; simp [asAddr, h3]
    erw [h4]
    simp only [Result.andThen_ok]
    rw [Sem.run_bind, ih]
    rfl
theorem run_results {w0 : World} {S : List Nat} {a : Act} {L : Slots} {H : Hp} (hf : Fr n a L) {rs : List ResultVar} {vs : List Value} (hr : fn.results = rs.toArray) (h : Res P L H rs vs) {w : World} (hw : St w0 S w H) :
    (results fn a.tmps).run P w = .ok (packV vs) w := by
  unfold results
  rw [hr]
  rw [List.mapM_toArray, Sem.run_bind, Sem.run_map]
  have h1 := run_mapM_res (P := P) hf w hw rs vs h
  erw [h1]
  simp only [Result.andThen_ok]
  match vs with
  | [] => simp [packV]
  | [v] => simp [packV]
  | v :: u :: vs => simp [packV]
theorem Dn.post {w0 : World} {S : List Nat} {L : Slots} {H' : Hp} {rs : List ResultVar} {vs : List Value} {Hr F : Hp} (hr : fn.results = rs.toArray) (h : Res P L H' rs vs := by (repeat (first | exact Res.nil | (apply Res.tmp; exact rfl) | (apply Res.cellN; exact inferInstance; exact rfl; (· (· (repeat (first | exact Has.here | apply Has.there)))); (· (· (first | assumption | (dsimp only [List.drop, List.take]; try exact rfl) | exact rfl))); (· (· (first | exact rfl | assumption | (simp; done))))) | (apply Res.cell1; exact inferInstance; exact rfl; (· (· (repeat (first | exact Has.here | apply Has.there)))); (· (· (first | exact rfl | assumption))))))) (hs : Split H' Hr F := by repeat (first | exact Split.nil | (apply Split.cons; · (repeat (first | exact Take.here | apply Take.there | exact Take.nil))))) (hR : R (packV vs) Hr) :
    Dn (bodyPost P fn (Post w0 S R)) w0 S n .ret L [] H' := fun _ _ hf hD hw =>
  ⟨hD, packV vs, run_results hf hr h hw, packV vs, Hr, rfl, hR, hw.sub hs⟩
theorem Dn.postEnd {w0 : World} {S : List Nat} {L : Slots} {H' : Hp} {rs : List ResultVar} {vs : List Value} {Hr F : Hp} (hr : fn.results = rs.toArray) (h : Res P L H' rs vs := by (repeat (first | exact Res.nil | (apply Res.tmp; exact rfl) | (apply Res.cellN; exact inferInstance; exact rfl; (· (· (repeat (first | exact Has.here | apply Has.there)))); (· (· (first | assumption | (dsimp only [List.drop, List.take]; try exact rfl) | exact rfl))); (· (· (first | exact rfl | assumption | (simp; done))))) | (apply Res.cell1; exact inferInstance; exact rfl; (· (· (repeat (first | exact Has.here | apply Has.there)))); (· (· (first | exact rfl | assumption))))))) (hs : Split H' Hr F := by repeat (first | exact Split.nil | (apply Split.cons; · (repeat (first | exact Take.here | apply Take.there | exact Take.nil))))) (hR : R (packV vs) Hr) :
    Dn (bodyPost P fn (Post w0 S R)) w0 S n .normal L [] H' := fun _ _ hf hD hw =>
  ⟨hD, packV vs, run_results hf hr h hw, packV vs, Hr, rfl, hR, hw.sub hs⟩
/-- behind the body of a function that defers: the calls that are still to be made -/
def Lv (P : Program) (fn : Func) (w0 : World) (S : List Nat) (n : Nat) (R : Value → Hp → Prop) (ds : List Deferred) (L : Slots) (H : Hp) : Prop :=
  ∀ a w, Fr n a L → St w0 S w H → Leaves P fn a.tmps (Post w0 S R) ds .returning w
theorem Dn.postD {w0 : World} {S : List Nat} {L : Slots} {H' : Hp} {D : List Deferred} (h : Lv P fn w0 S n R D L H') : Dn (bodyPostD P fn (Post w0 S R)) w0 S n .ret L D H' :=
  fun a w hf hD hw => by subst hD; exact h a w hf hw
theorem Dn.postDEnd {w0 : World} {S : List Nat} {L : Slots} {H' : Hp} {D : List Deferred} (h : Lv P fn w0 S n R D L H') : Dn (bodyPostD P fn (Post w0 S R)) w0 S n .normal L D H' :=
  fun a w hf hD hw => by subst hD; exact h a w hf hw
theorem Lv.nil {w0 : World} {S : List Nat} {L : Slots} {H' : Hp} {rs : List ResultVar} {vs : List Value} {Hr F : Hp} (hr : fn.results = rs.toArray) (h : Res P L H' rs vs := by (repeat (first | exact Res.nil | (apply Res.tmp; exact rfl) | (apply Res.cellN; exact inferInstance; exact rfl; (· (· (repeat (first | exact Has.here | apply Has.there)))); (· (· (first | assumption | (dsimp only [List.drop, List.take]; try exact rfl) | exact rfl))); (· (· (first | exact rfl | assumption | (simp; done))))) | (apply Res.cell1; exact inferInstance; exact rfl; (· (· (repeat (first | exact Has.here | apply Has.there)))); (· (· (first | exact rfl | assumption))))))) (hs : Split H' Hr F := by repeat (first | exact Split.nil | (apply Split.cons; · (repeat (first | exact Take.here | apply Take.there | exact Take.nil))))) (hR : R (packV vs) Hr) :
    Lv P fn w0 S n R [] L H' := fun _ _ hf hw => ⟨packV vs, run_results hf hr h hw, packV vs, Hr, rfl, hR, hw.sub hs⟩
theorem Lv.cons {w0 : World} {S : List Nat} {L : Slots} {H' Hf F : Hp} {fv : Fn} {cap dargs : Array Value} {ds : List Deferred} {g : FuncId} {vs : List Value} {Rf : Value → Hp → Prop}
    (hi : ∀ w, (invoke (.fn fv cap) dargs).run P w = .ok (.enter g vs.toArray) w) (hc : Cd P g vs Hf Rf) (hs : Split H' Hf F)
    (h : ∀ v H2, Rf v H2 → Lv P fn w0 S n R ds L (H2 ++ F)) : Lv P fn w0 S n R (⟨.fn fv cap, dargs⟩ :: ds) L H' := by
  intro a w hf hw
  have hw' : St w0 S w (Hf ++ F) := hw.perm hs
  refine leaves_cons (by simp) (hi w) ((hc .returning w hw'.self).mono ?_)
  rintro e u' w' ⟨rfl, v, H2, rfl, hR, hst⟩
  exact h v H2 hR a w' hf (hw'.framed hst)
end contracts
section calls
variable {P : Program} {ops : Array Oper} {Q : Exit → Act → World → Prop} {cls : Nat → Oper → Cls} {w0 : World} {S : List Nat} {n : Nat}
variable {k : Nat} {l : List (Nat × Oper)} {L : Slots} {D : List Deferred} {H : Hp} {qs : List Rd}
variable {d : Nat} {ty : TypeId} {pos : String} {af : Array Edge} {g : Option (Nat × Bool)}
variable {f : FuncId} {as : List Operand} {aT : Array TypeId} {vs : List Value} {Hf F : Hp} {Rf : Value → Hp → Prop}
theorem run_call [hf : Callable P f] {a : Act} (hfr : Fr n a L) (hargs : evs L as = some vs) {dst : Option Tmp} (w : World) :
    (execOp a.eval ⟨dst, .call ⟨.value (.func f), as.toArray, aT⟩, ty, pos, af, g⟩).run P w = .ok (.enter f vs.toArray) w := by
  have := hfr.evals hargs
  simp [execOp, resolve, Deferred.ofValue, Act.eval, invoke, hf.run, this]
theorem R.call [hf : Callable P f] (hargs : evs L as = some vs := by exact rfl) (hct : Ct P f vs Hf Rf) (hs : Split H Hf F := by repeat (first | exact Split.nil | (apply Split.cons; · (repeat (first | exact Take.here | apply Take.there | exact Take.nil))))) (hc : cls k ⟨some d, .call ⟨.value (.func f), as.toArray, aT⟩, ty, pos, af, g⟩ = .eff [] := by exact rfl)
    (hn : d < n := by exact nle rfl) (h : ∀ v H', Rf v H' → R P ops Q cls w0 S n l ((d, v) :: L) D (H' ++ F) qs) :
    R1 P ops Q cls w0 S n k ⟨some d, .call ⟨.value (.func f), as.toArray, aT⟩, ty, pos, af, g⟩ l L D H qs := by
  refine R1.effStep hc hn fun a w hfr hst => ?_
  have hst' : St w0 S w (Hf ++ F) := hst.perm hs
  simp only [OpOk, run_call hfr hargs]
  exact (hct.frame hst').mono fun e w' ⟨v, H', h1, h2, h3⟩ => ⟨v, h1, H' ++ F, h3, (by intro _ _ h; cases h), h v H' h2⟩
theorem R.callX [hf : Callable P f] {cr : List Nat} (hargs : evs L as = some vs := by exact rfl) (hct : Ct P f vs Hf Rf) (hs : Split H Hf F := by repeat (first | exact Split.nil | (apply Split.cons; · (repeat (first | exact Take.here | apply Take.there | exact Take.nil))))) (hc : cls k ⟨some d, .call ⟨.value (.func f), as.toArray, aT⟩, ty, pos, af, g⟩ = .eff cr := by exact rfl)
    (hn : d < n := by exact nle rfl) (h : ∀ v H', Rf v H' → (∀ r ∈ qs, r.i ∈ cr → r.Pr (H' ++ F)) ∧ R P ops Q cls w0 S n l ((d, v) :: L) D (H' ++ F) qs) :
    R1 P ops Q cls w0 S n k ⟨some d, .call ⟨.value (.func f), as.toArray, aT⟩, ty, pos, af, g⟩ l L D H qs := by
  refine R1.effStep hc hn fun a w hfr hst => ?_
  have hst' : St w0 S w (Hf ++ F) := hst.perm hs
  simp only [OpOk, run_call hfr hargs]
  exact (hct.frame hst').mono fun e w' ⟨v, H', h1, h2, h3⟩ => ⟨v, h1, H' ++ F, h3, h v H' h2⟩
/-- the same where the answer is known ahead and the chunks stay -/
theorem R.callP [hf : Callable P f] {v : Value} (hargs : evs L as = some vs := by exact rfl) (hct : CtQ P f vs Hf v) (hs : Split H Hf F := by repeat (first | exact Split.nil | (apply Split.cons; · (repeat (first | exact Take.here | apply Take.there | exact Take.nil))))) (hc : cls k ⟨some d, .call ⟨.value (.func f), as.toArray, aT⟩, ty, pos, af, g⟩ = .eff [] := by exact rfl)
    (hn : d < n := by exact nle rfl) (h : R P ops Q cls w0 S n l ((d, v) :: L) D H qs) :
    R1 P ops Q cls w0 S n k ⟨some d, .call ⟨.value (.func f), as.toArray, aT⟩, ty, pos, af, g⟩ l L D H qs := by
  refine R1.effStep hc hn fun a w hfr hst => ?_
  have hst' : St w0 S w (Hf ++ F) := hst.perm hs
  simp only [OpOk, run_call hfr hargs]
  exact (hct.frame hst').mono fun e w' ⟨v', H', h1, ⟨h2, h3⟩, h4⟩ => ⟨v', h1, H, (by subst h3; exact h4.perm hs.symm), (by intro _ _ h; cases h), (by subst h2; exact h)⟩
/-- a call that leaves the chunks and answers what is known ahead -/
theorem R.callQ [hf : Callable P f] {v : Value} (hargs : evs L as = some vs := by exact rfl) (hct : CtQ P f vs Hf v) (hs : Split H Hf F := by repeat (first | exact Split.nil | (apply Split.cons; · (repeat (first | exact Take.here | apply Take.there | exact Take.nil))))) (hc : cls k ⟨some d, .call ⟨.value (.func f), as.toArray, aT⟩, ty, pos, af, g⟩ = .quiet := by exact rfl)
    (hn : d < n := by exact nle rfl) (h : R P ops Q cls w0 S n l ((d, v) :: L) D H (⟨k, fun H => ∃ F, Split H Hf F⟩ :: qs)) :
    R1 P ops Q cls w0 S n k ⟨some d, .call ⟨.value (.func f), as.toArray, aT⟩, ty, pos, af, g⟩ l L D H qs := by
  refine R1.quietStep (Pr := fun H => ∃ F, Split H Hf F) hc rfl hn (fun a hfr => ⟨fun H1 H2 ⟨F, h1⟩ hp => ⟨F, hp.symm.trans h1⟩, fun c H1 ⟨F, h1⟩ => ⟨c :: F, ?_⟩, fun H1 w ⟨F, h1⟩ hst => ?_⟩) ⟨F, hs⟩ h
  · unfold Split at *
    simp only [List.flatten_cons, List.flatten_append]
    refine (List.Perm.append_left c h1).trans ?_
    simp only [List.flatten_append, ← List.append_assoc]
    exact List.Perm.append_right _ List.perm_append_comm
  · have hst' : St w0 S w (Hf ++ F) := hst.perm h1
    simp only [OpOk, run_call hfr hargs]
    exact (hct.frame hst').mono fun e w' ⟨v', H', h2, ⟨h3, h4⟩, h5⟩ => ⟨v', h2, h3, by subst h4; exact h5.perm h1.symm⟩
end calls
theorem qok_nil {cr : List Nat} {H : Hp} : ∀ r ∈ ([] : List Rd), r.i ∈ cr → r.Pr H := fun _ h => by cases h
theorem qok_cons {cr : List Nat} {H : Hp} {r : Rd} {qs : List Rd} (h : r.i ∈ cr → r.Pr H) (h2 : ∀ r ∈ qs, r.i ∈ cr → r.Pr H) : ∀ x ∈ (r :: qs), x.i ∈ cr → x.Pr H := by
  intro x hx
  rcases List.mem_cons.1 hx with rfl | hx
  · exact h
  · exact h2 x hx
theorem CellPr.mk {b off : Nat} {v : Value} {cs : List Value} {E : TypeId} {fz : Nat × Nat} {H : Hp} (h1 : Has b (rowf cs E fz) H) (h2 : cs[off]? = some v) : CellPr b off v H := ⟨cs, E, fz, h1, h2⟩
theorem CellsPr.mk {b off : Nat} {vs cs : List Value} {E : TypeId} {fz : Nat × Nat} {H : Hp} (h1 : Has b (rowf cs E fz) H) (h2 : (cs.drop off).take vs.length = vs) : CellsPr b off vs H := ⟨cs, E, fz, h1, h2⟩
attribute [irreducible] R R1 G Dn Lv Has Upd Take Split Ct Cd CellPr CellsPr
end Go.SL
namespace Go.SL
open Go.RowKit
class ElemT (P : Program) (E : TypeId) (sz bytes : outParam Nat) (zs : outParam (List Value)) : Prop where
  info : (P.info? E).map (fun i => (i.size, i.bytes, i.zero.map fun z => z.cells.toList)) = some (sz, bytes, some zs)
theorem ElemT.get {P : Program} {E sz bytes : Nat} {zs : List Value} (h : ElemT P E sz bytes zs) : ∃ i z, P.info? E = some i ∧ i.size = sz ∧ i.bytes = bytes ∧ i.zero = some z ∧ z.cells = zs.toArray := by
  have := h.info
  cases hi : P.info? E with
  | none => simp [hi] at this
  | some i =>
    simp only [hi, Option.map_some, Option.some.injEq, Prod.mk.injEq] at this
    obtain ⟨h1, h2, h3⟩ := this
    cases hz : i.zero with
    | none => simp [hz] at h3
    | some z =>
      simp only [hz, Option.map_some, Option.some.injEq] at h3
      exact ⟨i, z, rfl, h1, h2, hz, by rw [← h3]⟩
theorem Take.st {w0 w : World} {S : List Nat} {c : Chunk} {H H1 : Hp} (h : Take c H H1) (hw : St w0 S w H) : St w0 S w (c :: H1) := by
  unfold Take at h
  exact hw.perm (by simpa using h)
theorem nmem {i : Nat} {l : List Nat} (h : l.contains i = false) : ¬ i ∈ l := by simpa using h
theorem Take.nil {H : Hp} : Take [] H H := by unfold Take; simp
section ops
variable {P : Program} {ops : Array Oper} {Q : Exit → Act → World → Prop} {cls : Nat → Oper → Cls} {w0 : World} {S : List Nat} {n : Nat}
variable {k : Nat} {l : List (Nat × Oper)} {L : Slots} {D : List Deferred} {H : Hp} {qs : List Rd}
variable {d : Nat} {ty : TypeId} {pos : String} {af : Array Edge} {g : Option (Nat × Bool)}
/- function values -/
theorem R.makeFunc {fn : Fn} {as bs : List Operand} {vs us : List Value} (hx : evs L as = some vs := by exact rfl) (hy : evs L bs = some us := by exact rfl)
    (hc : cls k ⟨some d, .makeFunc fn as.toArray bs.toArray, ty, pos, af, g⟩ = .pure := by exact rfl) (hn : d < n := by exact nle rfl)
    (h : R P ops Q cls w0 S n l ((d, .func fn vs.toArray us.toArray) :: L) D H qs) : R1 P ops Q cls w0 S n k ⟨some d, .makeFunc fn as.toArray bs.toArray, ty, pos, af, g⟩ l L D H qs :=
  R1.pureStep hc rfl hn (fun a hf w => by
    have h1 := hf.evals hx
    have h2 := hf.evals hy
    simp [execOp, Instr.makeFunc, h1, h2]) h
section calls
variable {f : FuncId} {x : Operand} {as : List Operand} {aT : Array TypeId} {fs vs us : List Value} {Hf F : Hp} {Rf : Value → Hp → Prop}
theorem run_callV [hf : Callable P f] {a : Act} (hfr : Fr n a L) (hx : ev L x = some (.func (.func f) fs.toArray us.toArray)) (hargs : evs L as = some vs) {dst : Option Tmp} (w : World) :
    (execOp a.eval ⟨dst, .call ⟨.value x, as.toArray, aT⟩, ty, pos, af, g⟩).run P w = .ok (.enter f (fs ++ vs ++ us).toArray) w := by
  have h1 := hfr.evals hargs
  have h2 := hfr.eval hx
  simp [execOp, resolve, Deferred.ofValue, h2, invoke, hf.run, h1]
theorem R.callV (hx : ev L x = some (.func (.func f) fs.toArray us.toArray)) (hf : Callable P f) (hargs : evs L as = some vs) (hct : Ct P f (fs ++ vs ++ us) Hf Rf) (hs : Split H Hf F)
    (hc : cls k ⟨some d, .call ⟨.value x, as.toArray, aT⟩, ty, pos, af, g⟩ = .eff []) (hn : d < n) (h : ∀ v H', Rf v H' → R P ops Q cls w0 S n l ((d, v) :: L) D (H' ++ F) qs) :
    R1 P ops Q cls w0 S n k ⟨some d, .call ⟨.value x, as.toArray, aT⟩, ty, pos, af, g⟩ l L D H qs := by
  refine R1.effStep hc hn fun a w hfr hst => ?_
  unfold Split at hs
  have hst' : St w0 S w (Hf ++ F) := hst.perm hs
  simp only [OpOk, run_callV hfr hx hargs]
  exact (hct.frame hst').mono fun e w' ⟨v, H', h1, h2, h3⟩ => ⟨v, h1, H' ++ F, h3, (by intro _ _ h; cases h), h v H' h2⟩
theorem R.callVP {v : Value} (hx : ev L x = some (.func (.func f) fs.toArray us.toArray) := by exact rfl) (hf : Callable P f := by exact inferInstance) (hargs : evs L as = some vs := by exact rfl) (hct : CtQ P f (fs ++ vs ++ us) Hf v) (hs : Split H Hf F := by repeat (first | exact Split.nil | (apply Split.cons; · (repeat (first | exact Take.here | apply Take.there | exact Take.nil)))))
    (hc : cls k ⟨some d, .call ⟨.value x, as.toArray, aT⟩, ty, pos, af, g⟩ = .eff [] := by exact rfl) (hn : d < n := by exact nle rfl) (h : R P ops Q cls w0 S n l ((d, v) :: L) D H qs) :
    R1 P ops Q cls w0 S n k ⟨some d, .call ⟨.value x, as.toArray, aT⟩, ty, pos, af, g⟩ l L D H qs := by
  refine R1.effStep hc hn fun a w hfr hst => ?_
  unfold Split at hs
  have hst' : St w0 S w (Hf ++ F) := hst.perm hs
  simp only [OpOk, run_callV hfr hx hargs]
  exact (hct.frame hst').mono fun e w' ⟨v', H', h1, ⟨h2, h3⟩, h4⟩ => ⟨v', h1, H, (by subst h3; exact h4.perm hs.symm), (by intro _ _ h; cases h), (by subst h2; exact h)⟩
end calls
/- a slice made of its elements -/
def zrep : Nat → List Value → List Value
  | 0, _ => []
  | m + 1, zs => zs ++ zrep m zs
theorem zrep_length (m : Nat) (zs : List Value) : (zrep m zs).length = m * zs.length := by
  induction m with
  | zero => simp [zrep]
  | succ m ih => simp [zrep, ih, Nat.succ_mul, Nat.add_comm]
theorem zrep_get (zs : List Value) (hz : 0 < zs.length) : ∀ (m i : Nat), i < m * zs.length → (zrep m zs)[i]? = zs[i % zs.length]?
  | 0, i, h => by omega
  | m + 1, i, h => by
    rw [zrep, List.getElem?_append]
    split
    · rename_i h1; rw [Nat.mod_eq_of_lt h1]
    · rename_i h1
      rw [Nat.succ_mul] at h
      rw [zrep_get zs hz m _ (by omega)]
      have : i % zs.length = (i - zs.length) % zs.length := by rw [Nat.mod_eq_sub_mod (by omega)]
      rw [this]
theorem zero_row (m : Nat) (zs : List Value) (hz : 0 < zs.length) : (Array.range (m * zs.length)).map (zs.toArray[· % zs.toArray.size]!) = (zrep m zs).toArray := by
  apply Array.ext
  · simp [zrep_length]
  · intro i h1 h2
    simp only [Array.size_map, Array.size_range] at h1
    have h3 : i % zs.length < zs.length := Nat.mod_lt _ hz
    have := zrep_get zs hz m i h1
    rw [List.getElem?_eq_getElem (by simpa [zrep_length] using h1), List.getElem?_eq_getElem h3] at this
    simp only [Option.some.injEq] at this
    simp only [Array.getElem_map, Array.getElem_range, List.getElem_toArray, this, List.size_toArray]
    rw [getElem!_pos _ _ (by simpa using h3)]
    simp
theorem R.buildSlice {T E sz bytes : Nat} {zs : List Value} [ht : SliceT P T E sz] [he : ElemT P E sz bytes zs] {m : Nat} {ps : List (Nat × Operand)} {vs : List (Nat × Value)} {cs cs' : List Value}
    (hx : evParts L ps = some vs := by exact rfl) (hf : fillL (fun i => some (i * sz, sz)) (zrep m zs) vs = some cs := by exact rfl) (heq : cs = cs' := by ((first | (dsimp only [zrep, setL, Value.cells, List.set, List.append_nil, Nat.zero_mul, Nat.reduceAdd, List.nil_append, List.cons_append]; try exact rfl) | exact rfl))) (hm : m * sz ≤ 16777216 := by exact nle rfl) (hz : zs.length = sz := by exact rfl) (hpos : 0 < m * sz := by exact nle rfl)
    (hc : cls k ⟨some d, .buildSlice T m ps.toArray, ty, pos, af, g⟩ = .grow := by exact rfl) (hn : d < n := by exact nle rfl)
    (h : ∀ b, R P ops Q cls w0 S n l ((d, .slice (some ⟨b, 0, none⟩) m m) :: L) D ([(b, row cs' E)] :: H) qs) : R1 P ops Q cls w0 S n k ⟨some d, .buildSlice T m ps.toArray, ty, pos, af, g⟩ l L D H qs :=
  R1.growStep (mk := fun b => .slice (some ⟨b, 0, none⟩) m m) (ob := row cs' E) hc rfl hn (fun a hfr w => by
    subst heq
    obtain ⟨i, z, h1, h2, h3, h4, h5⟩ := he.get
    have hp := hfr.parts hx
    have hzr : (zeroValue E).run P w = .ok z w := by simp [zeroValue, typeInfo, h1, h4]
    have hsz := ht.size w
    have hpos' : ¬ (m * sz = 0) := by omega
    have h6 : (ps.toArray.map fun (i, x) => (i, a.eval x)) = vs.toArray := by rw [← hp]; simp
    have h7 : (Array.range (m * sz)).map (z.cells[· % z.cells.size]!) = (zrep m zs).toArray := by
      rw [h5, ← hz]; exact zero_row m zs (by rw [hz]; exact Nat.pos_of_mul_pos_left hpos)
    have h8 : Instr.fill (fun i => some (i * sz, sz)) (zrep m zs).toArray vs = some cs.toArray := by rw [fill_fillL, hf]; rfl
    have h16' : ¬ (16777216 < m * sz) := by omega
    simp [execOp, h6, Instr.buildSlice, run_underlying ht.und, hsz, hpos', h16', hzr, h7, h8, newRow, row]) h
/- a slice that grows -/
/-- a slice's own row: its elements, and the room behind them -/
def Vec (e sz : Nat) (p : Option Addr) (m cap : Nat) (xs : List Value) (c : Chunk) : Prop :=
  xs.length = m * sz ∧ ((p = none ∧ m = 0 ∧ cap = 0 ∧ c = []) ∨
    ∃ b rest, p = some ⟨b, 0, none⟩ ∧ c = [(b, row (xs ++ rest) e)] ∧ xs.length + rest.length = cap * sz ∧ m ≤ cap ∧ cap ≤ maxLen)
theorem Vec.nil (e sz : Nat) : Vec e sz none 0 0 [] [] := ⟨by simp, .inl ⟨rfl, rfl, rfl, rfl⟩⟩
theorem row_app (xs : List Value) (a : Array Value) (E : Nat) : row (xs ++ a.toList) E = .cells (xs.toArray ++ a) E (0, 0) := by
  unfold row
  congr 1
  apply Array.ext'
  simp
theorem St.allocDrew {w : World} (h : St w0 S w H) (o : Obj) : St w0 S (w.drew.alloc o) ([(w.heap.size, o)] :: H) := by
  have := (h.drew (w.drawn + 1)).alloc o
  exact this
theorem St.setRow {w : World} {b : Nat} {cs cs' : List Value} {e : Nat} (h : St w0 S w ([(b, row cs e)] :: H)) (hl : cs'.length = cs.length) : St w0 S (w.setRow b cs'.toArray) ([(b, row cs' e)] :: H) := by
  have hb : w.heap[b]? = some (row cs e) := h.sat (b, row cs e) (by simp)
  refine h.set (w' := w.setRow b cs'.toArray) (o' := row cs' e) ?_ ?_ ?_ rfl rfl rfl
  · simp [World.setRow]
  · exact setRow_heap w b cs.toArray cs'.toArray e (0, 0) hb
  · intro j hj
    exact setRow_other w b j _ hj
theorem R.appendX {cr : List Nat} {T E sz bytes : Nat} {zs : List Value} [ht : SliceT P T E sz] [he : ElemT P E sz bytes zs] {x y : Operand} {p : Option Addr} {m cap : Nat} {xs : List Value} {c : Chunk} {H1 : Hp}
    {b q m' mc : Nat} {cs news : List Value} {E' : TypeId} {fz : Nat × Nat}
    (hx : ev L x = some (.slice p m cap) := by exact rfl) (hy : ev L y = some (.slice (some ⟨b, q, none⟩) m' mc) := by exact rfl) (hv : Vec E sz p m cap xs c := by assumption) (htk : Take c H H1 := by ((first | exact Take.nil | (repeat (first | exact Take.here | apply Take.there))))) (hb : Has b (rowf cs E' fz) H := by ((repeat (first | exact Has.here | apply Has.there))))
    (hnews : (cs.drop q).take (m' * sz) = news := by ((first | assumption | (dsimp only [List.drop, List.take]; try exact rfl) | exact rfl))) (hl : news.length = m' * sz := by ((first | exact rfl | assumption | (simp; done)))) (h1 : news.all Value.oneCell' = true := by ((first | exact rfl | assumption))) (hz : zs.length = sz := by exact rfl) (hpos : 0 < m' := by ((first | decide | omega))) (hmax : m + m' ≤ maxLen := by ((simp only [maxLen]; omega))) (hby : (m + m') * bytes ≤ 140737488355328 := by omega)
    (hc : cls k ⟨some d, .call ⟨.builtin .append, #[x, y], #[T, T]⟩, ty, pos, af, g⟩ = .eff cr := by exact rfl) (hq : ∀ c', ∀ r ∈ qs, r.i ∈ cr → r.Pr (c' :: H1) := by ((intro _;  (first | (intro _ _ h; cases h; done) | (repeat (first | exact qok_nil | (apply qok_cons; (· first | (intro hc; exact absurd hc (nmem rfl)) | (intro _; apply CellPr.mk; (· repeat (first | exact Has.here | apply Has.there)); (first | exact rfl | assumption)) | (intro _; apply CellsPr.mk; (· repeat (first | exact Has.here | apply Has.there)); (first | exact rfl | assumption)))))))))) (hn : d < n := by exact nle rfl)
    (h : ∀ p' cap' c', Vec E sz p' (m + m') cap' (xs ++ news) c' → R P ops Q cls w0 S n l ((d, .slice p' (m + m') cap') :: L) D (c' :: H1) qs) :
    R1 P ops Q cls w0 S n k ⟨some d, .call ⟨.builtin .append, #[x, y], #[T, T]⟩, ty, pos, af, g⟩ l L D H qs := by
  refine R1.effStep hc hn fun a w hfr hst => ?_
  obtain ⟨i, z, e1, e2, e3, e4, e5⟩ := he.get
  have hzs : z.cells.size = sz := by rw [e5]; simpa using hz
  have hst1 := htk.st hst
  have hbl := hb.st hst
  have hnc : ∀ j u, news[j]? = some u → w.cell? ((⟨b, q, none⟩ : Addr).add j) = some u := by
    intro j u hu
    have : (⟨b, q, none⟩ : Addr).add j = ⟨b, q + j, none⟩ := by unfold Addr.add; split <;> simp_all
    rw [this, cell_of_row w b (q + j) cs.toArray E' fz hbl]
    rw [← hnews, List.getElem?_take] at hu
    split at hu
    · simpa [List.getElem?_drop] using hu
    · cases hu
  have hrun : ∀ v w', (Builtin.append_ #[T, T] ty #[.slice p m cap, .slice (some ⟨b, q, none⟩) m' mc]).run P w = .ok v w' →
      (execOp a.eval ⟨some d, .call ⟨.builtin .append, #[x, y], #[T, T]⟩, ty, pos, af, g⟩).run P w = .ok (.value v) w' := by
    intro v w' hr
    simp [execOp, resolve, invoke, Go.builtin, hfr.eval hx, hfr.eval hy, hr]
  have key : ∀ p' cap' c' w', (Builtin.append_ #[T, T] ty #[.slice p m cap, .slice (some ⟨b, q, none⟩) m' mc]).run P w = .ok (.slice p' (m + m') cap') w' →
      Vec E sz p' (m + m') cap' (xs ++ news) c' → St w0 S w' (c' :: H1) → OpOk P (execOp a.eval ⟨some d, .call ⟨.builtin .append, #[x, y], #[T, T]⟩, ty, pos, af, g⟩) w fun v w' => ∃ H', St w0 S w' H' ∧
        (∀ r ∈ qs, r.i ∈ cr → r.Pr H') ∧ R P ops Q cls w0 S n l (addSlot L v (some d)) D H' qs := by
    intro p' cap' c' w' hr hv' hst'
    simp only [OpOk, hrun _ _ hr]
    exact ⟨_, hst', hq _, h p' cap' c' hv'⟩
  have hlen : (xs ++ news).length = (m + m') * sz := by rw [List.length_append, hv.1, hl, Nat.add_mul]
  have h63 : m + m' ≤ 9223372036854775807 := by simp only [maxLen] at hmax; omega
  obtain ⟨hxl, hv⟩ := hv
  subst e2 e3
  rcases hv with ⟨rfl, rfl, rfl, rfl⟩ | ⟨b', rest, rfl, rfl, hrl, hmc, hcm⟩
  · have hx0 : xs = [] := List.eq_nil_of_length_eq_zero (by simpa using hxl)
    subst hx0
    simp only [Nat.zero_add] at h63 hby
    have hr := run_append_nil (P := P) w T ty E i z ht.und e1 e4 ⟨b, q, none⟩ m' mc news hl hnc hpos (by omega) (by omega)
    rw [e5] at hr
    refine key (some ⟨w.heap.size, 0, none⟩) (grownCap w m' 0 E) [(w.heap.size, row (news ++ (Builtin.zeroCells zs.toArray (grownCap w m' 0 E - m')).toList) E)] _ (by rw [Nat.zero_add]; exact hr) ?_ ?_
    · refine ⟨hlen, .inr ⟨w.heap.size, (Builtin.zeroCells zs.toArray (grownCap w m' 0 E - m')).toList, rfl, by simp, ?_, ?_, grownCap_le_maxLen w m' 0 E (by simpa using hmax)⟩⟩
      · have := grownCap_ge w m' 0 E
        have h9 : news.length + (Builtin.zeroCells zs.toArray (grownCap w m' 0 E - m')).toList.length = m' * i.size + (grownCap w m' 0 E - m') * i.size := by
          simp only [Array.length_toList, size_zeroCells, List.size_toArray, hl, hz]
        simp only [List.nil_append]
        rw [h9, ← Nat.add_mul]
        congr 1; omega
      · rw [Nat.zero_add]; exact grownCap_ge w m' 0 E
    · have hst2 : St w0 S w H1 := hst1.perm (by simp)
      have := hst2.allocDrew (row (news ++ (Builtin.zeroCells zs.toArray (grownCap w m' 0 E - m')).toList) E)
      rw [row_app] at this ⊢
      exact this
  · by_cases hroom : m + m' ≤ cap
    · have hg : w.heap[b']? = some (.cells (xs ++ rest).toArray E (0, 0)) := hst1.sat (b', row (xs ++ rest) E) (by simp)
      have hfit : m * i.size + news.length ≤ (xs ++ rest).toArray.size := by
        rw [hl, ← Nat.add_mul]
        simp only [List.size_toArray, List.length_append, hrl]
        exact Nat.mul_le_mul_right _ hroom
      have hr := run_append_room (P := P) w T ty E i ht.und e1 b' m cap (xs ++ rest).toArray hg ⟨b, q, none⟩ m' mc news hl hnc (by simpa using h1) hroom hfit
      have e6 : ((xs ++ rest).toArray.toList.take (m * i.size) ++ news ++ (xs ++ rest).toArray.toList.drop (m * i.size + news.length)) = (xs ++ news) ++ rest.drop news.length := by
        rw [← hxl]
        simp [List.drop_append]
      rw [e6] at hr
      have hfit' : news.length ≤ rest.length := by
        simp only [List.size_toArray, List.length_append] at hfit
        omega
      refine key (some ⟨b', 0, none⟩) cap [(b', row ((xs ++ news) ++ rest.drop news.length) E)] _ hr ?_ ?_
      · refine ⟨hlen, .inr ⟨b', rest.drop news.length, rfl, rfl, ?_, hroom, hcm⟩⟩
        simp only [List.length_append, List.length_drop]
        omega
      · exact hst1.setRow (by simp only [List.length_append, List.length_drop]; omega)
    · have hg : w.heap[b']? = some (.cells (xs ++ rest).toArray E (0, 0)) := hst1.sat (b', row (xs ++ rest) E) (by simp)
      have hoc : ∀ j u, xs[j]? = some u → w.cell? ((⟨b', 0, none⟩ : Addr).add j) = some u := by
        intro j u hu
        have : (⟨b', 0, none⟩ : Addr).add j = ⟨b', j, none⟩ := by unfold Addr.add; split <;> simp_all
        rw [this, cell_of_row w b' j _ E (0, 0) hg]
        have hj : j < xs.length := by
          rcases Nat.lt_or_ge j xs.length with h | h
          · exact h
          · rw [List.getElem?_eq_none h] at hu; cases hu
        simpa [List.getElem?_append_left hj] using hu
      have hr := run_append_grow (P := P) w T ty E i z ht.und e1 e4 ⟨b', 0, none⟩ m cap xs hxl hoc ⟨b, q, none⟩ m' mc news hl hnc (by omega) (by omega) (growslice_fits (by omega) hby)
      rw [e5] at hr
      refine key (some ⟨w.heap.size, 0, none⟩) (grownCap w (m + m') cap E) [(w.heap.size, row ((xs ++ news) ++ (Builtin.zeroCells zs.toArray (grownCap w (m + m') cap E - (m + m'))).toList) E)] _ hr ?_ ?_
      · refine ⟨hlen, .inr ⟨w.heap.size, _, rfl, rfl, ?_, grownCap_ge w (m + m') cap E, grownCap_le_maxLen w (m + m') cap E hmax⟩⟩
        have := grownCap_ge w (m + m') cap E
        simp only [hlen, Array.length_toList, size_zeroCells, List.size_toArray, hz, ← Nat.add_mul]
        congr 1; omega
      · have := hst1.drop.allocDrew (row ((xs ++ news) ++ (Builtin.zeroCells zs.toArray (grownCap w (m + m') cap E - (m + m'))).toList) E)
        rw [row_app] at this ⊢
        have e7 : xs.toArray ++ news.toArray = (xs ++ news).toArray := by simp
        rw [← e7] at this ⊢
        exact this
theorem R.append {T E sz bytes : Nat} {zs : List Value} [ht : SliceT P T E sz] [he : ElemT P E sz bytes zs] {x y : Operand} {p : Option Addr} {m cap : Nat} {xs : List Value} {c : Chunk} {H1 : Hp}
    {b q m' mc : Nat} {cs news : List Value} {E' : TypeId} {fz : Nat × Nat}
    (hx : ev L x = some (.slice p m cap) := by exact rfl) (hy : ev L y = some (.slice (some ⟨b, q, none⟩) m' mc) := by exact rfl) (hv : Vec E sz p m cap xs c := by assumption) (htk : Take c H H1 := by ((first | exact Take.nil | (repeat (first | exact Take.here | apply Take.there))))) (hb : Has b (rowf cs E' fz) H := by ((repeat (first | exact Has.here | apply Has.there))))
    (hnews : (cs.drop q).take (m' * sz) = news := by ((first | assumption | (dsimp only [List.drop, List.take]; try exact rfl) | exact rfl))) (hl : news.length = m' * sz := by ((first | exact rfl | assumption | (simp; done)))) (h1 : news.all Value.oneCell' = true := by ((first | exact rfl | assumption))) (hz : zs.length = sz := by exact rfl) (hpos : 0 < m' := by ((first | decide | omega))) (hmax : m + m' ≤ maxLen := by ((simp only [maxLen]; omega))) (hby : (m + m') * bytes ≤ 140737488355328 := by omega)
    (hc : cls k ⟨some d, .call ⟨.builtin .append, #[x, y], #[T, T]⟩, ty, pos, af, g⟩ = .eff [] := by exact rfl) (hn : d < n := by exact nle rfl)
    (h : ∀ p' cap' c', Vec E sz p' (m + m') cap' (xs ++ news) c' → R P ops Q cls w0 S n l ((d, .slice p' (m + m') cap') :: L) D (c' :: H1) qs) :
    R1 P ops Q cls w0 S n k ⟨some d, .call ⟨.builtin .append, #[x, y], #[T, T]⟩, ty, pos, af, g⟩ l L D H qs :=
  R.appendX (cr := []) hx hy hv htk hb hnews hl h1 hz hpos hmax hby hc (by intro _ _ _ h; cases h) hn h
def nthO : List Oper → Nat → Option Oper
  | [], _ => none
  | o :: _, 0 => some o
  | _ :: os, i + 1 => nthO os i
theorem nthO_eq : ∀ (os : List Oper) (i : Nat), nthO os i = os[i]?
  | [], _ => by simp [nthO]
  | _ :: _, 0 => rfl
  | _ :: os, i + 1 => by simp [nthO, nthO_eq os i]
def enumBy (os : List Oper) : List Nat → List (Nat × Oper)
  | [] => []
  | i :: is => match nthO os i with
    | some o => (i, o) :: enumBy os is
    | none => enumBy os is
theorem enumBy_get (os : List Oper) : ∀ (is : List Nat) (p : Nat × Oper), p ∈ enumBy os is → os[p.1]? = some p.2
  | [], p, h => by cases h
  | i :: is, p, h => by
    unfold enumBy at h
    cases hi : nthO os i with
    | none => simp only [hi] at h; exact enumBy_get os is p h
    | some o =>
      simp only [hi, List.mem_cons] at h
      rcases h with rfl | h
      · rw [← nthO_eq]; exact hi
      · exact enumBy_get os is p h
theorem G.drawOrd [hm : Mixed P] {id : Nat} {os : List Oper} {l : List (Nat × Oper)} (ord : List Nat) (ann : List (Nat × Cls)) (hl : enumBy os ord = l := by (first | (dsimp only [enumBy, nthO, Option.map]; try exact rfl) | exact rfl)) (hok : drawOk os.toArray (std ann) (l.map (·.1)) = true := by (decide +kernel))
    (h : R P os.toArray Q (std ann) w0 S n l L D H []) : G P Q w0 S n (.region id os.toArray true) L D H :=
  G.drawBy l ann (fun p hp => by subst hl; exact enumBy_get os ord p hp) hok h
end ops
end Go.SL
namespace Go.SL
open Go.RowKit Go.MapKept
theorem ad4 (a n : Nat) : a + n * 1 = a + n := by omega
structure Ent (K : Type) where
  key : K
  val : Value
  born : Nat
def Ent.obj {K : Type} (mk : K → Value) (e : Ent K) : MapEntry := { key := mk e.key, val := e.val, born := e.born }
/-- a map's block -/
def mrow {K : Type} (mk : K → Value) (es : List (Ent K)) (ck : Nat) : Obj := .map (es.map (Ent.obj mk)).toArray ck
def ikey (i : Int) : Value := .int .i64 i
def pkey (b : Nat) : Value := .pointer (some ⟨b, 0, none⟩)
def findE {K : Type} [DecidableEq K] (k : K) : List (Ent K) → Nat → Option (Nat × Value)
  | [], _ => none
  | e :: es, i => if k = e.key then some (i, e.val) else findE k es (i + 1)
theorem find_int {k : Int} : ∀ (es : List (Ent Int)) (i : Nat), Instr.findNow (.int .i64) (ikey k) (es.map (Ent.obj ikey)) i = some (findE k es i)
  | [], _ => rfl
  | e :: es, i => by
    simp only [List.map_cons, Instr.findNow, Ent.obj, ikey, Instr.sameNow, if_true, findE]
    by_cases h : k = e.key
    · simp [h]
    · have : (k == e.key) = false := by simpa using h
      simp only [this, h, if_false]
      exact find_int es (i + 1)
class PtrKey (P : Program) (T : TypeId) : Prop where
  und : ∃ e sz, P.underlying T = some (.pointer e) ∧ sz ≠ 0 ∧ ∀ w, (sizeOf e).run P w = .ok sz w
theorem run_equal_ptr {P : Program} {T : TypeId} [hp : PtrKey P T] {w : World} {a b : Nat} {ca cb : List Value} {ta tb : TypeId} (ha : w.heap[a]? = some (row ca ta)) (hb : w.heap[b]? = some (row cb tb)) :
    (Op.equal T (pkey a) (pkey b)).run P w = .ok (decide (a = b)) w := by
  obtain ⟨e, sz, h1, h2, h3⟩ := hp.und
  unfold Op.equal Op.maxDepth Op.equalIn
  simp only [Sem.run_bind, run_underlying h1, Result.andThen, pkey, h3, h2, ne_eq, not_false_eq_true, if_true]
  by_cases h : a = b
  · subst h
    simp [run_sameAddr_same]
  · have := run_sameAddr_other (P := P) (w := w) (a := ⟨a, 0, none⟩) (b := ⟨b, 0, none⟩) (ca := ca.toArray) (cb := cb.toArray) (by simp [h]) ha hb
    simp [this, h]
theorem find_ptr {P : Program} {T : TypeId} [hp : PtrKey P T] {w : World} {k : Nat} (hk : ∃ cs t, w.heap[k]? = some (row cs t)) : ∀ (es : List (Ent Nat)), (∀ e ∈ es, ∃ cs t, w.heap[e.key]? = some (row cs t)) →
    (Instr.findKey T (pkey k) (es.map (Ent.obj pkey))).run P w = .ok (findE k es 0) w := by
  intro es hks
  have ask : ∀ (es : List (Ent Nat)) (i : Nat), (∀ e ∈ es, ∃ cs t, w.heap[e.key]? = some (row cs t)) → (Instr.findAsking T (pkey k) (es.map (Ent.obj pkey)) i).run P w = .ok (findE k es i) w := by
    intro es
    induction es with
    | nil => intro i _; simp [Instr.findAsking, findE]
    | cons e es ih =>
      intro i h
      obtain ⟨ck, tk, hk'⟩ := hk
      obtain ⟨ce, te, he⟩ := h e List.mem_cons_self
      have := run_equal_ptr (P := P) (T := T) hk' he
      simp only [List.map_cons, Instr.findAsking, Ent.obj, Sem.run_bind, this, Result.andThen, findE]
      by_cases hh : k = e.key
      · simp [hh]
      · simp only [hh, decide_false, Bool.false_eq_true, if_false]
        exact ih (i + 1) fun e he => h e (List.mem_cons_of_mem _ he)
  obtain ⟨e, sz, h1, h2, h3⟩ := hp.und
  unfold Instr.findKey
  simp only [Sem.run_bind, run_underlying h1, Result.andThen]
  cases es with
  | nil => simp [Instr.findNow, findE]
  | cons e es => simp only [List.map_cons, Instr.findNow, Ent.obj, pkey, Instr.sameNow]; exact ask (e :: es) 0 hks
class ZeroOf (P : Program) (T : TypeId) (z : outParam Value) : Prop where
  run : ∀ w, (zeroValue T).run P w = .ok z w
/-- keys of a type are looked for so -/
class KeyT (P : Program) (T : TypeId) : Prop where
  int : P.underlying T = some (.int .i64)
theorem St.flat {w0 w : World} {S : List Nat} {H H2 : Hp} (h : St w0 S w H) (he : H.flatten = H2.flatten) : St w0 S w H2 := h.perm (by rw [he])
/-- a contract over the same blocks, told in other words -/
theorem Ct.conv {P : Program} {f : FuncId} {args : List Value} {H H2 : Hp} {R R2 : Value → Hp → Prop} (h : Ct P f args H2 R2) (he : H.flatten = H2.flatten)
    (hr : ∀ v H', R2 v H' → ∃ H'', R v H'' ∧ H'.flatten.Perm H''.flatten) : Ct P f args H R := by
  unfold Ct at h ⊢
  intro w hw
  have hk : keys H = keys H2 := by unfold keys; rw [he]
  rw [hk] at hw ⊢
  refine (h w (hw.flat he)).mono fun e w' ⟨v, H', h1, h2, h3⟩ => ?_
  obtain ⟨H'', h4, h5⟩ := hr v H' h2
  exact ⟨v, H'', h1, h4, h3.perm h5⟩
theorem CtQ.conv {P : Program} {f : FuncId} {args : List Value} {H H2 : Hp} {v : Value} (h : CtQ P f args H2 v) (he : H.flatten = H2.flatten) : CtQ P f args H v :=
  Ct.conv h he fun _ _ ⟨h1, h2⟩ => ⟨H, ⟨h1, rfl⟩, by rw [h2, he]⟩
section ops
variable {P : Program} {ops : Array Oper} {Q : Exit → Act → World → Prop} {cls : Nat → Oper → Cls} {w0 : World} {S : List Nat} {n : Nat}
variable {k : Nat} {l : List (Nat × Oper)} {L : Slots} {D : List Deferred} {H : Hp} {qs : List Rd}
variable {d : Nat} {ty : TypeId} {pos : String} {af : Array Edge} {g : Option (Nat × Bool)}
/-- at an operation that reads or writes the heap, the blocks are known to be apart -/
theorem R1.nodup {o : Oper} {cr : List Nat} (hc : cls k o = .eff cr) (h : (keys H).Nodup → R1 P ops Q cls w0 S n k o l L D H qs) : R1 P ops Q cls w0 S n k o l L D H qs := by
  unfold R1 at h ⊢
  intro hl a hf hD hwt
  have ho := hl _ List.mem_cons_self
  unfold W
  simp only [ho, hwt, if_true, hc]
  intro w hw
  have := h hw.nodup hl a hf hD hwt
  unfold W at this
  simp only [ho, hwt, if_true, hc] at this
  exact this w hw
/-- what is asked of a map's keys -/
def KeyAsk (P : Program) (w0 : World) (S : List Nat) (H : Hp) (T : TypeId) {K : Type} [DecidableEq K] (mk : K → Value) (key : K) (es : List (Ent K)) : Prop :=
  ∀ w, St w0 S w H → (∀ b, (Instr.checkKey b 10000 T (mk key)).run P w = .ok () w) ∧ (Instr.findKey T (mk key) (es.map (Ent.obj mk))).run P w = .ok (findE key es 0) w ∧ Instr.sameBits 10000 (mk key) (mk key) = true
theorem KeyAsk.int {T : TypeId} {kk : IntKind} [hT : IntT P T kk] {key : Int} {es : List (Ent Int)} (hkk : kk = .i64) : KeyAsk P w0 S H T ikey key es := by
  subst hkk
  intro w _
  refine ⟨fun b => run_checkKey hT.und (by simp [IsKey, ikey]) b 9999, run_findKey hT.und (find_int es 0), by simp [Instr.sameBits, ikey]⟩
theorem KeyAsk.ptr {T : TypeId} [hp : PtrKey P T] {key : Nat} {es : List (Ent Nat)} (hk : ∃ cs t, Has key (row cs t) H) (hks : ∀ e ∈ es, ∃ cs t, Has e.key (row cs t) H) : KeyAsk P w0 S H T pkey key es := by
  intro w hw
  obtain ⟨cs, t, hk⟩ := hk
  refine ⟨fun b => ?_, find_ptr ⟨cs, t, hk.st hw⟩ es (fun e he => ?_), by simp [Instr.sameBits, pkey]⟩
  · obtain ⟨e, sz, h1, _, _⟩ := hp.und
    unfold Instr.checkKey
    simp only [Sem.run_bind, run_underlying h1, Result.andThen, pkey]
    rfl
  · obtain ⟨cs, t, h⟩ := hks e he
    exact ⟨cs, t, h.st hw⟩
variable {K : Type} [DecidableEq K] {mk : K → Value} {key : K} {es : List (Ent K)} {ck bm : Nat} {T KT ET : TypeId}
theorem run_getObj_m {w : World} {r : Nat} {em : Array MapEntry} {c : Nat} (h : w.heap[r]? = some (.map em c)) : (getObj r).run P w = .ok (.map em c) w := by simp [getObj, Sem.run, h]
theorem R.lookupT [hT : MapT P T KT ET] {x y : Operand} {i : Nat} {v : Value} (hx : ev L x = some (.map (some bm))) (hh : Has bm (mrow mk es ck) H) (hy : ev L y = some (mk key)) (hq : KeyAsk P w0 S H KT mk key es)
    (hf : findE key es 0 = some (i, v)) (hc : cls k ⟨some d, .lookup T x y true, ty, pos, af, g⟩ = .eff []) (hn : d < n)
    (h : R P ops Q cls w0 S n l ((d, .tuple #[v, .bool true]) :: L) D H qs) : R1 P ops Q cls w0 S n k ⟨some d, .lookup T x y true, ty, pos, af, g⟩ l L D H qs := by
  refine R1.effStep hc hn fun a w hfr hst => ?_
  obtain ⟨q1, q2, _⟩ := hq w hst
  have hb := hh.st hst
  have : (execOp a.eval ⟨some d, .lookup T x y true, ty, pos, af, g⟩).run P w = .ok (.value (.tuple #[v, .bool true])) w := by
    simp [execOp, hfr.eval hx, hfr.eval hy, Instr.lookup, run_underlying hT.und, run_getObj_m hb, mrow, q1, q2, hf]
  simp only [OpOk, this]
  exact ⟨H, hst, (by intro _ _ h; cases h), h⟩
theorem R.lookupF [hT : MapT P T KT ET] {z : Value} [hz : ZeroOf P ET z] {x y : Operand} (hx : ev L x = some (.map (some bm))) (hh : Has bm (mrow mk es ck) H) (hy : ev L y = some (mk key)) (hq : KeyAsk P w0 S H KT mk key es)
    (hf : findE key es 0 = none) (hc : cls k ⟨some d, .lookup T x y true, ty, pos, af, g⟩ = .eff []) (hn : d < n)
    (h : R P ops Q cls w0 S n l ((d, .tuple #[z, .bool false]) :: L) D H qs) : R1 P ops Q cls w0 S n k ⟨some d, .lookup T x y true, ty, pos, af, g⟩ l L D H qs := by
  refine R1.effStep hc hn fun a w hfr hst => ?_
  obtain ⟨q1, q2, _⟩ := hq w hst
  have hb := hh.st hst
  have : (execOp a.eval ⟨some d, .lookup T x y true, ty, pos, af, g⟩).run P w = .ok (.value (.tuple #[z, .bool false])) w := by
    simp [execOp, hfr.eval hx, hfr.eval hy, Instr.lookup, run_underlying hT.und, run_getObj_m hb, mrow, q1, q2, hf, hz.run]
  simp only [OpOk, this]
  exact ⟨H, hst, (by intro _ _ h; cases h), h⟩
/-- a map with a key's value set -/
def setE (key : K) (v : Value) (es : List (Ent K)) (ck : Nat) : List (Ent K) × Nat :=
  match findE key es 0 with
  | some (i, _) => (es.modify i fun e => { e with val := v }, ck)
  | none => (es ++ [⟨key, v, ck⟩], ck + 1)
theorem St.setMap {w : World} {b : Nat} {o o' : Obj} (h : St w0 S w ([(b, o)] :: H)) : St w0 S { w with heap := w.heap.setIfInBounds b o' } ([(b, o')] :: H) := by
  have hb : w.heap[b]? = some o := h.sat (b, o) (by simp)
  have h2 := heap_set (o' := o') hb
  exact h.set (by simp) h2.1 h2.2 rfl rfl rfl
theorem findE_get : ∀ {es : List (Ent K)} {j i : Nat} {v : Value}, findE key es j = some (i, v) → j ≤ i ∧ ∃ e, es[i - j]? = some e ∧ e.key = key ∧ e.val = v
  | [], _, _, _, h => by cases h
  | e :: es, j, i, v, h => by
    unfold findE at h
    split at h
    · rename_i hk
      simp only [Option.some.injEq, Prod.mk.injEq] at h
      obtain ⟨rfl, rfl⟩ := h
      exact ⟨Nat.le_refl _, e, by simp, hk.symm, rfl⟩
    · obtain ⟨h1, e', h2, h3, h4⟩ := findE_get h
      refine ⟨by omega, e', ?_, h3, h4⟩
      rw [show i - j = (i - (j + 1)) + 1 by omega, List.getElem?_cons_succ]
      exact h2
theorem R.mapUpdate [hT : MapT P T KT ET] {x y z : Operand} {v : Value} {es' : List (Ent K)} {ck' : Nat} {H' : Hp} (hx : ev L x = some (.map (some bm))) (hh : Has bm (mrow mk es ck) H) (hy : ev L y = some (mk key)) (hz : ev L z = some v) (hq : KeyAsk P w0 S H KT mk key es)
    (hs : setE key v es ck = (es', ck')) (hu : Upd bm (mrow mk es ck) (mrow mk es' ck') H H') (hc : cls k ⟨none, .mapUpdate T x y z, ty, pos, af, g⟩ = .eff [])
    (h : R P ops Q cls w0 S n l L D H' qs) : R1 P ops Q cls w0 S n k ⟨none, .mapUpdate T x y z, ty, pos, af, g⟩ l L D H qs := by
  refine R1.effStep hc trivial fun a w hfr hst => ?_
  obtain ⟨q1, q2, q3⟩ := hq w hst
  obtain rfl : (setE key v es ck).1 = es' := by rw [hs]
  obtain rfl : (setE key v es ck).2 = ck' := by rw [hs]
  unfold Upd Take at hu
  obtain ⟨F, t1, t2⟩ := hu
  have e1 : St w0 S w ([(bm, mrow mk es ck)] :: F) := hst.perm (by simpa using t1)
  have hb : w.heap[bm]? = some (mrow mk es ck) := e1.sat (bm, mrow mk es ck) (by simp)
  have hst' : St w0 S { w with heap := w.heap.setIfInBounds bm (mrow mk (setE key v es ck).1 (setE key v es ck).2) } H' := (e1.setMap).perm (by simpa using t2.symm)
  have hset : ∀ o, (setObj bm o).run P w = .ok () { w with heap := w.heap.setIfInBounds bm o } := fun o => run_setObj_map o hb
  have : (execOp a.eval ⟨none, .mapUpdate T x y z, ty, pos, af, g⟩).run P w = .ok .skip { w with heap := w.heap.setIfInBounds bm (mrow mk (setE key v es ck).1 (setE key v es ck).2) } := by
    unfold setE
    cases hf : findE key es 0 with
    | none =>
      simp [execOp, hfr.eval hx, hfr.eval hy, hfr.eval hz, Instr.mapUpdate, run_underlying hT.und, run_getObj_m hb, mrow, q1, q2, hf, hset, Ent.obj]
    | some r =>
      obtain ⟨i, u⟩ := r
      obtain ⟨_, e, he, hke, _⟩ := findE_get hf
      rw [Nat.sub_zero] at he
      have hmod : ((es.map (Ent.obj mk)).toArray.modify i fun e => { e with key := mk key, val := v }) = ((es.modify i fun e => { e with val := v }).map (Ent.obj mk)).toArray := by
        apply Array.ext'
        apply List.ext_getElem?
        intro j
        simp only [Array.getElem?_toList, Array.getElem?_modify, List.getElem?_toArray, List.getElem?_map, List.getElem?_modify]
        by_cases hj : i = j
        · subst hj
          simp [he, Ent.obj, hke]
        · simp [hj]
      have hkey : (((es.map (Ent.obj mk)).toArray[i]?).map (·.key)).getD (mk key) = mk key := by
        simp [he, Ent.obj, hke]
      simp [execOp, hfr.eval hx, hfr.eval hy, hfr.eval hz, Instr.mapUpdate, run_underlying hT.und, run_getObj_m hb, mrow, q1, q2, hf, hset, Instr.keyThatStays, he, Ent.obj, hke, q3]
      exact congrArg (fun l => w.heap.setIfInBounds bm (Obj.map (List.toArray l) ck)) (by simpa [Ent.obj] using hmod)
  simp only [OpOk, this]
  exact ⟨H', hst', (by intro _ _ h; cases h), h⟩
/-- a map without a key -/
def delE (key : K) (es : List (Ent K)) : List (Ent K) :=
  match findE key es 0 with
  | some (i, _) => es.eraseIdx i
  | none => es
theorem R.delete [hT : MapT P T KT ET] {x y : Operand} {kt : TypeId} {es' : List (Ent K)} {H' : Hp} (hx : ev L x = some (.map (some bm))) (hh : Has bm (mrow mk es ck) H) (hy : ev L y = some (mk key)) (hq : KeyAsk P w0 S H KT mk key es)
    (hs : delE key es = es') (hu : Upd bm (mrow mk es ck) (mrow mk es' ck) H H') (hc : cls k ⟨none, .call ⟨.builtin .delete, #[x, y], #[T, kt]⟩, ty, pos, af, g⟩ = .eff [])
    (h : R P ops Q cls w0 S n l L D H' qs) : R1 P ops Q cls w0 S n k ⟨none, .call ⟨.builtin .delete, #[x, y], #[T, kt]⟩, ty, pos, af, g⟩ l L D H qs := by
  refine R1.effStep hc trivial fun a w hfr hst => ?_
  obtain ⟨q1, q2, q3⟩ := hq w hst
  subst hs
  unfold Upd Take at hu
  obtain ⟨F, t1, t2⟩ := hu
  have e1 : St w0 S w ([(bm, mrow mk es ck)] :: F) := hst.perm (by simpa using t1)
  have hb : w.heap[bm]? = some (mrow mk es ck) := e1.sat (bm, mrow mk es ck) (by simp)
  have hst' : St w0 S { w with heap := w.heap.setIfInBounds bm (mrow mk (delE key es) ck) } H' := (e1.setMap).perm (by simpa using t2.symm)
  have hset : ∀ o, (setObj bm o).run P w = .ok () { w with heap := w.heap.setIfInBounds bm o } := fun o => run_setObj_map o hb
  have : (execOp a.eval ⟨none, .call ⟨.builtin .delete, #[x, y], #[T, kt]⟩, ty, pos, af, g⟩).run P w = .ok (.value (.tuple #[])) { w with heap := w.heap.setIfInBounds bm (mrow mk (delE key es) ck) } := by
    unfold delE
    cases hf : findE key es 0 with
    | none => simp [execOp, resolve, invoke, Go.builtin, hfr.eval hx, hfr.eval hy, Builtin.delete_, run_underlying hT.und, run_getObj_m hb, mrow, q1, q2, hf, hset]
    | some r =>
      obtain ⟨i, u⟩ := r
      obtain ⟨_, e, he, _, _⟩ := findE_get hf
      rw [Nat.sub_zero] at he
      have hi : i < es.length := (List.getElem?_eq_some_iff.1 he).1
      have herase : (es.map (Ent.obj mk)).toArray.eraseIdxIfInBounds i = ((es.eraseIdx i).map (Ent.obj mk)).toArray := by
        apply Array.ext'
        apply List.ext_getElem?
        intro j
        simp [Array.eraseIdxIfInBounds, hi, List.getElem?_eraseIdx]
        split <;> rfl
      simp [execOp, resolve, invoke, Go.builtin, hfr.eval hx, hfr.eval hy, Builtin.delete_, run_underlying hT.und, run_getObj_m hb, mrow, q1, q2, hf, hset]
      exact congrArg (fun l => w.heap.setIfInBounds bm (Obj.map (List.toArray l) ck)) (by simpa using herase)
  simp only [OpOk, this]
  exact ⟨H', hst', (by intro _ _ h; cases h), h⟩
theorem R.makeMap [hT : MapT P T KT ET] {rz : Option Operand} (hr : ∀ x, rz = some x → ∃ kk m, ev L x = some (.int kk m) := by ((intro _ h; cases h))) (hc : cls k ⟨some d, .makeMap T rz, ty, pos, af, g⟩ = .grow := by exact rfl) (hn : d < n := by exact nle rfl)
    (h : ∀ b, R P ops Q cls w0 S n l ((d, .map (some b)) :: L) D ([(b, .map #[] 0)] :: H) qs) : R1 P ops Q cls w0 S n k ⟨some d, .makeMap T rz, ty, pos, af, g⟩ l L D H qs :=
  R1.growStep (mk := fun b => .map (some b)) (ob := .map #[] 0) hc rfl hn (fun a hf w => by
    cases rz with
    | none => simp [execOp, Instr.makeMap]
    | some x =>
      obtain ⟨kk, m, hx⟩ := hr x rfl
      simp [execOp, Instr.makeMap, hf.eval hx, run_underlying hT.und, asInt, asIntOf]) h
/- rows made, slices of slices, copies -/
theorem madeCells_zrep {zs : List Value} (m : Nat) (hz : 0 < zs.length) : madeCells zs.toArray (m * zs.length) = (zrep m zs).toArray := by
  rw [← zero_row m zs hz]
  rfl
theorem R.makeSlice {T E sz bytes : Nat} {zs : List Value} [ht : SliceT P T E sz] [he : ElemT P E sz bytes zs] {x y : Operand} {kx ky : IntKind} {a b : Int} (hx : ev L x = some (.int kx a) := by exact rfl) (hy : ev L y = some (.int ky b) := by exact rfl)
    (h0 : 0 ≤ a ∧ a ≤ b := by ((first | omega | (constructor <;> omega) | (refine ⟨?_, ?_, ?_⟩ <;> omega) | (refine ⟨?_, ?_, ?_, ?_⟩ <;> omega)))) (hb : (bytes : Int) * b ≤ 281474976710656 ∧ b ≤ 9223372036854775807 := by ((first | omega | (constructor <;> omega) | (refine ⟨?_, ?_, ?_⟩ <;> omega) | (refine ⟨?_, ?_, ?_, ?_⟩ <;> omega)))) (hz : zs.length = sz := by exact rfl) (hpos : 0 < sz := by exact nle rfl) {m m' : Nat} (hm : a.toNat = m := by ((first | (with_reducible exact Int.toNat_natCast _) | assumption | exact rfl))) (hm' : b.toNat = m' := by ((first | (with_reducible exact Int.toNat_natCast _) | assumption | exact rfl)))
    (hc : cls k ⟨some d, .makeSlice T x y, ty, pos, af, g⟩ = .grow := by exact rfl) (hn : d < n := by exact nle rfl)
    (h : ∀ bl, R P ops Q cls w0 S n l ((d, .slice (some ⟨bl, 0, none⟩) m m') :: L) D ([(bl, row (zrep m' zs) E)] :: H) qs) : R1 P ops Q cls w0 S n k ⟨some d, .makeSlice T x y, ty, pos, af, g⟩ l L D H qs :=
  R1.growStep (mk := fun bl => .slice (some ⟨bl, 0, none⟩) m m') (ob := row (zrep m' zs) E) hc rfl hn (fun ac hf w => by
    obtain ⟨i, z, e1, e2, e3, e4, e5⟩ := he.get
    have hr := run_make (P := P) w T E i z ht.und e1 e4 kx ky a b h0.1 h0.2 (by rw [e3]; exact hb.1) hb.2
    rw [e5, e2, hm, hm', ← hz, madeCells_zrep m' (by omega)] at hr
    have hr2 : (Instr.makeSlice T (ac.eval x) (ac.eval y)).run P w = .ok (.slice (some ⟨w.heap.size, 0, none⟩) m m') { w with heap := w.heap.push (row (zrep m' zs) E) } := by
      rw [hf.eval hx, hf.eval hy]; exact hr
    simp only [execOp, Sem.run_bind, hr2, Result.andThen_ok, Sem.run_pure]) h
theorem run_sliceAtS {T E sz : Nat} [ht : SliceT P T E sz] {w : World} {a : Option Addr} {len cap : Nat} {lo hi mx : Option Value} {r : Nat × Nat × Nat} (hb : (Instr.sliceBounds true len cap lo hi mx).run P w = .ok r w) :
    (Instr.sliceAt T (.slice a len cap) lo hi mx).run P w = .ok (.slice (if r.2.2 = r.1 then a else a.map (·.add (r.1 * sz))) (r.2.1 - r.1) (r.2.2 - r.1)) w := by
  simp [Instr.sliceAt, Instr.slice, run_underlying ht.und, hb, ht.size]
theorem addr_add_zero (a : Addr) : a.add 0 = a := by unfold Addr.add; simp
/-- x[:h] -/
theorem R.sliceH {T E sz : Nat} [ht : SliceT P T E sz] {x y : Operand} {a : Option Addr} {len cap m : Nat} {ky : IntKind} {b : Int} (hx : ev L x = some (.slice a len cap) := by exact rfl) (hy : ev L y = some (.int ky b) := by exact rfl)
    (hb : 0 ≤ b ∧ b ≤ (cap : Int) := by ((first | omega | (constructor <;> omega) | (refine ⟨?_, ?_, ?_⟩ <;> omega) | (refine ⟨?_, ?_, ?_, ?_⟩ <;> omega)))) (hm : b.toNat = m := by ((first | (with_reducible exact Int.toNat_natCast _) | assumption | exact rfl))) (hc : cls k ⟨some d, .slice T x none (some y) none, ty, pos, af, g⟩ = .pure := by exact rfl) (hn : d < n := by exact nle rfl)
    (h : R P ops Q cls w0 S n l ((d, .slice a m cap) :: L) D H qs) : R1 P ops Q cls w0 S n k ⟨some d, .slice T x none (some y) none, ty, pos, af, g⟩ l L D H qs :=
  R1.pureStep hc rfl hn (fun ac hf w => by
    have hr : (Instr.sliceBounds true len cap none (some (.int ky b)) none).run P w = .ok (0, m, cap) w := by
      simp [Instr.sliceBounds, run_sliceBound, hb.1, hb.2, hm]
    have := run_sliceAtS (P := P) (T := T) (a := a) hr
    have e : (if cap = 0 then a else a.map fun x => x.add (0 * sz)) = a := by
      split
      · rfl
      · cases a <;> simp [addr_add_zero]
    simp only [Nat.sub_zero, e] at this
    simp [execOp, hf.eval hx, hf.eval hy, this]) h
/-- x[l:h] where room is left behind l -/
theorem R.sliceLH {T E sz : Nat} [ht : SliceT P T E sz] {x y z : Operand} {bl p len cap i m q : Nat} {ky kz : IntKind} {a b : Int} (hx : ev L x = some (.slice (some ⟨bl, p, none⟩) len cap) := by exact rfl) (hy : ev L y = some (.int ky a) := by exact rfl) (hz : ev L z = some (.int kz b) := by exact rfl)
    (hb : 0 ≤ a ∧ a ≤ b ∧ b ≤ (cap : Int) ∧ a < (cap : Int) := by ((first | omega | (constructor <;> omega) | (refine ⟨?_, ?_, ?_⟩ <;> omega) | (refine ⟨?_, ?_, ?_, ?_⟩ <;> omega)))) (hi : a.toNat = i := by ((first | (with_reducible exact Int.toNat_natCast _) | assumption | exact rfl))) (hm : b.toNat = m := by ((first | (with_reducible exact Int.toNat_natCast _) | assumption | exact rfl))) (hq : p + i * sz = q := by ((first | exact ad1 _ | exact ad4 _ _ | exact Nat.zero_add _ | exact Nat.add_zero _ | exact ad2 _ _ | exact ad3 _ _ | (simp only [Nat.reduceAdd]; done) | exact rfl))) (hc : cls k ⟨some d, .slice T x (some y) (some z) none, ty, pos, af, g⟩ = .pure := by exact rfl) (hn : d < n := by exact nle rfl)
    (h : R P ops Q cls w0 S n l ((d, .slice (some ⟨bl, q, none⟩) (m - i) (cap - i)) :: L) D H qs) : R1 P ops Q cls w0 S n k ⟨some d, .slice T x (some y) (some z) none, ty, pos, af, g⟩ l L D H qs :=
  R1.pureStep hc rfl hn (fun ac hf w => by
    obtain ⟨h1, h2, h3, h4⟩ := hb
    have e1 : (b.toNat : Int) = b := Int.toNat_of_nonneg (by omega)
    have h5 : 0 ≤ b := by omega
    have hr : (Instr.sliceBounds true len cap (some (.int ky a)) (some (.int kz b)) none).run P w = .ok (i, m, cap) w := by
      subst hi hm
      simp [Instr.sliceBounds, run_sliceBound, h1, h2, h3, e1, h5]
    have := run_sliceAtS (P := P) (T := T) (a := some ⟨bl, p, none⟩) hr
    simp only [show ¬ (cap = i) by omega, if_false, Option.map_some, Addr.add_mk, hq] at this
    simp [execOp, hf.eval hx, hf.eval hy, hf.eval hz, this]) h
/-- x[l:] where room is left behind l -/
theorem R.sliceL {T E sz : Nat} [ht : SliceT P T E sz] {x y : Operand} {bl p len cap i q : Nat} {ky : IntKind} {a : Int} (hx : ev L x = some (.slice (some ⟨bl, p, none⟩) len cap) := by exact rfl) (hy : ev L y = some (.int ky a) := by exact rfl)
    (hb : 0 ≤ a ∧ a ≤ (len : Int) ∧ a < (cap : Int) := by ((first | omega | (constructor <;> omega) | (refine ⟨?_, ?_, ?_⟩ <;> omega) | (refine ⟨?_, ?_, ?_, ?_⟩ <;> omega)))) (hi : a.toNat = i := by ((first | (with_reducible exact Int.toNat_natCast _) | assumption | exact rfl))) (hq : p + i * sz = q := by ((first | exact ad1 _ | exact ad4 _ _ | exact Nat.zero_add _ | exact Nat.add_zero _ | exact ad2 _ _ | exact ad3 _ _ | (simp only [Nat.reduceAdd]; done) | exact rfl))) (hc : cls k ⟨some d, .slice T x (some y) none none, ty, pos, af, g⟩ = .pure := by exact rfl) (hn : d < n := by exact nle rfl)
    (h : R P ops Q cls w0 S n l ((d, .slice (some ⟨bl, q, none⟩) (len - i) (cap - i)) :: L) D H qs) : R1 P ops Q cls w0 S n k ⟨some d, .slice T x (some y) none none, ty, pos, af, g⟩ l L D H qs :=
  R1.pureStep hc rfl hn (fun ac hf w => by
    obtain ⟨h1, h2, h3⟩ := hb
    have hr : (Instr.sliceBounds true len cap (some (.int ky a)) none none).run P w = .ok (i, len, cap) w := by
      simp [Instr.sliceBounds, run_sliceBound, h1, h2, hi]
    have := run_sliceAtS (P := P) (T := T) (a := some ⟨bl, p, none⟩) hr
    simp only [show ¬ (cap = i) by omega, if_false, Option.map_some, Addr.add_mk, hq] at this
    simp [execOp, hf.eval hx, hf.eval hy, this]) h
/-- x[:h:m] -/
theorem R.slice3 {T E sz : Nat} [ht : SliceT P T E sz] {x y z : Operand} {a : Option Addr} {len cap m m' : Nat} {ky kz : IntKind} {b c : Int} (hx : ev L x = some (.slice a len cap) := by exact rfl) (hy : ev L y = some (.int ky b) := by exact rfl) (hz : ev L z = some (.int kz c) := by exact rfl)
    (hb : 0 ≤ b ∧ b ≤ c ∧ c ≤ (cap : Int) := by ((first | omega | (constructor <;> omega) | (refine ⟨?_, ?_, ?_⟩ <;> omega) | (refine ⟨?_, ?_, ?_, ?_⟩ <;> omega)))) (hm : b.toNat = m := by ((first | (with_reducible exact Int.toNat_natCast _) | assumption | exact rfl))) (hm' : c.toNat = m' := by ((first | (with_reducible exact Int.toNat_natCast _) | assumption | exact rfl))) (hc : cls k ⟨some d, .slice T x none (some y) (some z), ty, pos, af, g⟩ = .pure := by exact rfl) (hn : d < n := by exact nle rfl)
    (h : R P ops Q cls w0 S n l ((d, .slice a m m') :: L) D H qs) : R1 P ops Q cls w0 S n k ⟨some d, .slice T x none (some y) (some z), ty, pos, af, g⟩ l L D H qs :=
  R1.pureStep hc rfl hn (fun ac hf w => by
    obtain ⟨h1, h2, h3⟩ := hb
    have e1 : (c.toNat : Int) = c := Int.toNat_of_nonneg (by omega)
    have h5 : 0 ≤ c := by omega
    have hr : (Instr.sliceBounds true len cap none (some (.int ky b)) (some (.int kz c))).run P w = .ok (0, m, m') w := by
      subst hm hm'
      simp [Instr.sliceBounds, run_sliceBound, h1, h2, h3, e1, h5]
    have := run_sliceAtS (P := P) (T := T) (a := a) hr
    have e : (if m' = 0 then a else a.map fun x => x.add (0 * sz)) = a := by
      split
      · rfl
      · cases a <;> simp [addr_add_zero]
    simp only [Nat.sub_zero, e] at this
    simp [execOp, hf.eval hx, hf.eval hy, hf.eval hz, this]) h
/- slices held against nil -/
theorem R.eqlNilS {T E sz : Nat} [ho : SliceT P T E sz] {x y : Operand} {yt : TypeId} {p : Option Addr} {m c : Nat} (hx : ev L x = some (.slice p m c) := by exact rfl) (hy : ev L y = some (.slice none 0 0) := by exact rfl)
    (hc : cls k ⟨some d, .binOp .eql T x y yt, ty, pos, af, g⟩ = .pure := by exact rfl) (hn : d < n := by exact nle rfl)
    (h : R P ops Q cls w0 S n l ((d, .bool p.isNone) :: L) D H qs) : R1 P ops Q cls w0 S n k ⟨some d, .binOp .eql T x y yt, ty, pos, af, g⟩ l L D H qs :=
  R1.pureStep hc rfl hn (fun a hf w => by
    have h1 := run_equal_slice_nil (P := P) w T E p m c ho.und
    simp [execOp, hf.eval hx, hf.eval hy, eqGuard, binOp, h1]) h
/-- a slice without elements -/
theorem R.buildSlice0 {T E sz : Nat} [ht : SliceT P T E sz] (hc : cls k ⟨some d, .buildSlice T 0 #[], ty, pos, af, g⟩ = .grow := by exact rfl) (hn : d < n := by exact nle rfl)
    (h : ∀ b, R P ops Q cls w0 S n l ((d, .slice (some ⟨b, 0, none⟩) 0 0) :: L) D ([(b, row [] E)] :: H) qs) : R1 P ops Q cls w0 S n k ⟨some d, .buildSlice T 0 #[], ty, pos, af, g⟩ l L D H qs :=
  R1.growStep (mk := fun b => .slice (some ⟨b, 0, none⟩) 0 0) (ob := row [] E) hc rfl hn (fun a hfr w => by
    have hsz := ht.size w
    simp [execOp, Instr.buildSlice, run_underlying ht.und, hsz, Instr.fill, newRow, row]
    rw [show (Array.range 0).map (fun _ => (default : Value)) = #[] from Array.eq_empty_of_size_eq_zero (by simp)]) h
theorem setL_eq : ∀ (vs cs : List Value) (o : Nat), o + vs.length ≤ cs.length → setL cs o vs = cs.take o ++ vs ++ cs.drop (o + vs.length)
  | [], cs, o, _ => by simp [setL]
  | v :: vs, cs, o, h => by
    simp only [List.length_cons] at h
    rw [setL, setL_eq vs (cs.set o v) (o + 1) (by simp; omega)]
    apply List.ext_getElem?
    intro j
    have e1 : min (o + 1) cs.length = o + 1 := by omega
    have e2 : min o cs.length = o := by omega
    simp only [List.append_assoc, List.getElem?_append, List.length_take, List.length_set, e1, e2, List.getElem?_take, List.getElem?_set, List.getElem?_drop, List.length_cons]
    by_cases h1 : j < o
    · rw [if_pos (by omega), if_pos (by omega), if_neg (by omega), if_pos h1, if_pos h1]
    · by_cases h2 : j = o
      · subst h2
        rw [if_pos (by omega), if_pos (by omega), if_pos rfl, if_pos (by omega), if_neg h1, if_pos (by omega)]
        simp
      · rw [if_neg (by omega), if_neg h1]
        have e4 : j - o = (j - (o + 1)) + 1 := by omega
        by_cases h3 : j - (o + 1) < vs.length
        · rw [if_pos h3, if_pos (by omega), e4, List.getElem?_cons_succ]
        · rw [if_neg h3, if_neg (by omega), if_neg (by omega)]
          congr 1; omega
theorem R.copy {T E bytes : Nat} {zs : List Value} [ht : SliceT P T E 1] [he : ElemT P E 1 bytes zs] {sT : TypeId} {x y : Operand} {gd o dl dc b q sl sc m : Nat} {cs cs' cs2 news : List Value} {E2 : TypeId} {fz : Nat × Nat} {H' : Hp}
    (hx : ev L x = some (.slice (some ⟨gd, o, none⟩) dl dc) := by exact rfl) (hy : ev L y = some (.slice (some ⟨b, q, none⟩) sl sc) := by exact rfl) (hb : Has b (rowf cs2 E2 fz) H := by ((repeat (first | exact Has.here | apply Has.there)))) (hm : Nat.min sl dl = m := by ((first | assumption | exact rfl)))
    (hnews : (cs2.drop q).take m = news := by ((first | assumption | (dsimp only [List.drop, List.take]; try exact rfl) | exact rfl))) (hl : news.length = m := by ((first | assumption | exact rfl | (simp; done)))) (h1 : news.all Value.oneCell' = true := by ((first | assumption | exact rfl))) (hu : Upd gd (row cs E) (row cs' E) H H' := by ((repeat (first | exact Upd.here | apply Upd.there)))) (hs : setL cs o news = cs' := by ((first | assumption | (dsimp only [setL, List.set, Value.cells, List.toList_toArray]; try exact rfl) | exact rfl))) (hlt : o + m ≤ cs.length := by ((first | omega | decide | (simp; omega))))
    (hc : cls k ⟨some d, .call ⟨.builtin .copy, #[x, y], #[T, sT]⟩, ty, pos, af, g⟩ = .eff [] := by exact rfl) (hn : d < n := by exact nle rfl)
    (h : R P ops Q cls w0 S n l ((d, .int .i64 (m : Int)) :: L) D H' qs) : R1 P ops Q cls w0 S n k ⟨some d, .call ⟨.builtin .copy, #[x, y], #[T, sT]⟩, ty, pos, af, g⟩ l L D H qs := by
  refine R1.effStep hc hn fun a w hfr hst => ?_
  obtain ⟨i, z, e1, e2, _⟩ := he.get
  have hbl := hb.st hst
  unfold Upd Take at hu
  obtain ⟨F, t1, t2⟩ := hu
  have s1 : St w0 S w ([(gd, row cs E)] :: F) := hst.perm (by simpa using t1)
  have hg : w.heap[gd]? = some (row cs E) := s1.sat (gd, row cs E) (by simp)
  have hsrc : ∀ j v, news[j]? = some v → w.cell? ((⟨b, q, none⟩ : Addr).add j) = some v := by
    intro j v hv
    rw [Addr.add_mk, cell_of_row w b (q + j) cs2.toArray E2 fz hbl]
    rw [← hnews, List.getElem?_take] at hv
    split at hv
    · simpa [List.getElem?_drop] using hv
    · cases hv
  have hr := run_copy_row (P := P) w T sT ty E gd o dl dc ⟨b, q, none⟩ sl sc cs.toArray E news ht.und (by simp [e1, e2]) hg (by rw [hl, ← hm]) hsrc (by simpa [hl] using hlt) (by simpa using h1)
  have e3 : (cs.toArray.toList.take o ++ news ++ cs.toArray.toList.drop (o + news.length)) = cs' := by rw [← hs, setL_eq news cs o (by omega)]
  rw [e3, hl] at hr
  have hst' : St w0 S (w.setRow gd cs'.toArray) H' := (s1.setRow (by rw [← hs, length_setL])).perm (by simpa using t2.symm)
  have : (execOp a.eval ⟨some d, .call ⟨.builtin .copy, #[x, y], #[T, sT]⟩, ty, pos, af, g⟩).run P w = .ok (.value (.int .i64 (m : Int))) (w.setRow gd cs'.toArray) := by
    simp [execOp, resolve, invoke, Go.builtin, hfr.eval hx, hfr.eval hy, hr, goInt]
  simp only [OpOk, this]
  exact ⟨H', hst', (by intro _ _ h; cases h), h⟩
end ops
end Go.SL
namespace Go.SL
open Go.RowKit
section ops
variable {P : Program} {ops : Array Oper} {Q : Exit → Act → World → Prop} {cls : Nat → Oper → Cls} {w0 : World} {S : List Nat} {n : Nat}
variable {k : Nat} {l : List (Nat × Oper)} {L : Slots} {D : List Deferred} {H : Hp} {qs : List Rd}
variable {d : Nat} {ty : TypeId} {pos : String} {af : Array Edge} {g : Option (Nat × Bool)}
theorem R.copyN {T E sz bytes : Nat} {zs : List Value} [ht : SliceT P T E sz] [he : ElemT P E sz bytes zs] {sT : TypeId} {x y : Operand} {gd o dl dc b q sl sc m : Nat} {cs cs' cs2 news : List Value} {E2 : TypeId} {fz : Nat × Nat} {H' : Hp}
    (hx : ev L x = some (.slice (some ⟨gd, o, none⟩) dl dc) := by exact rfl) (hy : ev L y = some (.slice (some ⟨b, q, none⟩) sl sc) := by exact rfl) (hb : Has b (rowf cs2 E2 fz) H := by ((repeat (first | exact Has.here | apply Has.there)))) (hm : Nat.min sl dl = m := by ((first | assumption | exact rfl)))
    (hnews : (cs2.drop q).take (m * sz) = news := by ((first | assumption | (dsimp only [List.drop, List.take]; try exact rfl) | exact rfl))) (hl : news.length = m * sz := by ((first | assumption | exact rfl | (simp; done)))) (h1 : news.all Value.oneCell' = true := by ((first | assumption | exact rfl))) (hu : Upd gd (row cs E) (row cs' E) H H' := by ((repeat (first | exact Upd.here | apply Upd.there)))) (hs : setL cs o news = cs' := by ((first | assumption | (dsimp only [setL, List.set, Value.cells, List.toList_toArray]; try exact rfl) | exact rfl))) (hlt : o + m * sz ≤ cs.length := by ((first | omega | assumption)))
    (hc : cls k ⟨some d, .call ⟨.builtin .copy, #[x, y], #[T, sT]⟩, ty, pos, af, g⟩ = .eff [] := by exact rfl) (hn : d < n := by exact nle rfl)
    (h : R P ops Q cls w0 S n l ((d, .int .i64 (m : Int)) :: L) D H' qs) : R1 P ops Q cls w0 S n k ⟨some d, .call ⟨.builtin .copy, #[x, y], #[T, sT]⟩, ty, pos, af, g⟩ l L D H qs := by
  refine R1.effStep hc hn fun a w hfr hst => ?_
  obtain ⟨i, z, e1, e2, _⟩ := he.get
  have hbl := hb.st hst
  unfold Upd Take at hu
  obtain ⟨F, t1, t2⟩ := hu
  have s1 : St w0 S w ([(gd, row cs E)] :: F) := hst.perm (by simpa using t1)
  have hg : w.heap[gd]? = some (row cs E) := s1.sat (gd, row cs E) (by simp)
  have hsrc : ∀ j v, news[j]? = some v → w.cell? ((⟨b, q, none⟩ : Addr).add j) = some v := by
    intro j v hv
    rw [Addr.add_mk, cell_of_row w b (q + j) cs2.toArray E2 fz hbl]
    rw [← hnews, List.getElem?_take] at hv
    split at hv
    · simpa [List.getElem?_drop] using hv
    · cases hv
  have hld := run_loadCells_list (P := P) w ⟨b, q, none⟩ news hsrc
  rw [hl] at hld
  have hstc := run_storeCells_at P gd o E news 0 cs.toArray w hg (by simpa [hl] using hlt) (by simpa using h1)
  have e3 : (cs.toArray.toList.take (o + 0) ++ news ++ cs.toArray.toList.drop (o + 0 + news.length)) = cs' := by rw [← hs, setL_eq news cs o (by omega)]; rfl
  rw [e3] at hstc
  have hst' : St w0 S (w.setRow gd cs'.toArray) H' := (s1.setRow (by rw [← hs, length_setL])).perm (by simpa using t2.symm)
  have : (execOp a.eval ⟨some d, .call ⟨.builtin .copy, #[x, y], #[T, sT]⟩, ty, pos, af, g⟩).run P w = .ok (.value (.int .i64 (m : Int))) (w.setRow gd cs'.toArray) := by
    have hsz := ht.size w
    simp [execOp, resolve, invoke, Go.builtin, hfr.eval hx, hfr.eval hy, Builtin.copy_, run_underlying ht.und, Builtin.lenOf, Builtin.firstCells, hsz, hm, hld, hstc, goInt]
  simp only [OpOk, this]
  exact ⟨H', hst', (by intro _ _ h; cases h), h⟩
/-- nothing goes over -/
theorem R.copy0 {T E sz : Nat} [ht : SliceT P T E sz] {sT : TypeId} {x y : Operand} {p p2 : Option Addr} {dl dc sl sc : Nat}
    (hx : ev L x = some (.slice p dl dc) := by exact rfl) (hy : ev L y = some (.slice p2 sl sc) := by exact rfl) (hm : Nat.min sl dl = 0 := by ((first | assumption | exact Nat.zero_min _ | exact Nat.min_zero _)))
    (hc : cls k ⟨some d, .call ⟨.builtin .copy, #[x, y], #[T, sT]⟩, ty, pos, af, g⟩ = .eff [] := by exact rfl) (hn : d < n := by exact nle rfl)
    (h : R P ops Q cls w0 S n l ((d, .int .i64 0) :: L) D H qs) : R1 P ops Q cls w0 S n k ⟨some d, .call ⟨.builtin .copy, #[x, y], #[T, sT]⟩, ty, pos, af, g⟩ l L D H qs := by
  refine R1.effStep hc hn fun a w hfr hst => ?_
  have : (execOp a.eval ⟨some d, .call ⟨.builtin .copy, #[x, y], #[T, sT]⟩, ty, pos, af, g⟩).run P w = .ok (.value (.int .i64 0)) w := by
    have hsz := ht.size w
    cases p <;> cases p2 <;> simp [execOp, resolve, invoke, Go.builtin, hfr.eval hx, hfr.eval hy, Builtin.copy_, run_underlying ht.und, Builtin.lenOf, Builtin.firstCells, hsz, hm, goInt, loadCells, loadCellsFrom, storeCells]
  simp only [OpOk, this]
  exact ⟨H, hst, (by intro _ _ h; cases h), h⟩
theorem R.clear {T E sz bytes : Nat} {zs : List Value} [ht : SliceT P T E sz] [he : ElemT P E sz bytes zs] {x : Operand} {gd o m dc : Nat} {cs cs' : List Value} {H' : Hp}
    (hx : ev L x = some (.slice (some ⟨gd, o, none⟩) m dc) := by exact rfl) (h0 : 0 < m := by ((first | omega | assumption))) (hz : zs.length = sz := by exact rfl) (hz0 : 0 < sz := by ((exact nle rfl))) (h1 : zs.all Value.oneCell' = true := by exact rfl) (hu : Upd gd (row cs E) (row cs' E) H H' := by ((repeat (first | exact Upd.here | apply Upd.there)))) (hs : setL cs o (zrep m zs) = cs' := by ((first | assumption | (dsimp only [setL, List.set, Value.cells, List.toList_toArray]; try exact rfl) | exact rfl))) (hlt : o + m * sz ≤ cs.length := by ((first | omega | assumption)))
    (hc : cls k ⟨none, .call ⟨.builtin .clear, #[x], #[T]⟩, ty, pos, af, g⟩ = .eff [] := by exact rfl)
    (h : R P ops Q cls w0 S n l L D H' qs) : R1 P ops Q cls w0 S n k ⟨none, .call ⟨.builtin .clear, #[x], #[T]⟩, ty, pos, af, g⟩ l L D H qs := by
  refine R1.effStep hc trivial fun a w hfr hst => ?_
  obtain ⟨i, z, e1, e2, e3, e4, e5⟩ := he.get
  unfold Upd Take at hu
  obtain ⟨F, t1, t2⟩ := hu
  have s1 : St w0 S w ([(gd, row cs E)] :: F) := hst.perm (by simpa using t1)
  have hg : w.heap[gd]? = some (row cs E) := s1.sat (gd, row cs E) (by simp)
  have hzr : (zeroValue E).run P w = .ok z w := by simp [zeroValue, typeInfo, e1, e4]
  have hzl : (zrep m zs).length = m * sz := by rw [zrep_length, hz]
  have hza : ∀ v ∈ zrep m zs, v.oneCell' = true := by
    clear hs hzl hlt hx h0
    induction m with
    | zero => intro v hv; cases hv
    | succ m ih =>
      intro v hv
      rcases List.mem_append.1 hv with hv | hv
      · exact List.all_eq_true.1 h1 v hv
      · exact ih v hv
  have hzc : (Builtin.zeroCells z.cells m).toList = zrep m zs := by
    have := zero_row m zs (by omega)
    rw [Builtin.zeroCells, e5]
    have e6 : m * zs.toArray.size = m * zs.length := by simp
    rw [e6, this]
  have hstc := run_storeCells_at P gd o E (zrep m zs) 0 cs.toArray w hg (by simpa [hzl] using hlt) hza
  have e3 : (cs.toArray.toList.take (o + 0) ++ zrep m zs ++ cs.toArray.toList.drop (o + 0 + (zrep m zs).length)) = cs' := by rw [← hs, setL_eq _ cs o (by omega)]; rfl
  rw [e3] at hstc
  have hst' : St w0 S (w.setRow gd cs'.toArray) H' := (s1.setRow (by rw [← hs, length_setL])).perm (by simpa using t2.symm)
  have : (execOp a.eval ⟨none, .call ⟨.builtin .clear, #[x], #[T]⟩, ty, pos, af, g⟩).run P w = .ok (.value (.tuple #[])) (w.setRow gd cs'.toArray) := by
    cases m with
    | zero => omega
    | succ m => simp [execOp, resolve, invoke, Go.builtin, hfr.eval hx, Builtin.clear_, run_underlying ht.und, hzr, hzc, hstc]
  simp only [OpOk, this]
  exact ⟨H', hst', (by intro _ _ h; cases h), h⟩
/-- nothing is cleared -/
theorem R.clear0 {T E sz : Nat} [ht : SliceT P T E sz] {x : Operand} {p : Option Addr} {m dc : Nat}
    (hx : ev L x = some (.slice p m dc) := by exact rfl) (hm : m = 0 := by ((first | omega | assumption))) (hc : cls k ⟨none, .call ⟨.builtin .clear, #[x], #[T]⟩, ty, pos, af, g⟩ = .eff [] := by exact rfl)
    (h : R P ops Q cls w0 S n l L D H qs) : R1 P ops Q cls w0 S n k ⟨none, .call ⟨.builtin .clear, #[x], #[T]⟩, ty, pos, af, g⟩ l L D H qs := by
  subst hm
  refine R1.effStep hc trivial fun a w hfr hst => ?_
  have : (execOp a.eval ⟨none, .call ⟨.builtin .clear, #[x], #[T]⟩, ty, pos, af, g⟩).run P w = .ok (.value (.tuple #[])) w := by
    cases p <;> simp [execOp, resolve, invoke, Go.builtin, hfr.eval hx, Builtin.clear_, run_underlying ht.und]
  simp only [OpOk, this]
  exact ⟨H, hst, (by intro _ _ h; cases h), h⟩
/-- appended where there is room -/
theorem R.appendRoom {T E sz bytes : Nat} {zs : List Value} [ht : SliceT P T E sz] [he : ElemT P E sz bytes zs] {x y : Operand} {gd m cap b q m' mc : Nat} {cs cs' cs2 news : List Value} {E2 : TypeId} {fz : Nat × Nat} {H' : Hp}
    (hx : ev L x = some (.slice (some ⟨gd, 0, none⟩) m cap) := by exact rfl) (hy : ev L y = some (.slice (some ⟨b, q, none⟩) m' mc) := by exact rfl) (hroom : m + m' ≤ cap := by ((first | omega | assumption))) (hb : Has b (rowf cs2 E2 fz) H := by ((repeat (first | exact Has.here | apply Has.there))))
    (hnews : (cs2.drop q).take (m' * sz) = news := by ((first | assumption | (dsimp only [List.drop, List.take]; try exact rfl) | exact rfl))) (hl : news.length = m' * sz := by ((first | assumption | exact rfl | (simp; done)))) (h1 : news.all Value.oneCell' = true := by ((first | assumption | exact rfl))) (hu : Upd gd (row cs E) (row cs' E) H H' := by ((repeat (first | exact Upd.here | apply Upd.there)))) (hs : setL cs (m * sz) news = cs' := by ((first | assumption | (dsimp only [setL, List.set, Value.cells, List.toList_toArray]; try exact rfl) | exact rfl))) (hlt : m * sz + m' * sz ≤ cs.length := by ((first | omega | assumption)))
    (hc : cls k ⟨some d, .call ⟨.builtin .append, #[x, y], #[T, T]⟩, ty, pos, af, g⟩ = .eff [] := by exact rfl) (hn : d < n := by exact nle rfl)
    (h : R P ops Q cls w0 S n l ((d, .slice (some ⟨gd, 0, none⟩) (m + m') cap) :: L) D H' qs) : R1 P ops Q cls w0 S n k ⟨some d, .call ⟨.builtin .append, #[x, y], #[T, T]⟩, ty, pos, af, g⟩ l L D H qs := by
  refine R1.effStep hc hn fun a w hfr hst => ?_
  obtain ⟨i, z, e1, e2, e3, e4, e5⟩ := he.get
  subst e2
  have hbl := hb.st hst
  unfold Upd Take at hu
  obtain ⟨F, t1, t2⟩ := hu
  have s1 : St w0 S w ([(gd, row cs E)] :: F) := hst.perm (by simpa using t1)
  have hg : w.heap[gd]? = some (row cs E) := s1.sat (gd, row cs E) (by simp)
  have hnc : ∀ j v, news[j]? = some v → w.cell? ((⟨b, q, none⟩ : Addr).add j) = some v := by
    intro j v hv
    rw [Addr.add_mk, cell_of_row w b (q + j) cs2.toArray E2 fz hbl]
    rw [← hnews, List.getElem?_take] at hv
    split at hv
    · simpa [List.getElem?_drop] using hv
    · cases hv
  have hr := run_append_room (P := P) w T ty E i ht.und e1 gd m cap cs.toArray hg ⟨b, q, none⟩ m' mc news hl hnc (by simpa using h1) hroom (by simpa [hl] using hlt)
  have e6 : (cs.toArray.toList.take (m * i.size) ++ news ++ cs.toArray.toList.drop (m * i.size + news.length)) = cs' := by rw [← hs, setL_eq news cs _ (by omega)]
  rw [e6] at hr
  have hst' : St w0 S (w.setRow gd cs'.toArray) H' := (s1.setRow (by rw [← hs, length_setL])).perm (by simpa using t2.symm)
  have : (execOp a.eval ⟨some d, .call ⟨.builtin .append, #[x, y], #[T, T]⟩, ty, pos, af, g⟩).run P w = .ok (.value (.slice (some ⟨gd, 0, none⟩) (m + m') cap)) (w.setRow gd cs'.toArray) := by
    simp [execOp, resolve, invoke, Go.builtin, hfr.eval hx, hfr.eval hy, hr]
  simp only [OpOk, this]
  exact ⟨H', hst', (by intro _ _ h; cases h), h⟩
/-- a slice without elements appended -/
theorem R.append0 {T E sz : Nat} [ht : SliceT P T E sz] {x y : Operand} {p p2 : Option Addr} {m cap mc : Nat}
    (hx : ev L x = some (.slice p m cap) := by exact rfl) (hy : ev L y = some (.slice p2 0 mc) := by exact rfl) (hroom : m ≤ cap := by ((first | omega | assumption)))
    (hc : cls k ⟨some d, .call ⟨.builtin .append, #[x, y], #[T, T]⟩, ty, pos, af, g⟩ = .eff [] := by exact rfl) (hn : d < n := by exact nle rfl)
    (h : R P ops Q cls w0 S n l ((d, .slice p m cap) :: L) D H qs) : R1 P ops Q cls w0 S n k ⟨some d, .call ⟨.builtin .append, #[x, y], #[T, T]⟩, ty, pos, af, g⟩ l L D H qs := by
  refine R1.effStep hc hn fun a w hfr hst => ?_
  have hsz := ht.size w
  have : (execOp a.eval ⟨some d, .call ⟨.builtin .append, #[x, y], #[T, T]⟩, ty, pos, af, g⟩).run P w = .ok (.value (.slice p m cap)) w := by
    cases p <;> cases p2 <;> simp [execOp, resolve, invoke, Go.builtin, hfr.eval hx, hfr.eval hy, Builtin.append_, run_underlying ht.und, hsz, Builtin.lenOf, Builtin.firstCells, hroom, loadCells, loadCellsFrom, storeCells]
  simp only [OpOk, this]
  exact ⟨H, hst, (by intro _ _ h; cases h), h⟩
/-- append(s[:i], make(S, j)...) beyond the room: a new row; the old one stays -/
theorem R.appendZ {T TI E sz bytes : Nat} {kn kk : IntKind} {zs : List Value} [ht : SliceT P T E sz] [hti : IntT P TI kn] [he : ElemT P E sz bytes zs] {x y : Operand} {gd m cap j : Nat} {v : Int} {cs : List Value} {fz : Nat × Nat}
    (hx : ev L x = some (.slice (some ⟨gd, 0, none⟩) m cap) := by exact rfl) (hy : ev L y = some (.int kk v) := by exact rfl) (hv : v = (j : Int) := by ((first | assumption | exact rfl))) (hroom : cap < m + j := by ((first | omega | assumption))) (hb : Has gd (rowf cs E fz) H := by ((repeat (first | exact Has.here | apply Has.there))))
    (hlt : m * sz ≤ cs.length := by ((first | omega | assumption))) (hz : zs.length = sz := by exact rfl) (hz0 : 0 < sz := by ((exact nle rfl))) (hj0 : 0 < j := by ((first | omega | assumption))) (hmax : m + j ≤ maxLen := by ((simp only [maxLen]; omega))) (hmc : m ≤ cap := by ((first | omega | assumption))) (hby : (m + j) * bytes ≤ 140737488355328 := by ((first | omega | assumption)))
    (hc : cls k ⟨some d, .call ⟨.builtin .append, #[x, y], #[T, TI]⟩, ty, pos, af, g⟩ = .eff [] := by exact rfl) (hn : d < n := by exact nle rfl)
    (h : ∀ b' cap' rest, (cs.take (m * sz) ++ zrep j zs).length + rest.length = cap' * sz → m + j ≤ cap' → cap' ≤ maxLen →
      R P ops Q cls w0 S n l ((d, .slice (some ⟨b', 0, none⟩) (m + j) cap') :: L) D ([(b', row ((cs.take (m * sz) ++ zrep j zs) ++ rest) E)] :: H) qs) :
    R1 P ops Q cls w0 S n k ⟨some d, .call ⟨.builtin .append, #[x, y], #[T, TI]⟩, ty, pos, af, g⟩ l L D H qs := by
  refine R1.effStep hc hn fun a w hfr hst => ?_
  subst hv
  obtain ⟨i, z, e1, e2, e3, e4, e5⟩ := he.get
  subst e2 e3
  have hbl := hb.st hst
  have h63 : ¬ (9223372036854775807 < (m : Int) + (j : Int)) := by simp only [maxLen] at hmax; omega
  have hw : IntKind.i64.wrap (j : Int) = j := by rw [wrap_i64]; simp only [maxLen] at hmax; omega
  have hneg : ¬ ((j : Int) < 0) := by omega
  have hfit := growslice_fits (need := m + j) (old := cap) (by omega) hby
  have hfit' : ¬ (281474976710656 < Builtin.nextslicecap (m + j) cap * i.bytes) := by omega
  have h48i : ¬ (281474976710656 < (j : Int) * (i.bytes : Int)) := by
    have : j * i.bytes ≤ (m + j) * i.bytes := Nat.mul_le_mul_right _ (by omega)
    rw [← Int.natCast_mul]
    omega
  have hold : ∀ q u, (cs.take (m * i.size))[q]? = some u → w.cell? ((⟨gd, 0, none⟩ : Addr).add q) = some u := by
    intro q u hu
    rw [Addr.add_mk, Nat.zero_add, cell_of_row w gd q cs.toArray E fz hbl]
    rw [List.getElem?_take] at hu
    split at hu
    · simpa using hu
    · cases hu
  have hf := run_firstCells_some (P := P) w.drew i.size m ⟨gd, 0, none⟩ m cap (cs.take (m * i.size)) (by simp; omega) (by intro q u hu; exact hold q u hu)
  have hns : ¬ (j * i.size = 0) := Nat.mul_ne_zero (by omega) (by omega)
  have hnr : ¬ (m + j ≤ cap) := by omega
  have hzc : ∀ q, (Builtin.zeroCells z.cells q) = (zrep q zs).toArray := by
    intro q
    have := zero_row q zs (by omega)
    rw [Builtin.zeroCells, e5]
    have e6 : q * zs.toArray.size = q * zs.length := by simp
    rw [e6, this]
  have hrun : (Builtin.append_ #[T, TI] ty #[.slice (some ⟨gd, 0, none⟩) m cap, .int kk j]).run P w =
      .ok (.slice (some ⟨w.heap.size, 0, none⟩) (m + j) (grownCap w (m + j) cap E)) (w.drew.alloc (row ((cs.take (m * i.size) ++ zrep j zs) ++ zrep (grownCap w (m + j) cap E - (m + j)) zs) E)) := by
    simp [Builtin.append_, run_underlying ht.und, run_underlying hti.und, sizeOf, typeInfo, zeroValue, e1, e4, asInt, asIntOf, hw, hneg, hns, h63, hfit', h48i, hnr, Question.forced, hf, newRow, grownCap, hzc, row, List.append_assoc]
  have : (execOp a.eval ⟨some d, .call ⟨.builtin .append, #[x, y], #[T, TI]⟩, ty, pos, af, g⟩).run P w = .ok (.value (.slice (some ⟨w.heap.size, 0, none⟩) (m + j) (grownCap w (m + j) cap E))) (w.drew.alloc (row ((cs.take (m * i.size) ++ zrep j zs) ++ zrep (grownCap w (m + j) cap E - (m + j)) zs) E)) := by
    simp [execOp, resolve, invoke, Go.builtin, hfr.eval hx, hfr.eval hy, hrun]
  simp only [OpOk, this]
  have hge := grownCap_ge w (m + j) cap E
  refine ⟨_, hst.allocDrew _, (by intro _ _ h; cases h), h w.heap.size (grownCap w (m + j) cap E) (zrep (grownCap w (m + j) cap E - (m + j)) zs) ?_ hge (grownCap_le_maxLen w (m + j) cap E hmax)⟩
  simp only [List.length_append, List.length_take, zrep_length, hz]
  rw [Nat.min_eq_left hlt, ← Nat.add_mul, ← Nat.add_mul]
  congr 1; omega
/-- where a cut begins: at the room's very end the address stays -/
def cutA (a : Option Addr) (i cap sz : Nat) : Option Addr := if cap = i then a else a.map (·.add (i * sz))
theorem R.sliceLHx {T E sz : Nat} [ht : SliceT P T E sz] {x y z : Operand} {p : Option Addr} {len cap i m : Nat} {ky kz : IntKind} {a b : Int} (hx : ev L x = some (.slice p len cap) := by exact rfl) (hy : ev L y = some (.int ky a) := by exact rfl) (hz : ev L z = some (.int kz b) := by exact rfl)
    (hb : 0 ≤ a ∧ a ≤ b ∧ b ≤ (cap : Int) := by ((first | omega | (constructor <;> omega) | (refine ⟨?_, ?_, ?_⟩ <;> omega) | (refine ⟨?_, ?_, ?_, ?_⟩ <;> omega)))) (hi : a.toNat = i := by ((first | (with_reducible exact Int.toNat_natCast _) | assumption | exact rfl))) (hm : b.toNat = m := by ((first | (with_reducible exact Int.toNat_natCast _) | assumption | exact rfl))) (hc : cls k ⟨some d, .slice T x (some y) (some z) none, ty, pos, af, g⟩ = .pure := by exact rfl) (hn : d < n := by exact nle rfl)
    (h : R P ops Q cls w0 S n l ((d, .slice (cutA p i cap sz) (m - i) (cap - i)) :: L) D H qs) : R1 P ops Q cls w0 S n k ⟨some d, .slice T x (some y) (some z) none, ty, pos, af, g⟩ l L D H qs :=
  R1.pureStep hc rfl hn (fun ac hf w => by
    obtain ⟨h1, h2, h3⟩ := hb
    have e1 : (b.toNat : Int) = b := Int.toNat_of_nonneg (by omega)
    have h5 : 0 ≤ b := by omega
    have hr : (Instr.sliceBounds true len cap (some (.int ky a)) (some (.int kz b)) none).run P w = .ok (i, m, cap) w := by
      subst hi hm
      simp [Instr.sliceBounds, run_sliceBound, h1, h2, h3, e1, h5]
    have := run_sliceAtS (P := P) (T := T) (a := p) hr
    simp [execOp, hf.eval hx, hf.eval hy, hf.eval hz, this, cutA]) h
theorem R.sliceLx {T E sz : Nat} [ht : SliceT P T E sz] {x y : Operand} {p : Option Addr} {len cap i : Nat} {ky : IntKind} {a : Int} (hx : ev L x = some (.slice p len cap) := by exact rfl) (hy : ev L y = some (.int ky a) := by exact rfl)
    (hb : 0 ≤ a ∧ a ≤ (len : Int) ∧ len ≤ cap := by ((first | omega | (constructor <;> omega) | (refine ⟨?_, ?_, ?_⟩ <;> omega) | (refine ⟨?_, ?_, ?_, ?_⟩ <;> omega)))) (hi : a.toNat = i := by ((first | (with_reducible exact Int.toNat_natCast _) | assumption | exact rfl))) (hc : cls k ⟨some d, .slice T x (some y) none none, ty, pos, af, g⟩ = .pure := by exact rfl) (hn : d < n := by exact nle rfl)
    (h : R P ops Q cls w0 S n l ((d, .slice (cutA p i cap sz) (len - i) (cap - i)) :: L) D H qs) : R1 P ops Q cls w0 S n k ⟨some d, .slice T x (some y) none none, ty, pos, af, g⟩ l L D H qs :=
  R1.pureStep hc rfl hn (fun ac hf w => by
    obtain ⟨h1, h2, h3⟩ := hb
    have hr : (Instr.sliceBounds true len cap (some (.int ky a)) none none).run P w = .ok (i, len, cap) w := by
      simp [Instr.sliceBounds, run_sliceBound, h1, h2, hi]
    have := run_sliceAtS (P := P) (T := T) (a := p) hr
    simp [execOp, hf.eval hx, hf.eval hy, this, cutA]) h
/-- two slices over two rows do not overlap -/
theorem run_overlaps {w : World} {tS tR e : TypeId} (ht : P.underlying tS = some (.slice e)) {size : Nat} (hz : ∀ w, (Go.sizeOf e).run P w = .ok size w)
    {ba oa la ca bb ob lb cb : Nat} {csa csb : List Value} {tA tB : TypeId} (hne : ba ≠ bb) (ha : w.heap[ba]? = some (row csa tA)) (hb : w.heap[bb]? = some (row csb tB)) (hlen : csb.length ≠ 0) :
    (Extern.SlicesOverlaps.overlaps #[tS, tS] #[tR] #[.slice (some ⟨ba, oa, none⟩) la ca, .slice (some ⟨bb, ob, none⟩) lb cb]).run P w = .ok (.bool false) w := by
  have hsa : w.shape? ba = some (tA, csa.length) := by simp [World.shape?, ha, row]
  have hsb : w.shape? bb = some (tB, csb.length) := by simp [World.shape?, hb, row]
  have hfa : ∀ o, w.frozen? ⟨ba, o, none⟩ = false := fun o => by simp [World.frozen?, ha, row]
  have hnb : (ba != bb) = true := by simpa using hne
  have hnb' : (ba == bb) = false := by simpa using hne
  change Sem.run P (α := Value) (do
    let some t := (#[tS, tS] : Array TypeId)[0]? | stuck "slices.overlaps: no parameter types"
    let .slice elem ← underlying t | stuck "slices.overlaps: slice type expected"
    let size ← sizeOf elem
    match (some ⟨ba, oa, none⟩ : Option Addr), (some ⟨bb, ob, none⟩ : Option Addr) with
    | some a, some b =>
      if la = 0 ∨ lb = 0 ∨ size = 0 then pure (Value.bool false)
      else if a.block != b.block && (← frozen a) && (← frozen b) then unsupported .addressObserved
      else do
        if a.block != b.block then do
          noView a; noView b
          if ← mayBeOne a b then return Value.bool ((← choose _) == 1)
        pure (Value.bool (a.block == b.block && a.off < b.off + lb * size && b.off < a.off + la * size))
    | _, _ => pure (Value.bool false)) w = _
  by_cases h0 : la = 0 ∨ lb = 0 ∨ size = 0
  · simp [run_underlying ht, hz, h0]
  · cases hk : csb.length with
    | zero => exact absurd hk hlen
    | succ kB =>
      rw [hk] at hsb
      simp [run_underlying ht, hz, h0, hnb, hnb', frozen, noView, viewAt, mayBeOne, stringish, shape, Sem.run, hsa, hsb, hfa]
/-- a call that answers at once -/
theorem R.callE {f : FuncId} {as : List Operand} {aT : Array TypeId} {vs : List Value} {v : Value} (hargs : evs L as = some vs) (hrun : ∀ w, St w0 S w H → (callFunc f vs.toArray).run P w = .ok (.value v) w)
    (hc : cls k ⟨some d, .call ⟨.value (.func f), as.toArray, aT⟩, ty, pos, af, g⟩ = .eff []) (hn : d < n) (h : R P ops Q cls w0 S n l ((d, v) :: L) D H qs) :
    R1 P ops Q cls w0 S n k ⟨some d, .call ⟨.value (.func f), as.toArray, aT⟩, ty, pos, af, g⟩ l L D H qs := by
  refine R1.effStep hc hn fun a w hfr hst => ?_
  have h1 := hfr.evals hargs
  have := hrun w hst
  have : (execOp a.eval ⟨some d, .call ⟨.value (.func f), as.toArray, aT⟩, ty, pos, af, g⟩).run P w = .ok (.value v) w := by
    simp [execOp, resolve, Deferred.ofValue, Act.eval, invoke, h1, this]
  simp only [OpOk, this]
  exact ⟨H, hst, (by intro _ _ h; cases h), h⟩
end ops
end Go.SL
namespace Go.SL
open Go.RowKit
theorem St.permS {w w' : World} {S S' : List Nat} {H : Hp} (hs : ∀ k, k ∈ S ↔ k ∈ S') (h : St w S w' H) : St w S' w' H :=
  { h with
    own := fun k hk => (h.own k hk).imp (fun x => (hs k).1 x) id
    frame := fun b hb hn => h.frame b hb (fun hh => hn ((hs b).1 hh)) }
theorem keys_perm {H H2 : Hp} (hp : H.flatten.Perm H2.flatten) (k : Nat) : k ∈ keys H ↔ k ∈ keys H2 := (hp.map _).mem_iff
theorem Ct.permH {P : Program} {f : FuncId} {args : List Value} {H H2 : Hp} {R : Value → Hp → Prop} (h : Ct P f args H2 R) (hp : H.flatten.Perm H2.flatten) : Ct P f args H R := by
  unfold Ct at h ⊢
  intro w hw
  have h1 : St w (keys H2) w H2 := (hw.perm hp).permS (keys_perm hp)
  refine (h w h1).mono fun e w' ⟨v, H', e1, e2, e3⟩ => ⟨v, H', e1, e2, e3.permS fun k => (keys_perm hp k).symm⟩
theorem Ct.convP {P : Program} {f : FuncId} {args : List Value} {H H2 : Hp} {R R2 : Value → Hp → Prop} (h : Ct P f args H2 R2) (he : H.flatten.Perm H2.flatten)
    (hr : ∀ v H', R2 v H' → ∃ H'', R v H'' ∧ H'.flatten.Perm H''.flatten) : Ct P f args H R := by
  have h1 : Ct P f args H2 R := Ct.conv h rfl hr
  exact h1.permH he
theorem CtQ.convP {P : Program} {f : FuncId} {args : List Value} {H H2 : Hp} {v : Value} (h : CtQ P f args H2 v) (he : H.flatten.Perm H2.flatten) : CtQ P f args H v :=
  Ct.convP h he fun _ _ ⟨h1, h2⟩ => ⟨H, ⟨h1, rfl⟩, by rw [h2]; exact he.symm⟩
/-- a contract that holds of a deferred call too -/
def Cb (P : Program) (f : FuncId) (args : List Value) (H : Hp) (R : Value → Hp → Prop) : Prop := Ct P f args H R ∧ Cd P f args H R
theorem Cd.permH {P : Program} {f : FuncId} {args : List Value} {H H2 : Hp} {R : Value → Hp → Prop} (h : Cd P f args H2 R) (hp : H.flatten.Perm H2.flatten) : Cd P f args H R := by
  unfold Cd at h ⊢
  intro u w hw
  have h1 : St w (keys H2) w H2 := (hw.perm hp).permS (keys_perm hp)
  exact (h u w h1).mono fun e u' w' ⟨hu, v, H', e1, e2, e3⟩ => ⟨hu, v, H', e1, e2, e3.permS fun k => (keys_perm hp k).symm⟩
theorem Cd.conv {P : Program} {f : FuncId} {args : List Value} {H H2 : Hp} {R R2 : Value → Hp → Prop} (h : Cd P f args H2 R2) (he : H.flatten.Perm H2.flatten)
    (hr : ∀ v H', R2 v H' → ∃ H'', R v H'' ∧ H'.flatten.Perm H''.flatten) : Cd P f args H R := by
  have h2 : Cd P f args H2 R := by
    unfold Cd at h ⊢
    intro u w hw
    refine (h u w hw).mono fun e u' w' ⟨hu, v, H', e1, e2, e3⟩ => ?_
    obtain ⟨H'', h4, h5⟩ := hr v H' e2
    exact ⟨hu, v, H'', e1, h4, e3.perm h5⟩
  exact h2.permH he
theorem Cb.conv {P : Program} {f : FuncId} {args : List Value} {H H2 : Hp} {R R2 : Value → Hp → Prop} (h : Cb P f args H2 R2) (he : H.flatten.Perm H2.flatten)
    (hr : ∀ v H', R2 v H' → ∃ H'', R v H'' ∧ H'.flatten.Perm H''.flatten) : Cb P f args H R := ⟨Ct.convP h.1 he hr, Cd.conv h.2 he hr⟩
theorem Cb.mono {P : Program} {f : FuncId} {args : List Value} {H : Hp} {R R' : Value → Hp → Prop} (h : Cb P f args H R) (hr : ∀ v H', R v H' → R' v H') : Cb P f args H R' := h.conv (.refl _) fun v H' hh => ⟨H', hr v H' hh, .refl _⟩
theorem Cb.intro {P : Program} {f : FuncId} {fn : Func} {c : Code} {n : Nat} {args : List Value} {H : Hp} {R : Value → Hp → Prop} (hf : P.funcs[f]? = some fn) (hb : fn.body = some c) (ht : fn.ntmps = n) (hn : args.length ≤ n)
    (h : ∀ w0, G P (bodyPost P fn (Post w0 (keys H) R)) w0 (keys H) n c (argSlots 0 args) [] H) : Cb P f args H R := ⟨Ct.intro hf hb ht hn h, Cd.intro hf hb ht hn h⟩
section ops
variable {P : Program} {ops : Array Oper} {Q : Exit → Act → World → Prop} {cls : Nat → Oper → Cls} {w0 : World} {S : List Nat} {n : Nat}
variable {k : Nat} {l : List (Nat × Oper)} {L : Slots} {D : List Deferred} {H H2 : Hp} {qs : List Rd}
/-- the heap cut in another way -/
theorem R.recut (hp : H.flatten.Perm H2.flatten) (h : R P ops Q cls w0 S n l L D H2 qs) : R P ops Q cls w0 S n l L D H qs := by
  unfold R at h ⊢
  exact fun hl a hf hD => (h hl a hf hD).perm hp.symm
theorem R1.recut {o : Oper} (hp : H.flatten.Perm H2.flatten) (h : R1 P ops Q cls w0 S n k o l L D H2 qs) : R1 P ops Q cls w0 S n k o l L D H qs := by
  unfold R1 at h ⊢
  exact fun hl a hf hD hw => (h hl a hf hD hw).perm hp.symm
theorem Dn.recut {e : Exit} (hp : H.flatten.Perm H2.flatten) (h : Dn Q w0 S n e L D H2) : Dn Q w0 S n e L D H := by
  unfold Dn at h ⊢
  exact fun a w hf hD hw => h a w hf hD (hw.perm hp)
theorem G.recut {c : Code} (hp : H.flatten.Perm H2.flatten) (h : G P Q w0 S n c L D H2) : G P Q w0 S n c L D H := by
  unfold G at h ⊢
  exact fun a w hf hD hw => h a w hf hD (hw.perm hp)
theorem join_perm {c1 c2 : Chunk} {Ha Hb : Hp} (h1 : Take c1 H Ha) (h2 : Take c2 Ha Hb) : H.flatten.Perm (((c1 ++ c2) :: Hb).flatten) := by
  unfold Take at h1 h2
  simp only [List.flatten_cons, List.append_assoc]
  exact h1.trans (List.Perm.append_left c1 h2)
/-- two chunks put together -/
theorem R1.join {o : Oper} {c1 c2 : Chunk} {Ha Hb : Hp} (h1 : Take c1 H Ha) (h2 : Take c2 Ha Hb) (h : R1 P ops Q cls w0 S n k o l L D ((c1 ++ c2) :: Hb) qs) : R1 P ops Q cls w0 S n k o l L D H qs := R1.recut (join_perm h1 h2) h
theorem R.join {c1 c2 : Chunk} {Ha Hb : Hp} (h1 : Take c1 H Ha) (h2 : Take c2 Ha Hb) (h : R P ops Q cls w0 S n l L D ((c1 ++ c2) :: Hb) qs) : R P ops Q cls w0 S n l L D H qs := R.recut (join_perm h1 h2) h
theorem Dn.join {e : Exit} {c1 c2 : Chunk} {Ha Hb : Hp} (h1 : Take c1 H Ha) (h2 : Take c2 Ha Hb) (h : Dn Q w0 S n e L D ((c1 ++ c2) :: Hb)) : Dn Q w0 S n e L D H := Dn.recut (join_perm h1 h2) h
theorem G.join {c : Code} {c1 c2 : Chunk} {Ha Hb : Hp} (h1 : Take c1 H Ha) (h2 : Take c2 Ha Hb) (h : G P Q w0 S n c L D ((c1 ++ c2) :: Hb)) : G P Q w0 S n c L D H := G.recut (join_perm h1 h2) h
variable {d : Nat} {ty : TypeId} {pos : String} {af : Array Edge} {g : Option (Nat × Bool)}
/-- an array cut behind a place -/
theorem R.sliceAL {T m E sz : Nat} [ho : ArrT P T m E sz] {x y : Operand} {b p i : Nat} {ky : IntKind} {a : Int} (hx : ev L x = some (.pointer (some ⟨b, p, none⟩)) := by exact rfl) (hy : ev L y = some (.int ky a) := by exact rfl)
    (hb : 0 ≤ a ∧ a < (m : Int) := by ((first | omega | (constructor <;> omega) | (refine ⟨?_, ?_, ?_⟩ <;> omega) | (refine ⟨?_, ?_, ?_, ?_⟩ <;> omega)))) (hi : a.toNat = i := by ((first | (with_reducible exact Int.toNat_natCast _) | assumption | exact rfl))) {q : Nat} (hq : p + i * sz = q := by ((first | exact ad1 _ | exact ad4 _ _ | exact Nat.zero_add _ | exact Nat.add_zero _ | exact ad2 _ _ | exact ad3 _ _ | (simp only [Nat.reduceAdd]; done) | exact rfl))) (hc : cls k ⟨some d, .slice T x (some y) none none, ty, pos, af, g⟩ = .pure := by exact rfl) (hn : d < n := by exact nle rfl)
    (h : R P ops Q cls w0 S n l ((d, .slice (some ⟨b, q, none⟩) (m - i) (m - i)) :: L) D H qs) : R1 P ops Q cls w0 S n k ⟨some d, .slice T x (some y) none none, ty, pos, af, g⟩ l L D H qs :=
  R1.pureStep hc rfl hn (fun ac hf w => by
    obtain ⟨h1, h2⟩ := hb
    have hr : (Instr.sliceBounds false m m (some (.int ky a)) none none).run P w = .ok (i, m, m) w := by
      subst hi
      have : a ≤ (m : Int) := by omega
      simp [Instr.sliceBounds, run_sliceBound, h1, this]
    have h3 : ¬ m = i := by omega
    simp [execOp, hf.eval hx, hf.eval hy, Instr.sliceAt, run_underlying ho.und, Instr.sureAddr, hr, ho.size, h3, Addr.add_mk, hq]) h
/-- an array cut at its end: nothing -/
theorem R.sliceALx {T m E sz : Nat} [ho : ArrT P T m E sz] {x y : Operand} {b p : Nat} {ky : IntKind} {a : Int} (hx : ev L x = some (.pointer (some ⟨b, p, none⟩)) := by exact rfl) (hy : ev L y = some (.int ky a) := by exact rfl)
    (hb : a = (m : Int) := by ((omega))) (hc : cls k ⟨some d, .slice T x (some y) none none, ty, pos, af, g⟩ = .pure := by exact rfl) (hn : d < n := by exact nle rfl)
    (h : R P ops Q cls w0 S n l ((d, .slice (some ⟨b, p, none⟩) 0 0) :: L) D H qs) : R1 P ops Q cls w0 S n k ⟨some d, .slice T x (some y) none none, ty, pos, af, g⟩ l L D H qs :=
  R1.pureStep hc rfl hn (fun ac hf w => by
    subst hb
    have hr : (Instr.sliceBounds false m m (some (.int ky (m : Int))) none none).run P w = .ok (m, m, m) w := by
      simp [Instr.sliceBounds, run_sliceBound]
    simp [execOp, hf.eval hx, hf.eval hy, Instr.sliceAt, run_underlying ho.und, Instr.sureAddr, hr, ho.size]) h
/-- an array's first ones -/
theorem R.sliceAH {T m E sz : Nat} [ho : ArrT P T m E sz] {x y : Operand} {b p i : Nat} {ky : IntKind} {a : Int} (hx : ev L x = some (.pointer (some ⟨b, p, none⟩)) := by exact rfl) (hy : ev L y = some (.int ky a) := by exact rfl)
    (hb : 0 ≤ a ∧ a ≤ (m : Int) := by ((first | omega | (constructor <;> omega) | (refine ⟨?_, ?_, ?_⟩ <;> omega) | (refine ⟨?_, ?_, ?_, ?_⟩ <;> omega)))) (hi : a.toNat = i := by ((first | (with_reducible exact Int.toNat_natCast _) | assumption | exact rfl))) (hc : cls k ⟨some d, .slice T x none (some y) none, ty, pos, af, g⟩ = .pure := by exact rfl) (hn : d < n := by exact nle rfl)
    (h : R P ops Q cls w0 S n l ((d, .slice (some ⟨b, p, none⟩) i m) :: L) D H qs) : R1 P ops Q cls w0 S n k ⟨some d, .slice T x none (some y) none, ty, pos, af, g⟩ l L D H qs :=
  R1.pureStep hc rfl hn (fun ac hf w => by
    obtain ⟨h1, h2⟩ := hb
    have hr : (Instr.sliceBounds false m m none (some (.int ky a)) none).run P w = .ok (0, i, m) w := by
      subst hi
      simp [Instr.sliceBounds, run_sliceBound, h1, h2]
    simp [execOp, hf.eval hx, hf.eval hy, Instr.sliceAt, run_underlying ho.und, Instr.sureAddr, hr, ho.size, addr_add_zero]) h
/-- a call put off -/
theorem R.defer {f : FuncId} {as : List Operand} {aT : Array TypeId} {vs : List Value} (hargs : evs L as = some vs := by exact rfl) (hc : cls k ⟨none, .defer ⟨.value (.func f), as.toArray, aT⟩, ty, pos, af, g⟩ = .defer := by exact rfl)
    (h : R P ops Q cls w0 S n l L (⟨.fn (.func f) #[], vs.toArray⟩ :: D) H qs) : R1 P ops Q cls w0 S n k ⟨none, .defer ⟨.value (.func f), as.toArray, aT⟩, ty, pos, af, g⟩ l L D H qs :=
  R1.deferStep hc rfl (fun a hf w => by
    have h1 := hf.evals hargs
    simp [execOp, resolve, Deferred.ofValue, Act.eval, h1]) h
/-- .. of a function value -/
theorem R.deferV {f : FuncId} {x : Operand} {as : List Operand} {aT : Array TypeId} {fs vs us : List Value} (hx : ev L x = some (.func (.func f) fs.toArray us.toArray) := by exact rfl) (hargs : evs L as = some vs := by exact rfl) (hc : cls k ⟨none, .defer ⟨.value x, as.toArray, aT⟩, ty, pos, af, g⟩ = .defer := by exact rfl)
    (h : R P ops Q cls w0 S n l L (⟨.fn (.func f) us.toArray, (fs ++ vs).toArray⟩ :: D) H qs) : R1 P ops Q cls w0 S n k ⟨none, .defer ⟨.value x, as.toArray, aT⟩, ty, pos, af, g⟩ l L D H qs :=
  R1.deferStep hc rfl (fun a hf w => by
    have h1 := hf.evals hargs
    simp [execOp, resolve, Deferred.ofValue, hf.eval hx, h1]) h
theorem run_invokeF {f : FuncId} [hf : Callable P f] {us args : List Value} (w : World) : (invoke (.fn (.func f) us.toArray) args.toArray).run P w = .ok (.enter f (args ++ us).toArray) w := by
  simp [invoke, hf.run]
/-- a deferred call is made -/
theorem Lv.call {fn : Func} {R : Value → Hp → Prop} {f : FuncId} (hf : Callable P f := by exact inferInstance) {us args : List Value} {ds : List Deferred} {Hf F : Hp} {Rf : Value → Hp → Prop} (hc : Cd P f (args ++ us) Hf Rf) (hs : Split H Hf F := by repeat (first | exact Split.nil | (apply Split.cons; · (repeat (first | exact Take.here | apply Take.there | exact Take.nil)))))
    (h : ∀ v H2, Rf v H2 → Lv P fn w0 S n R ds L (H2 ++ F)) : Lv P fn w0 S n R (⟨.fn (.func f) us.toArray, args.toArray⟩ :: ds) L H := by
  unfold Split at hs
  have hs' : Split H Hf F := by unfold Split; exact hs
  exact Lv.cons (fun w => run_invokeF w) hc hs' h
theorem Lv.recut {fn : Func} {R : Value → Hp → Prop} {ds : List Deferred} (hp : H.flatten.Perm H2.flatten) (h : Lv P fn w0 S n R ds L H2) : Lv P fn w0 S n R ds L H := by
  unfold Lv at h ⊢
  exact fun a w hf hw => h a w hf (hw.perm hp)
/-- fewer chunks -/
theorem R1.shed {o : Oper} {F : Hp} {cr : List Nat} (hc : cls k o = .eff cr) (hs : Split H H2 F) (h : R1 P ops Q cls w0 S n k o l L D H2 []) : R1 P ops Q cls w0 S n k o l L D H [] := by
  unfold R1 at h ⊢
  intro hl a hf hD hw
  have h1 := h hl a hf hD hw
  unfold W at h1 ⊢
  have ho := hl _ List.mem_cons_self
  simp only [ho, hw, if_true, hc] at h1 ⊢
  exact fun w hst => h1 w (hst.sub hs)
end ops
end Go.SL
namespace Go.SL
open Go.RowKit
/-- a pointer type's method, with a pointer receiver -/
class Meth (P : Program) (T : TypeId) (name : String) (f : outParam FuncId) : Prop where
  run : ∀ a w, (Go.method (P.types.size + Made.depth) T (.pointer a) name).run P w = .ok (f, .pointer a) w
theorem Meth.of {P : Program} {T : TypeId} {name : String} {f : FuncId} [hp : PtrT P T]
    (h : (P.info? T).bind (fun i => (i.methods.find? (·.name == name)).map (fun m => (m.path.toList.length, m.func))) = some (0, some (f, true))) : Meth P T name f := ⟨fun a w => by
  cases hi : P.info? T with
  | none => simp [hi] at h
  | some i =>
    simp only [hi, Option.bind_some] at h
    cases hm : i.methods.find? (·.name == name) with
    | none => simp [hm] at h
    | some m =>
      simp only [hm, Option.map_some, Option.some.injEq, Prod.mk.injEq] at h
      obtain ⟨h1, h2⟩ := h
      have h3 : m.path.toList = [] := List.eq_nil_of_length_eq_zero h1
      have hd : P.types.size + Made.depth = (P.types.size + 99) + 1 := rfl
      rw [hd, Go.method]
      simp [typeInfo, hi, hm, h2, h3, Go.follow, Go.receiverAt, run_underlying hp.und, Go.Place.get]⟩
section ops
variable {P : Program} {ops : Array Oper} {Q : Exit → Act → World → Prop} {cls : Nat → Oper → Cls} {w0 : World} {S : List Nat} {n : Nat}
variable {k : Nat} {l : List (Nat × Oper)} {L : Slots} {D : List Deferred} {H : Hp} {qs : List Rd}
variable {d : Nat} {ty : TypeId} {pos : String} {af : Array Edge} {g : Option (Nat × Bool)}
theorem run_invoke {T : TypeId} {name : String} {f : FuncId} [hm : Meth P T name f] [hf : Callable P f] {x : Operand} {as : List Operand} {aT : Array TypeId} {vs : List Value} {p : Option Addr} {a : Act} (hfr : Fr n a L) (hx : ev L x = some (.iface T (.pointer p))) (hargs : evs L as = some vs) {dst : Option Tmp} (w : World) :
    (execOp a.eval ⟨dst, .call ⟨.invoke x name, as.toArray, aT⟩, ty, pos, af, g⟩).run P w = .ok (.enter f (.pointer p :: vs).toArray) w := by
  have h1 := hfr.evals hargs
  have h2 := hfr.eval hx
  have h3 := hm.run p w
  have e : ((#[Value.iface T (.pointer p)] ++ vs.toArray : Array Value).extract 1 (#[Value.iface T (.pointer p)] ++ vs.toArray).size) = vs.toArray := by
    apply Array.ext'; simp
  simp only [execOp, resolve, h2, List.map_toArray, h1, Sem.run_bind, Sem.run_pure, Result.andThen_ok, invoke]
  simp only [Array.getElem?_append_left, List.size_toArray, List.length_cons, List.length_nil, Nat.zero_add, Nat.lt_one_iff]
  have h4 : Sem.run P (method (P.types.size + 100) T (.pointer p) name) w = .ok (f, .pointer p) w := h3
  simp [e, callMethod, Made.depth, h4, hf.run]
theorem R.invoke {T : TypeId} {name : String} {f : FuncId} {x : Operand} {as : List Operand} {aT : Array TypeId} {vs : List Value} {p : Option Addr} {Hf F : Hp} {Rf : Value → Hp → Prop} (hx : ev L x = some (.iface T (.pointer p)) := by exact rfl) (hm : Meth P T name f := by exact inferInstance) (hf : Callable P f := by exact inferInstance) (hargs : evs L as = some vs := by exact rfl)
    (hct : Ct P f (.pointer p :: vs) Hf Rf) (hs : Split H Hf F := by repeat (first | exact Split.nil | (apply Split.cons; · (repeat (first | exact Take.here | apply Take.there | exact Take.nil))))) (hc : cls k ⟨some d, .call ⟨.invoke x name, as.toArray, aT⟩, ty, pos, af, g⟩ = .eff [] := by exact rfl) (hn : d < n := by exact nle rfl) (h : ∀ v H', Rf v H' → R P ops Q cls w0 S n l ((d, v) :: L) D (H' ++ F) qs) :
    R1 P ops Q cls w0 S n k ⟨some d, .call ⟨.invoke x name, as.toArray, aT⟩, ty, pos, af, g⟩ l L D H qs := by
  refine R1.effStep hc hn fun a w hfr hst => ?_
  unfold Split at hs
  have hst' : St w0 S w (Hf ++ F) := hst.perm hs
  simp only [OpOk, run_invoke hfr hx hargs]
  exact (hct.frame hst').mono fun e w' ⟨v, H', h1, h2, h3⟩ => ⟨v, h1, H' ++ F, h3, (by intro _ _ h; cases h), h v H' h2⟩
theorem R.invokeP {T : TypeId} {name : String} {f : FuncId} {x : Operand} {as : List Operand} {aT : Array TypeId} {vs : List Value} {p : Option Addr} {Hf F : Hp} {v : Value} (hx : ev L x = some (.iface T (.pointer p)) := by exact rfl) (hm : Meth P T name f := by exact inferInstance) (hf : Callable P f := by exact inferInstance) (hargs : evs L as = some vs := by exact rfl)
    (hct : CtQ P f (.pointer p :: vs) Hf v) (hs : Split H Hf F := by repeat (first | exact Split.nil | (apply Split.cons; · (repeat (first | exact Take.here | apply Take.there | exact Take.nil))))) (hc : cls k ⟨some d, .call ⟨.invoke x name, as.toArray, aT⟩, ty, pos, af, g⟩ = .eff [] := by exact rfl) (hn : d < n := by exact nle rfl) (h : R P ops Q cls w0 S n l ((d, v) :: L) D H qs) :
    R1 P ops Q cls w0 S n k ⟨some d, .call ⟨.invoke x name, as.toArray, aT⟩, ty, pos, af, g⟩ l L D H qs := by
  refine R1.effStep hc hn fun a w hfr hst => ?_
  unfold Split at hs
  have hst' : St w0 S w (Hf ++ F) := hst.perm hs
  simp only [OpOk, run_invoke hfr hx hargs]
  exact (hct.frame hst').mono fun e w' ⟨v', H', h1, ⟨h2, h3⟩, h4⟩ => ⟨v', h1, H, (by subst h3; exact h4.perm hs.symm), (by intro _ _ h; cases h), (by subst h2; exact h)⟩
theorem R.mkIface {T : TypeId} [ho : PtrT P T] {x : Operand} {p : Option Addr} (hx : ev L x = some (.pointer p) := by exact rfl) (hc : cls k ⟨some d, .makeInterface T x, ty, pos, af, g⟩ = .pure := by exact rfl) (hn : d < n := by exact nle rfl)
    (h : R P ops Q cls w0 S n l ((d, .iface T (.pointer p)) :: L) D H qs) : R1 P ops Q cls w0 S n k ⟨some d, .makeInterface T x, ty, pos, af, g⟩ l L D H qs :=
  R1.pureStep hc rfl hn (fun a hf w => by simp [execOp, hf.eval hx, Instr.makeInterface, run_underlying ho.und]) h
/-- a struct's value made into an interface's -/
theorem R.mkIfaceS {T : TypeId} {fs : Array Field} {x : Operand} {v : Value} (hx : ev L x = some v) (hu : P.underlying T = some (.struct fs)) (hc : cls k ⟨some d, .makeInterface T x, ty, pos, af, g⟩ = .pure) (hn : d < n)
    (h : R P ops Q cls w0 S n l ((d, .iface T v) :: L) D H qs) : R1 P ops Q cls w0 S n k ⟨some d, .makeInterface T x, ty, pos, af, g⟩ l L D H qs :=
  R1.pureStep hc rfl hn (fun a hf w => by simp [execOp, hf.eval hx, Instr.makeInterface, run_underlying hu]) h
end ops
end Go.SL
namespace Go.SL
section ops
variable {P : Program} {ops : Array Oper} {Q : Exit → Act → World → Prop} {cls : Nat → Oper → Cls} {w0 : World} {S : List Nat} {n : Nat}
variable {k : Nat} {l : List (Nat × Oper)} {L : Slots} {D : List Deferred} {H H2 : Hp} {qs : List Rd}
theorem open_perm {c c1 c2 : Chunk} {Ha : Hp} (h1 : Take c H Ha) (hp : c.Perm (c1 ++ c2)) : H.flatten.Perm ((c1 :: c2 :: Ha).flatten) := by
  unfold Take at h1
  simp only [List.flatten_cons]
  rw [← List.append_assoc]
  exact h1.trans (hp.append_right _)
theorem R1.open {o : Oper} {c c1 c2 : Chunk} {Ha : Hp} (hp : c.Perm (c1 ++ c2)) (h1 : Take c H Ha) (h : R1 P ops Q cls w0 S n k o l L D (c1 :: c2 :: Ha) qs) : R1 P ops Q cls w0 S n k o l L D H qs := R1.recut (open_perm h1 hp) h
theorem R.open {c c1 c2 : Chunk} {Ha : Hp} (hp : c.Perm (c1 ++ c2)) (h1 : Take c H Ha) (h : R P ops Q cls w0 S n l L D (c1 :: c2 :: Ha) qs) : R P ops Q cls w0 S n l L D H qs := R.recut (open_perm h1 hp) h
theorem Dn.open {e : Exit} {c c1 c2 : Chunk} {Ha : Hp} (hp : c.Perm (c1 ++ c2)) (h1 : Take c H Ha) (h : Dn Q w0 S n e L D (c1 :: c2 :: Ha)) : Dn Q w0 S n e L D H := Dn.recut (open_perm h1 hp) h
theorem G.open {x : Code} {c c1 c2 : Chunk} {Ha : Hp} (hp : c.Perm (c1 ++ c2)) (h1 : Take c H Ha) (h : G P Q w0 S n x L D (c1 :: c2 :: Ha)) : G P Q w0 S n x L D H := G.recut (open_perm h1 hp) h
end ops
end Go.SL
