/-
  From a walked law to its row: the answer is true, and every argument reads as it did. No condition.
-/
import Derived.Test.YtigenhcekepeaaaRows
import Derived.Test.YtigenhcekepeaaaInst
import Derived.ProofKit
import Derived.OpenShut
import Derived.Below
import Derived.Carry
namespace Go.Proofs.Ytigenhcekepeaaa
open Go.ChangeShapes Go.WideShapes Go.ChangeAt Go.RowKit Go.SL

theorem own : ownKnob Try.prog.godebug = none := by kernel_rfl
theorem laidOut : laidOutB Try.prog = true := by kernel_rfl

theorem below_of_st {W W' : World} {H : Hp} (h : St W [] W' H) : Below W.heap.size W W' :=
  ⟨h.os, h.tape, h.output, h.size, fun k hk => h.frame k hk (by simp)⟩

theorem trodAll_below {H : Type} {enc : TypeId × Value → H} {P : Program} {W W' : World} (hl : laidOutB P = true) (hb : Below W.heap.size W W') {sp : Nat → Bool} :
    ∀ (ts : List TypeId) (vs : List Value) (ds : List (DataW H)) (ps : List MemPlace), (∀ t ∈ ts, P.readableRec t = true ∧ t < P.types.size) →
      DataW.TrodAll enc P W 0 (fun _ => true) true ts vs ds ps → (∀ p ∈ ps, p.block < W.heap.size) → (∀ p ∈ ps, sp p.block = true) → DataW.TrodAll enc P W' 0 sp true ts vs ds ps
  | [], vs, ds, ps, _, h, _, _ => by
    cases vs <;> cases ds <;> simp [DataW.TrodAll] at h ⊢
    exact h
  | t :: ts, vs, ds, ps, hr, h, hlt, hsp => by
    obtain ⟨v, vs', d, ds', p, q, rfl, rfl, rfl, h0, r0⟩ := trodAll_cons h
    have h1 := WideElems.Trod_stays hl (hr t List.mem_cons_self).1 (hr t List.mem_cons_self).2 h0 (fun x hx => hb.same (hlt x (List.mem_append_left _ hx))) (fun x hx => hsp x (List.mem_append_left _ hx))
    exact trodAll_cons_mk h1 (trodAll_below hl hb ts vs' ds' q (fun t ht => hr t (List.mem_cons_of_mem _ ht)) r0 (fun x hx => hlt x (List.mem_append_right _ hx)) (fun x hx => hsp x (List.mem_append_right _ hx)))

theorem post_same {H : Type} {enc : TypeId × Value → H} {P : Program} {f : Func} {s : ChangeSpec} {apart fresh handsOn again : Bool} {W W' : World} {args : Array Value} {v : Value} {ds gs : List (DataW H)} {before pa pv : List MemPlace}
    (hW : DataW.Whole enc P f.params.toList s.vars apart W args.toList ds gs before)
    (hres : ∀ (b : Nat) (sp : Nat → Bool) (hd : Bool), DataW.TrodAll enc P W' b sp hd f.resultTypes.toList (v.resultList f.resultTypes.size) (s.fn H (ds ++ gs)).results [])
    (hargs : ∀ sp : Nat → Bool, (∀ p ∈ before, sp p.block = true) → DataW.TrodAll enc P W' 0 sp true f.params.toList args.toList (s.fn H (ds ++ gs)).args pa)
    (hvars : ∀ sp : Nat → Bool, (∀ p ∈ before, sp p.block = true) → DataW.TrodVars enc P W' sp s.vars (s.fn H (ds ++ gs)).vars pv)
    (hps : before = pa ++ pv) (hk : W.keptBut W' (· ∈ before)) (hfz : ∀ a : Addr, a.block < W.heap.size → W'.frozen? a = W.frozen? a)
    (hok : ∀ (j : Nat) (t : TypeId) (r : Value), f.resultTypes[j]? = some t → (v.resultList f.resultTypes.size)[j]? = some r → Value.okWide P W' .any 0 t r) :
    s.post enc P f apart fresh handsOn again W args v W' := by
  have hold : ∀ p ∈ before, (fun b => decide (b < W.heap.size)) p.block = true := fun p hp => by simpa using hW.lt p hp
  have hltb : ∀ p ∈ before, p.block < W.heap.size := fun p hp => hW.lt p hp
  refine ⟨ds, gs, before, [], pa, pv, hW, hres _ _ _, hargs _ hold, hvars _ hold, World.keptBut_mono (fun p hp => ⟨hp, ?_⟩) hk, fun _ => ?_⟩
  · rw [hps, List.mem_append] at hp
    exact Or.inr hp
  · obtain ⟨_, _, _, _, _, hz, hn⟩ := hW
    refine ⟨hok, _, _, ([] ++ pa) ++ pv, ⟨[] ++ pa, pv, trodAll_append (hargs _ (fun _ _ => rfl)) (hres _ _ _), hvars _ (fun _ _ => rfl), rfl, ?_, ?_⟩, ?_⟩
    · intro b off hp
      have hp' : MemPlace.cell b off ∈ before := by rw [hps]; simpa using hp
      rw [hfz _ (hltb _ hp')]
      exact hz b off hp'
    · intro ha
      have := hn ha
      rw [hps] at this
      simpa using this
    · intro p hp _
      rw [hps]
      simpa using hp

/-- what a law's row asks behind the call, once it has answered true and nothing that was there has turned -/
theorem lawPost {H : Type} {enc : TypeId × Value → H} {P : Program} {f : Func} {s : ChangeSpec} {b : TypeId} {W W' : World} {args : Array Value} {ds gs : List (DataW H)} {before : List MemPlace}
    (hW : DataW.Whole enc P f.params.toList s.vars false W args.toList ds gs before) (hv : s.vars = []) (hres : f.resultTypes = #[b]) (hb : P.underlying b = some .bool) (hl : laidOutB P = true)
    (hr : ∀ t ∈ f.params.toList, P.readableRec t = true ∧ t < P.types.size) (hfn : s.fn H (ds ++ gs) = { results := [.lit (.bool true)], args := ds }) (hbel : Below W.heap.size W W') :
    s.post enc P f false true false false W args (.bool true) W' := by
  have hW' := hW
  have hlt : ∀ p ∈ before, p.block < W.heap.size := fun p hp => hW'.lt p hp
  obtain ⟨p, q, hA, hV, rfl, hfz, hnd⟩ := hW
  rw [hv] at hV
  have hq : q = [] := by cases gs <;> simp [DataW.TrodVars] at hV; exact hV
  subst hq
  have hgs : gs = [] := by cases gs <;> simp [DataW.TrodVars] at hV ⊢
  subst hgs
  simp only [List.append_nil] at hW' hlt hfn
  refine post_same (pa := p) (pv := []) hW' ?_ ?_ ?_ (by simp) ?_ ?_ ?_
  · intro base sp hd
    simp only [List.append_nil, hfn, hres]
    exact trodAll_mk1 (shut_bool hb true)
  · intro sp hsp
    simp only [List.append_nil, hfn]
    exact trodAll_below hl hbel _ _ _ _ hr hA hlt hsp
  · intro sp _
    simp only [List.append_nil, hfn, hv]
    rfl
  · exact hbel.frame _
  · exact fun a ha => hbel.frozen ha
  · exact ok_one hres rfl (okWide_bool_mk hb true)

theorem st_nil (W : World) : St W (keys []) W [] :=
  ⟨by simp [keys], by simp, by simp [keys], fun _ _ _ => rfl, Nat.le_refl _, rfl, rfl, rfl⟩

/-- a law without memory of its own among its arguments -/
theorem law_calls {P : Program} {f : FuncId} {args : List Value} (h : CtQ P f args [] (.bool true)) (W : World) :
    Calls P f args.toArray W fun e W' => e = .returned (.bool true) ∧ Below W.heap.size W W' := by
  unfold CtQ Ct at h
  refine (h W (st_nil W)).mono fun e W' ⟨v, H', h1, ⟨h2, h3⟩, h4⟩ => ?_
  subst h2
  exact ⟨h1, below_of_st h4⟩

theorem cellInt {P : Program} {W : World} {base : Nat} {e : TypeId} {k : IntKind} {v : Value} (he : P.underlying e = some (.int k)) (h : Cell.okWide P W .any base e v) : ∃ n, v = .int k n ∧ k.has n = true := by
  simp only [Cell.okWide, he] at h
  cases v <;> simp_all [Cell.ok]

/-- an array of five ints -/
theorem open5 {P : Program} {W : World} {base : Nat} {T e : TypeId} {k : IntKind} {v : Value} (hu : P.underlying T = some (.array 5 e)) (hct : P.cellTypes P.depth T = some [e, e, e, e, e]) (hc : P.cellsOf T = 5)
    (he : P.underlying e = some (.int k)) (h : Value.okWide P W .any base T v) : ∃ a0 a1 a2 a3 a4, v = .agg #[.int k a0, .int k a1, .int k a2, .int k a3, .int k a4] := by
  simp only [Value.okWide, hu] at h
  obtain ⟨cs, rfl, hsz, ts, hts, _, hall⟩ := h
  rw [hct] at hts
  obtain rfl := Option.some.inj hts
  rw [hc] at hsz
  obtain ⟨l⟩ := cs
  match l, hsz with
  | [v0, v1, v2, v3, v4], _ =>
    have g : ∀ i v, ([v0, v1, v2, v3, v4] : List Value)[i]? = some v → i < 5 → ∃ n, v = .int k n := by
      intro i v hv hi
      obtain ⟨u, hu1, hu2⟩ := hall i v (by simpa using hv)
      have : u = e := by
        match i, hi with
        | 0, _ => exact (Option.some.inj hu1).symm
        | 1, _ => exact (Option.some.inj hu1).symm
        | 2, _ => exact (Option.some.inj hu1).symm
        | 3, _ => exact (Option.some.inj hu1).symm
        | 4, _ => exact (Option.some.inj hu1).symm
      subst this
      obtain ⟨n, hn, _⟩ := cellInt he hu2
      exact ⟨n, hn⟩
    obtain ⟨n0, rfl⟩ := g 0 v0 rfl (by omega)
    obtain ⟨n1, rfl⟩ := g 1 v1 rfl (by omega)
    obtain ⟨n2, rfl⟩ := g 2 v2 rfl (by omega)
    obtain ⟨n3, rfl⟩ := g 3 v3 rfl (by omega)
    obtain ⟨n4, rfl⟩ := g 4 v4 rfl (by omega)
    exact ⟨n0, n1, n2, n3, n4, rfl⟩

theorem uncons {α : Type} {l : List α} {n : Nat} (h : l.length = n + 1) : ∃ a t, l = a :: t ∧ t.length = n := by
  match l, h with
  | a :: t, h => exact ⟨a, t, rfl, by simpa using h⟩

/-- ints side by side -/
theorem openN {P : Program} {W : World} {base : Nat} {T e E : TypeId} {m n : Nat} {k : IntKind} {v : Value} (hu : P.underlying T = some (.array m E)) (hct : P.cellTypes P.depth T = some (List.replicate n e)) (hc : P.cellsOf T = n)
    (he : P.underlying e = some (.int k)) (h : Value.okWide P W .any base T v) : ∃ l : List Int, l.length = n ∧ v = .agg (l.map fun x => Value.int k x).toArray := by
  simp only [Value.okWide, hu] at h
  obtain ⟨cs, rfl, hsz, ts, hts, hm, hall⟩ := h
  rw [hct] at hts
  obtain rfl := Option.some.inj hts
  rw [hc] at hsz
  obtain ⟨l⟩ := cs
  have g : ∀ v ∈ l, ∃ x, v = Value.int k x := by
    intro v hv
    obtain ⟨i, hi, rfl⟩ := List.getElem_of_mem hv
    obtain ⟨u, hu1, hu2⟩ := hall i l[i] (by simp)
    obtain rfl := List.eq_of_mem_replicate (List.mem_of_getElem? hu1)
    obtain ⟨x, hx, _⟩ := cellInt he hu2
    exact ⟨x, hx⟩
  have : ∃ xs : List Int, l = xs.map fun x => Value.int k x := by
    clear hall hsz hm
    induction l with
    | nil => exact ⟨[], rfl⟩
    | cons v l ih =>
      obtain ⟨x, rfl⟩ := g v List.mem_cons_self
      obtain ⟨xs, rfl⟩ := ih fun v hv => g v (List.mem_cons_of_mem _ hv)
      exact ⟨x :: xs, rfl⟩
  obtain ⟨xs, rfl⟩ := this
  exact ⟨xs, by simpa using hsz, rfl⟩
end Go.Proofs.Ytigenhcekepeaaa
