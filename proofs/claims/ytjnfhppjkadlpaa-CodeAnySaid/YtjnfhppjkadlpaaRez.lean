/- Regions whose order is drawn and that hold operations that turn memory in NO fixed order among themselves: walked once, in the text's order. I says of the world what holds where these are done. Program-free; no condition. -/
import Derived.Test.YtjnfhppjkadlpaaMgB
namespace Go.Proofs.Ytjnfhppjkadlpaa.Reg
open Go Go.RowKit Go.Proofs.Ytjnfhppjkadlpaa.Sp
section
variable {P : Program} {ops : Array Oper} {Q : Exit → Act → World → Prop} {a0 : Act} {I : (Nat → Bool) → (Nat → Value) → World → Prop} {effs : List Nat} {E : Sig → Prop}
def dset (D : Nat → Bool) (i : Nat) : Nat → Bool := fun e => if e = i then true else D e
def AllowedZ (ops : Array Oper) (effs : List Nat) (i : Nat) (D : Nat → Bool) : Prop :=
  ∀ e ∈ effs, (((Region.before ops).getD i 0).testBit e = true → D e = true) ∧ (((Region.before ops).getD e 0).testBit i = true ∨ e = i → D e = false)
def StepZ (P : Program) (ops : Array Oper) (Q : Exit → Act → World → Prop) (a0 : Act) (I : (Nat → Bool) → (Nat → Value) → World → Prop) (effs : List Nat) (i : Nat) (o : Oper) (σ : Sig) (s : Spec) : Prop :=
  ∀ a w D, AllowedZ ops effs i D → I D (slotsOf a) w → a.defers = a0.defers → a.tmps.size = a0.tmps.size → (∀ t ∈ o.looksAt ops, t < a0.tmps.size → (σ t).holds (a.tmps.getD t undef) w) →
    wpOp P ops Q i (fun a' w' => ∃ v, a' = a.put o.dst v ∧ s.holds v w' ∧ ((i ∈ effs → I (dset D i) (slotsOf (a.put o.dst v)) w') ∧ (i ∉ effs → I D (slotsOf a) w'))) a w
def EndZ (Q : Exit → Act → World → Prop) (a0 : Act) (I : (Nat → Bool) → (Nat → Value) → World → Prop) (σ : Sig) : Prop :=
  ∀ a w, I (fun _ => true) (slotsOf a) w → a.defers = a0.defers → a.tmps.size = a0.tmps.size → (∀ t, t < a0.tmps.size → (σ t).holds (a.tmps.getD t undef) w) → Q .normal a w
def RZl (P : Program) (ops : Array Oper) (Q : Exit → Act → World → Prop) (a0 : Act) (I : (Nat → Bool) → (Nat → Value) → World → Prop) (effs : List Nat) (E : Sig → Prop) : List Oper → Nat → Sig → Prop
  | [], _, σ => E σ
  | o :: rest, i, σ => ∃ s, s.Free ∧ StepZ P ops Q a0 I effs i o σ s ∧ RZl P ops Q a0 I effs E rest (i + 1) (upd σ o.dst s)
theorem slotsOf_at (a : Act) (d : Nat) (v : Value) (h : d < a.tmps.size) : slotsOf (a.put (some d) v) d = v := by simp [slotsOf, Act.put, h]
theorem RZl.env : ∀ (l : List Oper) (i : Nat) (σ : Sig), RZl P ops Q a0 I effs E l i σ →
    ∃ es : List Spec, es.length = l.length ∧ (∀ m o s, l[m]? = some o → es[m]? = some s → s.Free ∧ StepZ P ops Q a0 I effs (i + m) o (sigF l es i (fun j => decide (j < i + m)) σ) s) ∧
      E (sigF l es i (fun _ => true) σ)
  | [], i, σ, h => ⟨[], rfl, by simp, h⟩
  | o :: rest, i, σ, ⟨s, hs, hstep, hrest⟩ => by
    obtain ⟨es, hl, hall, hend⟩ := RZl.env rest (i + 1) _ hrest
    refine ⟨s :: es, by simp [hl], ?_, by simpa [sigF] using hend⟩
    intro m o' s' ho hs'
    cases m with
    | zero =>
      simp at ho hs'
      subst ho; subst hs'
      have : ∀ (l : List Oper) (es : List Spec) (k : Nat) (τ : Sig), i ≤ k → sigF l es k (fun j => decide (j < i)) τ = τ := by
        intro l
        induction l with
        | nil => intro es k τ _; rfl
        | cons o l ih =>
          intro es k τ hk
          cases es with
          | nil => rfl
          | cons s es => simp only [sigF]; rw [if_neg (by simp; omega)]; exact ih es (k + 1) τ (by omega)
      refine ⟨hs, ?_⟩
      have e := this (o :: rest) (s :: es) i σ (Nat.le_refl _)
      simp only [Nat.add_zero]
      rw [e]; exact hstep
    | succ m =>
      have := hall m o' s' (by simpa using ho) (by simpa using hs')
      have e1 : i + (m + 1) = i + 1 + m := by omega
      rw [e1]
      refine ⟨this.1, ?_⟩
      have e2 : sigF (o :: rest) (s :: es) i (fun j => decide (j < i + 1 + m)) σ = sigF rest es (i + 1) (fun j => decide (j < i + 1 + m)) (upd σ o.dst s) := by
        simp only [sigF]; rw [if_pos (by simp; omega)]
      rw [e2]; exact this.2

def effsOkZ (ops : Array Oper) (effs : List Nat) : Bool :=
  (effs.all fun e => decide (e < ops.size)) &&
  ((List.range ops.size).all fun i => effs.all fun e => !((Region.before ops).getD i 0).testBit e || decide (e < i)) &&
  (effs.all fun e => (List.range ops.size).all fun i => !((Region.before ops).getD e 0).testBit i || decide (i < e)) &&
  (effs.all fun e => match (ops[e]?).bind (·.dst) with | none => true | some d => (List.range ops.size).all fun i => i == e || (ops[i]?).bind (·.dst) != some d)
structure EffsOkZ (ops : Array Oper) (effs : List Nat) : Prop where
  size : ∀ e ∈ effs, e < ops.size
  bef : ∀ i e, i < ops.size → e ∈ effs → ((Region.before ops).getD i 0).testBit e = true → e < i
  ahead : ∀ e ∈ effs, ∀ i, i < ops.size → ((Region.before ops).getD e 0).testBit i = true → i < e
  uniq : ∀ e ∈ effs, ∀ d, (ops[e]?).bind (·.dst) = some d → ∀ i, i < ops.size → (ops[i]?).bind (·.dst) = some d → i = e
theorem effsOkZ_spec (h : effsOkZ ops effs = true) : EffsOkZ ops effs := by
  unfold effsOkZ at h
  simp only [Bool.and_eq_true] at h
  obtain ⟨⟨⟨h2, h3⟩, h5⟩, h4⟩ := h
  refine ⟨fun e he => ?_, fun i e hi he hb => ?_, fun e he i hi hb => ?_, fun e he d hd i hi hid => ?_⟩
  · simpa using List.all_eq_true.1 h2 e he
  · have := List.all_eq_true.1 (List.all_eq_true.1 h3 i (List.mem_range.2 hi)) e he
    rw [hb] at this
    simpa using this
  · have := List.all_eq_true.1 (List.all_eq_true.1 h5 e he) i (List.mem_range.2 hi)
    rw [hb] at this
    simpa using this
  · have := List.all_eq_true.1 h4 e he
    rw [hd] at this
    have := List.all_eq_true.1 this i (List.mem_range.2 hi)
    rw [hid] at this
    simpa using this
structure InvZ (ops : Array Oper) (es : List Spec) (a0 : Act) (I : (Nat → Bool) → (Nat → Value) → World → Prop) (listed : Array Bool) (a : Act) (w : World) : Prop where
  st : I (fun e => listed.getD e false) (slotsOf a) w
  defers : a.defers = a0.defers
  size : a.tmps.size = a0.tmps.size
  lsize : listed.size = ops.size
  closed : Closed ops listed
  slots : ∀ t, t < a0.tmps.size → (sigF ops.toList es 0 (fun j => listed.getD j false) (fun t => .ex (a0.tmps.getD t undef)) t).holds (a.tmps.getD t undef) w
theorem rz_any (hok : regOk ops = true) (hef : EffsOkZ ops effs)
    (hloc : ∀ D D' τ τ' w, (∀ e ∈ effs, D e = D' e) → (∀ e ∈ effs, D e = true → ∀ t, (ops[e]?).bind (·.dst) = some t → τ t = τ' t) → I D τ w → I D' τ' w)
    {es : List Spec} (hl : es.length = ops.toList.length)
    (hes : ∀ m o s, ops.toList[m]? = some o → es[m]? = some s → s.Free ∧ StepZ P ops Q a0 I effs m o (sigF ops.toList es 0 (fun j => decide (j < m)) (fun t => .ex (a0.tmps.getD t undef))) s)
    (hend : EndZ Q a0 I (sigF ops.toList es 0 (fun _ => true) (fun t => .ex (a0.tmps.getD t undef)))) :
    ∀ (fuel : Nat) (rem : List Nat) (listed : Array Bool) (a : Act) (w : World), InvZ ops es a0 I listed a w → rem.Nodup → (∀ j, j ∈ rem ↔ j < ops.size ∧ listed.getD j false = false) → rem.length ≤ fuel →
      wpAny P .any ops Q fuel listed a w := by
  have fin : ∀ (listed : Array Bool) (a : Act) (w : World), InvZ ops es a0 I listed a w → (∀ j, j < ops.size → listed.getD j false = true) → Q .normal a w := by
    intro listed a w V hall
    refine hend a w (hloc _ _ _ _ w (fun e he => hall e (hef.size e he)) (fun _ _ _ _ _ => rfl) V.st) V.defers V.size fun t hts => ?_
    have := V.slots t hts
    rw [sigF_congr t (fun j => listed.getD j false) (fun _ => true) ops.toList es 0 _ _ rfl fun m o hm _ => by
      have hlt : m < ops.toList.length := (List.getElem?_eq_some_iff.1 hm).1
      simp only [Nat.zero_add]
      exact hall m (by simpa using hlt)] at this
    exact this
  intro fuel
  induction fuel with
  | zero =>
    intro rem listed a w V hn hrem hlen
    have hnil : rem = [] := List.eq_nil_of_length_eq_zero (by omega)
    have hall : ∀ j, j < ops.size → listed.getD j false = true := fun j hj => by
      cases hL : listed.getD j false with
      | true => rfl
      | false => have := (hrem j).2 ⟨hj, hL⟩; rw [hnil] at this; cases this
    refine ⟨?_, fin listed a w V hall⟩
    apply List.eq_nil_iff_forall_not_mem.2
    intro j hj
    obtain ⟨h0, o, ho, _⟩ := mem_ready.1 hj
    have hlt : j < ops.size := (Array.getElem?_eq_some_iff.1 ho).1
    rw [getD_false_true (by rw [V.lsize]; exact hlt), hall j hlt] at h0
    cases h0
  | succ fuel ih =>
    intro rem listed a w V hn hrem hlen
    refine ⟨fun hr => fin listed a w V (all_of_ready_nil hok V.lsize hr), fun i hi => ?_⟩
    obtain ⟨h0, o, ho, hedge⟩ := mem_ready.1 hi
    have hlt : i < ops.size := (Array.getElem?_eq_some_iff.1 ho).1
    have hi0 : listed.getD i false = false := by rw [← getD_false_true (by rw [V.lsize]; exact hlt)]; exact h0
    have hol : ops.toList[i]? = some o := by simpa using ho
    have hil : i < es.length := by rw [hl]; simpa using hlt
    obtain ⟨hst, hstep⟩ := hes i o es[i] hol (List.getElem?_eq_getElem hil)
    have hbefore := closed_before hok V.closed
    -- what the operation waits for has come up
    have hbits : ∀ m o', m < i → ops[m]? = some o' → ((Region.before ops).getD i 0).testBit m = true → listed.getD m false = true := by
      intro m o' hmi hm' hbit
      obtain ⟨e, he, hb, hor⟩ := ((earlier_at (b := Region.before ops) hok ho).2 m o' hmi hm').2 hbit
      have hle := hedge e he hb
      rcases hor with rfl | ⟨h1, h2, h3⟩
      · exact hle
      · have hlt' : e.on < ops.size := by omega
        exact hbefore e.on ops[e.on] (Array.getElem?_eq_getElem hlt') hle m o' h1 hm' h3
    have hall : AllowedZ ops effs i (fun e => listed.getD e false) := by
      refine fun e hm => ⟨fun hbit => ?_, fun hor => ?_⟩
      · have hei := hef.bef i e hlt hm hbit
        have hes := hef.size e hm
        exact hbits e ops[e] hei (Array.getElem?_eq_getElem hes) hbit
      · cases hL : listed.getD e false with
        | false => exact hL
        | true =>
          exfalso
          have hes := hef.size e hm
          rcases hor with hbit | rfl
          · have hie := hef.ahead e hm i hlt hbit
            have := hbefore e ops[e] (Array.getElem?_eq_getElem hes) hL i o hie ho hbit
            rw [hi0] at this; cases this
          · rw [hi0] at hL; cases hL
    -- which operations that share a slot have come up
    have hsame : ∀ t m o', ops.toList[m]? = some o' → o'.dst = some t → (t ∈ o.looksAt ops ∨ o.dst = some t) → m ≠ i → (listed.getD m false = decide (m < i)) := by
      intro t m o' hm hd hlook hne
      have hm' : ops[m]? = some o' := by simpa using hm
      rcases Nat.lt_or_gt_of_ne hne with hmi | hmi
      · have hsh : shares ops o' o = true := by
          rcases hlook with h | h
          · exact shares_of_look hd h
          · exact shares_of_dst hd h
        have := hbits m o' hmi hm' (((earlier_at (b := Region.before ops) hok ho).2 m o' hmi hm').1 hsh)
        rw [this]; simp [hmi]
      · have hsh : shares ops o o' = true := by
          rcases hlook with h | h
          · exact shares_of_look' hd h
          · exact shares_of_dst h hd
        have hbit := ((earlier_at (b := Region.before ops) hok hm').2 i o hmi ho).1 hsh
        have : listed.getD m false = false := by
          cases hL : listed.getD m false with
          | false => rfl
          | true =>
            have := hbefore m o' hm' hL i o hmi ho hbit
            rw [hi0] at this; cases this
        rw [this]; simp; omega
    have hwp := hstep a w _ hall V.st V.defers V.size fun t ht hts => by
      have := V.slots t hts
      rw [sigF_congr t (fun j => listed.getD j false) (fun j => decide (j < i)) ops.toList es 0 _ _ rfl fun m o' hm hd => by
        simp only [Nat.zero_add]
        by_cases hmi : m = i
        · subst hmi; rw [hi0]; simp
        · exact hsame t m o' hm hd (.inl ht) hmi] at this
      exact this
    refine wpOp_mono (fun a' w' h => ?_) hwp
    obtain ⟨v, rfl, hv, hI⟩ := h
    have hsz : i < listed.size := by rw [V.lsize]; exact hlt
    have hset : ∀ j, (listed.setIfInBounds i true).getD j false = if j = i then true else listed.getD j false := by
      intro j
      by_cases hji : j = i
      · subst hji; simp [hsz]
      · rw [if_neg hji, getD_set_ne false (Ne.symm hji)]
    have hI' : I (fun e => (listed.setIfInBounds i true).getD e false) (slotsOf (a.put o.dst v)) w' := by
      by_cases him : i ∈ effs
      · refine hloc _ _ _ _ w' (fun e _ => ?_) (fun _ _ _ _ _ => rfl) (hI.1 him)
        rw [hset]; rfl
      · refine hloc _ _ _ _ w' (fun e he => ?_) (fun e he _ t ht => ?_) (hI.2 him)
        · rw [hset, if_neg (by rintro rfl; exact him he)]
        · rw [slotsOf_put]
          intro hd
          have := hef.uniq e he t ht i hlt (by rw [ho]; exact hd)
          subst this
          exact him he
    refine ih (rem.erase i) _ _ _ ⟨hI', ?_, ?_, by simpa using V.lsize, ?_, ?_⟩ (hn.erase i) ?_ ?_
    · rw [← V.defers]; cases o.dst <;> rfl
    · rw [← V.size]; cases o.dst <;> simp [Act.put]
    · intro j y hj hL e he hb
      rw [hset] at hL ⊢
      by_cases hei : e.on = i
      · simp [hei]
      · rw [if_neg hei]
        by_cases hji : j = i
        · subst hji; rw [ho] at hj; cases hj; exact hedge e he hb
        · rw [if_neg hji] at hL; exact V.closed j y hj hL e he hb
    · intro t hts
      by_cases hd : o.dst = some t
      · rw [sigF_last t _ i ops.toList es 0 i _ o es[i] (by omega) hol (List.getElem?_eq_getElem hil) hd (by rw [hset]; simp) fun m' o' hm' ho' hd' => by
          simp only [Nat.zero_add]
          rw [hset, if_neg (by omega), hsame t m' o' ho' hd' (.inr hd) (by omega)]
          simp; omega]
        have hts' : t < a.tmps.size := by rw [V.size]; exact hts
        simpa [Act.put, hd, hts'] using hv
      · have e1 : (a.put o.dst v).tmps.getD t undef = a.tmps.getD t undef := slotsOf_put a o.dst v t hd
        rw [e1, sigF_congr t _ (fun j => listed.getD j false) ops.toList es 0 _ _ rfl fun m o' hm hd' => by
          simp only [Nat.zero_add]
          rw [hset, if_neg (by rintro rfl; rw [hol] at hm; cases hm; exact hd hd')]]
        refine free_sigF _ _ _ _ (fun m s hm => ?_) _ (fun t => Free.ex _) t _ _ _ (V.slots t hts)
        have hml : m < ops.toList.length := by rw [← hl]; exact (List.getElem?_eq_some_iff.1 hm).1
        exact (hes m _ s (List.getElem?_eq_getElem hml) hm).1
    · intro j
      rw [hn.mem_erase_iff, hrem, hset]
      constructor
      · rintro ⟨h1, h2, h3⟩; exact ⟨h2, by rw [if_neg h1]; exact h3⟩
      · rintro ⟨h2, h3⟩
        by_cases hji : j = i
        · rw [if_pos hji] at h3; cases h3
        · rw [if_neg hji] at h3; exact ⟨hji, h2, h3⟩
    · have := List.length_erase_of_mem ((hrem i).2 ⟨hlt, hi0⟩)
      have hpos : 0 < rem.length := List.length_pos_of_mem ((hrem i).2 ⟨hlt, hi0⟩)
      omega

theorem wp_region_rz {id : Nat} {l : List Oper} {Q : Exit → Act → World → Prop} {a : Act} {w : World} (I : (Nat → Bool) → (Nat → Value) → World → Prop) (effs : List Nat) (hm : P.follows .mixedOrders = true) (hok : regOk l.toArray = true) (hef : effsOkZ l.toArray effs = true)
    (hloc : ∀ D D' τ τ' w, (∀ e ∈ effs, D e = D' e) → (∀ e ∈ effs, D e = true → ∀ t, (l.toArray[e]?).bind (·.dst) = some t → τ t = τ' t) → I D τ w → I D' τ' w) (h0 : I (fun _ => false) (slotsOf a) w.drew)
    (h : RZl P l.toArray Q a I effs (EndZ Q a I) l 0 (fun t => .ex (a.tmps.getD t undef))) : (Code.region id l.toArray true).wp P Q a w := by
  obtain ⟨es, hl, hes, hend⟩ := RZl.env l 0 _ h
  refine wp_region_any hm ?_
  refine rz_any (a0 := a) (I := I) (effs := effs) (es := es) hok (effsOkZ_spec hef) hloc (by simpa using hl) (fun m o s ho hs => ?_) (by simpa using hend) _ (List.range l.toArray.size) _ a _ ?_ List.nodup_range ?_ (by simp)
  · have := hes m o s (by simpa using ho) hs
    simpa using this
  · refine ⟨hloc _ _ _ _ _ (fun e _ => (rep_false _ e).symm) (fun _ _ _ _ _ => rfl) h0, rfl, rfl, by simp, ?_, ?_⟩
    · intro j y hj hL
      rw [rep_false] at hL
      cases hL
    · intro t _
      rw [sigF_nil _ _ _ _ _ (fun j => rep_false _ j)]
      rfl
  · intro j
    rw [List.mem_range]
    constructor
    · intro hj; exact ⟨hj, rep_false _ j⟩
    · exact fun h => h.1

variable {o : Oper} {rest : List Oper} {i : Nat} {σ : Sig}
/-- An operation whose value is known and that turns nothing. -/
theorem RZl.exact (v : Value) (hi : ops[i]? = some o) (hn : notSel o = true) (hk : known ops a0.tmps.size σ o = true) (hw : wantS ops σ o = true) (hne : effs.contains i = false)
    (hrun : ∀ D τ w, I D τ w → (execOp (rho σ) o).run P w = .ok (.value v) w) (h : RZl P ops Q a0 I effs E rest (i + 1) (upd σ o.dst (.ex v))) : RZl P ops Q a0 I effs E (o :: rest) i σ := by
  refine ⟨.ex v, Free.ex v, fun a w D ha hI _ _ hh => ?_, h⟩
  have hni : i ∉ effs := by simpa using hne
  unfold wpOp
  simp only [hi, want_of hw (inFrame_of_known hk) hh, if_true]
  refine .inl ?_
  unfold Oper.wp
  rw [eval_rho hk hh (notSel_spec hn), hrun D _ w hI]
  exact ⟨v, rfl, rfl, fun hc => absurd hc hni, fun _ => hI⟩
/-- An operation that only reads: what it gives is told by a spec. -/
theorem RZl.value (s : Spec) (hs : s.Free) (hi : ops[i]? = some o) (hf : inFrame ops a0.tmps.size o = true) (hw : wantS ops σ o = true) (hne : effs.contains i = false)
    (hrun : ∀ ρ w D, I D (fun t => ρ (.tmp t)) w → Agree ops a0.tmps.size σ o ρ w → ∃ v, (execOp ρ o).run P w = .ok (.value v) w ∧ s.holds v w)
    (h : RZl P ops Q a0 I effs E rest (i + 1) (upd σ o.dst s)) : RZl P ops Q a0 I effs E (o :: rest) i σ := by
  refine ⟨s, hs, fun a w D ha hI _ _ hh => ?_, h⟩
  have hni : i ∉ effs := by simpa using hne
  unfold wpOp
  simp only [hi, want_of hw hf hh, if_true]
  refine .inl ?_
  obtain ⟨v, hr, h2⟩ := hrun a.eval w D hI (agree_eval hh)
  unfold Oper.wp
  rw [hr]
  exact ⟨v, rfl, h2, fun hc => absurd hc hni, fun _ => hI⟩
/-- A call that turns memory. -/
theorem RZl.call (s : Spec) (hs : s.Free) (f : FuncId) (args : List Value) (xs : List Operand) (ats : Array TypeId) (hop : o.op = .call { callee := .value (.func f), args := xs.toArray, argTypes := ats }) (ha : xs.map (rho σ) = args)
    (hi : ops[i]? = some o) (hk : known ops a0.tmps.size σ o = true) (hw : wantS ops σ o = true) (hke : effs.contains i = true)
    (hrun : ∀ w, (callFunc f args.toArray).run P w = .ok (.enter f args.toArray) w)
    (hc : ∀ a w D, AllowedZ ops effs i D → I D (slotsOf a) w → a.tmps.size = a0.tmps.size → Calls P f args.toArray w fun e w' => ∃ v, e = .returned v ∧ s.holds v w' ∧ I (dset D i) (slotsOf (a.put o.dst v)) w')
    (h : RZl P ops Q a0 I effs E rest (i + 1) (upd σ o.dst s)) : RZl P ops Q a0 I effs E (o :: rest) i σ := by
  have him : i ∈ effs := by simpa using hke
  refine ⟨s, hs, fun a w D hal hI _ hsz hh => ?_, h⟩
  unfold wpOp
  simp only [hi, want_of hw (inFrame_of_known hk) hh, if_true]
  refine .inl ?_
  unfold Oper.wp
  rw [eval_rho hk hh (notSel_spec (by simp [notSel, hop])), execOp_go (fun _ => rfl) f xs ats hop args ha, hrun w]
  refine Calls.mono (hc a w D hal hI hsz) fun e w' he => ?_
  obtain ⟨v, rfl, h1, h2⟩ := he
  exact ⟨v, rfl, h1, fun _ => h2, fun hc => absurd him hc⟩
/-- An operation that is no call and turns memory. -/
theorem RZl.eff (s : Spec) (hs : s.Free) (hi : ops[i]? = some o) (hf : inFrame ops a0.tmps.size o = true) (hw : wantS ops σ o = true) (hke : effs.contains i = true)
    (hrun : ∀ a w D, AllowedZ ops effs i D → I D (slotsOf a) w → a.tmps.size = a0.tmps.size → Agree ops a0.tmps.size σ o a.eval w → ∃ v w', (execOp a.eval o).run P w = .ok (.value v) w' ∧ s.holds v w' ∧ I (dset D i) (slotsOf (a.put o.dst v)) w')
    (h : RZl P ops Q a0 I effs E rest (i + 1) (upd σ o.dst s)) : RZl P ops Q a0 I effs E (o :: rest) i σ := by
  have him : i ∈ effs := by simpa using hke
  refine ⟨s, hs, fun a w D hal hI _ hsz hh => ?_, h⟩
  unfold wpOp
  simp only [hi, want_of hw hf hh, if_true]
  refine .inl ?_
  obtain ⟨v, w', hr, h1, h2⟩ := hrun a w D hal hI hsz (agree_eval hh)
  unfold Oper.wp
  rw [hr]
  exact ⟨v, rfl, h1, fun _ => h2, fun hc => absurd him hc⟩
theorem RZl.nil (h : ∀ a w, I (fun _ => true) (slotsOf a) w → a.defers = a0.defers → a.tmps.size = a0.tmps.size → (∀ t, t < a0.tmps.size → (σ t).holds (a.tmps.getD t undef) w) → Q .normal a w) : RZl P ops Q a0 I effs (EndZ Q a0 I) [] i σ := h
theorem RZl.nilL (ds : List Nat) (A : Act) (hA : AgrL ds a0 σ A) (hnd : ds.Nodup) (hlt : ∀ d ∈ ds, d < a0.tmps.size) (h : ∀ vs τ w, (∀ k d, ds[k]? = some d → τ d = vs k) → I (fun _ => true) τ w → Q .normal (puts A ds vs) w) : RZl P ops Q a0 I effs (EndZ Q a0 I) [] i σ := by
  refine RZl.nil fun a w hI hdf hs hh => ?_
  obtain ⟨h1, h2, h3⟩ := hA
  have e : a = puts A ds fun k => a.tmps.getD (ds.getD k 0) undef := by
    have hvs : ∀ k d, ds[k]? = some d → (fun k => a.tmps.getD (ds.getD k 0) undef) k = a.tmps.getD d undef := fun k d hk => by simp [List.getD, hk]
    generalize (fun k => a.tmps.getD (ds.getD k 0) undef) = vs at hvs
    obtain ⟨p1, p2⟩ := puts_size ds A vs
    have pn := puts_not ds A vs
    have pa := puts_at ds A vs
    generalize puts A ds vs = B at p1 p2 pn pa
    obtain ⟨tm, df⟩ := a
    obtain ⟨tB, dB⟩ := B
    have e1 : df = dB := hdf.trans (h1.symm.trans p2.symm)
    have e2 : tm = tB := by
      apply Array.ext (hs.trans (h2.symm.trans p1.symm))
      intro t g1 g2
      have ht : t < a0.tmps.size := by rw [← hs]; exact g1
      have q2 : tm.getD t undef = tB.getD t undef := by
        by_cases hm : t ∈ ds
        · obtain ⟨k, hk⟩ := List.getElem?_of_mem hm
          rw [show tB.getD t undef = vs k from pa k t hnd hk (by rw [h2]; exact ht)]
          exact (hvs k t hk).symm
        · have q := hh t ht
          rw [h3 t ht hm] at q
          exact (show tm.getD t undef = A.tmps.getD t undef from q).trans (pn t hm).symm
      simpa [Array.getD, g1, g2] using q2
    rw [e1, e2]
  rw [e] at hI ⊢
  exact h _ _ w (fun k d hk => puts_at ds A _ k d hnd hk (by rw [h2]; exact hlt d (List.mem_of_getElem? hk))) hI
end
end Go.Proofs.Ytjnfhppjkadlpaa.Reg
