/- Regions whose order is drawn and that hold operations that turn memory, these in one fixed order among themselves: walked once, in the text's order. J says of the world what holds behind so many of them. Program-free; no condition. -/
import Derived.Test.YtjnfhppjkadlpaaReg
namespace Go.Proofs.Ytjnfhppjkadlpaa.Reg
open Go Go.RowKit Go.Proofs.Ytjnfhppjkadlpaa.Sp

def Spec.Free (s : Spec) : Prop := ∀ v w w', s.holds v w → s.holds v w'
theorem Free.ex (v : Value) : (Spec.ex v).Free := fun _ _ _ h => h
theorem Free.so (V : Value → Prop) : (Spec.so fun v _ => V v).Free := fun _ _ _ h => h
abbrev slotsOf (a : Act) : Nat → Value := fun t => a.tmps.getD t undef

section
variable {P : Program} {ops : Array Oper} {Q : Exit → Act → World → Prop} {a0 : Act} {I : Nat → (Nat → Value) → World → Prop} {effs : List Nat} {E : Sig → Prop}

def Allowed (ops : Array Oper) (effs : List Nat) (i j : Nat) : Prop :=
  j ≤ effs.length ∧ (∀ (k e : Nat), effs[k]? = some e → (((Region.before ops).getD i 0).testBit e = true → k < j) ∧ (((Region.before ops).getD e 0).testBit i = true ∨ e = i → j ≤ k)) ∧ ∀ k, effs[k]? = some i → j = k
def StepX (P : Program) (ops : Array Oper) (Q : Exit → Act → World → Prop) (a0 : Act) (I : Nat → (Nat → Value) → World → Prop) (effs : List Nat) (i : Nat) (o : Oper) (σ : Sig) (s : Spec) : Prop :=
  ∀ a w j, Allowed ops effs i j → I j (slotsOf a) w → a.defers = a0.defers → a.tmps.size = a0.tmps.size → (∀ t ∈ o.looksAt ops, t < a0.tmps.size → (σ t).holds (a.tmps.getD t undef) w) →
    wpOp P ops Q i (fun a' w' => ∃ v, a' = a.put o.dst v ∧ s.holds v w' ∧ ((i ∈ effs → I (j + 1) (slotsOf (a.put o.dst v)) w') ∧ (i ∉ effs → I j (slotsOf a) w'))) a w
def EndX (Q : Exit → Act → World → Prop) (a0 : Act) (I : Nat → (Nat → Value) → World → Prop) (effs : List Nat) (σ : Sig) : Prop :=
  ∀ a w, I effs.length (slotsOf a) w → a.defers = a0.defers → a.tmps.size = a0.tmps.size → (∀ t, t < a0.tmps.size → (σ t).holds (a.tmps.getD t undef) w) → Q .normal a w
def RXl (P : Program) (ops : Array Oper) (Q : Exit → Act → World → Prop) (a0 : Act) (I : Nat → (Nat → Value) → World → Prop) (effs : List Nat) (E : Sig → Prop) : List Oper → Nat → Sig → Prop
  | [], _, σ => E σ
  | o :: rest, i, σ => ∃ s, s.Free ∧ StepX P ops Q a0 I effs i o σ s ∧ RXl P ops Q a0 I effs E rest (i + 1) (upd σ o.dst s)

theorem RXl.env : ∀ (l : List Oper) (i : Nat) (σ : Sig), RXl P ops Q a0 I effs E l i σ →
    ∃ es : List Spec, es.length = l.length ∧ (∀ m o s, l[m]? = some o → es[m]? = some s → s.Free ∧ StepX P ops Q a0 I effs (i + m) o (sigF l es i (fun j => decide (j < i + m)) σ) s) ∧
      E (sigF l es i (fun _ => true) σ)
  | [], i, σ, h => ⟨[], rfl, by simp, h⟩
  | o :: rest, i, σ, ⟨s, hs, hstep, hrest⟩ => by
    obtain ⟨es, hl, hall, hend⟩ := RXl.env rest (i + 1) _ hrest
    refine ⟨s :: es, by simp [hl], ?_, by simpa [sigF] using hend⟩
    intro m o' s' ho hs'
    cases m with
    | zero =>
      simp at ho hs'
      subst ho; subst hs'
      have : ∀ (l : List Oper) (es : List Spec) (k : Nat) (τ : Sig), i ≤ k → sigF l es k (fun j => decide (j < i)) τ = τ := by
        intro l
        induction l with
        | nil => intro es k τ _; rfl
        | cons o l ih =>
          intro es k τ hk
          cases es with
          | nil => rfl
          | cons s es => simp only [sigF]; rw [if_neg (by simp; omega)]; exact ih es (k + 1) τ (by omega)
      refine ⟨hs, ?_⟩
      have e := this (o :: rest) (s :: es) i σ (Nat.le_refl _)
      simp only [Nat.add_zero]
      rw [e]; exact hstep
    | succ m =>
      have := hall m o' s' (by simpa using ho) (by simpa using hs')
      have e1 : i + (m + 1) = i + 1 + m := by omega
      rw [e1]
      refine ⟨this.1, ?_⟩
      have e2 : sigF (o :: rest) (s :: es) i (fun j => decide (j < i + 1 + m)) σ = sigF rest es (i + 1) (fun j => decide (j < i + 1 + m)) (upd σ o.dst s) := by
        simp only [sigF]; rw [if_pos (by simp; omega)]
      rw [e2]; exact this.2

/-! ### which effects -/
def effsOk (ops : Array Oper) (effs : List Nat) : Bool :=
  ((List.range effs.length).all fun k => (match effs[k]?, effs[k + 1]? with | some e, some e' => ((Region.before ops).getD e' 0).testBit e && decide (e < e') | _, _ => true)) &&
  (effs.all fun e => decide (e < ops.size)) &&
  ((List.range ops.size).all fun i => effs.all fun e => !((Region.before ops).getD i 0).testBit e || decide (e < i)) &&
  (effs.all fun e => (List.range ops.size).all fun i => !((Region.before ops).getD e 0).testBit i || decide (i < e)) &&
  (effs.all fun e => match (ops[e]?).bind (·.dst) with | none => true | some d => (List.range ops.size).all fun i => i == e || (ops[i]?).bind (·.dst) != some d)
structure EffsOk (ops : Array Oper) (effs : List Nat) : Prop where
  chain : ∀ k e e', effs[k]? = some e → effs[k + 1]? = some e' → ((Region.before ops).getD e' 0).testBit e = true ∧ e < e'
  size : ∀ e ∈ effs, e < ops.size
  bef : ∀ i e, i < ops.size → e ∈ effs → ((Region.before ops).getD i 0).testBit e = true → e < i
  ahead : ∀ e ∈ effs, ∀ i, i < ops.size → ((Region.before ops).getD e 0).testBit i = true → i < e
  uniq : ∀ e ∈ effs, ∀ d, (ops[e]?).bind (·.dst) = some d → ∀ i, i < ops.size → (ops[i]?).bind (·.dst) = some d → i = e
theorem effsOk_spec (h : effsOk ops effs = true) : EffsOk ops effs := by
  unfold effsOk at h
  simp only [Bool.and_eq_true] at h
  obtain ⟨⟨⟨⟨h1, h2⟩, h3⟩, h5⟩, h4⟩ := h
  refine ⟨fun k e e' he he' => ?_, fun e he => ?_, fun i e hi he hb => ?_, fun e he i hi hb => ?_, fun e he d hd i hi hid => ?_⟩
  · have hk : k < effs.length := (List.getElem?_eq_some_iff.1 he).1
    have := List.all_eq_true.1 h1 k (List.mem_range.2 hk)
    rw [he, he'] at this
    simpa using this
  · simpa using List.all_eq_true.1 h2 e he
  · have := List.all_eq_true.1 (List.all_eq_true.1 h3 i (List.mem_range.2 hi)) e he
    rw [hb] at this
    simpa using this
  · have := List.all_eq_true.1 (List.all_eq_true.1 h5 e he) i (List.mem_range.2 hi)
    rw [hb] at this
    simpa using this
  · have := List.all_eq_true.1 h4 e he
    rw [hd] at this
    have := List.all_eq_true.1 this i (List.mem_range.2 hi)
    rw [hid] at this
    simpa using this
theorem EffsOk.lt (h : EffsOk ops effs) : ∀ (d k : Nat) (e e' : Nat), effs[k]? = some e → effs[k + (d + 1)]? = some e' → e < e'
  | 0, k, e, e', he, he' => (h.chain k e e' he he').2
  | d + 1, k, e, e', he, he' => by
    have hlt : k + (d + 1) < effs.length := by have := (List.getElem?_eq_some_iff.1 he').1; omega
    have hm := List.getElem?_eq_getElem hlt
    exact Nat.lt_trans (EffsOk.lt h d k e _ he hm) (h.chain (k + (d + 1)) _ e' hm (by rw [← he']; congr 1)).2
theorem EffsOk.inj (h : EffsOk ops effs) {k k' e : Nat} (he : effs[k]? = some e) (he' : effs[k']? = some e) : k = k' := by
  rcases Nat.lt_trichotomy k k' with hlt | heq | hlt
  · obtain ⟨d, rfl⟩ : ∃ d, k' = k + (d + 1) := ⟨k' - k - 1, by omega⟩
    have := h.lt d k e e he he'
    omega
  · exact heq
  · obtain ⟨d, rfl⟩ : ∃ d, k = k' + (d + 1) := ⟨k - k' - 1, by omega⟩
    have := h.lt d k' e e he' he
    omega

structure InvX (ops : Array Oper) (es : List Spec) (a0 : Act) (I : Nat → (Nat → Value) → World → Prop) (effs : List Nat) (j : Nat) (listed : Array Bool) (a : Act) (w : World) : Prop where
  st : I j (slotsOf a) w
  le : j ≤ effs.length
  hist : ∀ k e, effs[k]? = some e → (listed.getD e false = true ↔ k < j)
  defers : a.defers = a0.defers
  size : a.tmps.size = a0.tmps.size
  lsize : listed.size = ops.size
  closed : Closed ops listed
  slots : ∀ t, t < a0.tmps.size → (sigF ops.toList es 0 (fun j => listed.getD j false) (fun t => .ex (a0.tmps.getD t undef)) t).holds (a.tmps.getD t undef) w

theorem free_sigF : ∀ (l : List Oper) (es' : List Spec) (i : Nat) (L : Nat → Bool), (∀ (m : Nat) (s : Spec), es'[m]? = some s → s.Free) → ∀ τ : Sig, (∀ t, (τ t).Free) → ∀ t, (sigF l es' i L τ t).Free
  | [], _, _, _, _, _, hτ, t => hτ t
  | _ :: _, [], _, _, _, _, hτ, t => hτ t
  | o :: l, s :: es', i, L, h, τ, hτ, t => by
    simp only [sigF]
    refine free_sigF l es' (i + 1) L (fun m s' hm => h (m + 1) s' (by simpa using hm)) _ (fun t => ?_) t
    split
    · unfold upd
      split
      · exact h 0 s (by simp)
      · exact hτ t
    · exact hτ t

theorem slotsOf_put (a : Act) (d : Option Tmp) (v : Value) (t : Nat) (h : d ≠ some t) : slotsOf (a.put d v) t = slotsOf a t := by
  unfold slotsOf
  cases d with
  | none => rfl
  | some d =>
    have hne : d ≠ t := fun e => h (by rw [e])
    simp [Act.put, Array.getElem?_setIfInBounds_ne hne]

theorem rx_any (hok : regOk ops = true) (hef : EffsOk ops effs)
    (hloc : ∀ j τ τ' w, (∀ k e, k < j → effs[k]? = some e → ∀ t, (ops[e]?).bind (·.dst) = some t → τ t = τ' t) → I j τ w → I j τ' w)
    {es : List Spec} (hl : es.length = ops.toList.length)
    (hes : ∀ m o s, ops.toList[m]? = some o → es[m]? = some s → s.Free ∧ StepX P ops Q a0 I effs m o (sigF ops.toList es 0 (fun j => decide (j < m)) (fun t => .ex (a0.tmps.getD t undef))) s)
    (hend : EndX Q a0 I effs (sigF ops.toList es 0 (fun _ => true) (fun t => .ex (a0.tmps.getD t undef)))) :
    ∀ (fuel : Nat) (rem : List Nat) (listed : Array Bool) (j : Nat) (a : Act) (w : World), InvX ops es a0 I effs j listed a w → rem.Nodup → (∀ j, j ∈ rem ↔ j < ops.size ∧ listed.getD j false = false) → rem.length ≤ fuel →
      wpAny P .any ops Q fuel listed a w := by
  have fin : ∀ (listed : Array Bool) (j : Nat) (a : Act) (w : World), InvX ops es a0 I effs j listed a w → (∀ j, j < ops.size → listed.getD j false = true) → Q .normal a w := by
    intro listed j a w V hall
    have hj : j = effs.length := by
      rcases Nat.lt_or_ge j effs.length with hlt | hge
      · have := (V.hist j _ (List.getElem?_eq_getElem hlt)).1 (hall _ (hef.size _ (List.getElem_mem hlt)))
        omega
      · have := V.le; omega
    refine hend a w (hj ▸ V.st) V.defers V.size fun t hts => ?_
    have := V.slots t hts
    rw [sigF_congr t (fun j => listed.getD j false) (fun _ => true) ops.toList es 0 _ _ rfl fun m o hm _ => by
      have hlt : m < ops.toList.length := (List.getElem?_eq_some_iff.1 hm).1
      simp only [Nat.zero_add]
      exact hall m (by simpa using hlt)] at this
    exact this
  intro fuel
  induction fuel with
  | zero =>
    intro rem listed j a w V hn hrem hlen
    have hnil : rem = [] := List.eq_nil_of_length_eq_zero (by omega)
    have hall : ∀ j, j < ops.size → listed.getD j false = true := fun j hj => by
      cases hL : listed.getD j false with
      | true => rfl
      | false => have := (hrem j).2 ⟨hj, hL⟩; rw [hnil] at this; cases this
    refine ⟨?_, fin listed j a w V hall⟩
    apply List.eq_nil_iff_forall_not_mem.2
    intro j hj
    obtain ⟨h0, o, ho, _⟩ := mem_ready.1 hj
    have hlt : j < ops.size := (Array.getElem?_eq_some_iff.1 ho).1
    rw [getD_false_true (by rw [V.lsize]; exact hlt), hall j hlt] at h0
    cases h0
  | succ fuel ih =>
    intro rem listed j a w V hn hrem hlen
    refine ⟨fun hr => fin listed j a w V (all_of_ready_nil hok V.lsize hr), fun i hi => ?_⟩
    obtain ⟨h0, o, ho, hedge⟩ := mem_ready.1 hi
    have hlt : i < ops.size := (Array.getElem?_eq_some_iff.1 ho).1
    have hi0 : listed.getD i false = false := by rw [← getD_false_true (by rw [V.lsize]; exact hlt)]; exact h0
    have hol : ops.toList[i]? = some o := by simpa using ho
    have hil : i < es.length := by rw [hl]; simpa using hlt
    obtain ⟨hst, hstep⟩ := hes i o es[i] hol (List.getElem?_eq_getElem hil)
    have hbefore := closed_before hok V.closed
    -- what the operation waits for has come up
    have hbits : ∀ m o', m < i → ops[m]? = some o' → ((Region.before ops).getD i 0).testBit m = true → listed.getD m false = true := by
      intro m o' hmi hm' hbit
      obtain ⟨e, he, hb, hor⟩ := ((earlier_at (b := Region.before ops) hok ho).2 m o' hmi hm').2 hbit
      have hle := hedge e he hb
      rcases hor with rfl | ⟨h1, h2, h3⟩
      · exact hle
      · have hlt' : e.on < ops.size := by omega
        exact hbefore e.on ops[e.on] (Array.getElem?_eq_getElem hlt') hle m o' h1 hm' h3
    have hall0 : ∀ (k e : Nat), effs[k]? = some e → (((Region.before ops).getD i 0).testBit e = true → k < j) ∧ (((Region.before ops).getD e 0).testBit i = true ∨ e = i → j ≤ k) := by
      refine fun k e hk => ⟨fun hbit => ?_, fun hor => ?_⟩
      · have hm : e ∈ effs := List.mem_of_getElem? hk
        have hei := hef.bef i e hlt hm hbit
        have hes := hef.size e hm
        exact (V.hist k e hk).1 (hbits e ops[e] hei (Array.getElem?_eq_getElem hes) hbit)
      · rcases Nat.lt_or_ge k j with hkj | hkj
        · exfalso
          have hL := (V.hist k e hk).2 hkj
          have hm : e ∈ effs := List.mem_of_getElem? hk
          have hes := hef.size e hm
          rcases hor with hbit | rfl
          · rcases Nat.lt_trichotomy i e with hie | hie | hie
            · have := hbefore e ops[e] (Array.getElem?_eq_getElem hes) hL i o hie ho hbit
              rw [hi0] at this; cases this
            · subst hie; rw [hi0] at hL; cases hL
            · -- i behind e: e waits for i, which stands behind it: not so
              have := hef.ahead e hm i hlt hbit
              omega
          · rw [hi0] at hL; cases hL
        · exact hkj
    have hall : Allowed ops effs i j := by
      refine ⟨V.le, hall0, fun k hk => ?_⟩
      have h1 := (hall0 k i hk).2 (.inr rfl)
      rcases Nat.lt_or_ge j k with hlt2 | hge
      · have hkl : k - 1 < effs.length := by have := (List.getElem?_eq_some_iff.1 hk).1; omega
        have hc := hef.chain (k - 1) _ i (List.getElem?_eq_getElem hkl) (by rw [show k - 1 + 1 = k by omega]; exact hk)
        have := (hall0 (k - 1) _ (List.getElem?_eq_getElem hkl)).1 hc.1
        omega
      · omega
    -- which operations that share a slot have come up
    have hsame : ∀ t m o', ops.toList[m]? = some o' → o'.dst = some t → (t ∈ o.looksAt ops ∨ o.dst = some t) → m ≠ i → (listed.getD m false = decide (m < i)) := by
      intro t m o' hm hd hlook hne
      have hm' : ops[m]? = some o' := by simpa using hm
      rcases Nat.lt_or_gt_of_ne hne with hmi | hmi
      · have hsh : shares ops o' o = true := by
          rcases hlook with h | h
          · exact shares_of_look hd h
          · exact shares_of_dst hd h
        have := hbits m o' hmi hm' (((earlier_at (b := Region.before ops) hok ho).2 m o' hmi hm').1 hsh)
        rw [this]; simp [hmi]
      · have hsh : shares ops o o' = true := by
          rcases hlook with h | h
          · exact shares_of_look' hd h
          · exact shares_of_dst h hd
        have hbit := ((earlier_at (b := Region.before ops) hok hm').2 i o hmi ho).1 hsh
        have : listed.getD m false = false := by
          cases hL : listed.getD m false with
          | false => rfl
          | true =>
            have := hbefore m o' hm' hL i o hmi ho hbit
            rw [hi0] at this; cases this
        rw [this]; simp; omega
    have hwp := hstep a w j hall V.st V.defers V.size fun t ht hts => by
      have := V.slots t hts
      rw [sigF_congr t (fun j => listed.getD j false) (fun j => decide (j < i)) ops.toList es 0 _ _ rfl fun m o' hm hd => by
        simp only [Nat.zero_add]
        by_cases hmi : m = i
        · subst hmi; rw [hi0]; simp
        · exact hsame t m o' hm hd (.inl ht) hmi] at this
      exact this
    refine wpOp_mono (fun a' w' h => ?_) hwp
    obtain ⟨v, rfl, hv, hI⟩ := h
    have hsz : i < listed.size := by rw [V.lsize]; exact hlt
    have hset : ∀ j, (listed.setIfInBounds i true).getD j false = if j = i then true else listed.getD j false := by
      intro j
      by_cases hji : j = i
      · subst hji; simp [hsz]
      · rw [if_neg hji, getD_set_ne false (Ne.symm hji)]
    obtain ⟨j', hI', hle', hhist'⟩ : ∃ j', I j' (slotsOf (a.put o.dst v)) w' ∧ j' ≤ effs.length ∧ ∀ k e, effs[k]? = some e → ((listed.setIfInBounds i true).getD e false = true ↔ k < j') := by
      by_cases him : i ∈ effs
      · obtain ⟨k, hk⟩ := List.getElem?_of_mem him
        have hjk : j = k := hall.2.2 k hk
        subst hjk
        refine ⟨j + 1, hI.1 him, by have := (List.getElem?_eq_some_iff.1 hk).1; omega, fun k' e' he' => ?_⟩
        rw [hset]
        by_cases hei : e' = i
        · subst hei
          have := hef.inj he' hk
          subst this
          simp
        · rw [if_neg hei, V.hist k' e' he']
          have : k' ≠ j := by rintro rfl; rw [hk] at he'; cases he'; exact hei rfl
          omega
      · refine ⟨j, hloc j _ _ w' (fun k e _ hk t ht => ?_) (hI.2 him), V.le, fun k' e' he' => ?_⟩
        · rw [slotsOf_put]
          intro hd
          have hm : e ∈ effs := List.mem_of_getElem? hk
          have := hef.uniq e hm t ht i hlt (by rw [ho]; exact hd)
          subst this
          exact him hm
        · rw [hset, if_neg (by rintro rfl; exact him (List.mem_of_getElem? he')), V.hist k' e' he']
    refine ih (rem.erase i) _ j' _ _ ⟨hI', hle', hhist', ?_, ?_, by simpa using V.lsize, ?_, ?_⟩ (hn.erase i) ?_ ?_
    · rw [← V.defers]; cases o.dst <;> rfl
    · rw [← V.size]; cases o.dst <;> simp [Act.put]
    · intro j y hj hL e he hb
      rw [hset] at hL ⊢
      by_cases hei : e.on = i
      · simp [hei]
      · rw [if_neg hei]
        by_cases hji : j = i
        · subst hji; rw [ho] at hj; cases hj; exact hedge e he hb
        · rw [if_neg hji] at hL; exact V.closed j y hj hL e he hb
    · intro t hts
      by_cases hd : o.dst = some t
      · rw [sigF_last t _ i ops.toList es 0 i _ o es[i] (by omega) hol (List.getElem?_eq_getElem hil) hd (by rw [hset]; simp) fun m' o' hm' ho' hd' => by
          simp only [Nat.zero_add]
          rw [hset, if_neg (by omega), hsame t m' o' ho' hd' (.inr hd) (by omega)]
          simp; omega]
        have hts' : t < a.tmps.size := by rw [V.size]; exact hts
        simpa [Act.put, hd, hts'] using hv
      · have e1 : (a.put o.dst v).tmps.getD t undef = a.tmps.getD t undef := slotsOf_put a o.dst v t hd
        rw [e1, sigF_congr t _ (fun j => listed.getD j false) ops.toList es 0 _ _ rfl fun m o' hm hd' => by
          simp only [Nat.zero_add]
          rw [hset, if_neg (by rintro rfl; rw [hol] at hm; cases hm; exact hd hd')]]
        refine free_sigF _ _ _ _ (fun m s hm => ?_) _ (fun t => Free.ex _) t _ _ _ (V.slots t hts)
        have hml : m < ops.toList.length := by rw [← hl]; exact (List.getElem?_eq_some_iff.1 hm).1
        exact (hes m _ s (List.getElem?_eq_getElem hml) hm).1
    · intro j
      rw [hn.mem_erase_iff, hrem, hset]
      constructor
      · rintro ⟨h1, h2, h3⟩; exact ⟨h2, by rw [if_neg h1]; exact h3⟩
      · rintro ⟨h2, h3⟩
        by_cases hji : j = i
        · rw [if_pos hji] at h3; cases h3
        · rw [if_neg hji] at h3; exact ⟨hji, h2, h3⟩
    · have := List.length_erase_of_mem ((hrem i).2 ⟨hlt, hi0⟩)
      have hpos : 0 < rem.length := List.length_pos_of_mem ((hrem i).2 ⟨hlt, hi0⟩)
      omega

theorem wp_region_rxi {id : Nat} {l : List Oper} {Q : Exit → Act → World → Prop} {a : Act} {w : World} (I : Nat → (Nat → Value) → World → Prop) (effs : List Nat) (hm : P.follows .mixedOrders = true) (hok : regOk l.toArray = true) (hef : effsOk l.toArray effs = true)
    (hloc : ∀ j τ τ' w, (∀ k e, k < j → effs[k]? = some e → ∀ t, (l.toArray[e]?).bind (·.dst) = some t → τ t = τ' t) → I j τ w → I j τ' w) (h0 : I 0 (slotsOf a) w.drew)
    (h : RXl P l.toArray Q a I effs (EndX Q a I effs) l 0 (fun t => .ex (a.tmps.getD t undef))) : (Code.region id l.toArray true).wp P Q a w := by
  obtain ⟨es, hl, hes, hend⟩ := RXl.env l 0 _ h
  refine wp_region_any hm ?_
  refine rx_any (a0 := a) (I := I) (effs := effs) (es := es) hok (effsOk_spec hef) hloc (by simpa using hl) (fun m o s ho hs => ?_) (by simpa using hend) _ (List.range l.toArray.size) _ 0 a _ ?_ List.nodup_range ?_ (by simp)
  · have := hes m o s (by simpa using ho) hs
    simpa using this
  · refine ⟨h0, Nat.zero_le _, fun k e _ => ?_, rfl, rfl, by simp, ?_, ?_⟩
    · rw [rep_false]; simp
    · intro j y hj hL
      rw [rep_false] at hL
      cases hL
    · intro t _
      rw [sigF_nil _ _ _ _ _ (fun j => rep_false _ j)]
      rfl
  · intro j
    rw [List.mem_range]
    constructor
    · intro hj; exact ⟨hj, rep_false _ j⟩
    · exact fun h => h.1
/-- The same, where J speaks of the world alone. -/
theorem wp_region_rx {id : Nat} {l : List Oper} {Q : Exit → Act → World → Prop} {a : Act} {w : World} (J : Nat → World → Prop) (effs : List Nat) (hm : P.follows .mixedOrders = true) (hok : regOk l.toArray = true) (hef : effsOk l.toArray effs = true)
    (h0 : J 0 w.drew) (h : RXl P l.toArray Q a (fun j _ w => J j w) effs (EndX Q a (fun j _ w => J j w) effs) l 0 (fun t => .ex (a.tmps.getD t undef))) : (Code.region id l.toArray true).wp P Q a w :=
  wp_region_rxi (fun j _ w => J j w) effs hm hok hef (fun _ _ _ _ _ h => h) h0 h

/-! ### the steps -/
variable {o : Oper} {rest : List Oper} {i : Nat} {σ : Sig}
/-- An operation whose value is known and that turns nothing. -/
theorem RXl.exact (v : Value) (hi : ops[i]? = some o) (hn : notSel o = true) (hk : known ops a0.tmps.size σ o = true) (hw : wantS ops σ o = true) (hne : effs.contains i = false)
    (hrun : ∀ j τ w, j ≤ effs.length → I j τ w → (execOp (rho σ) o).run P w = .ok (.value v) w) (h : RXl P ops Q a0 I effs E rest (i + 1) (upd σ o.dst (.ex v))) : RXl P ops Q a0 I effs E (o :: rest) i σ := by
  refine ⟨.ex v, Free.ex v, fun a w j ha hI _ _ hh => ?_, h⟩
  have hni : i ∉ effs := by simpa using hne
  unfold wpOp
  simp only [hi, want_of hw (inFrame_of_known hk) hh, if_true]
  refine .inl ?_
  unfold Oper.wp
  rw [eval_rho hk hh (notSel_spec hn), hrun j _ w ha.1 hI]
  exact ⟨v, rfl, rfl, fun hc => absurd hc hni, fun _ => hI⟩
/-- The same, of an operation that the k-th effect waits for. -/
theorem RXl.exactB (k e : Nat) (hke : effs[k]? = some e) (hb : ((Region.before ops).getD e 0).testBit i = true) (v : Value) (hi : ops[i]? = some o) (hn : notSel o = true) (hk : known ops a0.tmps.size σ o = true) (hw : wantS ops σ o = true) (hne : effs.contains i = false)
    (hrun : ∀ j τ w, j ≤ k → I j τ w → (execOp (rho σ) o).run P w = .ok (.value v) w) (h : RXl P ops Q a0 I effs E rest (i + 1) (upd σ o.dst (.ex v))) : RXl P ops Q a0 I effs E (o :: rest) i σ := by
  refine ⟨.ex v, Free.ex v, fun a w j ha hI _ _ hh => ?_, h⟩
  have hni : i ∉ effs := by simpa using hne
  unfold wpOp
  simp only [hi, want_of hw (inFrame_of_known hk) hh, if_true]
  refine .inl ?_
  unfold Oper.wp
  rw [eval_rho hk hh (notSel_spec hn), hrun j _ w ((ha.2.1 k e hke).2 (.inl hb)) hI]
  exact ⟨v, rfl, rfl, fun hc => absurd hc hni, fun _ => hI⟩
/-- One that the guard passes over. -/
theorem RXl.skip (hi : ops[i]? = some o) (hf : inFrame ops a0.tmps.size o = true) (hw : skipS ops σ o = true) (hne : effs.contains i = false) (h : RXl P ops Q a0 I effs E rest (i + 1) (upd σ o.dst (.ex undef))) : RXl P ops Q a0 I effs E (o :: rest) i σ := by
  refine ⟨.ex undef, Free.ex _, fun a w j ha hI _ _ hh => ?_, h⟩
  have hni : i ∉ effs := by simpa using hne
  unfold wpOp
  simp only [hi, notWant_of hw hf hh]
  exact ⟨undef, rfl, rfl, fun hc => absurd hc hni, fun _ => hI⟩
/-- An operation that only reads: what it gives is told by a spec. -/
theorem RXl.value (s : Spec) (hs : s.Free) (hi : ops[i]? = some o) (hf : inFrame ops a0.tmps.size o = true) (hw : wantS ops σ o = true) (hne : effs.contains i = false)
    (hrun : ∀ ρ w j, j ≤ effs.length → I j (fun t => ρ (.tmp t)) w → Agree ops a0.tmps.size σ o ρ w → ∃ v, (execOp ρ o).run P w = .ok (.value v) w ∧ s.holds v w)
    (h : RXl P ops Q a0 I effs E rest (i + 1) (upd σ o.dst s)) : RXl P ops Q a0 I effs E (o :: rest) i σ := by
  refine ⟨s, hs, fun a w j ha hI _ _ hh => ?_, h⟩
  have hni : i ∉ effs := by simpa using hne
  unfold wpOp
  simp only [hi, want_of hw hf hh, if_true]
  refine .inl ?_
  obtain ⟨v, hr, h2⟩ := hrun a.eval w j ha.1 hI (agree_eval hh)
  unfold Oper.wp
  rw [hr]
  exact ⟨v, rfl, h2, fun hc => absurd hc hni, fun _ => hI⟩
/-- A call that leaves what is said of the world. -/
theorem RXl.callr (v : Value) (f : FuncId) (args : List Value) (xs : List Operand) (ats : Array TypeId) (hop : o.op = .call { callee := .value (.func f), args := xs.toArray, argTypes := ats }) (ha : xs.map (rho σ) = args)
    (hi : ops[i]? = some o) (hk : known ops a0.tmps.size σ o = true) (hw : wantS ops σ o = true) (hne : effs.contains i = false)
    (hrun : ∀ w, (callFunc f args.toArray).run P w = .ok (.enter f args.toArray) w)
    (hc : ∀ j τ w, j ≤ effs.length → I j τ w → Calls P f args.toArray w fun e w' => e = .returned v ∧ I j τ w')
    (h : RXl P ops Q a0 I effs E rest (i + 1) (upd σ o.dst (.ex v))) : RXl P ops Q a0 I effs E (o :: rest) i σ := by
  refine ⟨.ex v, Free.ex v, fun a w j hal hI _ _ hh => ?_, h⟩
  have hni : i ∉ effs := by simpa using hne
  unfold wpOp
  simp only [hi, want_of hw (inFrame_of_known hk) hh, if_true]
  refine .inl ?_
  unfold Oper.wp
  rw [eval_rho hk hh (notSel_spec (by simp [notSel, hop])), execOp_go (fun _ => rfl) f xs ats hop args ha, hrun w]
  refine Calls.mono (hc j _ w hal.1 hI) fun e w' he => ?_
  obtain ⟨rfl, he⟩ := he
  exact ⟨v, rfl, rfl, fun hc => absurd hc hni, fun _ => he⟩
/-- A call that turns memory: the k-th of its kind. -/
theorem RXl.calle (k : Nat) (s : Spec) (hs : s.Free) (f : FuncId) (args : List Value) (xs : List Operand) (ats : Array TypeId) (hop : o.op = .call { callee := .value (.func f), args := xs.toArray, argTypes := ats }) (ha : xs.map (rho σ) = args)
    (hi : ops[i]? = some o) (hk : known ops a0.tmps.size σ o = true) (hw : wantS ops σ o = true) (hke : effs[k]? = some i)
    (hrun : ∀ w, (callFunc f args.toArray).run P w = .ok (.enter f args.toArray) w)
    (hc : ∀ a w, I k (slotsOf a) w → a.tmps.size = a0.tmps.size → Calls P f args.toArray w fun e w' => ∃ v, e = .returned v ∧ s.holds v w' ∧ I (k + 1) (slotsOf (a.put o.dst v)) w')
    (h : RXl P ops Q a0 I effs E rest (i + 1) (upd σ o.dst s)) : RXl P ops Q a0 I effs E (o :: rest) i σ := by
  refine ⟨s, hs, fun a w j hal hI _ hsz hh => ?_, h⟩
  obtain rfl := hal.2.2 k hke
  have him : i ∈ effs := List.mem_of_getElem? hke
  unfold wpOp
  simp only [hi, want_of hw (inFrame_of_known hk) hh, if_true]
  refine .inl ?_
  unfold Oper.wp
  rw [eval_rho hk hh (notSel_spec (by simp [notSel, hop])), execOp_go (fun _ => rfl) f xs ats hop args ha, hrun w]
  refine Calls.mono (hc a w hI hsz) fun e w' he => ?_
  obtain ⟨v, rfl, h1, h2⟩ := he
  exact ⟨v, rfl, h1, fun _ => h2, fun hc => absurd him hc⟩
/-- The same, where J speaks of the world alone, and the value is known. -/
theorem RXl.callj {J : Nat → World → Prop} (k : Nat) (v : Value) (f : FuncId) (args : List Value) (xs : List Operand) (ats : Array TypeId) (hop : o.op = .call { callee := .value (.func f), args := xs.toArray, argTypes := ats }) (ha : xs.map (rho σ) = args)
    (hi : ops[i]? = some o) (hk : known ops a0.tmps.size σ o = true) (hw : wantS ops σ o = true) (hke : effs[k]? = some i)
    (hrun : ∀ w, (callFunc f args.toArray).run P w = .ok (.enter f args.toArray) w)
    (hc : ∀ w, J k w → Calls P f args.toArray w fun e w' => e = .returned v ∧ J (k + 1) w')
    (h : RXl P ops Q a0 (fun j _ w => J j w) effs E rest (i + 1) (upd σ o.dst (.ex v))) : RXl P ops Q a0 (fun j _ w => J j w) effs E (o :: rest) i σ :=
  RXl.calle k (.ex v) (Free.ex v) f args xs ats hop ha hi hk hw hke hrun (fun _ w hj _ => (hc w hj).mono fun _ _ he => ⟨v, he.1, rfl, he.2⟩) h
/-- An operation that is no call and turns memory: the k-th of its kind. -/
theorem RXl.effv (k : Nat) (s : Spec) (hs : s.Free) (hi : ops[i]? = some o) (hf : inFrame ops a0.tmps.size o = true) (hw : wantS ops σ o = true) (hke : effs[k]? = some i)
    (hrun : ∀ a w, I k (slotsOf a) w → a.tmps.size = a0.tmps.size → Agree ops a0.tmps.size σ o a.eval w → ∃ v w', (execOp a.eval o).run P w = .ok (.value v) w' ∧ s.holds v w' ∧ I (k + 1) (slotsOf (a.put o.dst v)) w')
    (h : RXl P ops Q a0 I effs E rest (i + 1) (upd σ o.dst s)) : RXl P ops Q a0 I effs E (o :: rest) i σ := by
  refine ⟨s, hs, fun a w j hal hI _ hsz hh => ?_, h⟩
  obtain rfl := hal.2.2 k hke
  have him : i ∈ effs := List.mem_of_getElem? hke
  unfold wpOp
  simp only [hi, want_of hw hf hh, if_true]
  refine .inl ?_
  obtain ⟨v, w', hr, h1, h2⟩ := hrun a w hI hsz (agree_eval hh)
  unfold Oper.wp
  rw [hr]
  exact ⟨v, rfl, h1, fun _ => h2, fun hc => absurd him hc⟩
theorem RXl.nil (h : ∀ a w, I effs.length (slotsOf a) w → a.defers = a0.defers → a.tmps.size = a0.tmps.size → (∀ t, t < a0.tmps.size → (σ t).holds (a.tmps.getD t undef) w) → Q .normal a w) : RXl P ops Q a0 I effs (EndX Q a0 I effs) [] i σ := h
/-- An operation without a slot that turns memory (a store): the k-th of its kind. -/
theorem RXl.effj {J : Nat → World → Prop} (k : Nat) (hi : ops[i]? = some o) (hn : notSel o = true) (hk : known ops a0.tmps.size σ o = true) (hw : wantS ops σ o = true) (hke : effs[k]? = some i) (hd : o.dst = none)
    (hrun : ∀ w, J k w → ∃ w', (execOp (rho σ) o).run P w = .ok .skip w' ∧ J (k + 1) w')
    (h : RXl P ops Q a0 (fun j _ w => J j w) effs E rest (i + 1) σ) : RXl P ops Q a0 (fun j _ w => J j w) effs E (o :: rest) i σ := by
  have e : upd σ o.dst (.so fun _ _ => True) = σ := by funext t; simp [upd, hd]
  refine ⟨.so fun _ _ => True, Free.so _, fun a w j hal hI _ hsz hh => ?_, by rw [e]; exact h⟩
  obtain rfl := hal.2.2 k hke
  have him : i ∈ effs := List.mem_of_getElem? hke
  unfold wpOp
  simp only [hi, want_of hw (inFrame_of_known hk) hh, if_true]
  refine .inl ?_
  obtain ⟨w', hr, h2⟩ := hrun w hI
  unfold Oper.wp
  rw [eval_rho hk hh (notSel_spec hn), hr]
  exact ⟨undef, rfl, trivial, fun _ => h2, fun hc => absurd him hc⟩
/-- An operation that turns memory and gives a known value. -/
theorem RXl.effk {J : Nat → World → Prop} (k : Nat) (v : Value) (hi : ops[i]? = some o) (hn : notSel o = true) (hk : known ops a0.tmps.size σ o = true) (hw : wantS ops σ o = true) (hke : effs[k]? = some i)
    (hrun : ∀ w, J k w → ∃ w', (execOp (rho σ) o).run P w = .ok (.value v) w' ∧ J (k + 1) w')
    (h : RXl P ops Q a0 (fun j _ w => J j w) effs E rest (i + 1) (upd σ o.dst (.ex v))) : RXl P ops Q a0 (fun j _ w => J j w) effs E (o :: rest) i σ := by
  refine ⟨.ex v, Free.ex v, fun a w j hal hI _ hsz hh => ?_, h⟩
  obtain rfl := hal.2.2 k hke
  have him : i ∈ effs := List.mem_of_getElem? hke
  unfold wpOp
  simp only [hi, want_of hw (inFrame_of_known hk) hh, if_true]
  refine .inl ?_
  obtain ⟨w', hr, h2⟩ := hrun w hI
  unfold Oper.wp
  rw [eval_rho hk hh (notSel_spec hn), hr]
  exact ⟨v, rfl, rfl, fun _ => h2, fun hc => absurd him hc⟩
/-- An operation without a slot that turns memory, where I speaks of slots too. -/
theorem RXl.effI (k : Nat) (hi : ops[i]? = some o) (hf : inFrame ops a0.tmps.size o = true) (hw : wantS ops σ o = true) (hke : effs[k]? = some i) (hd : o.dst = none)
    (hrun : ∀ a w, I k (slotsOf a) w → a.tmps.size = a0.tmps.size → Agree ops a0.tmps.size σ o a.eval w → ∃ w', (execOp a.eval o).run P w = .ok .skip w' ∧ I (k + 1) (slotsOf a) w')
    (h : RXl P ops Q a0 I effs E rest (i + 1) σ) : RXl P ops Q a0 I effs E (o :: rest) i σ := by
  have e : upd σ o.dst (.so fun _ _ => True) = σ := by funext t; simp [upd, hd]
  refine ⟨.so fun _ _ => True, Free.so _, fun a w j hal hI _ hsz hh => ?_, by rw [e]; exact h⟩
  obtain rfl := hal.2.2 k hke
  have him : i ∈ effs := List.mem_of_getElem? hke
  unfold wpOp
  simp only [hi, want_of hw hf hh, if_true]
  refine .inl ?_
  obtain ⟨w', hr, h2⟩ := hrun a w hI hsz (agree_eval hh)
  unfold Oper.wp
  rw [hr]
  exact ⟨undef, rfl, trivial, fun _ => by rw [hd]; exact h2, fun hc => absurd him hc⟩
theorem exec_copy {ρ : Operand → Value} {w w' : World} {x y : Operand} {ats : Array TypeId} {v : Value} (hop : o.op = .call { callee := .builtin .copy, args := #[x, y], argTypes := ats }) (h : (Builtin.copy_ ats o.type #[ρ x, ρ y]).run P w = .ok v w') :
    (execOp ρ o).run P w = .ok (.value v) w' := by
  simp [execOp, hop, resolve, invoke, builtin, h, Result.andThen]
theorem exec_store {ρ : Operand → Value} {w : World} {t : TypeId} {x y : Operand} {ad : Addr} {u v : Value} (hop : o.op = .store t x y) (hx : ρ x = .pointer (some ad)) (hy : ρ y = v) (h1 : v.oneCell' = true) (hs : (P.info? t).map (·.size) = some 1)
    (hc : w.cell? ad = some u) (hf : w.frozen? ad = false) : (execOp ρ o).run P w = .ok .skip (w.setCell ad v) := by
  have hv : v.cells = #[v] := by cases v <;> first | rfl | cases h1
  have h0 : ad.add 0 = ad := by obtain ⟨b, i, sp⟩ := ad; cases sp <;> simp [Addr.add]
  cases hq : P.info? t with
  | none => simp [hq] at hs
  | some i =>
    have hsz : i.size = 1 := by simpa [hq] using hs
    simp [execOp, hop, hx, hy, Instr.storeAt, Instr.sureAddr, storeVar, sizeOf, typeInfo, hq, hv, hsz, storeCells, run_store P w ad v _ h1, hc, hf, h0]
/-! ### the frame behind the region, written out -/
/-- The specs tell the frame. -/
def Agr (a0 : Act) (σ : Sig) (A : Act) : Prop := A.defers = a0.defers ∧ A.tmps.size = a0.tmps.size ∧ ∀ t, t < a0.tmps.size → σ t = .ex (A.tmps.getD t undef)
theorem Agr.base (a0 : Act) : Agr a0 (fun t => .ex (a0.tmps.getD t undef)) a0 := ⟨rfl, rfl, fun _ _ => rfl⟩
theorem Agr.upd {a0 A : Act} {σ : Sig} (d : Option Tmp) (v : Value) (h : Agr a0 σ A) : Agr a0 (upd σ d (.ex v)) (A.put d v) := by
  obtain ⟨h1, h2, h3⟩ := h
  refine ⟨by rw [← h1]; cases d <;> rfl, by rw [← h2]; cases d <;> simp [Act.put], fun t ht => ?_⟩
  by_cases hd : d = some t
  · subst hd
    have ht' : t < A.tmps.size := by rw [h2]; exact ht
    simp [Reg.upd, Act.put, ht']
  · rw [show (A.put d v).tmps.getD t undef = A.tmps.getD t undef from slotsOf_put A d v t hd]
    simp [Reg.upd, hd, h3 t ht]
theorem Agr.none {a0 A : Act} {σ : Sig} (s : Spec) (h : Agr a0 σ A) : Agr a0 (Reg.upd σ none s) A := ⟨h.1, h.2.1, fun t ht => by simpa [Reg.upd] using h.2.2 t ht⟩
theorem RXl.nilx (A : Act) (hA : Agr a0 σ A) (h : ∀ w, (∃ τ, I effs.length τ w) → Q .normal A w) : RXl P ops Q a0 I effs (EndX Q a0 I effs) [] i σ := by
  refine RXl.nil fun a w hI hd hs hh => ?_
  have e : a = A := by
    obtain ⟨tm, df⟩ := a
    obtain ⟨tA, dA⟩ := A
    have e1 : df = dA := hd.trans hA.1.symm
    have e2 : tm = tA := by
      apply Array.ext (hs.trans hA.2.1.symm)
      intro t h1 h2
      have ht : t < a0.tmps.size := by rw [← hs]; exact h1
      have q := hh t ht
      rw [hA.2.2 t ht] at q
      have q2 : tm.getD t undef = tA.getD t undef := q
      simpa [Array.getD, h1, h2] using q2
    rw [e1, e2]
  subst e
  exact h w ⟨_, hI⟩
/-- The same for regions that only add memory. -/
theorem RSl.nilx {w0 : World} (A : Act) (hA : Agr a0 σ A) (h : ∀ w, Add w0 w → Q .normal A w) : RSl P ops Q a0 w0 (EndOk Q a0 w0) [] i σ := by
  refine RSl.nil fun a w ha hd hs hh => ?_
  have e : a = A := by
    obtain ⟨tm, df⟩ := a
    obtain ⟨tA, dA⟩ := A
    have e1 : df = dA := hd.trans hA.1.symm
    have e2 : tm = tA := by
      apply Array.ext (hs.trans hA.2.1.symm)
      intro t h1 h2
      have ht : t < a0.tmps.size := by rw [← hs]; exact h1
      have q := hh t ht
      rw [hA.2.2 t ht] at q
      have q2 : tm.getD t undef = tA.getD t undef := q
      simpa [Array.getD, h1, h2] using q2
    rw [e1, e2]
  subst e
  exact h w ha
end
end Go.Proofs.Ytjnfhppjkadlpaa.Reg
