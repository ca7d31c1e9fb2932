/- Regions whose order is drawn, walked once in the text's order: each operation only adds to memory, and what it gives is said by a spec that more memory does not turn. Program-free; no condition. -/
import Derived.Test.YtjnfhppjkadlpaaSp
import Derived.Orders
namespace Go.Proofs.Ytjnfhppjkadlpaa.Reg
open Go Go.RowKit Go.Proofs.Ytjnfhppjkadlpaa.Sp

/-- Memory has been added; nothing that was there has turned. -/
def Add (w w' : World) : Prop := Below w.heap.size w w'
theorem Add.refl (w : World) : Add w w := Below.refl _ _
theorem Add.trans {a b c : World} (h : Add a b) (k : Add b c) : Add a c := Below.trans h (Below.mono k h.size)
theorem Add.drew (w : World) : Add w w.drew := (Below.refl _ _).drew
theorem Add.alloc (w : World) (o : Obj) : Add w (w.alloc o) := below_alloc' w o
/-- A cell that was there reads as it did. -/
theorem Add.cell {w w' : World} (h : Add w w') {p : Addr} {v : Value} (hc : w.cell? p = some v) : w'.cell? p = some v := by
  rw [Below.cell (w := w) h (World.block_lt_of_cell? w p hc)]; exact hc
theorem Add.of_st {w w' : World} {H : HP} (s : St w.heap.size w w' H) : Add w w' := s.below

/-- What is said of a slot: its value, or a property. -/
inductive Spec where
  | ex (v : Value)
  | so (V : Value → World → Prop)
def Spec.holds : Spec → Value → World → Prop
  | .ex v, u, _ => u = v
  | .so V, u, w => V u w
def Spec.val : Spec → Value
  | .ex v => v
  | .so _ => undef
def Spec.isEx : Spec → Bool
  | .ex _ => true
  | .so _ => false
def Spec.Stab (s : Spec) : Prop := ∀ v w w', Add w w' → s.holds v w → s.holds v w'
theorem Stab.ex (v : Value) : (Spec.ex v).Stab := fun _ _ _ _ h => h
theorem Spec.ex_holds {s : Spec} {u : Value} {w : World} (h : s.isEx = true) (hh : s.holds u w) : u = s.val := by
  cases s with
  | ex v => exact hh
  | so V => cases h

/-- What is said of all slots. -/
abbrev Sig := Nat → Spec
def upd (σ : Sig) (d : Option Tmp) (s : Spec) : Sig := fun t => if d = some t then s else σ t

section
variable {P : Program} {ops : Array Oper} {Q : Exit → Act → World → Prop} {a0 : Act} {w0 : World} {E : Sig → Prop}

def StepOk (P : Program) (ops : Array Oper) (Q : Exit → Act → World → Prop) (a0 : Act) (w0 : World) (i : Nat) (o : Oper) (σ : Sig) (s : Spec) : Prop :=
  ∀ a w, Add w0 w → a.defers = a0.defers → (∀ t ∈ o.looksAt ops, t < a0.tmps.size → (σ t).holds (a.tmps.getD t undef) w) →
    wpOp P ops Q i (fun a' w' => ∃ v, a' = a.put o.dst v ∧ Add w w' ∧ s.holds v w') a w
/-- The end: all operations have come up. -/
def EndOk (Q : Exit → Act → World → Prop) (a0 : Act) (w0 : World) (σ : Sig) : Prop :=
  ∀ a w, Add w0 w → a.defers = a0.defers → a.tmps.size = a0.tmps.size → (∀ t, t < a0.tmps.size → (σ t).holds (a.tmps.getD t undef) w) → Q .normal a w
/-- The walk in the text's order, up to an end E. -/
def RSl (P : Program) (ops : Array Oper) (Q : Exit → Act → World → Prop) (a0 : Act) (w0 : World) (E : Sig → Prop) : List Oper → Nat → Sig → Prop
  | [], _, σ => E σ
  | o :: rest, i, σ => ∃ s, s.Stab ∧ StepOk P ops Q a0 w0 i o σ s ∧ RSl P ops Q a0 w0 E rest (i + 1) (upd σ o.dst s)

/-- The specs behind those operations that L holds. -/
def sigF : List Oper → List Spec → Nat → (Nat → Bool) → Sig → Sig
  | o :: rest, s :: es, i, L, σ => sigF rest es (i + 1) L (if L i then upd σ o.dst s else σ)
  | _, _, _, _, σ => σ

theorem RSl.env : ∀ (l : List Oper) (i : Nat) (σ : Sig), RSl P ops Q a0 w0 E l i σ →
    ∃ es : List Spec, es.length = l.length ∧ (∀ m o s, l[m]? = some o → es[m]? = some s → s.Stab ∧ StepOk P ops Q a0 w0 (i + m) o (sigF l es i (fun j => decide (j < i + m)) σ) s) ∧
      E (sigF l es i (fun _ => true) σ)
  | [], i, σ, h => ⟨[], rfl, by simp, h⟩
  | o :: rest, i, σ, ⟨s, hs, hstep, hrest⟩ => by
    obtain ⟨es, hl, hall, hend⟩ := RSl.env rest (i + 1) _ hrest
    refine ⟨s :: es, by simp [hl], ?_, by simpa [sigF] using hend⟩
    intro m o' s' ho hs'
    cases m with
    | zero =>
      simp at ho hs'
      subst ho; subst hs'
      have : ∀ (l : List Oper) (es : List Spec) (k : Nat) (τ : Sig), i ≤ k → sigF l es k (fun j => decide (j < i)) τ = τ := by
        intro l
        induction l with
        | nil => intro es k τ _; rfl
        | cons o l ih =>
          intro es k τ hk
          cases es with
          | nil => rfl
          | cons s es => simp only [sigF]; rw [if_neg (by simp; omega)]; exact ih es (k + 1) τ (by omega)
      refine ⟨hs, ?_⟩
      have e := this (o :: rest) (s :: es) i σ (Nat.le_refl _)
      simp only [Nat.add_zero]
      rw [e]; exact hstep
    | succ m =>
      have := hall m o' s' (by simpa using ho) (by simpa using hs')
      have e1 : i + (m + 1) = i + 1 + m := by omega
      rw [e1]
      refine ⟨this.1, ?_⟩
      have e2 : sigF (o :: rest) (s :: es) i (fun j => decide (j < i + 1 + m)) σ = sigF rest es (i + 1) (fun j => decide (j < i + 1 + m)) (upd σ o.dst s) := by
        simp only [sigF]; rw [if_pos (by simp; omega)]
      rw [e2]; exact this.2

/-- Only the writers of a slot count. -/
theorem sigF_congr (t : Nat) (L L' : Nat → Bool) : ∀ (l : List Oper) (es : List Spec) (i : Nat) (σ τ : Sig), σ t = τ t →
    (∀ m o, l[m]? = some o → o.dst = some t → L (i + m) = L' (i + m)) → sigF l es i L σ t = sigF l es i L' τ t
  | [], _, _, _, _, h, _ => h
  | _ :: _, [], _, _, _, h, _ => h
  | o :: l, s :: es, i, σ, τ, h, hw => by
    simp only [sigF]
    refine sigF_congr t L L' l es (i + 1) _ _ ?_ fun m o' ho hd => by
      have := hw (m + 1) o' (by simpa using ho) hd
      rwa [show i + (m + 1) = i + 1 + m by omega] at this
    by_cases hd : o.dst = some t
    · have := hw 0 o (by simp) hd
      simp only [Nat.add_zero] at this
      rw [this]
      cases L' i <;> simp [upd, hd, h]
    · have q1 : (if L i = true then upd σ o.dst s else σ) t = σ t := by cases L i <;> simp [upd, hd]
      have q2 : (if L' i = true then upd τ o.dst s else τ) t = τ t := by cases L' i <;> simp [upd, hd]
      rw [q1, q2, h]
/-- The last writer tells. -/
theorem sigF_last (t : Nat) (L : Nat → Bool) (k : Nat) : ∀ (l : List Oper) (es : List Spec) (i m : Nat) (σ : Sig) (o : Oper) (s : Spec), i + m = k → l[m]? = some o → es[m]? = some s →
    o.dst = some t → L k = true → (∀ m' o', m < m' → l[m']? = some o' → o'.dst = some t → L (i + m') = false) → sigF l es i L σ t = s
  | [], _, _, _, _, _, _, _, h, _, _, _, _ => by simp at h
  | _ :: _, [], _, _, _, _, _, _, _, h, _, _, _ => by simp at h
  | o' :: l, s' :: es, i, m, σ, o, s, hk, ho, hs, hd, hL, hlast => by
    simp only [sigF]
    cases m with
    | zero =>
      simp at ho hs hk
      subst ho; subst hs; subst hk
      have : ∀ (l : List Oper) (es : List Spec) (j : Nat) (τ : Sig), (∀ m' o'', l[m']? = some o'' → o''.dst = some t → L (j + m') = false) → sigF l es j L τ t = τ t := by
        intro l
        induction l with
        | nil => intro es j τ _; rfl
        | cons o l ih =>
          intro es j τ hh
          cases es with
          | nil => rfl
          | cons s es =>
            simp only [sigF]
            rw [ih es (j + 1) _ fun m' o'' h1 h2 => by
              have := hh (m' + 1) o'' (by simpa using h1) h2
              rwa [show j + (m' + 1) = j + 1 + m' by omega] at this]
            by_cases hd' : o.dst = some t
            · have := hh 0 o (by simp) hd'
              simp only [Nat.add_zero] at this
              simp [this]
            · cases L j <;> simp [upd, hd']
      rw [this l es (i + 1) _ fun m' o'' h1 h2 => by
        have := hlast (m' + 1) o'' (by omega) (by simpa using h1) h2
        rwa [show i + (m' + 1) = i + 1 + m' by omega] at this]
      simp [hL, upd, hd]
    | succ m =>
      exact sigF_last t L k l es (i + 1) m _ o s (by omega) (by simpa using ho) (by simpa using hs) hd hL fun m' o'' h0 h1 h2 => by
        have := hlast (m' + 1) o'' (by omega) (by simpa using h1) h2
        rwa [show i + (m' + 1) = i + 1 + m' by omega] at this

/-! ### which regions -/
def shares (ops : Array Oper) (x y : Oper) : Bool :=
  (match x.dst with
   | some d => (y.looksAt ops).contains d || y.dst == some d
   | none => false) ||
  (match y.dst with
   | some d => (x.looksAt ops).contains d
   | none => false)
def earlier (ops : Array Oper) (b : Array Nat) : Bool :=
  (List.range ops.size).all fun j => match ops[j]? with
    | none => true
    | some y => y.after.toList.all (fun e => !Region.binds .any e || decide (e.on < j)) &&
      (List.range j).all fun i => match ops[i]? with
        | none => true
        | some x => (!shares ops x y || (b.getD j 0).testBit i) &&
          (!(b.getD j 0).testBit i || y.after.toList.any fun e => Region.binds .any e && (e.on == i || (decide (i < e.on) && (decide (e.on < j) && (b.getD e.on 0).testBit i))))
def regOk (ops : Array Oper) : Bool := earlier ops (Region.before ops)

theorem earlier_at {b : Array Nat} (h : earlier ops b = true) {j : Nat} {y : Oper} (hj : ops[j]? = some y) :
    (∀ e ∈ y.after, Region.binds .any e = true → e.on < j) ∧
    ∀ i x, i < j → ops[i]? = some x → (shares ops x y = true → (b.getD j 0).testBit i = true) ∧
      ((b.getD j 0).testBit i = true → ∃ e ∈ y.after, Region.binds .any e = true ∧ (e.on = i ∨ (i < e.on ∧ e.on < j ∧ (b.getD e.on 0).testBit i = true))) := by
  have hlt : j < ops.size := (Array.getElem?_eq_some_iff.1 hj).1
  unfold earlier at h
  rw [List.all_eq_true] at h
  have hh := h j (List.mem_range.2 hlt)
  simp only [hj, Bool.and_eq_true] at hh
  refine ⟨fun e he hb => ?_, fun i x hi hx => ?_⟩
  · have := List.all_eq_true.1 hh.1 e (by simpa using he)
    simp only [hb, Bool.not_true, Bool.false_or, decide_eq_true_eq] at this
    exact this
  · have := List.all_eq_true.1 hh.2 i (List.mem_range.2 hi)
    simp only [hx, Bool.and_eq_true] at this
    refine ⟨fun hs => ?_, fun hb => ?_⟩
    · have q := this.1; rw [hs] at q; simpa using q
    · have q := this.2
      rw [hb] at q
      simp only [Bool.not_true, Bool.false_or] at q
      obtain ⟨e, he, hq⟩ := List.any_eq_true.1 q
      simp only [Bool.and_eq_true, Bool.or_eq_true, beq_iff_eq, decide_eq_true_eq] at hq
      exact ⟨e, by simpa using he, hq.1, hq.2⟩

/-- What has come up holds all that it waits for. -/
def Closed (ops : Array Oper) (listed : Array Bool) : Prop :=
  ∀ j y, ops[j]? = some y → listed.getD j false = true → ∀ e ∈ y.after, Region.binds .any e = true → listed.getD e.on false = true
theorem closed_before {b : Array Nat} (h : earlier ops b = true) {listed : Array Bool} (hc : Closed ops listed) : ∀ (j : Nat) (y : Oper), ops[j]? = some y → listed.getD j false = true →
    ∀ i x, i < j → ops[i]? = some x → (b.getD j 0).testBit i = true → listed.getD i false = true := by
  intro j
  induction j using Nat.strongRecOn with
  | _ j ih =>
    intro y hj hL i x hi hx hb
    obtain ⟨e, he, hbind, hor⟩ := ((earlier_at h hj).2 i x hi hx).2 hb
    have hle := hc j y hj hL e he hbind
    rcases hor with rfl | ⟨hie, hlt, hbit⟩
    · exact hle
    · have : e.on < ops.size := by have := (Array.getElem?_eq_some_iff.1 hj).1; omega
      exact ih e.on hlt ops[e.on] (Array.getElem?_eq_getElem this) hle i x hie hx hbit

theorem shares_of_look {x y : Oper} {t : Nat} (hd : x.dst = some t) (h : t ∈ y.looksAt ops) : shares ops x y = true := by simp [shares, hd, h]
theorem shares_of_look' {x y : Oper} {t : Nat} (hd : y.dst = some t) (h : t ∈ x.looksAt ops) : shares ops x y = true := by simp [shares, hd, h]
theorem shares_of_dst {x y : Oper} {t : Nat} (hx : x.dst = some t) (hy : y.dst = some t) : shares ops x y = true := by simp [shares, hx, hy]

/-- The invariant of a run in whatever order. -/
structure Inv (ops : Array Oper) (es : List Spec) (a0 : Act) (w0 : World) (listed : Array Bool) (a : Act) (w : World) : Prop where
  add : Add w0 w
  defers : a.defers = a0.defers
  size : a.tmps.size = a0.tmps.size
  lsize : listed.size = ops.size
  closed : Closed ops listed
  slots : ∀ t, t < a0.tmps.size → (sigF ops.toList es 0 (fun j => listed.getD j false) (fun t => .ex (a0.tmps.getD t undef)) t).holds (a.tmps.getD t undef) w

theorem getD_false_true {listed : Array Bool} {j : Nat} (h : j < listed.size) : listed.getD j true = listed.getD j false := by simp [h]

theorem stab_sigF : ∀ (l : List Oper) (es' : List Spec) (i : Nat) (L : Nat → Bool), (∀ (m : Nat) (s : Spec), es'[m]? = some s → s.Stab) → ∀ τ : Sig, (∀ t, (τ t).Stab) → ∀ t, (sigF l es' i L τ t).Stab
  | [], _, _, _, _, _, hτ, t => hτ t
  | _ :: _, [], _, _, _, _, hτ, t => hτ t
  | o :: l, s :: es', i, L, h, τ, hτ, t => by
    simp only [sigF]
    refine stab_sigF l es' (i + 1) L (fun m s' hm => h (m + 1) s' (by simpa using hm)) _ (fun t => ?_) t
    split
    · unfold upd
      split
      · exact h 0 s (by simp)
      · exact hτ t
    · exact hτ t

theorem all_of_ready_nil (hok : regOk ops = true) {listed : Array Bool} (hs : listed.size = ops.size) (h : Region.ready .any ops listed = []) : ∀ j, j < ops.size → listed.getD j false = true := by
  intro j
  induction j using Nat.strongRecOn with
  | _ j ih =>
    intro hj
    by_cases hL : listed.getD j false = true
    · exact hL
    · have : j ∈ Region.ready .any ops listed := by
        rw [mem_ready]
        refine ⟨by rw [getD_false_true (by omega)]; simpa using hL, ops[j], Array.getElem?_eq_getElem hj, fun e he hb => ?_⟩
        have hlt := (earlier_at (b := Region.before ops) hok (Array.getElem?_eq_getElem hj)).1 e he hb
        exact ih e.on hlt (by omega)
      rw [h] at this; cases this

theorem rs_any (hok : regOk ops = true) {es : List Spec} (hl : es.length = ops.toList.length)
    (hes : ∀ m o s, ops.toList[m]? = some o → es[m]? = some s → s.Stab ∧ StepOk P ops Q a0 w0 m o (sigF ops.toList es 0 (fun j => decide (j < m)) (fun t => .ex (a0.tmps.getD t undef))) s)
    (hend : EndOk Q a0 w0 (sigF ops.toList es 0 (fun _ => true) (fun t => .ex (a0.tmps.getD t undef)))) :
    ∀ (fuel : Nat) (rem : List Nat) (listed : Array Bool) (a : Act) (w : World), Inv ops es a0 w0 listed a w → rem.Nodup → (∀ j, j ∈ rem ↔ j < ops.size ∧ listed.getD j false = false) → rem.length ≤ fuel →
      wpAny P .any ops Q fuel listed a w := by
  have fin : ∀ (listed : Array Bool) (a : Act) (w : World), Inv ops es a0 w0 listed a w → (∀ j, j < ops.size → listed.getD j false = true) → Q .normal a w := by
    intro listed a w I hall
    refine hend a w I.add I.defers I.size fun t hts => ?_
    have := I.slots t hts
    rw [sigF_congr t (fun j => listed.getD j false) (fun _ => true) ops.toList es 0 _ _ rfl fun m o hm _ => by
      have hlt : m < ops.toList.length := (List.getElem?_eq_some_iff.1 hm).1
      simp only [Nat.zero_add]
      exact hall m (by simpa using hlt)] at this
    exact this
  intro fuel
  induction fuel with
  | zero =>
    intro rem listed a w I hn hrem hlen
    have hnil : rem = [] := List.eq_nil_of_length_eq_zero (by omega)
    have hall : ∀ j, j < ops.size → listed.getD j false = true := fun j hj => by
      cases hL : listed.getD j false with
      | true => rfl
      | false => have := (hrem j).2 ⟨hj, hL⟩; rw [hnil] at this; cases this
    refine ⟨?_, fin listed a w I hall⟩
    apply List.eq_nil_iff_forall_not_mem.2
    intro j hj
    obtain ⟨h0, o, ho, _⟩ := mem_ready.1 hj
    have hlt : j < ops.size := (Array.getElem?_eq_some_iff.1 ho).1
    rw [getD_false_true (by rw [I.lsize]; exact hlt), hall j hlt] at h0
    cases h0
  | succ fuel ih =>
    intro rem listed a w I hn hrem hlen
    refine ⟨fun hr => fin listed a w I (all_of_ready_nil hok I.lsize hr), fun i hi => ?_⟩
    obtain ⟨h0, o, ho, hedge⟩ := mem_ready.1 hi
    have hlt : i < ops.size := (Array.getElem?_eq_some_iff.1 ho).1
    have hi0 : listed.getD i false = false := by rw [← getD_false_true (by rw [I.lsize]; exact hlt)]; exact h0
    have hol : ops.toList[i]? = some o := by simpa using ho
    have hil : i < es.length := by rw [hl]; simpa using hlt
    obtain ⟨hst, hstep⟩ := hes i o es[i] hol (List.getElem?_eq_getElem hil)
    have hbefore := closed_before hok I.closed
    -- which operations that share a slot have come up
    have hsame : ∀ t m o', ops.toList[m]? = some o' → o'.dst = some t → (t ∈ o.looksAt ops ∨ o.dst = some t) → m ≠ i → (listed.getD m false = decide (m < i)) := by
      intro t m o' hm hd hlook hne
      have hm' : ops[m]? = some o' := by simpa using hm
      rcases Nat.lt_or_gt_of_ne hne with hmi | hmi
      · have hsh : shares ops o' o = true := by
          rcases hlook with h | h
          · exact shares_of_look hd h
          · exact shares_of_dst hd h
        obtain ⟨e, he, hb, hor⟩ := ((earlier_at (b := Region.before ops) hok ho).2 m o' hmi hm').2 (((earlier_at (b := Region.before ops) hok ho).2 m o' hmi hm').1 hsh)
        have hle := hedge e he hb
        have : listed.getD m false = true := by
          rcases hor with rfl | ⟨h1, h2, h3⟩
          · exact hle
          · have hlt' : e.on < ops.size := by omega
            exact hbefore e.on ops[e.on] (Array.getElem?_eq_getElem hlt') hle m o' h1 hm' h3
        rw [this]; simp [hmi]
      · have hsh : shares ops o o' = true := by
          rcases hlook with h | h
          · exact shares_of_look' hd h
          · exact shares_of_dst h hd
        have hbit := ((earlier_at (b := Region.before ops) hok hm').2 i o hmi ho).1 hsh
        have : listed.getD m false = false := by
          cases hL : listed.getD m false with
          | false => rfl
          | true =>
            have := hbefore m o' hm' hL i o hmi ho hbit
            rw [hi0] at this; cases this
        rw [this]; simp; omega
    have hwp := hstep a w I.add I.defers fun t ht hts => by
      have := I.slots t hts
      rw [sigF_congr t (fun j => listed.getD j false) (fun j => decide (j < i)) ops.toList es 0 _ _ rfl fun m o' hm hd => by
        simp only [Nat.zero_add]
        by_cases hmi : m = i
        · subst hmi; rw [hi0]; simp
        · exact hsame t m o' hm hd (.inl ht) hmi] at this
      exact this
    refine wpOp_mono (fun a' w' h => ?_) hwp
    obtain ⟨v, rfl, hadd, hv⟩ := h
    have hsz : i < listed.size := by rw [I.lsize]; exact hlt
    have hset : ∀ j, (listed.setIfInBounds i true).getD j false = if j = i then true else listed.getD j false := by
      intro j
      by_cases hji : j = i
      · subst hji; simp [hsz]
      · rw [if_neg hji, getD_set_ne false (Ne.symm hji)]
    refine ih (rem.erase i) _ _ _ ⟨I.add.trans hadd, ?_, ?_, by simpa using I.lsize, ?_, ?_⟩ (hn.erase i) ?_ ?_
    · rw [← I.defers]; cases o.dst <;> rfl
    · rw [← I.size]; cases o.dst <;> simp [Act.put]
    · intro j y hj hL e he hb
      rw [hset] at hL ⊢
      by_cases hei : e.on = i
      · simp [hei]
      · rw [if_neg hei]
        by_cases hji : j = i
        · subst hji; rw [ho] at hj; cases hj; exact hedge e he hb
        · rw [if_neg hji] at hL; exact I.closed j y hj hL e he hb
    · intro t hts
      by_cases hd : o.dst = some t
      · rw [sigF_last t _ i ops.toList es 0 i _ o es[i] (by omega) hol (List.getElem?_eq_getElem hil) hd (by rw [hset]; simp) fun m' o' hm' ho' hd' => by
          simp only [Nat.zero_add]
          rw [hset, if_neg (by omega), hsame t m' o' ho' hd' (.inr hd) (by omega)]
          simp; omega]
        have hts' : t < a.tmps.size := by rw [I.size]; exact hts
        simpa [Act.put, hd, hts'] using hv
      · have e1 : (a.put o.dst v).tmps.getD t undef = a.tmps.getD t undef := by
          cases hdst : o.dst with
          | none => rfl
          | some d =>
            have hne : d ≠ t := fun e => hd (by rw [hdst, e])
            simp [Act.put, Array.getElem?_setIfInBounds_ne hne]
        rw [e1, sigF_congr t _ (fun j => listed.getD j false) ops.toList es 0 _ _ rfl fun m o' hm hd' => by
          simp only [Nat.zero_add]
          rw [hset, if_neg (by rintro rfl; rw [hol] at hm; cases hm; exact hd hd')]]
        refine stab_sigF _ _ _ _ (fun m s hm => ?_) _ (fun t => Stab.ex _) t _ _ _ hadd (I.slots t hts)
        have hml : m < ops.toList.length := by rw [← hl]; exact (List.getElem?_eq_some_iff.1 hm).1
        exact (hes m _ s (List.getElem?_eq_getElem hml) hm).1
    · intro j
      rw [hn.mem_erase_iff, hrem, hset]
      constructor
      · rintro ⟨h1, h2, h3⟩; exact ⟨h2, by rw [if_neg h1]; exact h3⟩
      · rintro ⟨h2, h3⟩
        by_cases hji : j = i
        · rw [if_pos hji] at h3; cases h3
        · rw [if_neg hji] at h3; exact ⟨hji, h2, h3⟩
    · have := List.length_erase_of_mem ((hrem i).2 ⟨hlt, hi0⟩)
      have hpos : 0 < rem.length := List.length_pos_of_mem ((hrem i).2 ⟨hlt, hi0⟩)
      omega

theorem rep_false (n j : Nat) : (Array.replicate n false).getD j false = false := by
  by_cases h : j < n <;> simp [h]
/-- **A region that draws its order**, each operation of which only adds to memory. -/
theorem wp_region_rs {id : Nat} {l : List Oper} {Q : Exit → Act → World → Prop} {a : Act} {w : World} (hm : P.follows .mixedOrders = true) (hok : regOk l.toArray = true)
    (h : RSl P l.toArray Q a w (EndOk Q a w) l 0 (fun t => .ex (a.tmps.getD t undef))) : (Code.region id l.toArray true).wp P Q a w := by
  obtain ⟨es, hl, hes, hend⟩ := RSl.env l 0 _ h
  refine wp_region_any hm ?_
  refine rs_any (a0 := a) (w0 := w) (es := es) hok (by simpa using hl) (fun m o s ho hs => ?_) (by simpa using hend) _ (List.range l.toArray.size) _ a _ ?_ List.nodup_range ?_ (by simp)
  · have := hes m o s (by simpa using ho) hs
    simpa using this
  · refine ⟨Add.drew w, rfl, rfl, by simp, ?_, ?_⟩
    · intro j y hj hL
      rw [rep_false] at hL
      cases hL
    · intro t _
      have : ∀ (l : List Oper) (es : List Spec) (i : Nat) (L : Nat → Bool) (τ : Sig), (∀ j, L j = false) → sigF l es i L τ = τ := by
        intro l
        induction l with
        | nil => intro es i L τ _; rfl
        | cons o l ih =>
          intro es i L τ hL
          cases es with
          | nil => rfl
          | cons s es => simp only [sigF, hL]; exact ih es (i + 1) L _ hL
      rw [this _ _ _ _ _ (fun j => rep_false _ j)]
      rfl
  · intro j
    rw [List.mem_range]
    constructor
    · intro hj; exact ⟨hj, rep_false _ j⟩
    · exact fun h => h.1

/-- The last operation, which waits for all the others: it may turn memory. -/
def LastOk (P : Program) (ops : Array Oper) (Q : Exit → Act → World → Prop) (a0 : Act) (w0 : World) (σ : Sig) : Prop :=
  ∀ a w, Add w0 w → a.defers = a0.defers → a.tmps.size = a0.tmps.size → (∀ t, t < a0.tmps.size → (σ t).holds (a.tmps.getD t undef) w) → wpOp P ops Q (ops.size - 1) (fun a' w' => Q .normal a' w') a w
theorem wpAny_all {listed : Array Bool} {a : Act} {w : World} (hr : Region.ready .any ops listed = []) (h : Q .normal a w) : ∀ fuel, wpAny P .any ops Q fuel listed a w
  | 0 => ⟨hr, h⟩
  | _ + 1 => ⟨fun _ => h, by rw [hr]; simp⟩
def covers (ops : Array Oper) : Bool := (List.range (ops.size - 1)).all fun j => ((Region.before ops).getD (ops.size - 1) 0).testBit j
theorem rs_any_last (hok : regOk ops = true) (hcov : covers ops = true) {es : List Spec} (hl : es.length + 1 = ops.size)
    (hes : ∀ m o s, ops.toList[m]? = some o → es[m]? = some s → s.Stab ∧ StepOk P ops Q a0 w0 m o (sigF ops.toList es 0 (fun j => decide (j < m)) (fun t => .ex (a0.tmps.getD t undef))) s)
    (hend : LastOk P ops Q a0 w0 (sigF ops.toList es 0 (fun _ => true) (fun t => .ex (a0.tmps.getD t undef)))) :
    ∀ (fuel : Nat) (rem : List Nat) (listed : Array Bool) (a : Act) (w : World), Inv ops es a0 w0 listed a w → rem.Nodup → (∀ j, j ∈ rem ↔ j < ops.size ∧ listed.getD j false = false) → rem.length ≤ fuel →
      listed.getD (ops.size - 1) false = false → wpAny P .any ops Q fuel listed a w := by
  have hpos : 0 < ops.size := by omega
  intro fuel
  induction fuel with
  | zero =>
    intro rem listed a w I hn hrem hlen hL
    have hnil : rem = [] := List.eq_nil_of_length_eq_zero (by omega)
    have := (hrem (ops.size - 1)).2 ⟨by omega, hL⟩
    rw [hnil] at this; cases this
  | succ fuel ih =>
    intro rem listed a w I hn hrem hlen hLast
    refine ⟨fun hr => ?_, fun i hi => ?_⟩
    · have := all_of_ready_nil hok I.lsize hr (ops.size - 1) (by omega)
      rw [hLast] at this; cases this
    obtain ⟨h0, o, ho, hedge⟩ := mem_ready.1 hi
    have hlt : i < ops.size := (Array.getElem?_eq_some_iff.1 ho).1
    have hi0 : listed.getD i false = false := by rw [← getD_false_true (by rw [I.lsize]; exact hlt)]; exact h0
    have hol : ops.toList[i]? = some o := by simpa using ho
    have hbefore := closed_before hok I.closed
    have hsz : i < listed.size := by rw [I.lsize]; exact hlt
    have hset : ∀ j, (listed.setIfInBounds i true).getD j false = if j = i then true else listed.getD j false := by
      intro j
      by_cases hji : j = i
      · subst hji; simp [hsz]
      · rw [if_neg hji, getD_set_ne false (Ne.symm hji)]
    by_cases hil : i = ops.size - 1
    · -- the last one: all others have come up
      have hall : ∀ m, m < i → listed.getD m false = true := by
        intro m hm
        have hm' : m < ops.size := by omega
        have hbit : ((Region.before ops).getD i 0).testBit m = true := by
          have := List.all_eq_true.1 hcov m (List.mem_range.2 (by omega))
          rw [hil]; exact this
        obtain ⟨e, he, hb, hor⟩ := ((earlier_at (b := Region.before ops) hok ho).2 m ops[m] hm (Array.getElem?_eq_getElem hm')).2 hbit
        have hle := hedge e he hb
        rcases hor with rfl | ⟨h1, h2, h3⟩
        · exact hle
        · have hlt' : e.on < ops.size := by omega
          exact hbefore e.on ops[e.on] (Array.getElem?_eq_getElem hlt') hle m ops[m] h1 (Array.getElem?_eq_getElem hm') h3
      have hwp := hend a w I.add I.defers I.size fun t hts => by
        have := I.slots t hts
        have short : ∀ (l : List Oper) (es : List Spec) (k : Nat) (σ : Sig) (L L' : Nat → Bool), (∀ m, m < es.length → L (k + m) = L' (k + m)) → sigF l es k L σ = sigF l es k L' σ := by
          intro l
          induction l with
          | nil => intro es k σ L L' _; rfl
          | cons o l ihl =>
            intro es k σ L L' hLL
            cases es with
            | nil => rfl
            | cons s es =>
              simp only [sigF]
              have := hLL 0 (by simp)
              simp only [Nat.add_zero] at this
              rw [this]
              exact ihl es (k + 1) _ L L' fun m hm => by
                have := hLL (m + 1) (by simpa using hm)
                rwa [show k + (m + 1) = k + 1 + m by omega] at this
        rw [short _ _ _ _ (fun j => listed.getD j false) (fun _ => true) fun m hm => by
          simp only [Nat.zero_add]
          exact hall m (by omega)] at this
        exact this
      rw [hil]
      refine wpOp_mono (fun a' w' h => wpAny_all ?_ h fuel) hwp
      apply List.eq_nil_iff_forall_not_mem.2
      intro j hj
      obtain ⟨g0, o', ho', _⟩ := mem_ready.1 hj
      have hj' : j < ops.size := (Array.getElem?_eq_some_iff.1 ho').1
      rw [getD_false_true (by simpa [I.lsize] using hj'), ← hil, hset] at g0
      by_cases hji : j = i
      · rw [if_pos hji] at g0; cases g0
      · rw [if_neg hji, hall j (by omega)] at g0; cases g0
    have hie : i < es.length := by omega
    obtain ⟨hst, hstep⟩ := hes i o es[i] hol (List.getElem?_eq_getElem hie)
    have hsame : ∀ t m o', ops.toList[m]? = some o' → o'.dst = some t → (t ∈ o.looksAt ops ∨ o.dst = some t) → m ≠ i → (listed.getD m false = decide (m < i)) := by
      intro t m o' hm hd hlook hne
      have hm' : ops[m]? = some o' := by simpa using hm
      rcases Nat.lt_or_gt_of_ne hne with hmi | hmi
      · have hsh : shares ops o' o = true := by
          rcases hlook with h | h
          · exact shares_of_look hd h
          · exact shares_of_dst hd h
        obtain ⟨e, he, hb, hor⟩ := ((earlier_at (b := Region.before ops) hok ho).2 m o' hmi hm').2 (((earlier_at (b := Region.before ops) hok ho).2 m o' hmi hm').1 hsh)
        have hle := hedge e he hb
        have : listed.getD m false = true := by
          rcases hor with rfl | ⟨h1, h2, h3⟩
          · exact hle
          · have hlt' : e.on < ops.size := by omega
            exact hbefore e.on ops[e.on] (Array.getElem?_eq_getElem hlt') hle m o' h1 hm' h3
        rw [this]; simp [hmi]
      · have hsh : shares ops o o' = true := by
          rcases hlook with h | h
          · exact shares_of_look' hd h
          · exact shares_of_dst h hd
        have hbit := ((earlier_at (b := Region.before ops) hok hm').2 i o hmi ho).1 hsh
        have : listed.getD m false = false := by
          cases hL : listed.getD m false with
          | false => rfl
          | true =>
            have := hbefore m o' hm' hL i o hmi ho hbit
            rw [hi0] at this; cases this
        rw [this]; simp; omega
    have hwp := hstep a w I.add I.defers fun t ht hts => by
      have := I.slots t hts
      rw [sigF_congr t (fun j => listed.getD j false) (fun j => decide (j < i)) ops.toList es 0 _ _ rfl fun m o' hm hd => by
        simp only [Nat.zero_add]
        by_cases hmi : m = i
        · subst hmi; rw [hi0]; simp
        · exact hsame t m o' hm hd (.inl ht) hmi] at this
      exact this
    refine wpOp_mono (fun a' w' h => ?_) hwp
    obtain ⟨v, rfl, hadd, hv⟩ := h
    refine ih (rem.erase i) _ _ _ ⟨I.add.trans hadd, ?_, ?_, by simpa using I.lsize, ?_, ?_⟩ (hn.erase i) ?_ ?_ (by rw [hset, if_neg (by omega)]; exact hLast)
    · rw [← I.defers]; cases o.dst <;> rfl
    · rw [← I.size]; cases o.dst <;> simp [Act.put]
    · intro j y hj hL e he hb
      rw [hset] at hL ⊢
      by_cases hei : e.on = i
      · simp [hei]
      · rw [if_neg hei]
        by_cases hji : j = i
        · subst hji; rw [ho] at hj; cases hj; exact hedge e he hb
        · rw [if_neg hji] at hL; exact I.closed j y hj hL e he hb
    · intro t hts
      by_cases hd : o.dst = some t
      · rw [sigF_last t _ i ops.toList es 0 i _ o es[i] (by omega) hol (List.getElem?_eq_getElem hie) hd (by rw [hset]; simp) fun m' o' hm' ho' hd' => by
          simp only [Nat.zero_add]
          rw [hset, if_neg (by omega), hsame t m' o' ho' hd' (.inr hd) (by omega)]
          simp; omega]
        have hts' : t < a.tmps.size := by rw [I.size]; exact hts
        simpa [Act.put, hd, hts'] using hv
      · have e1 : (a.put o.dst v).tmps.getD t undef = a.tmps.getD t undef := by
          cases hdst : o.dst with
          | none => rfl
          | some d =>
            have hne : d ≠ t := fun e => hd (by rw [hdst, e])
            simp [Act.put, Array.getElem?_setIfInBounds_ne hne]
        rw [e1, sigF_congr t _ (fun j => listed.getD j false) ops.toList es 0 _ _ rfl fun m o' hm hd' => by
          simp only [Nat.zero_add]
          rw [hset, if_neg (by rintro rfl; rw [hol] at hm; cases hm; exact hd hd')]]
        refine stab_sigF _ _ _ _ (fun m s hm => ?_) _ (fun t => Stab.ex _) t _ _ _ hadd (I.slots t hts)
        have hml : m < es.length := (List.getElem?_eq_some_iff.1 hm).1
        have hmo : m < ops.toList.length := by simp only [Array.length_toList]; omega
        exact (hes m _ s (List.getElem?_eq_getElem hmo) hm).1
    · intro j
      rw [hn.mem_erase_iff, hrem, hset]
      constructor
      · rintro ⟨h1, h2, h3⟩; exact ⟨h2, by rw [if_neg h1]; exact h3⟩
      · rintro ⟨h2, h3⟩
        by_cases hji : j = i
        · rw [if_pos hji] at h3; cases h3
        · rw [if_neg hji] at h3; exact ⟨hji, h2, h3⟩
    · have := List.length_erase_of_mem ((hrem i).2 ⟨hlt, hi0⟩)
      have hpos : 0 < rem.length := List.length_pos_of_mem ((hrem i).2 ⟨hlt, hi0⟩)
      omega

theorem sigF_nil : ∀ (l : List Oper) (es : List Spec) (i : Nat) (L : Nat → Bool) (τ : Sig), (∀ j, L j = false) → sigF l es i L τ = τ
  | [], _, _, _, _, _ => rfl
  | _ :: _, [], _, _, _, _ => rfl
  | o :: l, s :: es, i, L, τ, hL => by simp only [sigF, hL]; exact sigF_nil l es (i + 1) L τ hL
theorem sigF_append (x : List Oper) : ∀ (l : List Oper) (es : List Spec) (i : Nat) (L : Nat → Bool) (τ : Sig), es.length = l.length → sigF (l ++ x) es i L τ = sigF l es i L τ
  | [], [], _, _, _, _ => by cases x <;> rfl
  | o :: l, s :: es, i, L, τ, h => by simp only [List.cons_append, sigF]; exact sigF_append x l es (i + 1) L _ (by simpa using h)
/-- **A region that draws its order and ends in one operation that waits for all others** (a store, a call that turns memory). -/
theorem wp_region_rs_last {id : Nat} (l : List Oper) (o : Oper) {Q : Exit → Act → World → Prop} {a : Act} {w : World} (hm : P.follows .mixedOrders = true) (hok : regOk (l ++ [o]).toArray = true) (hcov : covers (l ++ [o]).toArray = true)
    (h : RSl P (l ++ [o]).toArray Q a w (LastOk P (l ++ [o]).toArray Q a w) l 0 (fun t => .ex (a.tmps.getD t undef))) : (Code.region id (l ++ [o]).toArray true).wp P Q a w := by
  obtain ⟨es, hl, hes, hend⟩ := RSl.env l 0 _ h
  refine wp_region_any hm ?_
  have hrep : ∀ n j, (Array.replicate n false).getD j false = false := rep_false
  refine rs_any_last (a0 := a) (w0 := w) (es := es) hok hcov (by simp [hl]) (fun m o' s ho hs => ?_) (by simpa [sigF_append [o] l es _ _ _ hl] using hend) _ (List.range (l ++ [o]).toArray.size) _ a _ ?_ List.nodup_range ?_ (by simp) (hrep _ _)
  · have hml : m < l.length := by rw [← hl]; exact (List.getElem?_eq_some_iff.1 hs).1
    have ho' : l[m]? = some o' := by simpa [List.getElem?_append_left hml] using ho
    have := hes m o' s ho' hs
    simpa [sigF_append [o] l es _ _ _ hl] using this
  · refine ⟨Add.drew w, rfl, rfl, by simp, ?_, ?_⟩
    · intro j y hj hL
      rw [hrep] at hL
      cases hL
    · intro t _
      rw [sigF_nil _ _ _ _ _ (fun j => hrep _ j)]
      rfl
  · intro j
    rw [List.mem_range]
    constructor
    · intro hj; exact ⟨hj, hrep _ j⟩
    · exact fun h => h.1

/-! ### the steps -/
/-- The operands' values, where they are known. -/
def rho (σ : Sig) : Operand → Value
  | .tmp t => (σ t).val
  | .const v => v
  | .global g => .pointer (some ⟨g, 0, none⟩)
  | .func f => .func (.func f) #[] #[]
def wantS (ops : Array Oper) (σ : Sig) (o : Oper) : Bool :=
  match o.guard with
  | none => true
  | some (j, want) => match (ops[j]?).bind (·.dst) with
    | none => false
    | some d => match σ d with
      | .ex (.bool b) => b == want
      | _ => false
/-- All that the operation looks at is known, and lies in the frame. -/
def known (ops : Array Oper) (n : Nat) (σ : Sig) (o : Oper) : Bool := (o.looksAt ops).all fun t => decide (t < n) && (σ t).isEx
def inFrame (ops : Array Oper) (n : Nat) (o : Oper) : Bool := (o.looksAt ops).all fun t => decide (t < n)

theorem eval_rho {a : Act} {σ : Sig} {o : Oper} {w : World} (hk : known ops a0.tmps.size σ o = true) (h : ∀ t ∈ o.looksAt ops, t < a0.tmps.size → (σ t).holds (a.tmps.getD t undef) w) (hs : ∀ cs b, o.op ≠ .select cs b) :
    execOp a.eval o = execOp (rho σ) o := by
  refine execOp_congr o hs fun x hx => ?_
  cases x with
  | tmp t =>
    have hm : t ∈ o.looksAt ops := List.mem_append_left _ (List.mem_filterMap.2 ⟨.tmp t, by simpa using hx, rfl⟩)
    have := List.all_eq_true.1 hk t hm
    simp only [Bool.and_eq_true, decide_eq_true_eq] at this
    exact Spec.ex_holds this.2 (h t hm this.1)
  | _ => rfl
theorem want_of {a : Act} {σ : Sig} {o : Oper} {w : World} (hw : wantS ops σ o = true) (hf : inFrame ops a0.tmps.size o = true) (h : ∀ t ∈ o.looksAt ops, t < a0.tmps.size → (σ t).holds (a.tmps.getD t undef) w) :
    Region.wanted o (yielded ops a.tmps) = true := by
  unfold Region.wanted
  unfold wantS at hw
  cases hg : o.guard with
  | none => rfl
  | some p =>
    obtain ⟨j, want⟩ := p
    rw [hg] at hw
    simp only at hw ⊢
    cases hd : (ops[j]?).bind (·.dst) with
    | none => rw [hd] at hw; cases hw
    | some d =>
      rw [hd] at hw
      simp only at hw
      have hm : d ∈ o.looksAt ops := List.mem_append_right _ (by simp [hg, hd])
      have hlt := List.all_eq_true.1 hf d hm
      have hh := h d hm (by simpa using hlt)
      cases hσ : σ d with
      | so V => rw [hσ] at hw; cases hw
      | ex v =>
        rw [hσ] at hw hh
        cases v <;> try cases hw
        rename_i b
        simp only at hw
        have hh' : a.tmps.getD d undef = .bool b := hh
        have hg : a.tmps[d]? = some (.bool b) := by
          cases hx : a.tmps[d]? with
          | none => simp [hx, undef] at hh'
          | some x => simp [hx] at hh'; rw [hh']
        unfold yielded
        rw [hd]
        simp only [Option.bind_some, hg]
        simpa using hw
def notSel (o : Oper) : Bool := match o.op with | .select .. => false | _ => true
theorem notSel_spec {o : Oper} (h : notSel o = true) (cs : Array SelectCase) (b : Bool) : o.op ≠ .select cs b := by
  intro e; simp [notSel, e] at h
theorem inFrame_of_known {n : Nat} {σ : Sig} {o : Oper} (h : known ops n σ o = true) : inFrame ops n o = true := by
  unfold known at h; unfold inFrame
  rw [List.all_eq_true] at *
  intro t ht
  have := h t ht
  simp only [Bool.and_eq_true] at this
  exact this.1

variable {o : Oper} {rest : List Oper} {i : Nat} {σ : Sig}
/-- An operation whose value is known and that turns nothing. -/
theorem RSl.exact (v : Value) (hi : ops[i]? = some o) (hn : notSel o = true) (hk : known ops a0.tmps.size σ o = true) (hw : wantS ops σ o = true)
    (hrun : ∀ w, Add w0 w → (execOp (rho σ) o).run P w = .ok (.value v) w) (h : RSl P ops Q a0 w0 E rest (i + 1) (upd σ o.dst (.ex v))) : RSl P ops Q a0 w0 E (o :: rest) i σ := by
  refine ⟨.ex v, Stab.ex v, fun a w ha _ hh => ?_, h⟩
  unfold wpOp
  simp only [hi, want_of hw (inFrame_of_known hk) hh, if_true]
  refine .inl ?_
  unfold Oper.wp
  rw [eval_rho hk hh (notSel_spec hn), hrun w ha]
  exact ⟨v, rfl, Add.refl w, rfl⟩
/-- One that the guard passes over. -/
def skipS (ops : Array Oper) (σ : Sig) (o : Oper) : Bool :=
  match o.guard with
  | none => false
  | some (j, want) => match (ops[j]?).bind (·.dst) with
    | none => false
    | some d => match σ d with
      | .ex v => match v with
        | .bool b => b != want
        | _ => true
      | .so _ => false
theorem notWant_of {a : Act} {w : World} (hw : skipS ops σ o = true) (hf : inFrame ops a0.tmps.size o = true) (h : ∀ t ∈ o.looksAt ops, t < a0.tmps.size → (σ t).holds (a.tmps.getD t undef) w) :
    Region.wanted o (yielded ops a.tmps) = false := by
  unfold Region.wanted
  unfold skipS at hw
  cases hg : o.guard with
  | none => rw [hg] at hw; cases hw
  | some p =>
    obtain ⟨j, want⟩ := p
    rw [hg] at hw
    simp only at hw ⊢
    cases hd : (ops[j]?).bind (·.dst) with
    | none => rw [hd] at hw; cases hw
    | some d =>
      rw [hd] at hw
      simp only at hw
      have hm : d ∈ o.looksAt ops := List.mem_append_right _ (by simp [hg, hd])
      have hlt := List.all_eq_true.1 hf d hm
      have hh := h d hm (by simpa using hlt)
      cases hσ : σ d with
      | so V => rw [hσ] at hw; cases hw
      | ex v =>
        rw [hσ] at hw hh
        have hh' : a.tmps.getD d undef = v := hh
        unfold yielded
        rw [hd]
        simp only [Option.bind_some]
        cases hx : a.tmps[d]? with
        | none => cases want <;> rfl
        | some x =>
          obtain rfl : x = v := by simpa [hx] using hh'
          cases x with
          | bool b => cases b <;> cases want <;> first | rfl | cases hw
          | _ => cases want <;> rfl
theorem RSl.skip (hi : ops[i]? = some o) (hf : inFrame ops a0.tmps.size o = true) (hw : skipS ops σ o = true) (h : RSl P ops Q a0 w0 E rest (i + 1) (upd σ o.dst (.ex undef))) : RSl P ops Q a0 w0 E (o :: rest) i σ := by
  refine ⟨.ex undef, Stab.ex _, fun a w ha _ hh => ?_, h⟩
  unfold wpOp
  simp only [hi, notWant_of hw hf hh]
  exact ⟨undef, rfl, Add.refl w, rfl⟩
/-- A call of a Go function with known arguments. -/
theorem RSl.call (s : Spec) (hs : s.Stab) (f : FuncId) (args : Array Value) (hi : ops[i]? = some o) (hn : notSel o = true) (hk : known ops a0.tmps.size σ o = true) (hw : wantS ops σ o = true)
    (hrun : ∀ w, (execOp (rho σ) o).run P w = .ok (.enter f args) w)
    (hc : ∀ w, Add w0 w → Calls P f args w fun e w' => ∃ v, e = .returned v ∧ Add w w' ∧ s.holds v w')
    (h : RSl P ops Q a0 w0 E rest (i + 1) (upd σ o.dst s)) : RSl P ops Q a0 w0 E (o :: rest) i σ := by
  refine ⟨s, hs, fun a w ha _ hh => ?_, h⟩
  unfold wpOp
  simp only [hi, want_of hw (inFrame_of_known hk) hh, if_true]
  refine .inl ?_
  unfold Oper.wp
  rw [eval_rho hk hh (notSel_spec hn), hrun w]
  refine Calls.mono (hc w ha) fun e w' he => ?_
  obtain ⟨v, rfl, h1, h2⟩ := he
  exact ⟨v, rfl, h1, h2⟩
/-- Values of the operands as far as they are said. -/
def Agree (ops : Array Oper) (n : Nat) (σ : Sig) (o : Oper) (ρ : Operand → Value) (w : World) : Prop :=
  (∀ t ∈ o.looksAt ops, t < n → (σ t).holds (ρ (.tmp t)) w) ∧ (∀ v, ρ (.const v) = v) ∧ (∀ g, ρ (.global g) = .pointer (some ⟨g, 0, none⟩)) ∧ ∀ f, ρ (.func f) = .func (.func f) #[] #[]
theorem agree_eval {a : Act} {w : World} {n : Nat} (h : ∀ t ∈ o.looksAt ops, t < n → (σ t).holds (a.tmps.getD t undef) w) : Agree ops n σ o a.eval w :=
  ⟨h, fun _ => rfl, fun _ => rfl, fun _ => rfl⟩
/-- An operation that is no call: what it gives is told by a spec. -/
theorem RSl.value (s : Spec) (hs : s.Stab) (hi : ops[i]? = some o) (hf : inFrame ops a0.tmps.size o = true) (hw : wantS ops σ o = true)
    (hrun : ∀ ρ w, Add w0 w → Agree ops a0.tmps.size σ o ρ w → ∃ v w', (execOp ρ o).run P w = .ok (.value v) w' ∧ Add w w' ∧ s.holds v w')
    (h : RSl P ops Q a0 w0 E rest (i + 1) (upd σ o.dst s)) : RSl P ops Q a0 w0 E (o :: rest) i σ := by
  refine ⟨s, hs, fun a w ha _ hh => ?_, h⟩
  unfold wpOp
  simp only [hi, want_of hw hf hh, if_true]
  refine .inl ?_
  obtain ⟨v, w', hr, h1, h2⟩ := hrun a.eval w ha (agree_eval hh)
  unfold Oper.wp
  rw [hr]
  exact ⟨v, rfl, h1, h2⟩
/-- A call whose arguments are told by specs. -/
theorem RSl.callS (s : Spec) (hs : s.Stab) (f : FuncId) (hi : ops[i]? = some o) (hf : inFrame ops a0.tmps.size o = true) (hw : wantS ops σ o = true)
    (hc : ∀ ρ w, Add w0 w → Agree ops a0.tmps.size σ o ρ w → ∃ args, (execOp ρ o).run P w = .ok (.enter f args) w ∧ Calls P f args w fun e w' => ∃ v, e = .returned v ∧ Add w w' ∧ s.holds v w')
    (h : RSl P ops Q a0 w0 E rest (i + 1) (upd σ o.dst s)) : RSl P ops Q a0 w0 E (o :: rest) i σ := by
  refine ⟨s, hs, fun a w ha _ hh => ?_, h⟩
  unfold wpOp
  simp only [hi, want_of hw hf hh, if_true]
  refine .inl ?_
  obtain ⟨args, hr, hcall⟩ := hc a.eval w ha (agree_eval hh)
  unfold Oper.wp
  rw [hr]
  refine Calls.mono hcall fun e w' he => ?_
  obtain ⟨v, rfl, h1, h2⟩ := he
  exact ⟨v, rfl, h1, h2⟩
/-- A move hands on what is said. -/
theorem RSl.move (t : Nat) (hi : ops[i]? = some o) (hop : o.op = .move (.tmp t)) (hl : (o.looksAt ops).contains t = true) (hst : (σ t).Stab) (hf : inFrame ops a0.tmps.size o = true) (hw : wantS ops σ o = true)
    (h : RSl P ops Q a0 w0 E rest (i + 1) (upd σ o.dst (σ t))) : RSl P ops Q a0 w0 E (o :: rest) i σ := by
  refine RSl.value (σ t) hst hi hf hw (fun ρ w _ hag => ?_) h
  have hm : t ∈ o.looksAt ops := by simpa using hl
  exact ⟨ρ (.tmp t), w, by simp [execOp, hop], Add.refl w, hag.1 t hm (by simpa using List.all_eq_true.1 hf t hm)⟩
/-- The same of an assignment. -/
theorem RSl.assign (t : Nat) (hi : ops[i]? = some o) (hop : o.op = .assign (.tmp t)) (hl : (o.looksAt ops).contains t = true) (hst : (σ t).Stab) (hf : inFrame ops a0.tmps.size o = true) (hw : wantS ops σ o = true)
    (h : RSl P ops Q a0 w0 E rest (i + 1) (upd σ o.dst (σ t))) : RSl P ops Q a0 w0 E (o :: rest) i σ := by
  refine RSl.value (σ t) hst hi hf hw (fun ρ w _ hag => ?_) h
  have hm : t ∈ o.looksAt ops := by simpa using hl
  exact ⟨ρ (.tmp t), w, by simp [execOp, hop], Add.refl w, hag.1 t hm (by simpa using List.all_eq_true.1 hf t hm)⟩
theorem RSl.nil (h : ∀ a w, Add w0 w → a.defers = a0.defers → a.tmps.size = a0.tmps.size → (∀ t, t < a0.tmps.size → (σ t).holds (a.tmps.getD t undef) w) → Q .normal a w) : RSl P ops Q a0 w0 (EndOk Q a0 w0) [] i σ := h
theorem execOp_go {ρ : Operand → Value} (hρ : ∀ f, ρ (.func f) = .func (.func f) #[] #[]) (f : FuncId) (xs : List Operand) (ats : Array TypeId) (hop : o.op = .call { callee := .value (.func f), args := xs.toArray, argTypes := ats }) (args : List Value)
    (ha : xs.map ρ = args) : execOp ρ o = callFunc f args.toArray := by
  subst ha
  unfold execOp
  simp only [hop, resolve, hρ, Deferred.ofValue]
  simp
  rfl
/-- A call of a Go function with known arguments that gives a known value. -/
theorem RSl.callx (v : Value) (f : FuncId) (args : List Value) (xs : List Operand) (ats : Array TypeId) (hop : o.op = .call { callee := .value (.func f), args := xs.toArray, argTypes := ats }) (ha : xs.map (rho σ) = args)
    (hi : ops[i]? = some o) (hk : known ops a0.tmps.size σ o = true) (hw : wantS ops σ o = true)
    (hrun : ∀ w, (callFunc f args.toArray).run P w = .ok (.enter f args.toArray) w)
    (hc : ∀ w, Add w0 w → Calls P f args.toArray w fun e w' => e = .returned v ∧ Add w w')
    (h : RSl P ops Q a0 w0 E rest (i + 1) (upd σ o.dst (.ex v))) : RSl P ops Q a0 w0 E (o :: rest) i σ :=
  RSl.call (.ex v) (Stab.ex v) f args.toArray hi (by simp [notSel, hop]) hk hw (fun w => by rw [execOp_go (fun _ => rfl) f xs ats hop args ha]; exact hrun w) (fun w ha => (hc w ha).mono fun _ _ ⟨h1, h2⟩ => ⟨v, h1, h2, rfl⟩) h
theorem add_of_eq {f : FuncId} {args : Array Value} {v : Value} {w : World} (h : Calls P f args w fun e w' => e = .returned v ∧ w = w') : Calls P f args w fun e w' => e = .returned v ∧ Add w w' :=
  h.mono fun _ _ ⟨h1, h2⟩ => ⟨h1, h2 ▸ Add.refl w⟩
end

theorem Stab.bs (bs : List UInt8) : (Spec.so fun v w => BS w v bs).Stab := fun _ _ _ h k => BS.below k h
theorem Stab.bss (bss : List (List UInt8)) : (Spec.so fun v w => BSS w v bss).Stab := fun _ _ _ h k => BSS.below k h
section
variable {P : Program} {ρ : Operand → Value} {o : Oper} {w : World}
theorem exec_convert {s d : TypeId} {x : Operand} (hop : o.op = .convert s d x) {v : Value} (h : (convert s d (ρ x)).run P w = .ok v w) : (execOp ρ o).run P w = .ok (.value v) w := by
  simp [execOp, hop, h, Result.andThen]
theorem make_bs {t e : TypeId} (T : SlT P t e 1 1 (.int .u8 0)) {l c : Operand} (hop : o.op = .makeSlice t l c) (kl kc : IntKind) (n : Nat) (hl : ρ l = .int kl n) (hc : ρ c = .int kc n) (hn : n ≤ 1000000) :
    ∃ v w', (execOp ρ o).run P w = .ok (.value v) w' ∧ Add w w' ∧ (Spec.so fun v w => BS w v (List.replicate n 0)).holds v w' := by
  obtain ⟨hrun, s⟩ := run_makeSlice_st (P := P) (w0 := w) T kl kc n n (Nat.le_refl _) (by unfold maxLen; omega) (by omega) (St.init w)
  refine ⟨.slice (some ⟨w.heap.size, 0, none⟩) n n, w.alloc (.cells (madeCells (Value.int .u8 0).cells (n * 1)) e), by simp [execOp, hop, hl, hc, hrun, Result.andThen], s.below, ?_⟩
  have s' := s.rowMade (n := n) rfl (Nat.le_refl _) (by unfold maxLen; omega)
  obtain ⟨h1, a, c', h2, h3, h4⟩ := s'.rowBS (List.replicate n 0) (bvs_zeros n)
  show BS _ _ _
  rw [h2]; exact h4
/-- A slice of slices, written out. -/
theorem build_bss {t e : TypeId} {k : Nat} {ps : Array (Nat × Operand)} (hop : o.op = .buildSlice t k ps) (vs : List Value) (bss : List (List UInt8)) (hlen : vs.length = bss.length)
    (hrun : ∀ w, (Instr.buildSlice t k (ps.map fun (i, x) => (i, ρ x))).run P w = .ok (.slice (some ⟨w.heap.size, 0, none⟩) vs.length vs.length) (w.alloc (.cells vs.toArray e)))
    (hb : ∀ i (h : i < bss.length), ∃ u, vs[i]? = some u ∧ BS w u bss[i]) (hm : vs.length ≤ maxLen) :
    ∃ v w', (execOp ρ o).run P w = .ok (.value v) w' ∧ Add w w' ∧ (Spec.so fun v w => BSS w v bss).holds v w' := by
  refine ⟨.slice (some ⟨w.heap.size, 0, none⟩) vs.length vs.length, w.alloc (.cells vs.toArray e), by simp only [execOp, hop]; simp [hrun, Result.andThen], Add.alloc _ _, ?_⟩
  refine ⟨_, _, vs, by rw [hlen], by simpa using Rd.new w vs.toArray e, hlen.symm, by rw [hlen]; exact Nat.le_refl _, hm, (fun e => by cases e), fun i hi => ?_⟩
  obtain ⟨u, h1, h2⟩ := hb i hi
  exact ⟨u, h1, h2.alloc _⟩
theorem exec_go (hρ : ∀ f, ρ (.func f) = .func (.func f) #[] #[]) (f : FuncId) (xs : List Operand) (ats : Array TypeId) (hop : o.op = .call { callee := .value (.func f), args := xs.toArray, argTypes := ats }) (args : List Value)
    (ha : xs.map ρ = args) (hrun : (callFunc f args.toArray).run P w = .ok (.enter f args.toArray) w) : (execOp ρ o).run P w = .ok (.enter f args.toArray) w := by
  rw [execOp_go hρ f xs ats hop args ha]; exact hrun
theorem exOf {f : FuncId} {args : Array Value} {v : Value} (h : Calls P f args w fun e w' => e = .returned v ∧ Add w w') : Calls P f args w fun e w' => ∃ v', e = .returned v' ∧ Add w w' ∧ (Spec.ex v).holds v' w' :=
  h.mono fun _ _ ⟨h1, h2⟩ => ⟨v, h1, h2, rfl⟩
end

/-- The last operation is a call of a Go function. -/
theorem last_call {P : Program} {ops : Array Oper} {Q : Exit → Act → World → Prop} {a : Act} {w : World} {o : Oper} (f : FuncId) (xs : List Operand) (ats : Array TypeId) (hop : o.op = .call { callee := .value (.func f), args := xs.toArray, argTypes := ats }) (args : List Value)
    (ha : xs.map a.eval = args) (hi : ops[ops.size - 1]? = some o) (hg : o.guard = none) (hrun : (callFunc f args.toArray).run P w = .ok (.enter f args.toArray) w)
    (hc : Calls P f args.toArray w fun e w' => ∃ v, e = .returned v ∧ Q .normal (a.put o.dst v) w') : wpOp P ops Q (ops.size - 1) (fun a' w' => Q .normal a' w') a w := by
  unfold wpOp
  have hw : Region.wanted o (yielded ops a.tmps) = true := by simp [Region.wanted, hg]
  simp only [hi, hw, if_true]
  refine .inl ?_
  unfold Oper.wp
  rw [execOp_go (fun _ => rfl) f xs ats hop args ha, hrun]
  refine Calls.mono hc fun e w' he => ?_
  obtain ⟨v, rfl, h1⟩ := he
  exact h1
theorem Agree.ex {ops : Array Oper} {n : Nat} {σ : Sig} {o : Oper} {ρ : Operand → Value} {w : World} (h : Agree ops n σ o ρ w) (t : Nat) (v : Value) (hσ : σ t = .ex v) (hl : (o.looksAt ops).contains t = true) (hn : decide (t < n) = true) : ρ (.tmp t) = v := by
  have := h.1 t (by simpa using hl) (by simpa using hn)
  rw [hσ] at this
  exact this
theorem Agree.so {ops : Array Oper} {n : Nat} {σ : Sig} {o : Oper} {ρ : Operand → Value} {w : World} (h : Agree ops n σ o ρ w) (t : Nat) (V : Value → World → Prop) (hσ : σ t = .so V) (hl : (o.looksAt ops).contains t = true) (hn : decide (t < n) = true) : V (ρ (.tmp t)) w := by
  have := h.1 t (by simpa using hl) (by simpa using hn)
  rw [hσ] at this
  exact this
/-- A row of one more, taken apart. -/
theorem take1 {n : Nat} {l : List Value} (h : l.length = n + 1) : ∃ u l', l = u :: l' ∧ l'.length = n := by
  cases l with
  | nil => simp at h
  | cons u l' => exact ⟨u, l', rfl, by simpa using h⟩
/-- A cut of bytes. -/
theorem slice_bs {P : Program} {t e : TypeId} {bytes : Nat} {z : Value} (T : SlT P t e 1 bytes z) {ρ : Operand → Value} {o : Oper} {w : World} {x : Operand} {lo hi : Option Operand} (hop : o.op = .slice t x lo hi none) {bs : List UInt8} (h : BS w (ρ x) bs) (l r : Nat)
    (hlo : (lo.map ρ = none ∧ l = 0) ∨ ∃ k, lo.map ρ = some (.int k (l : Int))) (hhi : (hi.map ρ = none ∧ r = bs.length) ∨ ∃ k, hi.map ρ = some (.int k (r : Int))) (h1 : l ≤ r) (h2 : r ≤ bs.length) (cs : List UInt8) (hcs : (bs.drop l).take (r - l) = cs) :
    ∃ v w', (execOp ρ o).run P w = .ok (.value v) w' ∧ Add w w' ∧ (Spec.so fun v w => BS w v cs).holds v w' := by
  obtain ⟨a, c, hv, h3, h4, h5, h6⟩ := h
  have hb : BS w (.slice a bs.length c) bs := ⟨a, c, rfl, h3, h4, h5, h6⟩
  have hrun := run_slice_sl (P := P) T w a bs.length c (lo.map ρ) (hi.map ρ) l r hlo hhi h1 (by omega)
  refine ⟨_, w, ?_, Add.refl w, hcs ▸ hb.sub l r h1 h2⟩
  simp only [execOp, hop, hv]
  simp [hrun, Result.andThen, subA]
theorem exec_slice {P : Program} {ρ : Operand → Value} {o : Oper} {w : World} {t : TypeId} {x : Operand} {lo hi mx : Option Operand} (hop : o.op = .slice t x lo hi mx) {v : Value}
    (h : (Instr.sliceAt t (ρ x) (lo.map ρ) (hi.map ρ) (mx.map ρ)).run P w = .ok v w) : (execOp ρ o).run P w = .ok (.value v) w := by
  simp only [execOp, hop]
  simp [h, Result.andThen]
end Go.Proofs.Ytjnfhppjkadlpaa.Reg
