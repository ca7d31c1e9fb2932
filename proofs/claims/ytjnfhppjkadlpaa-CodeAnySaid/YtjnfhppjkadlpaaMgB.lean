/- Regions whose order is drawn, walked once in the text's order: each operation only adds to memory, and what it gives is said by a spec that more memory does not turn. Program-free; no condition. -/
import Derived.Test.YtjnfhppjkadlpaaSp
import Derived.Orders
import Derived.Test.YtjnfhppjkadlpaaRows
import Derived.Laws.CopyRow
import Derived.Laws.IdiomCopy

namespace Go.Proofs.Ytjnfhppjkadlpaa.Reg
open Go Go.RowKit Go.Proofs.Ytjnfhppjkadlpaa.Sp

/-- Memory has been added; nothing that was there has turned. -/
def Add (w w' : World) : Prop := Below w.heap.size w w'
theorem Add.refl (w : World) : Add w w := Below.refl _ _
theorem Add.trans {a b c : World} (h : Add a b) (k : Add b c) : Add a c := Below.trans h (Below.mono k h.size)
theorem Add.drew (w : World) : Add w w.drew := (Below.refl _ _).drew
theorem Add.alloc (w : World) (o : Obj) : Add w (w.alloc o) := below_alloc' w o
/-- A cell that was there reads as it did. -/
theorem Add.cell {w w' : World} (h : Add w w') {p : Addr} {v : Value} (hc : w.cell? p = some v) : w'.cell? p = some v := by
  rw [Below.cell (w := w) h (World.block_lt_of_cell? w p hc)]; exact hc
theorem Add.of_st {w w' : World} {H : HP} (s : St w.heap.size w w' H) : Add w w' := s.below

/-- What is said of a slot: its value, or a property. -/
inductive Spec where
  | ex (v : Value)
  | so (V : Value → World → Prop)
def Spec.holds : Spec → Value → World → Prop
  | .ex v, u, _ => u = v
  | .so V, u, w => V u w
def Spec.val : Spec → Value
  | .ex v => v
  | .so _ => undef
def Spec.isEx : Spec → Bool
  | .ex _ => true
  | .so _ => false
def Spec.Stab (s : Spec) : Prop := ∀ v w w', Add w w' → s.holds v w → s.holds v w'
theorem Stab.ex (v : Value) : (Spec.ex v).Stab := fun _ _ _ _ h => h
theorem Spec.ex_holds {s : Spec} {u : Value} {w : World} (h : s.isEx = true) (hh : s.holds u w) : u = s.val := by
  cases s with
  | ex v => exact hh
  | so V => cases h

/-- What is said of all slots. -/
abbrev Sig := Nat → Spec
def upd (σ : Sig) (d : Option Tmp) (s : Spec) : Sig := fun t => if d = some t then s else σ t

section
variable {P : Program} {ops : Array Oper} {Q : Exit → Act → World → Prop} {a0 : Act} {w0 : World} {E : Sig → Prop}

def StepOk (P : Program) (ops : Array Oper) (Q : Exit → Act → World → Prop) (a0 : Act) (w0 : World) (i : Nat) (o : Oper) (σ : Sig) (s : Spec) : Prop :=
  ∀ a w, Add w0 w → a.defers = a0.defers → (∀ t ∈ o.looksAt ops, t < a0.tmps.size → (σ t).holds (a.tmps.getD t undef) w) →
    wpOp P ops Q i (fun a' w' => ∃ v, a' = a.put o.dst v ∧ Add w w' ∧ s.holds v w') a w
/-- The end: all operations have come up. -/
def EndOk (Q : Exit → Act → World → Prop) (a0 : Act) (w0 : World) (σ : Sig) : Prop :=
  ∀ a w, Add w0 w → a.defers = a0.defers → a.tmps.size = a0.tmps.size → (∀ t, t < a0.tmps.size → (σ t).holds (a.tmps.getD t undef) w) → Q .normal a w
/-- The walk in the text's order, up to an end E. -/
def RSl (P : Program) (ops : Array Oper) (Q : Exit → Act → World → Prop) (a0 : Act) (w0 : World) (E : Sig → Prop) : List Oper → Nat → Sig → Prop
  | [], _, σ => E σ
  | o :: rest, i, σ => ∃ s, s.Stab ∧ StepOk P ops Q a0 w0 i o σ s ∧ RSl P ops Q a0 w0 E rest (i + 1) (upd σ o.dst s)

/-- The specs behind those operations that L holds. -/
def sigF : List Oper → List Spec → Nat → (Nat → Bool) → Sig → Sig
  | o :: rest, s :: es, i, L, σ => sigF rest es (i + 1) L (if L i then upd σ o.dst s else σ)
  | _, _, _, _, σ => σ

theorem RSl.env : ∀ (l : List Oper) (i : Nat) (σ : Sig), RSl P ops Q a0 w0 E l i σ →
    ∃ es : List Spec, es.length = l.length ∧ (∀ m o s, l[m]? = some o → es[m]? = some s → s.Stab ∧ StepOk P ops Q a0 w0 (i + m) o (sigF l es i (fun j => decide (j < i + m)) σ) s) ∧
      E (sigF l es i (fun _ => true) σ)
  | [], i, σ, h => ⟨[], rfl, by simp, h⟩
  | o :: rest, i, σ, ⟨s, hs, hstep, hrest⟩ => by
    obtain ⟨es, hl, hall, hend⟩ := RSl.env rest (i + 1) _ hrest
    refine ⟨s :: es, by simp [hl], ?_, by simpa [sigF] using hend⟩
    intro m o' s' ho hs'
    cases m with
    | zero =>
      simp at ho hs'
      subst ho; subst hs'
      have : ∀ (l : List Oper) (es : List Spec) (k : Nat) (τ : Sig), i ≤ k → sigF l es k (fun j => decide (j < i)) τ = τ := by
        intro l
        induction l with
        | nil => intro es k τ _; rfl
        | cons o l ih =>
          intro es k τ hk
          cases es with
          | nil => rfl
          | cons s es => simp only [sigF]; rw [if_neg (by simp; omega)]; exact ih es (k + 1) τ (by omega)
      refine ⟨hs, ?_⟩
      have e := this (o :: rest) (s :: es) i σ (Nat.le_refl _)
      simp only [Nat.add_zero]
      rw [e]; exact hstep
    | succ m =>
      have := hall m o' s' (by simpa using ho) (by simpa using hs')
      have e1 : i + (m + 1) = i + 1 + m := by omega
      rw [e1]
      refine ⟨this.1, ?_⟩
      have e2 : sigF (o :: rest) (s :: es) i (fun j => decide (j < i + 1 + m)) σ = sigF rest es (i + 1) (fun j => decide (j < i + 1 + m)) (upd σ o.dst s) := by
        simp only [sigF]; rw [if_pos (by simp; omega)]
      rw [e2]; exact this.2

/-- Only the writers of a slot count. -/
theorem sigF_congr (t : Nat) (L L' : Nat → Bool) : ∀ (l : List Oper) (es : List Spec) (i : Nat) (σ τ : Sig), σ t = τ t →
    (∀ m o, l[m]? = some o → o.dst = some t → L (i + m) = L' (i + m)) → sigF l es i L σ t = sigF l es i L' τ t
  | [], _, _, _, _, h, _ => h
  | _ :: _, [], _, _, _, h, _ => h
  | o :: l, s :: es, i, σ, τ, h, hw => by
    simp only [sigF]
    refine sigF_congr t L L' l es (i + 1) _ _ ?_ fun m o' ho hd => by
      have := hw (m + 1) o' (by simpa using ho) hd
      rwa [show i + (m + 1) = i + 1 + m by omega] at this
    by_cases hd : o.dst = some t
    · have := hw 0 o (by simp) hd
      simp only [Nat.add_zero] at this
      rw [this]
      cases L' i <;> simp [upd, hd, h]
    · have q1 : (if L i = true then upd σ o.dst s else σ) t = σ t := by cases L i <;> simp [upd, hd]
      have q2 : (if L' i = true then upd τ o.dst s else τ) t = τ t := by cases L' i <;> simp [upd, hd]
      rw [q1, q2, h]
/-- The last writer tells. -/
theorem sigF_last (t : Nat) (L : Nat → Bool) (k : Nat) : ∀ (l : List Oper) (es : List Spec) (i m : Nat) (σ : Sig) (o : Oper) (s : Spec), i + m = k → l[m]? = some o → es[m]? = some s →
    o.dst = some t → L k = true → (∀ m' o', m < m' → l[m']? = some o' → o'.dst = some t → L (i + m') = false) → sigF l es i L σ t = s
  | [], _, _, _, _, _, _, _, h, _, _, _, _ => by simp at h
  | _ :: _, [], _, _, _, _, _, _, _, h, _, _, _ => by simp at h
  | o' :: l, s' :: es, i, m, σ, o, s, hk, ho, hs, hd, hL, hlast => by
    simp only [sigF]
    cases m with
    | zero =>
      simp at ho hs hk
      subst ho; subst hs; subst hk
      have : ∀ (l : List Oper) (es : List Spec) (j : Nat) (τ : Sig), (∀ m' o'', l[m']? = some o'' → o''.dst = some t → L (j + m') = false) → sigF l es j L τ t = τ t := by
        intro l
        induction l with
        | nil => intro es j τ _; rfl
        | cons o l ih =>
          intro es j τ hh
          cases es with
          | nil => rfl
          | cons s es =>
            simp only [sigF]
            rw [ih es (j + 1) _ fun m' o'' h1 h2 => by
              have := hh (m' + 1) o'' (by simpa using h1) h2
              rwa [show j + (m' + 1) = j + 1 + m' by omega] at this]
            by_cases hd' : o.dst = some t
            · have := hh 0 o (by simp) hd'
              simp only [Nat.add_zero] at this
              simp [this]
            · cases L j <;> simp [upd, hd']
      rw [this l es (i + 1) _ fun m' o'' h1 h2 => by
        have := hlast (m' + 1) o'' (by omega) (by simpa using h1) h2
        rwa [show i + (m' + 1) = i + 1 + m' by omega] at this]
      simp [hL, upd, hd]
    | succ m =>
      exact sigF_last t L k l es (i + 1) m _ o s (by omega) (by simpa using ho) (by simpa using hs) hd hL fun m' o'' h0 h1 h2 => by
        have := hlast (m' + 1) o'' (by omega) (by simpa using h1) h2
        rwa [show i + (m' + 1) = i + 1 + m' by omega] at this

/-! ### which regions -/
def shares (ops : Array Oper) (x y : Oper) : Bool :=
  (match x.dst with
   | some d => (y.looksAt ops).contains d || y.dst == some d
   | none => false) ||
  (match y.dst with
   | some d => (x.looksAt ops).contains d
   | none => false)
def earlier (ops : Array Oper) (b : Array Nat) : Bool :=
  (List.range ops.size).all fun j => match ops[j]? with
    | none => true
    | some y => y.after.toList.all (fun e => !Region.binds .any e || decide (e.on < j)) &&
      (List.range j).all fun i => match ops[i]? with
        | none => true
        | some x => (!shares ops x y || (b.getD j 0).testBit i) &&
          (!(b.getD j 0).testBit i || y.after.toList.any fun e => Region.binds .any e && (e.on == i || (decide (i < e.on) && (decide (e.on < j) && (b.getD e.on 0).testBit i))))
def regOk (ops : Array Oper) : Bool := earlier ops (Region.before ops)

theorem earlier_at {b : Array Nat} (h : earlier ops b = true) {j : Nat} {y : Oper} (hj : ops[j]? = some y) :
    (∀ e ∈ y.after, Region.binds .any e = true → e.on < j) ∧
    ∀ i x, i < j → ops[i]? = some x → (shares ops x y = true → (b.getD j 0).testBit i = true) ∧
      ((b.getD j 0).testBit i = true → ∃ e ∈ y.after, Region.binds .any e = true ∧ (e.on = i ∨ (i < e.on ∧ e.on < j ∧ (b.getD e.on 0).testBit i = true))) := by
  have hlt : j < ops.size := (Array.getElem?_eq_some_iff.1 hj).1
  unfold earlier at h
  rw [List.all_eq_true] at h
  have hh := h j (List.mem_range.2 hlt)
  simp only [hj, Bool.and_eq_true] at hh
  refine ⟨fun e he hb => ?_, fun i x hi hx => ?_⟩
  · have := List.all_eq_true.1 hh.1 e (by simpa using he)
    simp only [hb, Bool.not_true, Bool.false_or, decide_eq_true_eq] at this
    exact this
  · have := List.all_eq_true.1 hh.2 i (List.mem_range.2 hi)
    simp only [hx, Bool.and_eq_true] at this
    refine ⟨fun hs => ?_, fun hb => ?_⟩
    · have q := this.1; rw [hs] at q; simpa using q
    · have q := this.2
      rw [hb] at q
      simp only [Bool.not_true, Bool.false_or] at q
      obtain ⟨e, he, hq⟩ := List.any_eq_true.1 q
      simp only [Bool.and_eq_true, Bool.or_eq_true, beq_iff_eq, decide_eq_true_eq] at hq
      exact ⟨e, by simpa using he, hq.1, hq.2⟩

/-- What has come up holds all that it waits for. -/
def Closed (ops : Array Oper) (listed : Array Bool) : Prop :=
  ∀ j y, ops[j]? = some y → listed.getD j false = true → ∀ e ∈ y.after, Region.binds .any e = true → listed.getD e.on false = true
theorem closed_before {b : Array Nat} (h : earlier ops b = true) {listed : Array Bool} (hc : Closed ops listed) : ∀ (j : Nat) (y : Oper), ops[j]? = some y → listed.getD j false = true →
    ∀ i x, i < j → ops[i]? = some x → (b.getD j 0).testBit i = true → listed.getD i false = true := by
  intro j
  induction j using Nat.strongRecOn with
  | _ j ih =>
    intro y hj hL i x hi hx hb
    obtain ⟨e, he, hbind, hor⟩ := ((earlier_at h hj).2 i x hi hx).2 hb
    have hle := hc j y hj hL e he hbind
    rcases hor with rfl | ⟨hie, hlt, hbit⟩
    · exact hle
    · have : e.on < ops.size := by have := (Array.getElem?_eq_some_iff.1 hj).1; omega
      exact ih e.on hlt ops[e.on] (Array.getElem?_eq_getElem this) hle i x hie hx hbit

theorem shares_of_look {x y : Oper} {t : Nat} (hd : x.dst = some t) (h : t ∈ y.looksAt ops) : shares ops x y = true := by simp [shares, hd, h]
theorem shares_of_look' {x y : Oper} {t : Nat} (hd : y.dst = some t) (h : t ∈ x.looksAt ops) : shares ops x y = true := by simp [shares, hd, h]
theorem shares_of_dst {x y : Oper} {t : Nat} (hx : x.dst = some t) (hy : y.dst = some t) : shares ops x y = true := by simp [shares, hx, hy]

/-- The invariant of a run in whatever order. -/
structure Inv (ops : Array Oper) (es : List Spec) (a0 : Act) (w0 : World) (listed : Array Bool) (a : Act) (w : World) : Prop where
  add : Add w0 w
  defers : a.defers = a0.defers
  size : a.tmps.size = a0.tmps.size
  lsize : listed.size = ops.size
  closed : Closed ops listed
  slots : ∀ t, t < a0.tmps.size → (sigF ops.toList es 0 (fun j => listed.getD j false) (fun t => .ex (a0.tmps.getD t undef)) t).holds (a.tmps.getD t undef) w

theorem getD_false_true {listed : Array Bool} {j : Nat} (h : j < listed.size) : listed.getD j true = listed.getD j false := by simp [h]

theorem stab_sigF : ∀ (l : List Oper) (es' : List Spec) (i : Nat) (L : Nat → Bool), (∀ (m : Nat) (s : Spec), es'[m]? = some s → s.Stab) → ∀ τ : Sig, (∀ t, (τ t).Stab) → ∀ t, (sigF l es' i L τ t).Stab
  | [], _, _, _, _, _, hτ, t => hτ t
  | _ :: _, [], _, _, _, _, hτ, t => hτ t
  | o :: l, s :: es', i, L, h, τ, hτ, t => by
    simp only [sigF]
    refine stab_sigF l es' (i + 1) L (fun m s' hm => h (m + 1) s' (by simpa using hm)) _ (fun t => ?_) t
    split
    · unfold upd
      split
      · exact h 0 s (by simp)
      · exact hτ t
    · exact hτ t

theorem all_of_ready_nil (hok : regOk ops = true) {listed : Array Bool} (hs : listed.size = ops.size) (h : Region.ready .any ops listed = []) : ∀ j, j < ops.size → listed.getD j false = true := by
  intro j
  induction j using Nat.strongRecOn with
  | _ j ih =>
    intro hj
    by_cases hL : listed.getD j false = true
    · exact hL
    · have : j ∈ Region.ready .any ops listed := by
        rw [mem_ready]
        refine ⟨by rw [getD_false_true (by omega)]; simpa using hL, ops[j], Array.getElem?_eq_getElem hj, fun e he hb => ?_⟩
        have hlt := (earlier_at (b := Region.before ops) hok (Array.getElem?_eq_getElem hj)).1 e he hb
        exact ih e.on hlt (by omega)
      rw [h] at this; cases this

theorem rs_any (hok : regOk ops = true) {es : List Spec} (hl : es.length = ops.toList.length)
    (hes : ∀ m o s, ops.toList[m]? = some o → es[m]? = some s → s.Stab ∧ StepOk P ops Q a0 w0 m o (sigF ops.toList es 0 (fun j => decide (j < m)) (fun t => .ex (a0.tmps.getD t undef))) s)
    (hend : EndOk Q a0 w0 (sigF ops.toList es 0 (fun _ => true) (fun t => .ex (a0.tmps.getD t undef)))) :
    ∀ (fuel : Nat) (rem : List Nat) (listed : Array Bool) (a : Act) (w : World), Inv ops es a0 w0 listed a w → rem.Nodup → (∀ j, j ∈ rem ↔ j < ops.size ∧ listed.getD j false = false) → rem.length ≤ fuel →
      wpAny P .any ops Q fuel listed a w := by
  have fin : ∀ (listed : Array Bool) (a : Act) (w : World), Inv ops es a0 w0 listed a w → (∀ j, j < ops.size → listed.getD j false = true) → Q .normal a w := by
    intro listed a w I hall
    refine hend a w I.add I.defers I.size fun t hts => ?_
    have := I.slots t hts
    rw [sigF_congr t (fun j => listed.getD j false) (fun _ => true) ops.toList es 0 _ _ rfl fun m o hm _ => by
      have hlt : m < ops.toList.length := (List.getElem?_eq_some_iff.1 hm).1
      simp only [Nat.zero_add]
      exact hall m (by simpa using hlt)] at this
    exact this
  intro fuel
  induction fuel with
  | zero =>
    intro rem listed a w I hn hrem hlen
    have hnil : rem = [] := List.eq_nil_of_length_eq_zero (by omega)
    have hall : ∀ j, j < ops.size → listed.getD j false = true := fun j hj => by
      cases hL : listed.getD j false with
      | true => rfl
      | false => have := (hrem j).2 ⟨hj, hL⟩; rw [hnil] at this; cases this
    refine ⟨?_, fin listed a w I hall⟩
    apply List.eq_nil_iff_forall_not_mem.2
    intro j hj
    obtain ⟨h0, o, ho, _⟩ := mem_ready.1 hj
    have hlt : j < ops.size := (Array.getElem?_eq_some_iff.1 ho).1
    rw [getD_false_true (by rw [I.lsize]; exact hlt), hall j hlt] at h0
    cases h0
  | succ fuel ih =>
    intro rem listed a w I hn hrem hlen
    refine ⟨fun hr => fin listed a w I (all_of_ready_nil hok I.lsize hr), fun i hi => ?_⟩
    obtain ⟨h0, o, ho, hedge⟩ := mem_ready.1 hi
    have hlt : i < ops.size := (Array.getElem?_eq_some_iff.1 ho).1
    have hi0 : listed.getD i false = false := by rw [← getD_false_true (by rw [I.lsize]; exact hlt)]; exact h0
    have hol : ops.toList[i]? = some o := by simpa using ho
    have hil : i < es.length := by rw [hl]; simpa using hlt
    obtain ⟨hst, hstep⟩ := hes i o es[i] hol (List.getElem?_eq_getElem hil)
    have hbefore := closed_before hok I.closed
    -- which operations that share a slot have come up
    have hsame : ∀ t m o', ops.toList[m]? = some o' → o'.dst = some t → (t ∈ o.looksAt ops ∨ o.dst = some t) → m ≠ i → (listed.getD m false = decide (m < i)) := by
      intro t m o' hm hd hlook hne
      have hm' : ops[m]? = some o' := by simpa using hm
      rcases Nat.lt_or_gt_of_ne hne with hmi | hmi
      · have hsh : shares ops o' o = true := by
          rcases hlook with h | h
          · exact shares_of_look hd h
          · exact shares_of_dst hd h
        obtain ⟨e, he, hb, hor⟩ := ((earlier_at (b := Region.before ops) hok ho).2 m o' hmi hm').2 (((earlier_at (b := Region.before ops) hok ho).2 m o' hmi hm').1 hsh)
        have hle := hedge e he hb
        have : listed.getD m false = true := by
          rcases hor with rfl | ⟨h1, h2, h3⟩
          · exact hle
          · have hlt' : e.on < ops.size := by omega
            exact hbefore e.on ops[e.on] (Array.getElem?_eq_getElem hlt') hle m o' h1 hm' h3
        rw [this]; simp [hmi]
      · have hsh : shares ops o o' = true := by
          rcases hlook with h | h
          · exact shares_of_look' hd h
          · exact shares_of_dst h hd
        have hbit := ((earlier_at (b := Region.before ops) hok hm').2 i o hmi ho).1 hsh
        have : listed.getD m false = false := by
          cases hL : listed.getD m false with
          | false => rfl
          | true =>
            have := hbefore m o' hm' hL i o hmi ho hbit
            rw [hi0] at this; cases this
        rw [this]; simp; omega
    have hwp := hstep a w I.add I.defers fun t ht hts => by
      have := I.slots t hts
      rw [sigF_congr t (fun j => listed.getD j false) (fun j => decide (j < i)) ops.toList es 0 _ _ rfl fun m o' hm hd => by
        simp only [Nat.zero_add]
        by_cases hmi : m = i
        · subst hmi; rw [hi0]; simp
        · exact hsame t m o' hm hd (.inl ht) hmi] at this
      exact this
    refine wpOp_mono (fun a' w' h => ?_) hwp
    obtain ⟨v, rfl, hadd, hv⟩ := h
    have hsz : i < listed.size := by rw [I.lsize]; exact hlt
    have hset : ∀ j, (listed.setIfInBounds i true).getD j false = if j = i then true else listed.getD j false := by
      intro j
      by_cases hji : j = i
      · subst hji; simp [hsz]
      · rw [if_neg hji, getD_set_ne false (Ne.symm hji)]
    refine ih (rem.erase i) _ _ _ ⟨I.add.trans hadd, ?_, ?_, by simpa using I.lsize, ?_, ?_⟩ (hn.erase i) ?_ ?_
    · rw [← I.defers]; cases o.dst <;> rfl
    · rw [← I.size]; cases o.dst <;> simp [Act.put]
    · intro j y hj hL e he hb
      rw [hset] at hL ⊢
      by_cases hei : e.on = i
      · simp [hei]
      · rw [if_neg hei]
        by_cases hji : j = i
        · subst hji; rw [ho] at hj; cases hj; exact hedge e he hb
        · rw [if_neg hji] at hL; exact I.closed j y hj hL e he hb
    · intro t hts
      by_cases hd : o.dst = some t
      · rw [sigF_last t _ i ops.toList es 0 i _ o es[i] (by omega) hol (List.getElem?_eq_getElem hil) hd (by rw [hset]; simp) fun m' o' hm' ho' hd' => by
          simp only [Nat.zero_add]
          rw [hset, if_neg (by omega), hsame t m' o' ho' hd' (.inr hd) (by omega)]
          simp; omega]
        have hts' : t < a.tmps.size := by rw [I.size]; exact hts
        simpa [Act.put, hd, hts'] using hv
      · have e1 : (a.put o.dst v).tmps.getD t undef = a.tmps.getD t undef := by
          cases hdst : o.dst with
          | none => rfl
          | some d =>
            have hne : d ≠ t := fun e => hd (by rw [hdst, e])
            simp [Act.put, Array.getElem?_setIfInBounds_ne hne]
        rw [e1, sigF_congr t _ (fun j => listed.getD j false) ops.toList es 0 _ _ rfl fun m o' hm hd' => by
          simp only [Nat.zero_add]
          rw [hset, if_neg (by rintro rfl; rw [hol] at hm; cases hm; exact hd hd')]]
        refine stab_sigF _ _ _ _ (fun m s hm => ?_) _ (fun t => Stab.ex _) t _ _ _ hadd (I.slots t hts)
        have hml : m < ops.toList.length := by rw [← hl]; exact (List.getElem?_eq_some_iff.1 hm).1
        exact (hes m _ s (List.getElem?_eq_getElem hml) hm).1
    · intro j
      rw [hn.mem_erase_iff, hrem, hset]
      constructor
      · rintro ⟨h1, h2, h3⟩; exact ⟨h2, by rw [if_neg h1]; exact h3⟩
      · rintro ⟨h2, h3⟩
        by_cases hji : j = i
        · rw [if_pos hji] at h3; cases h3
        · rw [if_neg hji] at h3; exact ⟨hji, h2, h3⟩
    · have := List.length_erase_of_mem ((hrem i).2 ⟨hlt, hi0⟩)
      have hpos : 0 < rem.length := List.length_pos_of_mem ((hrem i).2 ⟨hlt, hi0⟩)
      omega

theorem rep_false (n j : Nat) : (Array.replicate n false).getD j false = false := by
  by_cases h : j < n <;> simp [h]
/-- **A region that draws its order**, each operation of which only adds to memory. -/
theorem wp_region_rs {id : Nat} {l : List Oper} {Q : Exit → Act → World → Prop} {a : Act} {w : World} (hm : P.follows .mixedOrders = true) (hok : regOk l.toArray = true)
    (h : RSl P l.toArray Q a w (EndOk Q a w) l 0 (fun t => .ex (a.tmps.getD t undef))) : (Code.region id l.toArray true).wp P Q a w := by
  obtain ⟨es, hl, hes, hend⟩ := RSl.env l 0 _ h
  refine wp_region_any hm ?_
  refine rs_any (a0 := a) (w0 := w) (es := es) hok (by simpa using hl) (fun m o s ho hs => ?_) (by simpa using hend) _ (List.range l.toArray.size) _ a _ ?_ List.nodup_range ?_ (by simp)
  · have := hes m o s (by simpa using ho) hs
    simpa using this
  · refine ⟨Add.drew w, rfl, rfl, by simp, ?_, ?_⟩
    · intro j y hj hL
      rw [rep_false] at hL
      cases hL
    · intro t _
      have : ∀ (l : List Oper) (es : List Spec) (i : Nat) (L : Nat → Bool) (τ : Sig), (∀ j, L j = false) → sigF l es i L τ = τ := by
        intro l
        induction l with
        | nil => intro es i L τ _; rfl
        | cons o l ih =>
          intro es i L τ hL
          cases es with
          | nil => rfl
          | cons s es => simp only [sigF, hL]; exact ih es (i + 1) L _ hL
      rw [this _ _ _ _ _ (fun j => rep_false _ j)]
      rfl
  · intro j
    rw [List.mem_range]
    constructor
    · intro hj; exact ⟨hj, rep_false _ j⟩
    · exact fun h => h.1

/-- The last operation, which waits for all the others: it may turn memory. -/
def LastOk (P : Program) (ops : Array Oper) (Q : Exit → Act → World → Prop) (a0 : Act) (w0 : World) (σ : Sig) : Prop :=
  ∀ a w, Add w0 w → a.defers = a0.defers → a.tmps.size = a0.tmps.size → (∀ t, t < a0.tmps.size → (σ t).holds (a.tmps.getD t undef) w) → wpOp P ops Q (ops.size - 1) (fun a' w' => Q .normal a' w') a w
theorem wpAny_all {listed : Array Bool} {a : Act} {w : World} (hr : Region.ready .any ops listed = []) (h : Q .normal a w) : ∀ fuel, wpAny P .any ops Q fuel listed a w
  | 0 => ⟨hr, h⟩
  | _ + 1 => ⟨fun _ => h, by rw [hr]; simp⟩
def covers (ops : Array Oper) : Bool := (List.range (ops.size - 1)).all fun j => ((Region.before ops).getD (ops.size - 1) 0).testBit j
theorem rs_any_last (hok : regOk ops = true) (hcov : covers ops = true) {es : List Spec} (hl : es.length + 1 = ops.size)
    (hes : ∀ m o s, ops.toList[m]? = some o → es[m]? = some s → s.Stab ∧ StepOk P ops Q a0 w0 m o (sigF ops.toList es 0 (fun j => decide (j < m)) (fun t => .ex (a0.tmps.getD t undef))) s)
    (hend : LastOk P ops Q a0 w0 (sigF ops.toList es 0 (fun _ => true) (fun t => .ex (a0.tmps.getD t undef)))) :
    ∀ (fuel : Nat) (rem : List Nat) (listed : Array Bool) (a : Act) (w : World), Inv ops es a0 w0 listed a w → rem.Nodup → (∀ j, j ∈ rem ↔ j < ops.size ∧ listed.getD j false = false) → rem.length ≤ fuel →
      listed.getD (ops.size - 1) false = false → wpAny P .any ops Q fuel listed a w := by
  have hpos : 0 < ops.size := by omega
  intro fuel
  induction fuel with
  | zero =>
    intro rem listed a w I hn hrem hlen hL
    have hnil : rem = [] := List.eq_nil_of_length_eq_zero (by omega)
    have := (hrem (ops.size - 1)).2 ⟨by omega, hL⟩
    rw [hnil] at this; cases this
  | succ fuel ih =>
    intro rem listed a w I hn hrem hlen hLast
    refine ⟨fun hr => ?_, fun i hi => ?_⟩
    · have := all_of_ready_nil hok I.lsize hr (ops.size - 1) (by omega)
      rw [hLast] at this; cases this
    obtain ⟨h0, o, ho, hedge⟩ := mem_ready.1 hi
    have hlt : i < ops.size := (Array.getElem?_eq_some_iff.1 ho).1
    have hi0 : listed.getD i false = false := by rw [← getD_false_true (by rw [I.lsize]; exact hlt)]; exact h0
    have hol : ops.toList[i]? = some o := by simpa using ho
    have hbefore := closed_before hok I.closed
    have hsz : i < listed.size := by rw [I.lsize]; exact hlt
    have hset : ∀ j, (listed.setIfInBounds i true).getD j false = if j = i then true else listed.getD j false := by
      intro j
      by_cases hji : j = i
      · subst hji; simp [hsz]
      · rw [if_neg hji, getD_set_ne false (Ne.symm hji)]
    by_cases hil : i = ops.size - 1
    · -- the last one: all others have come up
      have hall : ∀ m, m < i → listed.getD m false = true := by
        intro m hm
        have hm' : m < ops.size := by omega
        have hbit : ((Region.before ops).getD i 0).testBit m = true := by
          have := List.all_eq_true.1 hcov m (List.mem_range.2 (by omega))
          rw [hil]; exact this
        obtain ⟨e, he, hb, hor⟩ := ((earlier_at (b := Region.before ops) hok ho).2 m ops[m] hm (Array.getElem?_eq_getElem hm')).2 hbit
        have hle := hedge e he hb
        rcases hor with rfl | ⟨h1, h2, h3⟩
        · exact hle
        · have hlt' : e.on < ops.size := by omega
          exact hbefore e.on ops[e.on] (Array.getElem?_eq_getElem hlt') hle m ops[m] h1 (Array.getElem?_eq_getElem hm') h3
      have hwp := hend a w I.add I.defers I.size fun t hts => by
        have := I.slots t hts
        have short : ∀ (l : List Oper) (es : List Spec) (k : Nat) (σ : Sig) (L L' : Nat → Bool), (∀ m, m < es.length → L (k + m) = L' (k + m)) → sigF l es k L σ = sigF l es k L' σ := by
          intro l
          induction l with
          | nil => intro es k σ L L' _; rfl
          | cons o l ihl =>
            intro es k σ L L' hLL
            cases es with
            | nil => rfl
            | cons s es =>
              simp only [sigF]
              have := hLL 0 (by simp)
              simp only [Nat.add_zero] at this
              rw [this]
              exact ihl es (k + 1) _ L L' fun m hm => by
                have := hLL (m + 1) (by simpa using hm)
                rwa [show k + (m + 1) = k + 1 + m by omega] at this
        rw [short _ _ _ _ (fun j => listed.getD j false) (fun _ => true) fun m hm => by
          simp only [Nat.zero_add]
          exact hall m (by omega)] at this
        exact this
      rw [hil]
      refine wpOp_mono (fun a' w' h => wpAny_all ?_ h fuel) hwp
      apply List.eq_nil_iff_forall_not_mem.2
      intro j hj
      obtain ⟨g0, o', ho', _⟩ := mem_ready.1 hj
      have hj' : j < ops.size := (Array.getElem?_eq_some_iff.1 ho').1
      rw [getD_false_true (by simpa [I.lsize] using hj'), ← hil, hset] at g0
      by_cases hji : j = i
      · rw [if_pos hji] at g0; cases g0
      · rw [if_neg hji, hall j (by omega)] at g0; cases g0
    have hie : i < es.length := by omega
    obtain ⟨hst, hstep⟩ := hes i o es[i] hol (List.getElem?_eq_getElem hie)
    have hsame : ∀ t m o', ops.toList[m]? = some o' → o'.dst = some t → (t ∈ o.looksAt ops ∨ o.dst = some t) → m ≠ i → (listed.getD m false = decide (m < i)) := by
      intro t m o' hm hd hlook hne
      have hm' : ops[m]? = some o' := by simpa using hm
      rcases Nat.lt_or_gt_of_ne hne with hmi | hmi
      · have hsh : shares ops o' o = true := by
          rcases hlook with h | h
          · exact shares_of_look hd h
          · exact shares_of_dst hd h
        obtain ⟨e, he, hb, hor⟩ := ((earlier_at (b := Region.before ops) hok ho).2 m o' hmi hm').2 (((earlier_at (b := Region.before ops) hok ho).2 m o' hmi hm').1 hsh)
        have hle := hedge e he hb
        have : listed.getD m false = true := by
          rcases hor with rfl | ⟨h1, h2, h3⟩
          · exact hle
          · have hlt' : e.on < ops.size := by omega
            exact hbefore e.on ops[e.on] (Array.getElem?_eq_getElem hlt') hle m o' h1 hm' h3
        rw [this]; simp [hmi]
      · have hsh : shares ops o o' = true := by
          rcases hlook with h | h
          · exact shares_of_look' hd h
          · exact shares_of_dst h hd
        have hbit := ((earlier_at (b := Region.before ops) hok hm').2 i o hmi ho).1 hsh
        have : listed.getD m false = false := by
          cases hL : listed.getD m false with
          | false => rfl
          | true =>
            have := hbefore m o' hm' hL i o hmi ho hbit
            rw [hi0] at this; cases this
        rw [this]; simp; omega
    have hwp := hstep a w I.add I.defers fun t ht hts => by
      have := I.slots t hts
      rw [sigF_congr t (fun j => listed.getD j false) (fun j => decide (j < i)) ops.toList es 0 _ _ rfl fun m o' hm hd => by
        simp only [Nat.zero_add]
        by_cases hmi : m = i
        · subst hmi; rw [hi0]; simp
        · exact hsame t m o' hm hd (.inl ht) hmi] at this
      exact this
    refine wpOp_mono (fun a' w' h => ?_) hwp
    obtain ⟨v, rfl, hadd, hv⟩ := h
    refine ih (rem.erase i) _ _ _ ⟨I.add.trans hadd, ?_, ?_, by simpa using I.lsize, ?_, ?_⟩ (hn.erase i) ?_ ?_ (by rw [hset, if_neg (by omega)]; exact hLast)
    · rw [← I.defers]; cases o.dst <;> rfl
    · rw [← I.size]; cases o.dst <;> simp [Act.put]
    · intro j y hj hL e he hb
      rw [hset] at hL ⊢
      by_cases hei : e.on = i
      · simp [hei]
      · rw [if_neg hei]
        by_cases hji : j = i
        · subst hji; rw [ho] at hj; cases hj; exact hedge e he hb
        · rw [if_neg hji] at hL; exact I.closed j y hj hL e he hb
    · intro t hts
      by_cases hd : o.dst = some t
      · rw [sigF_last t _ i ops.toList es 0 i _ o es[i] (by omega) hol (List.getElem?_eq_getElem hie) hd (by rw [hset]; simp) fun m' o' hm' ho' hd' => by
          simp only [Nat.zero_add]
          rw [hset, if_neg (by omega), hsame t m' o' ho' hd' (.inr hd) (by omega)]
          simp; omega]
        have hts' : t < a.tmps.size := by rw [I.size]; exact hts
        simpa [Act.put, hd, hts'] using hv
      · have e1 : (a.put o.dst v).tmps.getD t undef = a.tmps.getD t undef := by
          cases hdst : o.dst with
          | none => rfl
          | some d =>
            have hne : d ≠ t := fun e => hd (by rw [hdst, e])
            simp [Act.put, Array.getElem?_setIfInBounds_ne hne]
        rw [e1, sigF_congr t _ (fun j => listed.getD j false) ops.toList es 0 _ _ rfl fun m o' hm hd' => by
          simp only [Nat.zero_add]
          rw [hset, if_neg (by rintro rfl; rw [hol] at hm; cases hm; exact hd hd')]]
        refine stab_sigF _ _ _ _ (fun m s hm => ?_) _ (fun t => Stab.ex _) t _ _ _ hadd (I.slots t hts)
        have hml : m < es.length := (List.getElem?_eq_some_iff.1 hm).1
        have hmo : m < ops.toList.length := by simp only [Array.length_toList]; omega
        exact (hes m _ s (List.getElem?_eq_getElem hmo) hm).1
    · intro j
      rw [hn.mem_erase_iff, hrem, hset]
      constructor
      · rintro ⟨h1, h2, h3⟩; exact ⟨h2, by rw [if_neg h1]; exact h3⟩
      · rintro ⟨h2, h3⟩
        by_cases hji : j = i
        · rw [if_pos hji] at h3; cases h3
        · rw [if_neg hji] at h3; exact ⟨hji, h2, h3⟩
    · have := List.length_erase_of_mem ((hrem i).2 ⟨hlt, hi0⟩)
      have hpos : 0 < rem.length := List.length_pos_of_mem ((hrem i).2 ⟨hlt, hi0⟩)
      omega

theorem sigF_nil : ∀ (l : List Oper) (es : List Spec) (i : Nat) (L : Nat → Bool) (τ : Sig), (∀ j, L j = false) → sigF l es i L τ = τ
  | [], _, _, _, _, _ => rfl
  | _ :: _, [], _, _, _, _ => rfl
  | o :: l, s :: es, i, L, τ, hL => by simp only [sigF, hL]; exact sigF_nil l es (i + 1) L τ hL
theorem sigF_append (x : List Oper) : ∀ (l : List Oper) (es : List Spec) (i : Nat) (L : Nat → Bool) (τ : Sig), es.length = l.length → sigF (l ++ x) es i L τ = sigF l es i L τ
  | [], [], _, _, _, _ => by cases x <;> rfl
  | o :: l, s :: es, i, L, τ, h => by simp only [List.cons_append, sigF]; exact sigF_append x l es (i + 1) L _ (by simpa using h)
/-- **A region that draws its order and ends in one operation that waits for all others** (a store, a call that turns memory). -/
theorem wp_region_rs_last {id : Nat} (l : List Oper) (o : Oper) {Q : Exit → Act → World → Prop} {a : Act} {w : World} (hm : P.follows .mixedOrders = true) (hok : regOk (l ++ [o]).toArray = true) (hcov : covers (l ++ [o]).toArray = true)
    (h : RSl P (l ++ [o]).toArray Q a w (LastOk P (l ++ [o]).toArray Q a w) l 0 (fun t => .ex (a.tmps.getD t undef))) : (Code.region id (l ++ [o]).toArray true).wp P Q a w := by
  obtain ⟨es, hl, hes, hend⟩ := RSl.env l 0 _ h
  refine wp_region_any hm ?_
  have hrep : ∀ n j, (Array.replicate n false).getD j false = false := rep_false
  refine rs_any_last (a0 := a) (w0 := w) (es := es) hok hcov (by simp [hl]) (fun m o' s ho hs => ?_) (by simpa [sigF_append [o] l es _ _ _ hl] using hend) _ (List.range (l ++ [o]).toArray.size) _ a _ ?_ List.nodup_range ?_ (by simp) (hrep _ _)
  · have hml : m < l.length := by rw [← hl]; exact (List.getElem?_eq_some_iff.1 hs).1
    have ho' : l[m]? = some o' := by simpa [List.getElem?_append_left hml] using ho
    have := hes m o' s ho' hs
    simpa [sigF_append [o] l es _ _ _ hl] using this
  · refine ⟨Add.drew w, rfl, rfl, by simp, ?_, ?_⟩
    · intro j y hj hL
      rw [hrep] at hL
      cases hL
    · intro t _
      rw [sigF_nil _ _ _ _ _ (fun j => hrep _ j)]
      rfl
  · intro j
    rw [List.mem_range]
    constructor
    · intro hj; exact ⟨hj, hrep _ j⟩
    · exact fun h => h.1

/-! ### the steps -/
/-- The operands' values, where they are known. -/
def rho (σ : Sig) : Operand → Value
  | .tmp t => (σ t).val
  | .const v => v
  | .global g => .pointer (some ⟨g, 0, none⟩)
  | .func f => .func (.func f) #[] #[]
def wantS (ops : Array Oper) (σ : Sig) (o : Oper) : Bool :=
  match o.guard with
  | none => true
  | some (j, want) => match (ops[j]?).bind (·.dst) with
    | none => false
    | some d => match σ d with
      | .ex (.bool b) => b == want
      | _ => false
/-- All that the operation looks at is known, and lies in the frame. -/
def known (ops : Array Oper) (n : Nat) (σ : Sig) (o : Oper) : Bool := (o.looksAt ops).all fun t => decide (t < n) && (σ t).isEx
def inFrame (ops : Array Oper) (n : Nat) (o : Oper) : Bool := (o.looksAt ops).all fun t => decide (t < n)

theorem eval_rho {a : Act} {σ : Sig} {o : Oper} {w : World} (hk : known ops a0.tmps.size σ o = true) (h : ∀ t ∈ o.looksAt ops, t < a0.tmps.size → (σ t).holds (a.tmps.getD t undef) w) (hs : ∀ cs b, o.op ≠ .select cs b) :
    execOp a.eval o = execOp (rho σ) o := by
  refine execOp_congr o hs fun x hx => ?_
  cases x with
  | tmp t =>
    have hm : t ∈ o.looksAt ops := List.mem_append_left _ (List.mem_filterMap.2 ⟨.tmp t, by simpa using hx, rfl⟩)
    have := List.all_eq_true.1 hk t hm
    simp only [Bool.and_eq_true, decide_eq_true_eq] at this
    exact Spec.ex_holds this.2 (h t hm this.1)
  | _ => rfl
theorem want_of {a : Act} {σ : Sig} {o : Oper} {w : World} (hw : wantS ops σ o = true) (hf : inFrame ops a0.tmps.size o = true) (h : ∀ t ∈ o.looksAt ops, t < a0.tmps.size → (σ t).holds (a.tmps.getD t undef) w) :
    Region.wanted o (yielded ops a.tmps) = true := by
  unfold Region.wanted
  unfold wantS at hw
  cases hg : o.guard with
  | none => rfl
  | some p =>
    obtain ⟨j, want⟩ := p
    rw [hg] at hw
    simp only at hw ⊢
    cases hd : (ops[j]?).bind (·.dst) with
    | none => rw [hd] at hw; cases hw
    | some d =>
      rw [hd] at hw
      simp only at hw
      have hm : d ∈ o.looksAt ops := List.mem_append_right _ (by simp [hg, hd])
      have hlt := List.all_eq_true.1 hf d hm
      have hh := h d hm (by simpa using hlt)
      cases hσ : σ d with
      | so V => rw [hσ] at hw; cases hw
      | ex v =>
        rw [hσ] at hw hh
        cases v <;> try cases hw
        rename_i b
        simp only at hw
        have hh' : a.tmps.getD d undef = .bool b := hh
        have hg : a.tmps[d]? = some (.bool b) := by
          cases hx : a.tmps[d]? with
          | none => simp [hx, undef] at hh'
          | some x => simp [hx] at hh'; rw [hh']
        unfold yielded
        rw [hd]
        simp only [Option.bind_some, hg]
        simpa using hw
def notSel (o : Oper) : Bool := match o.op with | .select .. => false | _ => true
theorem notSel_spec {o : Oper} (h : notSel o = true) (cs : Array SelectCase) (b : Bool) : o.op ≠ .select cs b := by
  intro e; simp [notSel, e] at h
theorem inFrame_of_known {n : Nat} {σ : Sig} {o : Oper} (h : known ops n σ o = true) : inFrame ops n o = true := by
  unfold known at h; unfold inFrame
  rw [List.all_eq_true] at *
  intro t ht
  have := h t ht
  simp only [Bool.and_eq_true] at this
  exact this.1

variable {o : Oper} {rest : List Oper} {i : Nat} {σ : Sig}
/-- An operation whose value is known and that turns nothing. -/
theorem RSl.exact (v : Value) (hi : ops[i]? = some o) (hn : notSel o = true) (hk : known ops a0.tmps.size σ o = true) (hw : wantS ops σ o = true)
    (hrun : ∀ w, Add w0 w → (execOp (rho σ) o).run P w = .ok (.value v) w) (h : RSl P ops Q a0 w0 E rest (i + 1) (upd σ o.dst (.ex v))) : RSl P ops Q a0 w0 E (o :: rest) i σ := by
  refine ⟨.ex v, Stab.ex v, fun a w ha _ hh => ?_, h⟩
  unfold wpOp
  simp only [hi, want_of hw (inFrame_of_known hk) hh, if_true]
  refine .inl ?_
  unfold Oper.wp
  rw [eval_rho hk hh (notSel_spec hn), hrun w ha]
  exact ⟨v, rfl, Add.refl w, rfl⟩
/-- One that the guard passes over. -/
def skipS (ops : Array Oper) (σ : Sig) (o : Oper) : Bool :=
  match o.guard with
  | none => false
  | some (j, want) => match (ops[j]?).bind (·.dst) with
    | none => false
    | some d => match σ d with
      | .ex v => match v with
        | .bool b => b != want
        | _ => true
      | .so _ => false
theorem notWant_of {a : Act} {w : World} (hw : skipS ops σ o = true) (hf : inFrame ops a0.tmps.size o = true) (h : ∀ t ∈ o.looksAt ops, t < a0.tmps.size → (σ t).holds (a.tmps.getD t undef) w) :
    Region.wanted o (yielded ops a.tmps) = false := by
  unfold Region.wanted
  unfold skipS at hw
  cases hg : o.guard with
  | none => rw [hg] at hw; cases hw
  | some p =>
    obtain ⟨j, want⟩ := p
    rw [hg] at hw
    simp only at hw ⊢
    cases hd : (ops[j]?).bind (·.dst) with
    | none => rw [hd] at hw; cases hw
    | some d =>
      rw [hd] at hw
      simp only at hw
      have hm : d ∈ o.looksAt ops := List.mem_append_right _ (by simp [hg, hd])
      have hlt := List.all_eq_true.1 hf d hm
      have hh := h d hm (by simpa using hlt)
      cases hσ : σ d with
      | so V => rw [hσ] at hw; cases hw
      | ex v =>
        rw [hσ] at hw hh
        have hh' : a.tmps.getD d undef = v := hh
        unfold yielded
        rw [hd]
        simp only [Option.bind_some]
        cases hx : a.tmps[d]? with
        | none => cases want <;> rfl
        | some x =>
          obtain rfl : x = v := by simpa [hx] using hh'
          cases x with
          | bool b => cases b <;> cases want <;> first | rfl | cases hw
          | _ => cases want <;> rfl
theorem RSl.skip (hi : ops[i]? = some o) (hf : inFrame ops a0.tmps.size o = true) (hw : skipS ops σ o = true) (h : RSl P ops Q a0 w0 E rest (i + 1) (upd σ o.dst (.ex undef))) : RSl P ops Q a0 w0 E (o :: rest) i σ := by
  refine ⟨.ex undef, Stab.ex _, fun a w ha _ hh => ?_, h⟩
  unfold wpOp
  simp only [hi, notWant_of hw hf hh]
  exact ⟨undef, rfl, Add.refl w, rfl⟩
/-- A call of a Go function with known arguments. -/
theorem RSl.call (s : Spec) (hs : s.Stab) (f : FuncId) (args : Array Value) (hi : ops[i]? = some o) (hn : notSel o = true) (hk : known ops a0.tmps.size σ o = true) (hw : wantS ops σ o = true)
    (hrun : ∀ w, (execOp (rho σ) o).run P w = .ok (.enter f args) w)
    (hc : ∀ w, Add w0 w → Calls P f args w fun e w' => ∃ v, e = .returned v ∧ Add w w' ∧ s.holds v w')
    (h : RSl P ops Q a0 w0 E rest (i + 1) (upd σ o.dst s)) : RSl P ops Q a0 w0 E (o :: rest) i σ := by
  refine ⟨s, hs, fun a w ha _ hh => ?_, h⟩
  unfold wpOp
  simp only [hi, want_of hw (inFrame_of_known hk) hh, if_true]
  refine .inl ?_
  unfold Oper.wp
  rw [eval_rho hk hh (notSel_spec hn), hrun w]
  refine Calls.mono (hc w ha) fun e w' he => ?_
  obtain ⟨v, rfl, h1, h2⟩ := he
  exact ⟨v, rfl, h1, h2⟩
/-- Values of the operands as far as they are said. -/
def Agree (ops : Array Oper) (n : Nat) (σ : Sig) (o : Oper) (ρ : Operand → Value) (w : World) : Prop :=
  (∀ t ∈ o.looksAt ops, t < n → (σ t).holds (ρ (.tmp t)) w) ∧ (∀ v, ρ (.const v) = v) ∧ (∀ g, ρ (.global g) = .pointer (some ⟨g, 0, none⟩)) ∧ ∀ f, ρ (.func f) = .func (.func f) #[] #[]
theorem agree_eval {a : Act} {w : World} {n : Nat} (h : ∀ t ∈ o.looksAt ops, t < n → (σ t).holds (a.tmps.getD t undef) w) : Agree ops n σ o a.eval w :=
  ⟨h, fun _ => rfl, fun _ => rfl, fun _ => rfl⟩
/-- An operation that is no call: what it gives is told by a spec. -/
theorem RSl.value (s : Spec) (hs : s.Stab) (hi : ops[i]? = some o) (hf : inFrame ops a0.tmps.size o = true) (hw : wantS ops σ o = true)
    (hrun : ∀ ρ w, Add w0 w → Agree ops a0.tmps.size σ o ρ w → ∃ v w', (execOp ρ o).run P w = .ok (.value v) w' ∧ Add w w' ∧ s.holds v w')
    (h : RSl P ops Q a0 w0 E rest (i + 1) (upd σ o.dst s)) : RSl P ops Q a0 w0 E (o :: rest) i σ := by
  refine ⟨s, hs, fun a w ha _ hh => ?_, h⟩
  unfold wpOp
  simp only [hi, want_of hw hf hh, if_true]
  refine .inl ?_
  obtain ⟨v, w', hr, h1, h2⟩ := hrun a.eval w ha (agree_eval hh)
  unfold Oper.wp
  rw [hr]
  exact ⟨v, rfl, h1, h2⟩
/-- A call whose arguments are told by specs. -/
theorem RSl.callS (s : Spec) (hs : s.Stab) (f : FuncId) (hi : ops[i]? = some o) (hf : inFrame ops a0.tmps.size o = true) (hw : wantS ops σ o = true)
    (hc : ∀ ρ w, Add w0 w → Agree ops a0.tmps.size σ o ρ w → ∃ args, (execOp ρ o).run P w = .ok (.enter f args) w ∧ Calls P f args w fun e w' => ∃ v, e = .returned v ∧ Add w w' ∧ s.holds v w')
    (h : RSl P ops Q a0 w0 E rest (i + 1) (upd σ o.dst s)) : RSl P ops Q a0 w0 E (o :: rest) i σ := by
  refine ⟨s, hs, fun a w ha _ hh => ?_, h⟩
  unfold wpOp
  simp only [hi, want_of hw hf hh, if_true]
  refine .inl ?_
  obtain ⟨args, hr, hcall⟩ := hc a.eval w ha (agree_eval hh)
  unfold Oper.wp
  rw [hr]
  refine Calls.mono hcall fun e w' he => ?_
  obtain ⟨v, rfl, h1, h2⟩ := he
  exact ⟨v, rfl, h1, h2⟩
/-- A move hands on what is said. -/
theorem RSl.move (t : Nat) (hi : ops[i]? = some o) (hop : o.op = .move (.tmp t)) (hl : (o.looksAt ops).contains t = true) (hst : (σ t).Stab) (hf : inFrame ops a0.tmps.size o = true) (hw : wantS ops σ o = true)
    (h : RSl P ops Q a0 w0 E rest (i + 1) (upd σ o.dst (σ t))) : RSl P ops Q a0 w0 E (o :: rest) i σ := by
  refine RSl.value (σ t) hst hi hf hw (fun ρ w _ hag => ?_) h
  have hm : t ∈ o.looksAt ops := by simpa using hl
  exact ⟨ρ (.tmp t), w, by simp [execOp, hop], Add.refl w, hag.1 t hm (by simpa using List.all_eq_true.1 hf t hm)⟩
/-- The same of an assignment. -/
theorem RSl.assign (t : Nat) (hi : ops[i]? = some o) (hop : o.op = .assign (.tmp t)) (hl : (o.looksAt ops).contains t = true) (hst : (σ t).Stab) (hf : inFrame ops a0.tmps.size o = true) (hw : wantS ops σ o = true)
    (h : RSl P ops Q a0 w0 E rest (i + 1) (upd σ o.dst (σ t))) : RSl P ops Q a0 w0 E (o :: rest) i σ := by
  refine RSl.value (σ t) hst hi hf hw (fun ρ w _ hag => ?_) h
  have hm : t ∈ o.looksAt ops := by simpa using hl
  exact ⟨ρ (.tmp t), w, by simp [execOp, hop], Add.refl w, hag.1 t hm (by simpa using List.all_eq_true.1 hf t hm)⟩
theorem RSl.nil (h : ∀ a w, Add w0 w → a.defers = a0.defers → a.tmps.size = a0.tmps.size → (∀ t, t < a0.tmps.size → (σ t).holds (a.tmps.getD t undef) w) → Q .normal a w) : RSl P ops Q a0 w0 (EndOk Q a0 w0) [] i σ := h
theorem execOp_go {ρ : Operand → Value} (hρ : ∀ f, ρ (.func f) = .func (.func f) #[] #[]) (f : FuncId) (xs : List Operand) (ats : Array TypeId) (hop : o.op = .call { callee := .value (.func f), args := xs.toArray, argTypes := ats }) (args : List Value)
    (ha : xs.map ρ = args) : execOp ρ o = callFunc f args.toArray := by
  subst ha
  unfold execOp
  simp only [hop, resolve, hρ, Deferred.ofValue]
  simp
  rfl
/-- A call of a Go function with known arguments that gives a known value. -/
theorem RSl.callx (v : Value) (f : FuncId) (args : List Value) (xs : List Operand) (ats : Array TypeId) (hop : o.op = .call { callee := .value (.func f), args := xs.toArray, argTypes := ats }) (ha : xs.map (rho σ) = args)
    (hi : ops[i]? = some o) (hk : known ops a0.tmps.size σ o = true) (hw : wantS ops σ o = true)
    (hrun : ∀ w, (callFunc f args.toArray).run P w = .ok (.enter f args.toArray) w)
    (hc : ∀ w, Add w0 w → Calls P f args.toArray w fun e w' => e = .returned v ∧ Add w w')
    (h : RSl P ops Q a0 w0 E rest (i + 1) (upd σ o.dst (.ex v))) : RSl P ops Q a0 w0 E (o :: rest) i σ :=
  RSl.call (.ex v) (Stab.ex v) f args.toArray hi (by simp [notSel, hop]) hk hw (fun w => by rw [execOp_go (fun _ => rfl) f xs ats hop args ha]; exact hrun w) (fun w ha => (hc w ha).mono fun _ _ ⟨h1, h2⟩ => ⟨v, h1, h2, rfl⟩) h
theorem add_of_eq {f : FuncId} {args : Array Value} {v : Value} {w : World} (h : Calls P f args w fun e w' => e = .returned v ∧ w = w') : Calls P f args w fun e w' => e = .returned v ∧ Add w w' :=
  h.mono fun _ _ ⟨h1, h2⟩ => ⟨h1, h2 ▸ Add.refl w⟩
end

theorem Stab.bs (bs : List UInt8) : (Spec.so fun v w => BS w v bs).Stab := fun _ _ _ h k => BS.below k h
theorem Stab.bss (bss : List (List UInt8)) : (Spec.so fun v w => BSS w v bss).Stab := fun _ _ _ h k => BSS.below k h
section
variable {P : Program} {ρ : Operand → Value} {o : Oper} {w : World}
theorem exec_convert {s d : TypeId} {x : Operand} (hop : o.op = .convert s d x) {v : Value} (h : (convert s d (ρ x)).run P w = .ok v w) : (execOp ρ o).run P w = .ok (.value v) w := by
  simp [execOp, hop, h, Result.andThen]
theorem make_bs {t e : TypeId} (T : SlT P t e 1 1 (.int .u8 0)) {l c : Operand} (hop : o.op = .makeSlice t l c) (kl kc : IntKind) (n : Nat) (hl : ρ l = .int kl n) (hc : ρ c = .int kc n) (hn : n ≤ 1000000) :
    ∃ v w', (execOp ρ o).run P w = .ok (.value v) w' ∧ Add w w' ∧ (Spec.so fun v w => BS w v (List.replicate n 0)).holds v w' := by
  obtain ⟨hrun, s⟩ := run_makeSlice_st (P := P) (w0 := w) T kl kc n n (Nat.le_refl _) (by unfold maxLen; omega) (by omega) (St.init w)
  refine ⟨.slice (some ⟨w.heap.size, 0, none⟩) n n, w.alloc (.cells (madeCells (Value.int .u8 0).cells (n * 1)) e), by simp [execOp, hop, hl, hc, hrun, Result.andThen], s.below, ?_⟩
  have s' := s.rowMade (n := n) rfl (Nat.le_refl _) (by unfold maxLen; omega)
  obtain ⟨h1, a, c', h2, h3, h4⟩ := s'.rowBS (List.replicate n 0) (bvs_zeros n)
  show BS _ _ _
  rw [h2]; exact h4
/-- A slice of slices, written out. -/
theorem build_bss {t e : TypeId} {k : Nat} {ps : Array (Nat × Operand)} (hop : o.op = .buildSlice t k ps) (vs : List Value) (bss : List (List UInt8)) (hlen : vs.length = bss.length)
    (hrun : ∀ w, (Instr.buildSlice t k (ps.map fun (i, x) => (i, ρ x))).run P w = .ok (.slice (some ⟨w.heap.size, 0, none⟩) vs.length vs.length) (w.alloc (.cells vs.toArray e)))
    (hb : ∀ i (h : i < bss.length), ∃ u, vs[i]? = some u ∧ BS w u bss[i]) (hm : vs.length ≤ maxLen) :
    ∃ v w', (execOp ρ o).run P w = .ok (.value v) w' ∧ Add w w' ∧ (Spec.so fun v w => BSS w v bss).holds v w' := by
  refine ⟨.slice (some ⟨w.heap.size, 0, none⟩) vs.length vs.length, w.alloc (.cells vs.toArray e), by simp only [execOp, hop]; simp [hrun, Result.andThen], Add.alloc _ _, ?_⟩
  refine ⟨_, _, vs, by rw [hlen], by simpa using Rd.new w vs.toArray e, hlen.symm, by rw [hlen]; exact Nat.le_refl _, hm, (fun e => by cases e), fun i hi => ?_⟩
  obtain ⟨u, h1, h2⟩ := hb i hi
  exact ⟨u, h1, h2.alloc _⟩
theorem exec_go (hρ : ∀ f, ρ (.func f) = .func (.func f) #[] #[]) (f : FuncId) (xs : List Operand) (ats : Array TypeId) (hop : o.op = .call { callee := .value (.func f), args := xs.toArray, argTypes := ats }) (args : List Value)
    (ha : xs.map ρ = args) (hrun : (callFunc f args.toArray).run P w = .ok (.enter f args.toArray) w) : (execOp ρ o).run P w = .ok (.enter f args.toArray) w := by
  rw [execOp_go hρ f xs ats hop args ha]; exact hrun
theorem exOf {f : FuncId} {args : Array Value} {v : Value} (h : Calls P f args w fun e w' => e = .returned v ∧ Add w w') : Calls P f args w fun e w' => ∃ v', e = .returned v' ∧ Add w w' ∧ (Spec.ex v).holds v' w' :=
  h.mono fun _ _ ⟨h1, h2⟩ => ⟨v, h1, h2, rfl⟩
end

/-- The last operation is a call of a Go function. -/
theorem last_call {P : Program} {ops : Array Oper} {Q : Exit → Act → World → Prop} {a : Act} {w : World} {o : Oper} (f : FuncId) (xs : List Operand) (ats : Array TypeId) (hop : o.op = .call { callee := .value (.func f), args := xs.toArray, argTypes := ats }) (args : List Value)
    (ha : xs.map a.eval = args) (hi : ops[ops.size - 1]? = some o) (hg : o.guard = none) (hrun : (callFunc f args.toArray).run P w = .ok (.enter f args.toArray) w)
    (hc : Calls P f args.toArray w fun e w' => ∃ v, e = .returned v ∧ Q .normal (a.put o.dst v) w') : wpOp P ops Q (ops.size - 1) (fun a' w' => Q .normal a' w') a w := by
  unfold wpOp
  have hw : Region.wanted o (yielded ops a.tmps) = true := by simp [Region.wanted, hg]
  simp only [hi, hw, if_true]
  refine .inl ?_
  unfold Oper.wp
  rw [execOp_go (fun _ => rfl) f xs ats hop args ha, hrun]
  refine Calls.mono hc fun e w' he => ?_
  obtain ⟨v, rfl, h1⟩ := he
  exact h1
theorem Agree.ex {ops : Array Oper} {n : Nat} {σ : Sig} {o : Oper} {ρ : Operand → Value} {w : World} (h : Agree ops n σ o ρ w) (t : Nat) (v : Value) (hσ : σ t = .ex v) (hl : (o.looksAt ops).contains t = true) (hn : decide (t < n) = true) : ρ (.tmp t) = v := by
  have := h.1 t (by simpa using hl) (by simpa using hn)
  rw [hσ] at this
  exact this
theorem Agree.so {ops : Array Oper} {n : Nat} {σ : Sig} {o : Oper} {ρ : Operand → Value} {w : World} (h : Agree ops n σ o ρ w) (t : Nat) (V : Value → World → Prop) (hσ : σ t = .so V) (hl : (o.looksAt ops).contains t = true) (hn : decide (t < n) = true) : V (ρ (.tmp t)) w := by
  have := h.1 t (by simpa using hl) (by simpa using hn)
  rw [hσ] at this
  exact this
/-- A row of one more, taken apart. -/
theorem take1 {n : Nat} {l : List Value} (h : l.length = n + 1) : ∃ u l', l = u :: l' ∧ l'.length = n := by
  cases l with
  | nil => simp at h
  | cons u l' => exact ⟨u, l', rfl, by simpa using h⟩
/-- A cut of bytes. -/
theorem slice_bs {P : Program} {t e : TypeId} {bytes : Nat} {z : Value} (T : SlT P t e 1 bytes z) {ρ : Operand → Value} {o : Oper} {w : World} {x : Operand} {lo hi : Option Operand} (hop : o.op = .slice t x lo hi none) {bs : List UInt8} (h : BS w (ρ x) bs) (l r : Nat)
    (hlo : (lo.map ρ = none ∧ l = 0) ∨ ∃ k, lo.map ρ = some (.int k (l : Int))) (hhi : (hi.map ρ = none ∧ r = bs.length) ∨ ∃ k, hi.map ρ = some (.int k (r : Int))) (h1 : l ≤ r) (h2 : r ≤ bs.length) (cs : List UInt8) (hcs : (bs.drop l).take (r - l) = cs) :
    ∃ v w', (execOp ρ o).run P w = .ok (.value v) w' ∧ Add w w' ∧ (Spec.so fun v w => BS w v cs).holds v w' := by
  obtain ⟨a, c, hv, h3, h4, h5, h6⟩ := h
  have hb : BS w (.slice a bs.length c) bs := ⟨a, c, rfl, h3, h4, h5, h6⟩
  have hrun := run_slice_sl (P := P) T w a bs.length c (lo.map ρ) (hi.map ρ) l r hlo hhi h1 (by omega)
  refine ⟨_, w, ?_, Add.refl w, hcs ▸ hb.sub l r h1 h2⟩
  simp only [execOp, hop, hv]
  simp [hrun, Result.andThen, subA]
theorem exec_slice {P : Program} {ρ : Operand → Value} {o : Oper} {w : World} {t : TypeId} {x : Operand} {lo hi mx : Option Operand} (hop : o.op = .slice t x lo hi mx) {v : Value}
    (h : (Instr.sliceAt t (ρ x) (lo.map ρ) (hi.map ρ) (mx.map ρ)).run P w = .ok v w) : (execOp ρ o).run P w = .ok (.value v) w := by
  simp only [execOp, hop]
  simp [h, Result.andThen]
end Go.Proofs.Ytjnfhppjkadlpaa.Reg

namespace Go.Proofs.Ytjnfhppjkadlpaa.SlW
open Go Go.RowKit Go.Proofs.Ytjnfhppjkadlpaa Go.Proofs.Ytjnfhppjkadlpaa.Sp Go.Proofs.Ytjnfhppjkadlpaa.Reg

theorem tB : SlT Try.prog 32 5 1 1 (.int .u8 0) := ⟨Try.underlying32, info_parts (by kernel_rfl), rfl, by decide⟩
theorem mixed : Try.prog.follows .mixedOrders = true := by kernel_rfl
/-- A new row of these bytes is handed back, nil where 'isnil' says so. -/
def NewB (B : Nat) (w0 : World) (R : HP) (bs : List UInt8) (isnil : Prop) (e : Ending) (w' : World) : Prop :=
  ∃ v', e = .returned v' ∧ St B w0 w' (row 5 1 v' bs.length (bvs bs) * R) ∧ (v' = .slice none 0 0 ↔ isnil)

set_option maxHeartbeats 400000 in
theorem clone_calls (a : Option Addr) (c : Nat) (bs : List UInt8) (w : World) (h : BS w (.slice a bs.length c) bs) (hsz : bs.length ≤ 140737488355328) {B : Nat} {w0 : World} {R : HP} (s : St B w0 w R) :
    Calls Try.prog 45 #[.slice a bs.length c] w (NewB B w0 R bs (a = none)) := by
  obtain ⟨-, h2, h3, h4, h5⟩ := h.rd
  have heq := fun (w : World) (a : Option Addr) (n c : Nat) => Lib.run_eql_slice_nil (P := Try.prog) w 32 5 a n c 0 0 Try.underlying32
  have S := Lib.hid s
  have H5 := Lib.hid h5
  clear s h h5
  cases a with
  | none =>
    obtain rfl : c = 0 := h4 rfl
    obtain rfl : bs = [] := List.eq_nil_of_length_eq_zero (by omega)
    go_enter Try.func45, Try.ntmps45
    go_wp2_with fail
    go_ret
    exact ⟨_, rfl, S.out.rowNil _ _, by simp⟩
  | some ad =>
    have hm : bs.length ≤ maxLen := by omega
    clear h2 h3 h4
    have s0 := Lib.hid (S.out.alloc (.cells #[] 5))
    go_enter Try.func45, Try.ntmps45
    go_wp2_with (at_builtin; go_must (refine wpl_append rfl _ _ rfl tB (s0.out.rowMk (n := 0) (cap := 0) (xs := []) (Nat.le_refl _) (Nat.zero_le _) (by simp) rfl) (some ad) bs.length c (bvs bs) rfl rfl (H5.out.alloc _) (fun e => by cases e) (by simp) (bvs_one _) (by omega) (by omega) ?_); intro v2 w2 s2 hv2; have S2 := Lib.hid s2; have V2 := Lib.hid hv2; clear s2 hv2 s0)
    go_ret
    exact ⟨v2, rfl, by simpa using S2.out, V2.out.trans (by simp)⟩
theorem clone_callsN (a : Option Addr) (n c : Nat) (bs : List UInt8) (w : World) (h : BS w (.slice a n c) bs) (hsz : n ≤ 140737488355328) {B : Nat} {w0 : World} {R : HP} (s : St B w0 w R) :
    Calls Try.prog 45 #[.slice a n c] w (NewB B w0 R bs (a = none)) := by
  obtain rfl := h.rd.1
  exact clone_calls a c bs w h hsz s
/-- Bytes are handed back, in new memory. -/
def RetBS (w : World) (bs : List UInt8) (e : Ending) (w' : World) : Prop := ∃ v', e = .returned v' ∧ Add w w' ∧ BS w' v' bs
/-- The same, and true. -/
def RetBSok (w : World) (bs : List UInt8) (e : Ending) (w' : World) : Prop := ∃ v', e = .returned (.tuple #[v', .bool true]) ∧ Add w w' ∧ BS w' v' bs
/-- Nothing, and false. -/
def RetNo (w : World) (e : Ending) (w' : World) : Prop := e = .returned (.tuple #[.slice none 0 0, .bool false]) ∧ Add w w'
end Go.Proofs.Ytjnfhppjkadlpaa.SlW

namespace Go.Proofs.Ytjnfhppjkadlpaa.Sp
open Go Go.RowKit

theorem rows_at (e : TypeId) : ∀ (vs : List Value) (bss : List (List UInt8)) (i : Nat) (v : Value) (b : List UInt8), vs.length = bss.length → vs[i]? = some v → bss[i]? = some b →
    rows e vs bss = row e 1 v b.length (bvs b) * rows e (vs.eraseIdx i) (bss.eraseIdx i)
  | [], [], i, v, b, _, hv, _ => by simp at hv
  | u :: vs, c :: bss, 0, v, b, _, hv, hb => by simp at hv hb; subst hv; subst hb; rfl
  | u :: vs, c :: bss, i + 1, v, b, hl, hv, hb => by
    show row e 1 u c.length (bvs c) * rows e vs bss = _
    rw [rows_at e vs bss i v b (by simpa using hl) (by simpa using hv) (by simpa using hb)]
    show row e 1 u c.length (bvs c) * (row e 1 v b.length (bvs b) * _) = row e 1 v b.length (bvs b) * (row e 1 u c.length (bvs c) * _)
    exact sep_left_comm _ _ _
theorem rows_set (e : TypeId) (vs : List Value) (bss : List (List UInt8)) (i : Nat) (v : Value) (b : List UInt8) (hl : vs.length = bss.length) (hv : vs[i]? = some v) :
    rows e vs (bss.set i b) = row e 1 v b.length (bvs b) * rows e (vs.eraseIdx i) (bss.eraseIdx i) := by
  have hi : i < vs.length := (List.getElem?_eq_some_iff.1 hv).1
  rw [rows_at e vs (bss.set i b) i v b (by simpa using hl) hv (by rw [List.getElem?_set_self (by omega)]), List.eraseIdx_set_eq]
section
variable {B : Nat} {w0 w : World} {R : HP} {e : TypeId}
theorem St.rowsAt {vs : List Value} {bss : List (List UInt8)} {i : Nat} {v : Value} {b : List UInt8} (s : St B w0 w (rows e vs bss * R)) (hl : vs.length = bss.length) (hv : vs[i]? = some v) (hb : bss[i]? = some b) :
    St B w0 w (row e 1 v b.length (bvs b) * (rows e (vs.eraseIdx i) (bss.eraseIdx i) * R)) := by
  rw [rows_at e vs bss i v b hl hv hb] at s
  exact s.eq (sep_assoc _ _ _)
theorem St.rowsSet {vs : List Value} {bss : List (List UInt8)} {i : Nat} {v : Value} {b : List UInt8} (hl : vs.length = bss.length) (hv : vs[i]? = some v) (s : St B w0 w (row e 1 v b.length (bvs b) * (rows e (vs.eraseIdx i) (bss.eraseIdx i) * R))) :
    St B w0 w (rows e vs (bss.set i b) * R) := by
  rw [rows_set e vs bss i v b hl hv]
  exact s.eq (sep_assoc _ _ _).symm
/-- A row that is not empty: its head, its cells. -/
theorem St.rowCells {size : Nat} {v : Value} {n : Nat} {xs : List Value} (s : St B w0 w (row e size v n xs * R)) (hn : 0 < n) :
    ∃ g c, v = .slice (some ⟨g, 0, none⟩) n c ∧ n ≤ c ∧ c ≤ maxLen ∧ xs.length = n * size ∧ ∀ j, j < n * size → w.cell? ⟨g, j, none⟩ = xs[j]? := by
  obtain ⟨hl, h⟩ := s.rowOpen
  rcases h with ⟨_, rfl, _⟩ | ⟨g, cap, cur, rfl, h1, h2, h3, h4, t⟩
  · omega
  · refine ⟨g, cap, rfl, h1, h2, hl, fun j hj => ?_⟩
    rw [t.cell, ← h4, List.getElem?_take, if_pos hj]
    simp
/-- Whatever it is, a row's value is a slice of so many. -/
theorem St.rowSlice {size : Nat} {v : Value} {n : Nat} {xs : List Value} (s : St B w0 w (row e size v n xs * R)) : ∃ a c, v = .slice a n c ∧ n ≤ c ∧ c ≤ maxLen ∧ (a = none → c = 0) ∧ (0 < n → ∃ g, a = some ⟨g, 0, none⟩ ∧ ∀ j, j < n * size → w.cell? ⟨g, j, none⟩ = xs[j]?) := by
  by_cases hn : 0 < n
  · obtain ⟨g, c, rfl, h1, h2, _, h3⟩ := s.rowCells hn
    exact ⟨_, c, rfl, h1, h2, (fun h => by cases h), fun _ => ⟨g, rfl, h3⟩⟩
  · obtain rfl : n = 0 := by omega
    obtain ⟨hl, h⟩ := s.rowOpen
    rcases h with ⟨rfl, _, _⟩ | ⟨g, cap, cur, rfl, h1, h2, h3, h4, t⟩
    · exact ⟨none, 0, rfl, Nat.le_refl _, Nat.zero_le _, fun _ => rfl, fun h => by omega⟩
    · exact ⟨_, cap, rfl, h1, h2, (fun h => by cases h), fun h => by omega⟩
/-- A byte row's cell is stored. -/
theorem St.rowSetB {g n c i : Nat} {b : List UInt8} (s : St B w0 w (row e 1 (.slice (some ⟨g, 0, none⟩) n c) n (bvs b) * R)) (hi : i < b.length) (x : UInt8) :
    St B w0 (w.setCell ⟨g, i, none⟩ (bv x)) (row e 1 (.slice (some ⟨g, 0, none⟩) n c) n (bvs (b.set i x)) * R) := by
  obtain ⟨_, _, _, _, _, _, _, _, h⟩ := s.rowB'
  exact h i x hi
end
/-- copy of bytes into an owned row. -/
theorem run_copy_st {P : Program} {dT sT ty e : TypeId} (hu : P.underlying dT = some (.slice e)) (hs : (P.info? e).map (·.size) = some 1) {B : Nat} {w0 w : World} {R : HP} {g n c : Nat} {l : List UInt8}
    (s : St B w0 w (row e 1 (.slice (some ⟨g, 0, none⟩) n c) n (bvs l) * R)) (o dLen dCap : Nat) (a : Option Addr) (c2 : Nat) (data : List UInt8) (hd : BS w (.slice a data.length c2) data) (h1 : data.length ≤ dLen) (h2 : o + data.length ≤ l.length) :
    ∃ w', (Builtin.copy_ #[dT, sT] ty #[.slice (some ⟨g, o, none⟩) dLen dCap, .slice a data.length c2]).run P w = .ok (goInt data.length) w' ∧
      St B w0 w' (row e 1 (.slice (some ⟨g, 0, none⟩) n c) n (bvs (l.take o ++ data ++ l.drop (o + data.length))) * R) := by
  by_cases h0 : data.length = 0
  · have e0 : data = [] := List.eq_nil_of_length_eq_zero h0
    subst e0
    refine ⟨w, run_copy_none w dT sT ty e _ _ _ _ _ _ hu hs (by simp), ?_⟩
    simpa using s
  · obtain ⟨-, -, -, -, hr⟩ := hd.rd
    obtain ⟨b, off, rfl, hc⟩ := hr.at (by intro e; have := congrArg List.length e; rw [List.length_map, List.length_nil] at this; exact h0 this)
    obtain ⟨hl, h⟩ := s.rowOpen
    rcases h with ⟨e1, _, _⟩ | ⟨g', c', cur, e1, h3, h4, h5, h6, t⟩
    · cases e1
    cases e1
    rw [Nat.mul_one] at h5 h6
    have hn : n = l.length := by simpa using hl.symm
    have hrun := run_copy_row (P := P) w dT sT ty e g o dLen dCap ⟨b, off, none⟩ data.length c2 cur e (bvs data) hu hs t.block (by rw [List.length_map]; exact (Nat.min_eq_left h1).symm) (fun j v hj => by
      rw [Addr.add_lit]
      exact hc j v hj) (by rw [List.length_map]; omega) (bvs_one _)
    rw [List.length_map] at hrun
    refine ⟨_, hrun, ?_⟩
    refine (t.setRow _).rowMk h3 h4 (by simp; omega) ?_
    rw [Nat.mul_one]
    obtain ⟨D, hD⟩ : ∃ D, cur.toList = bvs l ++ D := ⟨cur.toList.drop n, by rw [← h6]; exact (List.take_append_drop _ _).symm⟩
    show List.take n (cur.toList.take o ++ bvs data ++ cur.toList.drop (o + data.length)) = _
    have q1 : (bvs l ++ D).take o = (bvs l).take o := List.take_append_of_le_length (by rw [List.length_map]; omega)
    have q2 : (bvs l ++ D).drop (o + data.length) = (bvs l).drop (o + data.length) ++ D := List.drop_append_of_le_length (by rw [List.length_map]; omega)
    rw [hD, q1, q2, ← List.append_assoc, List.take_left' (by simp; omega)]
    simp [bvs, List.map_take, List.map_drop]
end Go.Proofs.Ytjnfhppjkadlpaa.Sp

namespace Go.Proofs.Ytjnfhppjkadlpaa.Reg
open Go Go.RowKit Go.Proofs.Ytjnfhppjkadlpaa.Sp

def Spec.Free (s : Spec) : Prop := ∀ v w w', s.holds v w → s.holds v w'
theorem Free.ex (v : Value) : (Spec.ex v).Free := fun _ _ _ h => h
theorem Free.so (V : Value → Prop) : (Spec.so fun v _ => V v).Free := fun _ _ _ h => h
abbrev slotsOf (a : Act) : Nat → Value := fun t => a.tmps.getD t undef

section
variable {P : Program} {ops : Array Oper} {Q : Exit → Act → World → Prop} {a0 : Act} {I : Nat → (Nat → Value) → World → Prop} {effs : List Nat} {E : Sig → Prop}

def Allowed (ops : Array Oper) (effs : List Nat) (i j : Nat) : Prop :=
  j ≤ effs.length ∧ (∀ (k e : Nat), effs[k]? = some e → (((Region.before ops).getD i 0).testBit e = true → k < j) ∧ (((Region.before ops).getD e 0).testBit i = true ∨ e = i → j ≤ k)) ∧ ∀ k, effs[k]? = some i → j = k
def StepX (P : Program) (ops : Array Oper) (Q : Exit → Act → World → Prop) (a0 : Act) (I : Nat → (Nat → Value) → World → Prop) (effs : List Nat) (i : Nat) (o : Oper) (σ : Sig) (s : Spec) : Prop :=
  ∀ a w j, Allowed ops effs i j → I j (slotsOf a) w → a.defers = a0.defers → a.tmps.size = a0.tmps.size → (∀ t ∈ o.looksAt ops, t < a0.tmps.size → (σ t).holds (a.tmps.getD t undef) w) →
    wpOp P ops Q i (fun a' w' => ∃ v, a' = a.put o.dst v ∧ s.holds v w' ∧ ((i ∈ effs → I (j + 1) (slotsOf (a.put o.dst v)) w') ∧ (i ∉ effs → I j (slotsOf a) w'))) a w
def EndX (Q : Exit → Act → World → Prop) (a0 : Act) (I : Nat → (Nat → Value) → World → Prop) (effs : List Nat) (σ : Sig) : Prop :=
  ∀ a w, I effs.length (slotsOf a) w → a.defers = a0.defers → a.tmps.size = a0.tmps.size → (∀ t, t < a0.tmps.size → (σ t).holds (a.tmps.getD t undef) w) → Q .normal a w
def RXl (P : Program) (ops : Array Oper) (Q : Exit → Act → World → Prop) (a0 : Act) (I : Nat → (Nat → Value) → World → Prop) (effs : List Nat) (E : Sig → Prop) : List Oper → Nat → Sig → Prop
  | [], _, σ => E σ
  | o :: rest, i, σ => ∃ s, s.Free ∧ StepX P ops Q a0 I effs i o σ s ∧ RXl P ops Q a0 I effs E rest (i + 1) (upd σ o.dst s)

theorem RXl.env : ∀ (l : List Oper) (i : Nat) (σ : Sig), RXl P ops Q a0 I effs E l i σ →
    ∃ es : List Spec, es.length = l.length ∧ (∀ m o s, l[m]? = some o → es[m]? = some s → s.Free ∧ StepX P ops Q a0 I effs (i + m) o (sigF l es i (fun j => decide (j < i + m)) σ) s) ∧
      E (sigF l es i (fun _ => true) σ)
  | [], i, σ, h => ⟨[], rfl, by simp, h⟩
  | o :: rest, i, σ, ⟨s, hs, hstep, hrest⟩ => by
    obtain ⟨es, hl, hall, hend⟩ := RXl.env rest (i + 1) _ hrest
    refine ⟨s :: es, by simp [hl], ?_, by simpa [sigF] using hend⟩
    intro m o' s' ho hs'
    cases m with
    | zero =>
      simp at ho hs'
      subst ho; subst hs'
      have : ∀ (l : List Oper) (es : List Spec) (k : Nat) (τ : Sig), i ≤ k → sigF l es k (fun j => decide (j < i)) τ = τ := by
        intro l
        induction l with
        | nil => intro es k τ _; rfl
        | cons o l ih =>
          intro es k τ hk
          cases es with
          | nil => rfl
          | cons s es => simp only [sigF]; rw [if_neg (by simp; omega)]; exact ih es (k + 1) τ (by omega)
      refine ⟨hs, ?_⟩
      have e := this (o :: rest) (s :: es) i σ (Nat.le_refl _)
      simp only [Nat.add_zero]
      rw [e]; exact hstep
    | succ m =>
      have := hall m o' s' (by simpa using ho) (by simpa using hs')
      have e1 : i + (m + 1) = i + 1 + m := by omega
      rw [e1]
      refine ⟨this.1, ?_⟩
      have e2 : sigF (o :: rest) (s :: es) i (fun j => decide (j < i + 1 + m)) σ = sigF rest es (i + 1) (fun j => decide (j < i + 1 + m)) (upd σ o.dst s) := by
        simp only [sigF]; rw [if_pos (by simp; omega)]
      rw [e2]; exact this.2

/-! ### which effects -/
def effsOk (ops : Array Oper) (effs : List Nat) : Bool :=
  ((List.range effs.length).all fun k => (match effs[k]?, effs[k + 1]? with | some e, some e' => ((Region.before ops).getD e' 0).testBit e && decide (e < e') | _, _ => true)) &&
  (effs.all fun e => decide (e < ops.size)) &&
  ((List.range ops.size).all fun i => effs.all fun e => !((Region.before ops).getD i 0).testBit e || decide (e < i)) &&
  (effs.all fun e => (List.range ops.size).all fun i => !((Region.before ops).getD e 0).testBit i || decide (i < e)) &&
  (effs.all fun e => match (ops[e]?).bind (·.dst) with | none => true | some d => (List.range ops.size).all fun i => i == e || (ops[i]?).bind (·.dst) != some d)
structure EffsOk (ops : Array Oper) (effs : List Nat) : Prop where
  chain : ∀ k e e', effs[k]? = some e → effs[k + 1]? = some e' → ((Region.before ops).getD e' 0).testBit e = true ∧ e < e'
  size : ∀ e ∈ effs, e < ops.size
  bef : ∀ i e, i < ops.size → e ∈ effs → ((Region.before ops).getD i 0).testBit e = true → e < i
  ahead : ∀ e ∈ effs, ∀ i, i < ops.size → ((Region.before ops).getD e 0).testBit i = true → i < e
  uniq : ∀ e ∈ effs, ∀ d, (ops[e]?).bind (·.dst) = some d → ∀ i, i < ops.size → (ops[i]?).bind (·.dst) = some d → i = e
theorem effsOk_spec (h : effsOk ops effs = true) : EffsOk ops effs := by
  unfold effsOk at h
  simp only [Bool.and_eq_true] at h
  obtain ⟨⟨⟨⟨h1, h2⟩, h3⟩, h5⟩, h4⟩ := h
  refine ⟨fun k e e' he he' => ?_, fun e he => ?_, fun i e hi he hb => ?_, fun e he i hi hb => ?_, fun e he d hd i hi hid => ?_⟩
  · have hk : k < effs.length := (List.getElem?_eq_some_iff.1 he).1
    have := List.all_eq_true.1 h1 k (List.mem_range.2 hk)
    rw [he, he'] at this
    simpa using this
  · simpa using List.all_eq_true.1 h2 e he
  · have := List.all_eq_true.1 (List.all_eq_true.1 h3 i (List.mem_range.2 hi)) e he
    rw [hb] at this
    simpa using this
  · have := List.all_eq_true.1 (List.all_eq_true.1 h5 e he) i (List.mem_range.2 hi)
    rw [hb] at this
    simpa using this
  · have := List.all_eq_true.1 h4 e he
    rw [hd] at this
    have := List.all_eq_true.1 this i (List.mem_range.2 hi)
    rw [hid] at this
    simpa using this
theorem EffsOk.lt (h : EffsOk ops effs) : ∀ (d k : Nat) (e e' : Nat), effs[k]? = some e → effs[k + (d + 1)]? = some e' → e < e'
  | 0, k, e, e', he, he' => (h.chain k e e' he he').2
  | d + 1, k, e, e', he, he' => by
    have hlt : k + (d + 1) < effs.length := by have := (List.getElem?_eq_some_iff.1 he').1; omega
    have hm := List.getElem?_eq_getElem hlt
    exact Nat.lt_trans (EffsOk.lt h d k e _ he hm) (h.chain (k + (d + 1)) _ e' hm (by rw [← he']; congr 1)).2
theorem EffsOk.inj (h : EffsOk ops effs) {k k' e : Nat} (he : effs[k]? = some e) (he' : effs[k']? = some e) : k = k' := by
  rcases Nat.lt_trichotomy k k' with hlt | heq | hlt
  · obtain ⟨d, rfl⟩ : ∃ d, k' = k + (d + 1) := ⟨k' - k - 1, by omega⟩
    have := h.lt d k e e he he'
    omega
  · exact heq
  · obtain ⟨d, rfl⟩ : ∃ d, k = k' + (d + 1) := ⟨k - k' - 1, by omega⟩
    have := h.lt d k' e e he' he
    omega

structure InvX (ops : Array Oper) (es : List Spec) (a0 : Act) (I : Nat → (Nat → Value) → World → Prop) (effs : List Nat) (j : Nat) (listed : Array Bool) (a : Act) (w : World) : Prop where
  st : I j (slotsOf a) w
  le : j ≤ effs.length
  hist : ∀ k e, effs[k]? = some e → (listed.getD e false = true ↔ k < j)
  defers : a.defers = a0.defers
  size : a.tmps.size = a0.tmps.size
  lsize : listed.size = ops.size
  closed : Closed ops listed
  slots : ∀ t, t < a0.tmps.size → (sigF ops.toList es 0 (fun j => listed.getD j false) (fun t => .ex (a0.tmps.getD t undef)) t).holds (a.tmps.getD t undef) w

theorem free_sigF : ∀ (l : List Oper) (es' : List Spec) (i : Nat) (L : Nat → Bool), (∀ (m : Nat) (s : Spec), es'[m]? = some s → s.Free) → ∀ τ : Sig, (∀ t, (τ t).Free) → ∀ t, (sigF l es' i L τ t).Free
  | [], _, _, _, _, _, hτ, t => hτ t
  | _ :: _, [], _, _, _, _, hτ, t => hτ t
  | o :: l, s :: es', i, L, h, τ, hτ, t => by
    simp only [sigF]
    refine free_sigF l es' (i + 1) L (fun m s' hm => h (m + 1) s' (by simpa using hm)) _ (fun t => ?_) t
    split
    · unfold upd
      split
      · exact h 0 s (by simp)
      · exact hτ t
    · exact hτ t

theorem slotsOf_put (a : Act) (d : Option Tmp) (v : Value) (t : Nat) (h : d ≠ some t) : slotsOf (a.put d v) t = slotsOf a t := by
  unfold slotsOf
  cases d with
  | none => rfl
  | some d =>
    have hne : d ≠ t := fun e => h (by rw [e])
    simp [Act.put, Array.getElem?_setIfInBounds_ne hne]

theorem rx_any (hok : regOk ops = true) (hef : EffsOk ops effs)
    (hloc : ∀ j τ τ' w, (∀ k e, k < j → effs[k]? = some e → ∀ t, (ops[e]?).bind (·.dst) = some t → τ t = τ' t) → I j τ w → I j τ' w)
    {es : List Spec} (hl : es.length = ops.toList.length)
    (hes : ∀ m o s, ops.toList[m]? = some o → es[m]? = some s → s.Free ∧ StepX P ops Q a0 I effs m o (sigF ops.toList es 0 (fun j => decide (j < m)) (fun t => .ex (a0.tmps.getD t undef))) s)
    (hend : EndX Q a0 I effs (sigF ops.toList es 0 (fun _ => true) (fun t => .ex (a0.tmps.getD t undef)))) :
    ∀ (fuel : Nat) (rem : List Nat) (listed : Array Bool) (j : Nat) (a : Act) (w : World), InvX ops es a0 I effs j listed a w → rem.Nodup → (∀ j, j ∈ rem ↔ j < ops.size ∧ listed.getD j false = false) → rem.length ≤ fuel →
      wpAny P .any ops Q fuel listed a w := by
  have fin : ∀ (listed : Array Bool) (j : Nat) (a : Act) (w : World), InvX ops es a0 I effs j listed a w → (∀ j, j < ops.size → listed.getD j false = true) → Q .normal a w := by
    intro listed j a w V hall
    have hj : j = effs.length := by
      rcases Nat.lt_or_ge j effs.length with hlt | hge
      · have := (V.hist j _ (List.getElem?_eq_getElem hlt)).1 (hall _ (hef.size _ (List.getElem_mem hlt)))
        omega
      · have := V.le; omega
    refine hend a w (hj ▸ V.st) V.defers V.size fun t hts => ?_
    have := V.slots t hts
    rw [sigF_congr t (fun j => listed.getD j false) (fun _ => true) ops.toList es 0 _ _ rfl fun m o hm _ => by
      have hlt : m < ops.toList.length := (List.getElem?_eq_some_iff.1 hm).1
      simp only [Nat.zero_add]
      exact hall m (by simpa using hlt)] at this
    exact this
  intro fuel
  induction fuel with
  | zero =>
    intro rem listed j a w V hn hrem hlen
    have hnil : rem = [] := List.eq_nil_of_length_eq_zero (by omega)
    have hall : ∀ j, j < ops.size → listed.getD j false = true := fun j hj => by
      cases hL : listed.getD j false with
      | true => rfl
      | false => have := (hrem j).2 ⟨hj, hL⟩; rw [hnil] at this; cases this
    refine ⟨?_, fin listed j a w V hall⟩
    apply List.eq_nil_iff_forall_not_mem.2
    intro j hj
    obtain ⟨h0, o, ho, _⟩ := mem_ready.1 hj
    have hlt : j < ops.size := (Array.getElem?_eq_some_iff.1 ho).1
    rw [getD_false_true (by rw [V.lsize]; exact hlt), hall j hlt] at h0
    cases h0
  | succ fuel ih =>
    intro rem listed j a w V hn hrem hlen
    refine ⟨fun hr => fin listed j a w V (all_of_ready_nil hok V.lsize hr), fun i hi => ?_⟩
    obtain ⟨h0, o, ho, hedge⟩ := mem_ready.1 hi
    have hlt : i < ops.size := (Array.getElem?_eq_some_iff.1 ho).1
    have hi0 : listed.getD i false = false := by rw [← getD_false_true (by rw [V.lsize]; exact hlt)]; exact h0
    have hol : ops.toList[i]? = some o := by simpa using ho
    have hil : i < es.length := by rw [hl]; simpa using hlt
    obtain ⟨hst, hstep⟩ := hes i o es[i] hol (List.getElem?_eq_getElem hil)
    have hbefore := closed_before hok V.closed
    -- what the operation waits for has come up
    have hbits : ∀ m o', m < i → ops[m]? = some o' → ((Region.before ops).getD i 0).testBit m = true → listed.getD m false = true := by
      intro m o' hmi hm' hbit
      obtain ⟨e, he, hb, hor⟩ := ((earlier_at (b := Region.before ops) hok ho).2 m o' hmi hm').2 hbit
      have hle := hedge e he hb
      rcases hor with rfl | ⟨h1, h2, h3⟩
      · exact hle
      · have hlt' : e.on < ops.size := by omega
        exact hbefore e.on ops[e.on] (Array.getElem?_eq_getElem hlt') hle m o' h1 hm' h3
    have hall0 : ∀ (k e : Nat), effs[k]? = some e → (((Region.before ops).getD i 0).testBit e = true → k < j) ∧ (((Region.before ops).getD e 0).testBit i = true ∨ e = i → j ≤ k) := by
      refine fun k e hk => ⟨fun hbit => ?_, fun hor => ?_⟩
      · have hm : e ∈ effs := List.mem_of_getElem? hk
        have hei := hef.bef i e hlt hm hbit
        have hes := hef.size e hm
        exact (V.hist k e hk).1 (hbits e ops[e] hei (Array.getElem?_eq_getElem hes) hbit)
      · rcases Nat.lt_or_ge k j with hkj | hkj
        · exfalso
          have hL := (V.hist k e hk).2 hkj
          have hm : e ∈ effs := List.mem_of_getElem? hk
          have hes := hef.size e hm
          rcases hor with hbit | rfl
          · rcases Nat.lt_trichotomy i e with hie | hie | hie
            · have := hbefore e ops[e] (Array.getElem?_eq_getElem hes) hL i o hie ho hbit
              rw [hi0] at this; cases this
            · subst hie; rw [hi0] at hL; cases hL
            · -- i behind e: e waits for i, which stands behind it: not so
              have := hef.ahead e hm i hlt hbit
              omega
          · rw [hi0] at hL; cases hL
        · exact hkj
    have hall : Allowed ops effs i j := by
      refine ⟨V.le, hall0, fun k hk => ?_⟩
      have h1 := (hall0 k i hk).2 (.inr rfl)
      rcases Nat.lt_or_ge j k with hlt2 | hge
      · have hkl : k - 1 < effs.length := by have := (List.getElem?_eq_some_iff.1 hk).1; omega
        have hc := hef.chain (k - 1) _ i (List.getElem?_eq_getElem hkl) (by rw [show k - 1 + 1 = k by omega]; exact hk)
        have := (hall0 (k - 1) _ (List.getElem?_eq_getElem hkl)).1 hc.1
        omega
      · omega
    -- which operations that share a slot have come up
    have hsame : ∀ t m o', ops.toList[m]? = some o' → o'.dst = some t → (t ∈ o.looksAt ops ∨ o.dst = some t) → m ≠ i → (listed.getD m false = decide (m < i)) := by
      intro t m o' hm hd hlook hne
      have hm' : ops[m]? = some o' := by simpa using hm
      rcases Nat.lt_or_gt_of_ne hne with hmi | hmi
      · have hsh : shares ops o' o = true := by
          rcases hlook with h | h
          · exact shares_of_look hd h
          · exact shares_of_dst hd h
        have := hbits m o' hmi hm' (((earlier_at (b := Region.before ops) hok ho).2 m o' hmi hm').1 hsh)
        rw [this]; simp [hmi]
      · have hsh : shares ops o o' = true := by
          rcases hlook with h | h
          · exact shares_of_look' hd h
          · exact shares_of_dst h hd
        have hbit := ((earlier_at (b := Region.before ops) hok hm').2 i o hmi ho).1 hsh
        have : listed.getD m false = false := by
          cases hL : listed.getD m false with
          | false => rfl
          | true =>
            have := hbefore m o' hm' hL i o hmi ho hbit
            rw [hi0] at this; cases this
        rw [this]; simp; omega
    have hwp := hstep a w j hall V.st V.defers V.size fun t ht hts => by
      have := V.slots t hts
      rw [sigF_congr t (fun j => listed.getD j false) (fun j => decide (j < i)) ops.toList es 0 _ _ rfl fun m o' hm hd => by
        simp only [Nat.zero_add]
        by_cases hmi : m = i
        · subst hmi; rw [hi0]; simp
        · exact hsame t m o' hm hd (.inl ht) hmi] at this
      exact this
    refine wpOp_mono (fun a' w' h => ?_) hwp
    obtain ⟨v, rfl, hv, hI⟩ := h
    have hsz : i < listed.size := by rw [V.lsize]; exact hlt
    have hset : ∀ j, (listed.setIfInBounds i true).getD j false = if j = i then true else listed.getD j false := by
      intro j
      by_cases hji : j = i
      · subst hji; simp [hsz]
      · rw [if_neg hji, getD_set_ne false (Ne.symm hji)]
    obtain ⟨j', hI', hle', hhist'⟩ : ∃ j', I j' (slotsOf (a.put o.dst v)) w' ∧ j' ≤ effs.length ∧ ∀ k e, effs[k]? = some e → ((listed.setIfInBounds i true).getD e false = true ↔ k < j') := by
      by_cases him : i ∈ effs
      · obtain ⟨k, hk⟩ := List.getElem?_of_mem him
        have hjk : j = k := hall.2.2 k hk
        subst hjk
        refine ⟨j + 1, hI.1 him, by have := (List.getElem?_eq_some_iff.1 hk).1; omega, fun k' e' he' => ?_⟩
        rw [hset]
        by_cases hei : e' = i
        · subst hei
          have := hef.inj he' hk
          subst this
          simp
        · rw [if_neg hei, V.hist k' e' he']
          have : k' ≠ j := by rintro rfl; rw [hk] at he'; cases he'; exact hei rfl
          omega
      · refine ⟨j, hloc j _ _ w' (fun k e _ hk t ht => ?_) (hI.2 him), V.le, fun k' e' he' => ?_⟩
        · rw [slotsOf_put]
          intro hd
          have hm : e ∈ effs := List.mem_of_getElem? hk
          have := hef.uniq e hm t ht i hlt (by rw [ho]; exact hd)
          subst this
          exact him hm
        · rw [hset, if_neg (by rintro rfl; exact him (List.mem_of_getElem? he')), V.hist k' e' he']
    refine ih (rem.erase i) _ j' _ _ ⟨hI', hle', hhist', ?_, ?_, by simpa using V.lsize, ?_, ?_⟩ (hn.erase i) ?_ ?_
    · rw [← V.defers]; cases o.dst <;> rfl
    · rw [← V.size]; cases o.dst <;> simp [Act.put]
    · intro j y hj hL e he hb
      rw [hset] at hL ⊢
      by_cases hei : e.on = i
      · simp [hei]
      · rw [if_neg hei]
        by_cases hji : j = i
        · subst hji; rw [ho] at hj; cases hj; exact hedge e he hb
        · rw [if_neg hji] at hL; exact V.closed j y hj hL e he hb
    · intro t hts
      by_cases hd : o.dst = some t
      · rw [sigF_last t _ i ops.toList es 0 i _ o es[i] (by omega) hol (List.getElem?_eq_getElem hil) hd (by rw [hset]; simp) fun m' o' hm' ho' hd' => by
          simp only [Nat.zero_add]
          rw [hset, if_neg (by omega), hsame t m' o' ho' hd' (.inr hd) (by omega)]
          simp; omega]
        have hts' : t < a.tmps.size := by rw [V.size]; exact hts
        simpa [Act.put, hd, hts'] using hv
      · have e1 : (a.put o.dst v).tmps.getD t undef = a.tmps.getD t undef := slotsOf_put a o.dst v t hd
        rw [e1, sigF_congr t _ (fun j => listed.getD j false) ops.toList es 0 _ _ rfl fun m o' hm hd' => by
          simp only [Nat.zero_add]
          rw [hset, if_neg (by rintro rfl; rw [hol] at hm; cases hm; exact hd hd')]]
        refine free_sigF _ _ _ _ (fun m s hm => ?_) _ (fun t => Free.ex _) t _ _ _ (V.slots t hts)
        have hml : m < ops.toList.length := by rw [← hl]; exact (List.getElem?_eq_some_iff.1 hm).1
        exact (hes m _ s (List.getElem?_eq_getElem hml) hm).1
    · intro j
      rw [hn.mem_erase_iff, hrem, hset]
      constructor
      · rintro ⟨h1, h2, h3⟩; exact ⟨h2, by rw [if_neg h1]; exact h3⟩
      · rintro ⟨h2, h3⟩
        by_cases hji : j = i
        · rw [if_pos hji] at h3; cases h3
        · rw [if_neg hji] at h3; exact ⟨hji, h2, h3⟩
    · have := List.length_erase_of_mem ((hrem i).2 ⟨hlt, hi0⟩)
      have hpos : 0 < rem.length := List.length_pos_of_mem ((hrem i).2 ⟨hlt, hi0⟩)
      omega

theorem wp_region_rxi {id : Nat} {l : List Oper} {Q : Exit → Act → World → Prop} {a : Act} {w : World} (I : Nat → (Nat → Value) → World → Prop) (effs : List Nat) (hm : P.follows .mixedOrders = true) (hok : regOk l.toArray = true) (hef : effsOk l.toArray effs = true)
    (hloc : ∀ j τ τ' w, (∀ k e, k < j → effs[k]? = some e → ∀ t, (l.toArray[e]?).bind (·.dst) = some t → τ t = τ' t) → I j τ w → I j τ' w) (h0 : I 0 (slotsOf a) w.drew)
    (h : RXl P l.toArray Q a I effs (EndX Q a I effs) l 0 (fun t => .ex (a.tmps.getD t undef))) : (Code.region id l.toArray true).wp P Q a w := by
  obtain ⟨es, hl, hes, hend⟩ := RXl.env l 0 _ h
  refine wp_region_any hm ?_
  refine rx_any (a0 := a) (I := I) (effs := effs) (es := es) hok (effsOk_spec hef) hloc (by simpa using hl) (fun m o s ho hs => ?_) (by simpa using hend) _ (List.range l.toArray.size) _ 0 a _ ?_ List.nodup_range ?_ (by simp)
  · have := hes m o s (by simpa using ho) hs
    simpa using this
  · refine ⟨h0, Nat.zero_le _, fun k e _ => ?_, rfl, rfl, by simp, ?_, ?_⟩
    · rw [rep_false]; simp
    · intro j y hj hL
      rw [rep_false] at hL
      cases hL
    · intro t _
      rw [sigF_nil _ _ _ _ _ (fun j => rep_false _ j)]
      rfl
  · intro j
    rw [List.mem_range]
    constructor
    · intro hj; exact ⟨hj, rep_false _ j⟩
    · exact fun h => h.1
/-- The same, where J speaks of the world alone. -/
theorem wp_region_rx {id : Nat} {l : List Oper} {Q : Exit → Act → World → Prop} {a : Act} {w : World} (J : Nat → World → Prop) (effs : List Nat) (hm : P.follows .mixedOrders = true) (hok : regOk l.toArray = true) (hef : effsOk l.toArray effs = true)
    (h0 : J 0 w.drew) (h : RXl P l.toArray Q a (fun j _ w => J j w) effs (EndX Q a (fun j _ w => J j w) effs) l 0 (fun t => .ex (a.tmps.getD t undef))) : (Code.region id l.toArray true).wp P Q a w :=
  wp_region_rxi (fun j _ w => J j w) effs hm hok hef (fun _ _ _ _ _ h => h) h0 h

/-! ### the steps -/
variable {o : Oper} {rest : List Oper} {i : Nat} {σ : Sig}
/-- An operation whose value is known and that turns nothing. -/
theorem RXl.exact (v : Value) (hi : ops[i]? = some o) (hn : notSel o = true) (hk : known ops a0.tmps.size σ o = true) (hw : wantS ops σ o = true) (hne : effs.contains i = false)
    (hrun : ∀ j τ w, j ≤ effs.length → I j τ w → (execOp (rho σ) o).run P w = .ok (.value v) w) (h : RXl P ops Q a0 I effs E rest (i + 1) (upd σ o.dst (.ex v))) : RXl P ops Q a0 I effs E (o :: rest) i σ := by
  refine ⟨.ex v, Free.ex v, fun a w j ha hI _ _ hh => ?_, h⟩
  have hni : i ∉ effs := by simpa using hne
  unfold wpOp
  simp only [hi, want_of hw (inFrame_of_known hk) hh, if_true]
  refine .inl ?_
  unfold Oper.wp
  rw [eval_rho hk hh (notSel_spec hn), hrun j _ w ha.1 hI]
  exact ⟨v, rfl, rfl, fun hc => absurd hc hni, fun _ => hI⟩
/-- The same, of an operation that the k-th effect waits for. -/
theorem RXl.exactB (k e : Nat) (hke : effs[k]? = some e) (hb : ((Region.before ops).getD e 0).testBit i = true) (v : Value) (hi : ops[i]? = some o) (hn : notSel o = true) (hk : known ops a0.tmps.size σ o = true) (hw : wantS ops σ o = true) (hne : effs.contains i = false)
    (hrun : ∀ j τ w, j ≤ k → I j τ w → (execOp (rho σ) o).run P w = .ok (.value v) w) (h : RXl P ops Q a0 I effs E rest (i + 1) (upd σ o.dst (.ex v))) : RXl P ops Q a0 I effs E (o :: rest) i σ := by
  refine ⟨.ex v, Free.ex v, fun a w j ha hI _ _ hh => ?_, h⟩
  have hni : i ∉ effs := by simpa using hne
  unfold wpOp
  simp only [hi, want_of hw (inFrame_of_known hk) hh, if_true]
  refine .inl ?_
  unfold Oper.wp
  rw [eval_rho hk hh (notSel_spec hn), hrun j _ w ((ha.2.1 k e hke).2 (.inl hb)) hI]
  exact ⟨v, rfl, rfl, fun hc => absurd hc hni, fun _ => hI⟩
/-- One that the guard passes over. -/
theorem RXl.skip (hi : ops[i]? = some o) (hf : inFrame ops a0.tmps.size o = true) (hw : skipS ops σ o = true) (hne : effs.contains i = false) (h : RXl P ops Q a0 I effs E rest (i + 1) (upd σ o.dst (.ex undef))) : RXl P ops Q a0 I effs E (o :: rest) i σ := by
  refine ⟨.ex undef, Free.ex _, fun a w j ha hI _ _ hh => ?_, h⟩
  have hni : i ∉ effs := by simpa using hne
  unfold wpOp
  simp only [hi, notWant_of hw hf hh]
  exact ⟨undef, rfl, rfl, fun hc => absurd hc hni, fun _ => hI⟩
/-- An operation that only reads: what it gives is told by a spec. -/
theorem RXl.value (s : Spec) (hs : s.Free) (hi : ops[i]? = some o) (hf : inFrame ops a0.tmps.size o = true) (hw : wantS ops σ o = true) (hne : effs.contains i = false)
    (hrun : ∀ ρ w j, j ≤ effs.length → I j (fun t => ρ (.tmp t)) w → Agree ops a0.tmps.size σ o ρ w → ∃ v, (execOp ρ o).run P w = .ok (.value v) w ∧ s.holds v w)
    (h : RXl P ops Q a0 I effs E rest (i + 1) (upd σ o.dst s)) : RXl P ops Q a0 I effs E (o :: rest) i σ := by
  refine ⟨s, hs, fun a w j ha hI _ _ hh => ?_, h⟩
  have hni : i ∉ effs := by simpa using hne
  unfold wpOp
  simp only [hi, want_of hw hf hh, if_true]
  refine .inl ?_
  obtain ⟨v, hr, h2⟩ := hrun a.eval w j ha.1 hI (agree_eval hh)
  unfold Oper.wp
  rw [hr]
  exact ⟨v, rfl, h2, fun hc => absurd hc hni, fun _ => hI⟩
/-- A call that leaves what is said of the world. -/
theorem RXl.callr (v : Value) (f : FuncId) (args : List Value) (xs : List Operand) (ats : Array TypeId) (hop : o.op = .call { callee := .value (.func f), args := xs.toArray, argTypes := ats }) (ha : xs.map (rho σ) = args)
    (hi : ops[i]? = some o) (hk : known ops a0.tmps.size σ o = true) (hw : wantS ops σ o = true) (hne : effs.contains i = false)
    (hrun : ∀ w, (callFunc f args.toArray).run P w = .ok (.enter f args.toArray) w)
    (hc : ∀ j τ w, j ≤ effs.length → I j τ w → Calls P f args.toArray w fun e w' => e = .returned v ∧ I j τ w')
    (h : RXl P ops Q a0 I effs E rest (i + 1) (upd σ o.dst (.ex v))) : RXl P ops Q a0 I effs E (o :: rest) i σ := by
  refine ⟨.ex v, Free.ex v, fun a w j hal hI _ _ hh => ?_, h⟩
  have hni : i ∉ effs := by simpa using hne
  unfold wpOp
  simp only [hi, want_of hw (inFrame_of_known hk) hh, if_true]
  refine .inl ?_
  unfold Oper.wp
  rw [eval_rho hk hh (notSel_spec (by simp [notSel, hop])), execOp_go (fun _ => rfl) f xs ats hop args ha, hrun w]
  refine Calls.mono (hc j _ w hal.1 hI) fun e w' he => ?_
  obtain ⟨rfl, he⟩ := he
  exact ⟨v, rfl, rfl, fun hc => absurd hc hni, fun _ => he⟩
/-- A call that turns memory: the k-th of its kind. -/
theorem RXl.calle (k : Nat) (s : Spec) (hs : s.Free) (f : FuncId) (args : List Value) (xs : List Operand) (ats : Array TypeId) (hop : o.op = .call { callee := .value (.func f), args := xs.toArray, argTypes := ats }) (ha : xs.map (rho σ) = args)
    (hi : ops[i]? = some o) (hk : known ops a0.tmps.size σ o = true) (hw : wantS ops σ o = true) (hke : effs[k]? = some i)
    (hrun : ∀ w, (callFunc f args.toArray).run P w = .ok (.enter f args.toArray) w)
    (hc : ∀ a w, I k (slotsOf a) w → a.tmps.size = a0.tmps.size → Calls P f args.toArray w fun e w' => ∃ v, e = .returned v ∧ s.holds v w' ∧ I (k + 1) (slotsOf (a.put o.dst v)) w')
    (h : RXl P ops Q a0 I effs E rest (i + 1) (upd σ o.dst s)) : RXl P ops Q a0 I effs E (o :: rest) i σ := by
  refine ⟨s, hs, fun a w j hal hI _ hsz hh => ?_, h⟩
  obtain rfl := hal.2.2 k hke
  have him : i ∈ effs := List.mem_of_getElem? hke
  unfold wpOp
  simp only [hi, want_of hw (inFrame_of_known hk) hh, if_true]
  refine .inl ?_
  unfold Oper.wp
  rw [eval_rho hk hh (notSel_spec (by simp [notSel, hop])), execOp_go (fun _ => rfl) f xs ats hop args ha, hrun w]
  refine Calls.mono (hc a w hI hsz) fun e w' he => ?_
  obtain ⟨v, rfl, h1, h2⟩ := he
  exact ⟨v, rfl, h1, fun _ => h2, fun hc => absurd him hc⟩
/-- The same, where J speaks of the world alone, and the value is known. -/
theorem RXl.callj {J : Nat → World → Prop} (k : Nat) (v : Value) (f : FuncId) (args : List Value) (xs : List Operand) (ats : Array TypeId) (hop : o.op = .call { callee := .value (.func f), args := xs.toArray, argTypes := ats }) (ha : xs.map (rho σ) = args)
    (hi : ops[i]? = some o) (hk : known ops a0.tmps.size σ o = true) (hw : wantS ops σ o = true) (hke : effs[k]? = some i)
    (hrun : ∀ w, (callFunc f args.toArray).run P w = .ok (.enter f args.toArray) w)
    (hc : ∀ w, J k w → Calls P f args.toArray w fun e w' => e = .returned v ∧ J (k + 1) w')
    (h : RXl P ops Q a0 (fun j _ w => J j w) effs E rest (i + 1) (upd σ o.dst (.ex v))) : RXl P ops Q a0 (fun j _ w => J j w) effs E (o :: rest) i σ :=
  RXl.calle k (.ex v) (Free.ex v) f args xs ats hop ha hi hk hw hke hrun (fun _ w hj _ => (hc w hj).mono fun _ _ he => ⟨v, he.1, rfl, he.2⟩) h
/-- An operation that is no call and turns memory: the k-th of its kind. -/
theorem RXl.effv (k : Nat) (s : Spec) (hs : s.Free) (hi : ops[i]? = some o) (hf : inFrame ops a0.tmps.size o = true) (hw : wantS ops σ o = true) (hke : effs[k]? = some i)
    (hrun : ∀ a w, I k (slotsOf a) w → a.tmps.size = a0.tmps.size → Agree ops a0.tmps.size σ o a.eval w → ∃ v w', (execOp a.eval o).run P w = .ok (.value v) w' ∧ s.holds v w' ∧ I (k + 1) (slotsOf (a.put o.dst v)) w')
    (h : RXl P ops Q a0 I effs E rest (i + 1) (upd σ o.dst s)) : RXl P ops Q a0 I effs E (o :: rest) i σ := by
  refine ⟨s, hs, fun a w j hal hI _ hsz hh => ?_, h⟩
  obtain rfl := hal.2.2 k hke
  have him : i ∈ effs := List.mem_of_getElem? hke
  unfold wpOp
  simp only [hi, want_of hw hf hh, if_true]
  refine .inl ?_
  obtain ⟨v, w', hr, h1, h2⟩ := hrun a w hI hsz (agree_eval hh)
  unfold Oper.wp
  rw [hr]
  exact ⟨v, rfl, h1, fun _ => h2, fun hc => absurd him hc⟩
theorem RXl.nil (h : ∀ a w, I effs.length (slotsOf a) w → a.defers = a0.defers → a.tmps.size = a0.tmps.size → (∀ t, t < a0.tmps.size → (σ t).holds (a.tmps.getD t undef) w) → Q .normal a w) : RXl P ops Q a0 I effs (EndX Q a0 I effs) [] i σ := h
/-- An operation without a slot that turns memory (a store): the k-th of its kind. -/
theorem RXl.effj {J : Nat → World → Prop} (k : Nat) (hi : ops[i]? = some o) (hn : notSel o = true) (hk : known ops a0.tmps.size σ o = true) (hw : wantS ops σ o = true) (hke : effs[k]? = some i) (hd : o.dst = none)
    (hrun : ∀ w, J k w → ∃ w', (execOp (rho σ) o).run P w = .ok .skip w' ∧ J (k + 1) w')
    (h : RXl P ops Q a0 (fun j _ w => J j w) effs E rest (i + 1) σ) : RXl P ops Q a0 (fun j _ w => J j w) effs E (o :: rest) i σ := by
  have e : upd σ o.dst (.so fun _ _ => True) = σ := by funext t; simp [upd, hd]
  refine ⟨.so fun _ _ => True, Free.so _, fun a w j hal hI _ hsz hh => ?_, by rw [e]; exact h⟩
  obtain rfl := hal.2.2 k hke
  have him : i ∈ effs := List.mem_of_getElem? hke
  unfold wpOp
  simp only [hi, want_of hw (inFrame_of_known hk) hh, if_true]
  refine .inl ?_
  obtain ⟨w', hr, h2⟩ := hrun w hI
  unfold Oper.wp
  rw [eval_rho hk hh (notSel_spec hn), hr]
  exact ⟨undef, rfl, trivial, fun _ => h2, fun hc => absurd him hc⟩
/-- An operation that turns memory and gives a known value. -/
theorem RXl.effk {J : Nat → World → Prop} (k : Nat) (v : Value) (hi : ops[i]? = some o) (hn : notSel o = true) (hk : known ops a0.tmps.size σ o = true) (hw : wantS ops σ o = true) (hke : effs[k]? = some i)
    (hrun : ∀ w, J k w → ∃ w', (execOp (rho σ) o).run P w = .ok (.value v) w' ∧ J (k + 1) w')
    (h : RXl P ops Q a0 (fun j _ w => J j w) effs E rest (i + 1) (upd σ o.dst (.ex v))) : RXl P ops Q a0 (fun j _ w => J j w) effs E (o :: rest) i σ := by
  refine ⟨.ex v, Free.ex v, fun a w j hal hI _ hsz hh => ?_, h⟩
  obtain rfl := hal.2.2 k hke
  have him : i ∈ effs := List.mem_of_getElem? hke
  unfold wpOp
  simp only [hi, want_of hw (inFrame_of_known hk) hh, if_true]
  refine .inl ?_
  obtain ⟨w', hr, h2⟩ := hrun w hI
  unfold Oper.wp
  rw [eval_rho hk hh (notSel_spec hn), hr]
  exact ⟨v, rfl, rfl, fun _ => h2, fun hc => absurd him hc⟩
/-- An operation without a slot that turns memory, where I speaks of slots too. -/
theorem RXl.effI (k : Nat) (hi : ops[i]? = some o) (hf : inFrame ops a0.tmps.size o = true) (hw : wantS ops σ o = true) (hke : effs[k]? = some i) (hd : o.dst = none)
    (hrun : ∀ a w, I k (slotsOf a) w → a.tmps.size = a0.tmps.size → Agree ops a0.tmps.size σ o a.eval w → ∃ w', (execOp a.eval o).run P w = .ok .skip w' ∧ I (k + 1) (slotsOf a) w')
    (h : RXl P ops Q a0 I effs E rest (i + 1) σ) : RXl P ops Q a0 I effs E (o :: rest) i σ := by
  have e : upd σ o.dst (.so fun _ _ => True) = σ := by funext t; simp [upd, hd]
  refine ⟨.so fun _ _ => True, Free.so _, fun a w j hal hI _ hsz hh => ?_, by rw [e]; exact h⟩
  obtain rfl := hal.2.2 k hke
  have him : i ∈ effs := List.mem_of_getElem? hke
  unfold wpOp
  simp only [hi, want_of hw hf hh, if_true]
  refine .inl ?_
  obtain ⟨w', hr, h2⟩ := hrun a w hI hsz (agree_eval hh)
  unfold Oper.wp
  rw [hr]
  exact ⟨undef, rfl, trivial, fun _ => by rw [hd]; exact h2, fun hc => absurd him hc⟩
theorem exec_copy {ρ : Operand → Value} {w w' : World} {x y : Operand} {ats : Array TypeId} {v : Value} (hop : o.op = .call { callee := .builtin .copy, args := #[x, y], argTypes := ats }) (h : (Builtin.copy_ ats o.type #[ρ x, ρ y]).run P w = .ok v w') :
    (execOp ρ o).run P w = .ok (.value v) w' := by
  simp [execOp, hop, resolve, invoke, builtin, h, Result.andThen]
theorem exec_store {ρ : Operand → Value} {w : World} {t : TypeId} {x y : Operand} {ad : Addr} {u v : Value} (hop : o.op = .store t x y) (hx : ρ x = .pointer (some ad)) (hy : ρ y = v) (h1 : v.oneCell' = true) (hs : (P.info? t).map (·.size) = some 1)
    (hc : w.cell? ad = some u) (hf : w.frozen? ad = false) : (execOp ρ o).run P w = .ok .skip (w.setCell ad v) := by
  have hv : v.cells = #[v] := by cases v <;> first | rfl | cases h1
  have h0 : ad.add 0 = ad := by obtain ⟨b, i, sp⟩ := ad; cases sp <;> simp [Addr.add]
  cases hq : P.info? t with
  | none => simp [hq] at hs
  | some i =>
    have hsz : i.size = 1 := by simpa [hq] using hs
    simp [execOp, hop, hx, hy, Instr.storeAt, Instr.sureAddr, storeVar, sizeOf, typeInfo, hq, hv, hsz, storeCells, run_store P w ad v _ h1, hc, hf, h0]
/-! ### the frame behind the region, written out -/
/-- The specs tell the frame. -/
def Agr (a0 : Act) (σ : Sig) (A : Act) : Prop := A.defers = a0.defers ∧ A.tmps.size = a0.tmps.size ∧ ∀ t, t < a0.tmps.size → σ t = .ex (A.tmps.getD t undef)
theorem Agr.base (a0 : Act) : Agr a0 (fun t => .ex (a0.tmps.getD t undef)) a0 := ⟨rfl, rfl, fun _ _ => rfl⟩
theorem Agr.upd {a0 A : Act} {σ : Sig} (d : Option Tmp) (v : Value) (h : Agr a0 σ A) : Agr a0 (upd σ d (.ex v)) (A.put d v) := by
  obtain ⟨h1, h2, h3⟩ := h
  refine ⟨by rw [← h1]; cases d <;> rfl, by rw [← h2]; cases d <;> simp [Act.put], fun t ht => ?_⟩
  by_cases hd : d = some t
  · subst hd
    have ht' : t < A.tmps.size := by rw [h2]; exact ht
    simp [Reg.upd, Act.put, ht']
  · rw [show (A.put d v).tmps.getD t undef = A.tmps.getD t undef from slotsOf_put A d v t hd]
    simp [Reg.upd, hd, h3 t ht]
theorem Agr.none {a0 A : Act} {σ : Sig} (s : Spec) (h : Agr a0 σ A) : Agr a0 (Reg.upd σ none s) A := ⟨h.1, h.2.1, fun t ht => by simpa [Reg.upd] using h.2.2 t ht⟩
theorem RXl.nilx (A : Act) (hA : Agr a0 σ A) (h : ∀ w, (∃ τ, I effs.length τ w) → Q .normal A w) : RXl P ops Q a0 I effs (EndX Q a0 I effs) [] i σ := by
  refine RXl.nil fun a w hI hd hs hh => ?_
  have e : a = A := by
    obtain ⟨tm, df⟩ := a
    obtain ⟨tA, dA⟩ := A
    have e1 : df = dA := hd.trans hA.1.symm
    have e2 : tm = tA := by
      apply Array.ext (hs.trans hA.2.1.symm)
      intro t h1 h2
      have ht : t < a0.tmps.size := by rw [← hs]; exact h1
      have q := hh t ht
      rw [hA.2.2 t ht] at q
      have q2 : tm.getD t undef = tA.getD t undef := q
      simpa [Array.getD, h1, h2] using q2
    rw [e1, e2]
  subst e
  exact h w ⟨_, hI⟩
/-- The same for regions that only add memory. -/
theorem RSl.nilx {w0 : World} (A : Act) (hA : Agr a0 σ A) (h : ∀ w, Add w0 w → Q .normal A w) : RSl P ops Q a0 w0 (EndOk Q a0 w0) [] i σ := by
  refine RSl.nil fun a w ha hd hs hh => ?_
  have e : a = A := by
    obtain ⟨tm, df⟩ := a
    obtain ⟨tA, dA⟩ := A
    have e1 : df = dA := hd.trans hA.1.symm
    have e2 : tm = tA := by
      apply Array.ext (hs.trans hA.2.1.symm)
      intro t h1 h2
      have ht : t < a0.tmps.size := by rw [← hs]; exact h1
      have q := hh t ht
      rw [hA.2.2 t ht] at q
      have q2 : tm.getD t undef = tA.getD t undef := q
      simpa [Array.getD, h1, h2] using q2
    rw [e1, e2]
  subst e
  exact h w ha
end
end Go.Proofs.Ytjnfhppjkadlpaa.Reg

namespace Go.Proofs.Ytjnfhppjkadlpaa.Sp
open Go Go.RowKit
/-- A row of one-cell elements: its cells, and one of them set. -/
theorem St.row1 {B : Nat} {w0 w : World} {R : HP} {e : TypeId} {g n m c : Nat} {xs : List Value} (s : St B w0 w (row e 1 (.slice (some ⟨g, 0, none⟩) n c) m xs * R)) :
    n = m ∧ xs.length = m ∧ m ≤ c ∧ c ≤ maxLen ∧ (∀ j, j < m → w.cell? ⟨g, j, none⟩ = xs[j]?) ∧ (∀ j, w.frozen? ⟨g, j, none⟩ = false) ∧
      ∀ (j : Nat) (x : Value), j < m → St B w0 (w.setCell ⟨g, j, none⟩ x) (row e 1 (.slice (some ⟨g, 0, none⟩) n c) m (xs.set j x) * R) := by
  obtain ⟨hl, h⟩ := s.rowOpen
  rcases h with ⟨e1, _, _⟩ | ⟨g', cap, cur, hv, h1, h2, h3, h4, t⟩
  · cases e1
  · obtain ⟨e2, e3, e4⟩ : some (⟨g, 0, none⟩ : Addr) = some ⟨g', 0, none⟩ ∧ n = m ∧ c = cap := by simpa using hv
    cases e2
    subst e3
    subst e4
    rw [Nat.mul_one] at hl h3 h4
    refine ⟨rfl, hl, h1, h2, fun j hj => ?_, fun j => t.free j, fun j x hj => ?_⟩
    · rw [t.cell, ← h4, List.getElem?_take, if_pos hj]
      simp
    · refine (t.set j x).rowMk h1 h2 (by simpa using h3) ?_
      rw [Nat.mul_one, Array.toList_setIfInBounds, List.take_set, h4]
/-- Its value, where it is not empty or not nil. -/
theorem BS.cellAt {w : World} {b off n c : Nat} {bs : List UInt8} (h : BS w (.slice (some ⟨b, off, none⟩) n c) bs) (j : Nat) (hj : j < bs.length) : w.cell? ⟨b, off + j, none⟩ = some (bv bs[j]) := by
  obtain ⟨-, -, -, -, hr⟩ := h.rd
  obtain ⟨b', off', e, hc⟩ := hr.at (by intro h0; have := congrArg List.length h0; rw [List.length_map, List.length_nil] at this; omega)
  cases e
  exact hc j _ (bvs_get hj)
/-- The head of bytes that are not none. -/
theorem BS.head {w : World} {a : Option Addr} {n c : Nat} {bs : List UInt8} (h : BS w (.slice a n c) bs) (h0 : 0 < bs.length) : ∃ b off, a = some ⟨b, off, none⟩ := by
  obtain ⟨-, -, -, -, hr⟩ := h.rd
  obtain ⟨b', off', e, hc⟩ := hr.at (by intro h1; have := congrArg List.length h1; rw [List.length_map, List.length_nil] at this; omega)
  exact ⟨b', off', e⟩
end Go.Proofs.Ytjnfhppjkadlpaa.Sp

namespace Go.Proofs.Ytjnfhppjkadlpaa.Rd
open Go Go.RowKit Go.Proofs.Ytjnfhppjkadlpaa Go.Proofs.Ytjnfhppjkadlpaa.Sp Go.Proofs.Ytjnfhppjkadlpaa.SlW
/-- Bytes that can be read wherever these are owned. -/
def Reads (B : Nat) (w0 : World) (R : HP) (v : Value) (bs : List UInt8) : Prop := ∀ w H, St B w0 w (H * R) → BS w v bs
theorem reads_arg {w0 : World} {v : Value} {bs : List UInt8} (R : HP) (h : BS w0 v bs) : Reads w0.heap.size w0 R v bs := fun _ _ s => h.st rfl s
theorem reads_left {B : Nat} {w0 : World} {R : HP} {v : Value} {bs : List UInt8} (X : HP) (h : Reads B w0 R v bs) : Reads B w0 (X * R) v bs := fun _ H s => h _ (H * X) (s.eq (sep_assoc _ _ _).symm)
theorem reads_right {B : Nat} {w0 : World} {R : HP} {v : Value} {bs : List UInt8} (X : HP) (h : Reads B w0 R v bs) : Reads B w0 (R * X) v bs := fun _ H s => h _ (H * X) (s.eq (by ac_rfl))
theorem reads_row {B : Nat} {w0 : World} {e : TypeId} {v : Value} {n : Nat} {bs : List UInt8} : Reads B w0 (row e 1 v n (bvs bs)) v bs := fun _ _ s => (s.eq (sep_comm _ _)).bs
theorem reads_lit {B : Nat} {w0 : World} {t : TypeId} {f : Nat × Nat} {g n : Nat} {C : Array Value} {bs : List UInt8} (hC : C = (bvs bs).toArray) (hn : n = bs.length) (h : bs.length ≤ maxLen) :
    Reads B w0 (pts g (.cells C t f)) (.slice (some ⟨g, 0, none⟩) n n) bs := fun _ _ s => by
  subst hn
  subst hC
  refine ⟨_, _, rfl, Nat.le_refl _, h, (fun e => by cases e), ?_⟩
  have q := (s.eq (sep_comm _ _)).rd 0 bs.length
  have e : (((bvs bs).toArray.toList.drop 0).take bs.length) = bvs bs := by simp [List.take_of_length_le]
  rw [e] at q
  exact q
/-- New bytes and a number are handed back. -/
def RetRow (B : Nat) (w0 : World) (H : HP) (bs : List UInt8) (n : Int) (e : Ending) (w' : World) : Prop :=
  ∃ a c, e = .returned (.tuple #[.slice a bs.length c, .int .i64 n]) ∧ St B w0 w' (row 5 1 (.slice a bs.length c) bs.length (bvs bs) * H)
end Go.Proofs.Ytjnfhppjkadlpaa.Rd

namespace Go.Proofs.Ytjnfhppjkadlpaa.Reg
open Go Go.RowKit Go.Proofs.Ytjnfhppjkadlpaa.Sp
section
variable {P : Program} {ops : Array Oper} {Q : Exit → Act → World → Prop} {a0 : Act} {effs : List Nat} {E : Sig → Prop} {σ : Sig} {o : Oper} {rest : List Oper} {i : Nat}
def updv (vs : Nat → Value) (k : Nat) (v : Value) : Nat → Value := fun j => if j = k then v else vs j
/-- Of what stands in the effects' slots. -/
def IJ (ds : List Nat) (J : Nat → (Nat → Value) → World → Prop) (j : Nat) (τ : Nat → Value) (w : World) : Prop := ∃ vs, (∀ k d, k < j → ds[k]? = some d → vs k = τ d) ∧ J j vs w
theorem wp_region_rv {id : Nat} {l : List Oper} {a : Act} {w : World} (ds : List Nat) (J : Nat → (Nat → Value) → World → Prop) (effs : List Nat) (hm : P.follows .mixedOrders = true) (hok : regOk l.toArray = true) (hef : effsOk l.toArray effs = true)
    (hds : (effs.map fun e => (l.toArray[e]?).bind (·.dst)).take ds.length = ds.map some) (h0 : ∀ vs, J 0 vs w.drew)
    (h : RXl P l.toArray Q a (IJ ds J) effs (EndX Q a (IJ ds J) effs) l 0 (fun t => .ex (a.tmps.getD t undef))) : (Code.region id l.toArray true).wp P Q a w := by
  refine wp_region_rxi (IJ ds J) effs hm hok hef ?_ ⟨fun _ => undef, fun k d hk => absurd hk (Nat.not_lt_zero _), h0 _⟩ h
  rintro j τ τ' w' hag ⟨vs, hvs, hJ⟩
  refine ⟨vs, fun k d hk hd => (hvs k d hk hd).trans ?_, hJ⟩
  have hkd : k < ds.length := (List.getElem?_eq_some_iff.1 hd).1
  have hlen : ds.length ≤ effs.length := by have := congrArg List.length hds; simp at this; omega
  have hk' : k < effs.length := by omega
  have q := congrArg (·[k]?) hds
  simp only [List.getElem?_take, hkd, if_true, List.getElem?_map, hd, List.getElem?_eq_getElem hk', Option.map_some, Option.some.injEq] at q
  exact hag k effs[k] hk (List.getElem?_eq_getElem hk') d q
variable {ds : List Nat} {J : Nat → (Nat → Value) → World → Prop}
theorem IJ.step {k d : Nat} {a : Act} {vs : Nat → Value} {w' : World} {v : Value} (hkd : ds[k]? = some d) (hin : (ds.take k).contains d = false) (hlt : d < a.tmps.size)
    (hvs : ∀ k' d', k' < k → ds[k']? = some d' → vs k' = slotsOf a d') (hJ : J (k + 1) (updv vs k v) w') : IJ ds J (k + 1) (slotsOf (a.put (some d) v)) w' := by
  refine ⟨updv vs k v, fun k' d' hk' hd' => ?_, hJ⟩
  by_cases e : k' = k
  · subst e
    rw [hkd] at hd'
    obtain rfl := Option.some.inj hd'
    simp [updv, Act.put, hlt]
  · have hne : d ≠ d' := by
      rintro rfl
      have : d ∈ ds.take k := by
        refine List.mem_of_getElem? (i := k') ?_
        rw [List.getElem?_take, if_pos (by omega)]
        exact hd'
      simp [this] at hin
    rw [slotsOf_put a (some d) v d' (fun q => hne (Option.some.inj q))]
    simp only [updv, if_neg e]
    exact hvs k' d' (by omega) hd'
/-- What J says of the k-th value. -/
def JV (J : Nat → (Nat → Value) → World → Prop) (k : Nat) (v : Value) : Prop := ∃ vs w, J (k + 1) vs w ∧ vs k = v
/-- An operation that turns memory and gives a value that is told by J. -/
theorem RXl.effV (k d : Nat) (hd : o.dst = some d) (hkd : ds[k]? = some d) (hin : (ds.take k).contains d = false) (hlt : d < a0.tmps.size) (hi : ops[i]? = some o) (hf : inFrame ops a0.tmps.size o = true) (hw : wantS ops σ o = true) (hke : effs[k]? = some i)
    (hrun : ∀ ρ vs w, (∀ k' d', k' < k → ds[k']? = some d' → ρ (.tmp d') = vs k') → J k vs w → Agree ops a0.tmps.size σ o ρ w → ∃ v w', (execOp ρ o).run P w = .ok (.value v) w' ∧ J (k + 1) (updv vs k v) w')
    (h : RXl P ops Q a0 (IJ ds J) effs E rest (i + 1) (upd σ o.dst (.so fun v _ => JV J k v))) : RXl P ops Q a0 (IJ ds J) effs E (o :: rest) i σ := by
  refine RXl.effv k (.so fun v _ => JV J k v) (Free.so _) hi hf hw hke (fun a w hI hsz hag => ?_) h
  obtain ⟨vs, hvs, hJ⟩ := hI
  obtain ⟨v, w', hr, hJ'⟩ := hrun a.eval vs w (fun k' d' hk' hd' => (hvs k' d' hk' hd').symm) hJ hag
  exact ⟨v, w', hr, ⟨_, w', hJ', by simp [updv]⟩, by rw [hd]; exact IJ.step hkd hin (by rw [hsz]; exact hlt) hvs hJ'⟩
/-- A call that turns memory and gives such a value; its arguments may be such, too. -/
theorem RXl.callV (k d : Nat) (hd : o.dst = some d) (hkd : ds[k]? = some d) (hin : (ds.take k).contains d = false) (hlt : d < a0.tmps.size) (f : FuncId) (xs : List Operand) (ats : Array TypeId) (hop : o.op = .call { callee := .value (.func f), args := xs.toArray, argTypes := ats })
    (hi : ops[i]? = some o) (hf : inFrame ops a0.tmps.size o = true) (hw : wantS ops σ o = true) (hke : effs[k]? = some i)
    (hc : ∀ ρ vs w, (∀ k' d', k' < k → ds[k']? = some d' → ρ (.tmp d') = vs k') → J k vs w → Agree ops a0.tmps.size σ o ρ w → ∃ args, xs.map ρ = args ∧ (callFunc f args.toArray).run P w = .ok (.enter f args.toArray) w ∧
      Calls P f args.toArray w fun e w' => ∃ v, e = .returned v ∧ J (k + 1) (updv vs k v) w')
    (h : RXl P ops Q a0 (IJ ds J) effs E rest (i + 1) (upd σ o.dst (.so fun v _ => JV J k v))) : RXl P ops Q a0 (IJ ds J) effs E (o :: rest) i σ := by
  refine ⟨.so fun v _ => JV J k v, Free.so _, fun a w j hal hI _ hsz hh => ?_, h⟩
  obtain rfl := hal.2.2 k hke
  have him : i ∈ effs := List.mem_of_getElem? hke
  unfold wpOp
  simp only [hi, want_of hw hf hh, if_true]
  refine .inl ?_
  obtain ⟨vs, hvs, hJ⟩ := hI
  obtain ⟨args, ha, hr, hcl⟩ := hc a.eval vs w (fun k' d' hk' hd' => (hvs k' d' hk' hd').symm) hJ (agree_eval hh)
  unfold Oper.wp
  rw [execOp_go (fun _ => rfl) f xs ats hop args ha, hr]
  refine Calls.mono hcl fun e w' he => ?_
  obtain ⟨v, rfl, h1⟩ := he
  exact ⟨v, rfl, ⟨_, w', h1, by simp [updv]⟩, fun _ => by rw [hd]; exact IJ.step hkd hin (by rw [hsz]; exact hlt) hvs h1, fun hc => absurd him hc⟩
/-- A store, J told. -/
theorem RXl.effS (k : Nat) (hi : ops[i]? = some o) (hf : inFrame ops a0.tmps.size o = true) (hw : wantS ops σ o = true) (hke : effs[k]? = some i) (hd : o.dst = none) (hkd : ds[k]? = none)
    (hrun : ∀ ρ vs w, (∀ k' d', k' < k → ds[k']? = some d' → ρ (.tmp d') = vs k') → J k vs w → Agree ops a0.tmps.size σ o ρ w → ∃ w', (execOp ρ o).run P w = .ok .skip w' ∧ J (k + 1) vs w')
    (h : RXl P ops Q a0 (IJ ds J) effs E rest (i + 1) σ) : RXl P ops Q a0 (IJ ds J) effs E (o :: rest) i σ := by
  refine RXl.effI k hi hf hw hke hd (fun a w hI hsz hag => ?_) h
  obtain ⟨vs, hvs, hJ⟩ := hI
  obtain ⟨w', hr, hJ'⟩ := hrun a.eval vs w (fun k' d' hk' hd' => (hvs k' d' hk' hd').symm) hJ hag
  refine ⟨w', hr, vs, fun k' d' hk' hd' => ?_, hJ'⟩
  rcases Nat.lt_or_ge k' k with h | h
  · exact hvs k' d' h hd'
  · obtain rfl : k' = k := by omega
    rw [hkd] at hd'
    cases hd'

/-! ### the frame behind it -/
def puts : Act → List Nat → (Nat → Value) → Act
  | A, [], _ => A
  | A, d :: ds, vs => puts (A.put (some d) (vs 0)) ds fun k => vs (k + 1)
theorem puts_size : ∀ (ds : List Nat) (A : Act) (vs : Nat → Value), (puts A ds vs).tmps.size = A.tmps.size ∧ (puts A ds vs).defers = A.defers
  | [], _, _ => ⟨rfl, rfl⟩
  | d :: ds, A, vs => by
    have := puts_size ds (A.put (some d) (vs 0)) fun k => vs (k + 1)
    exact ⟨this.1.trans (by simp [Act.put]), this.2⟩
theorem puts_not : ∀ (ds : List Nat) (A : Act) (vs : Nat → Value) (t : Nat), t ∉ ds → (puts A ds vs).tmps.getD t undef = A.tmps.getD t undef
  | [], _, _, _, _ => rfl
  | d :: ds, A, vs, t, h => by
    rw [List.mem_cons, not_or] at h
    refine (puts_not ds _ _ t h.2).trans ?_
    exact slotsOf_put A (some d) (vs 0) t (fun q => h.1 (Option.some.inj q).symm)
theorem puts_at : ∀ (ds : List Nat) (A : Act) (vs : Nat → Value) (k d : Nat), ds.Nodup → ds[k]? = some d → d < A.tmps.size → (puts A ds vs).tmps.getD d undef = vs k
  | [], _, _, k, d, _, h, _ => by simp at h
  | e :: ds, A, vs, 0, d, hn, h, hlt => by
    obtain rfl : e = d := by simpa using h
    refine (puts_not ds _ _ e (List.nodup_cons.1 hn).1).trans ?_
    simp [Act.put, hlt]
  | e :: ds, A, vs, k + 1, d, hn, h, hlt => by
    exact puts_at ds (A.put (some e) (vs 0)) (fun k => vs (k + 1)) k d (List.nodup_cons.1 hn).2 (by simpa using h) (by simpa [Act.put] using hlt)
/-- The specs tell the frame, but for these slots. -/
def AgrL (ds : List Nat) (a0 : Act) (σ : Sig) (A : Act) : Prop := A.defers = a0.defers ∧ A.tmps.size = a0.tmps.size ∧ ∀ t, t < a0.tmps.size → t ∉ ds → σ t = .ex (A.tmps.getD t undef)
theorem AgrL.base (a0 : Act) : AgrL ds a0 (fun t => .ex (a0.tmps.getD t undef)) a0 := ⟨rfl, rfl, fun _ _ _ => rfl⟩
theorem AgrL.upd {A : Act} (d : Option Tmp) (v : Value) (h : AgrL ds a0 σ A) : AgrL ds a0 (Reg.upd σ d (.ex v)) (A.put d v) := by
  obtain ⟨h1, h2, h3⟩ := h
  refine ⟨by rw [← h1]; cases d <;> rfl, by rw [← h2]; cases d <;> simp [Act.put], fun t ht hn => ?_⟩
  by_cases hd : d = some t
  · subst hd
    have ht' : t < A.tmps.size := by rw [h2]; exact ht
    simp [Reg.upd, Act.put, ht']
  · rw [show (A.put d v).tmps.getD t undef = A.tmps.getD t undef from slotsOf_put A d v t hd]
    simp [Reg.upd, hd, h3 t ht hn]
theorem AgrL.none {A : Act} (s : Spec) (h : AgrL ds a0 σ A) : AgrL ds a0 (Reg.upd σ none s) A := ⟨h.1, h.2.1, fun t ht hn => by simpa [Reg.upd] using h.2.2 t ht hn⟩
theorem AgrL.unk {A : Act} (d : Nat) (s : Spec) (hd : ds.contains d = true) (h : AgrL ds a0 σ A) : AgrL ds a0 (Reg.upd σ (some d) s) A := by
  refine ⟨h.1, h.2.1, fun t ht hn => ?_⟩
  have hne : (some d : Option Nat) ≠ some t := by
    intro e
    obtain rfl := Option.some.inj e
    exact hn (by simpa using hd)
  simpa [Reg.upd, hne] using h.2.2 t ht hn
theorem RXl.nilV (A : Act) (hA : AgrL ds a0 σ A) (hlen : ds.length ≤ effs.length) (hnd : ds.Nodup) (h : ∀ vs w, J effs.length vs w → Q .normal (puts A ds vs) w) : RXl P ops Q a0 (IJ ds J) effs (EndX Q a0 (IJ ds J) effs) [] i σ := by
  refine RXl.nil fun a w hI hdf hs hh => ?_
  obtain ⟨vs, hvs, hJ⟩ := hI
  obtain ⟨h1, h2, h3⟩ := hA
  have e : a = puts A ds vs := by
    obtain ⟨p1, p2⟩ := puts_size ds A vs
    have pn := puts_not ds A vs
    have pa := puts_at ds A vs
    generalize puts A ds vs = B at p1 p2 pn pa
    obtain ⟨tm, df⟩ := a
    obtain ⟨tB, dB⟩ := B
    have e1 : df = dB := hdf.trans (h1.symm.trans p2.symm)
    have e2 : tm = tB := by
      apply Array.ext (hs.trans (h2.symm.trans p1.symm))
      intro t g1 g2
      have ht : t < a0.tmps.size := by rw [← hs]; exact g1
      have q2 : tm.getD t undef = tB.getD t undef := by
        by_cases hm : t ∈ ds
        · obtain ⟨k, hk⟩ := List.getElem?_of_mem hm
          have hk1 : k < ds.length := (List.getElem?_eq_some_iff.1 hk).1
          rw [show tB.getD t undef = vs k from pa k t hnd hk (by rw [h2]; exact ht)]
          exact (hvs k t (by omega) hk).symm
        · have q := hh t ht
          rw [h3 t ht hm] at q
          exact (show tm.getD t undef = A.tmps.getD t undef from q).trans (pn t hm).symm
      simpa [Array.getD, g1, g2] using q2
    rw [e1, e2]
  rw [e]
  exact h vs w hJ
/-! ### the usual case: the values are told by one hidden thing (an address, a capacity ..) -/
def PJ (B : Nat) (w0 : World) {α : Type} (X : HP) (F : Nat → α → Value) (H : Nat → α → HP) (j : Nat) (vs : Nat → Value) (w : World) : Prop := match j with
  | 0 => St B w0 w X
  | j + 1 => ∃ a, (∀ k, k < j + 1 → vs k = F k a) ∧ St B w0 w (H j a)
variable {B : Nat} {w0 : World} {α : Type} {X : HP} {F : Nat → α → Value} {H : Nat → α → HP}
/-- The first: a call. -/
theorem PJ.first {f : FuncId} {xs : List Operand} (args : List Value) (ha : ∀ ρ w, Agree ops a0.tmps.size σ o ρ w → xs.map ρ = args) (hrun : ∀ w, (callFunc f args.toArray).run P w = .ok (.enter f args.toArray) w)
    (hc : ∀ w, St B w0 w X → Calls P f args.toArray w fun e w' => ∃ a, e = .returned (F 0 a) ∧ St B w0 w' (H 0 a)) :
    ∀ ρ vs w, (∀ k' d', k' < 0 → ds[k']? = some d' → ρ (.tmp d') = vs k') → PJ B w0 X F H 0 vs w → Agree ops a0.tmps.size σ o ρ w → ∃ args, xs.map ρ = args ∧ (callFunc f args.toArray).run P w = .ok (.enter f args.toArray) w ∧
      Calls P f args.toArray w fun e w' => ∃ v, e = .returned v ∧ PJ B w0 X F H (0 + 1) (updv vs 0 v) w' := by
  intro ρ vs w _ hJ hag
  refine ⟨args, ha ρ w hag, hrun w, (hc w hJ).mono ?_⟩
  rintro e w' ⟨a, rfl, s⟩
  refine ⟨F 0 a, rfl, a, fun k hk => ?_, s⟩
  obtain rfl : k = 0 := by have hk : k < 1 := hk; omega
  simp [updv]
/-- The first: an operation that is no call. -/
theorem PJ.firstOp (h : ∀ ρ w, Agree ops a0.tmps.size σ o ρ w → St B w0 w X → ∃ a w', (execOp ρ o).run P w = .ok (.value (F 0 a)) w' ∧ St B w0 w' (H 0 a)) :
    ∀ ρ vs w, (∀ k' d', k' < 0 → ds[k']? = some d' → ρ (.tmp d') = vs k') → PJ B w0 X F H 0 vs w → Agree ops a0.tmps.size σ o ρ w → ∃ v w', (execOp ρ o).run P w = .ok (.value v) w' ∧ PJ B w0 X F H (0 + 1) (updv vs 0 v) w' := by
  intro ρ vs w _ hJ hag
  obtain ⟨a, w', h1, h2⟩ := h ρ w hag hJ
  refine ⟨F 0 a, w', h1, a, fun k hk => ?_, h2⟩
  obtain rfl : k = 0 := by have hk : k < 1 := hk; omega
  simp [updv]
/-- A later one, no call. -/
theorem PJ.eff {k : Nat} (h : ∀ ρ a w, (∀ k' d', k' < k + 1 → ds[k']? = some d' → ρ (.tmp d') = F k' a) → Agree ops a0.tmps.size σ o ρ w → St B w0 w (H k a) →
      ∃ a' w', (execOp ρ o).run P w = .ok (.value (F (k + 1) a')) w' ∧ (∀ k', k' < k + 1 → F k' a' = F k' a) ∧ St B w0 w' (H (k + 1) a')) :
    ∀ ρ vs w, (∀ k' d', k' < k + 1 → ds[k']? = some d' → ρ (.tmp d') = vs k') → PJ B w0 X F H (k + 1) vs w → Agree ops a0.tmps.size σ o ρ w → ∃ v w', (execOp ρ o).run P w = .ok (.value v) w' ∧ PJ B w0 X F H (k + 1 + 1) (updv vs (k + 1) v) w' := by
  rintro ρ vs w hv ⟨a, hvs, s⟩ hag
  obtain ⟨a', w', h1, h2, h3⟩ := h ρ a w (fun k' d' hk hd => (hv k' d' hk hd).trans (hvs k' hk)) hag s
  refine ⟨_, w', h1, a', fun k' hk' => ?_, h3⟩
  by_cases e : k' = k + 1
  · subst e; simp [updv]
  · simp only [updv, if_neg e]
    rw [hvs k' (by omega), h2 k' (by omega)]
/-- A later one that only reads. -/
theorem PJ.pass {k : Nat} (hH : H (k + 1) = H k) (h : ∀ ρ a w, (∀ k' d', k' < k + 1 → ds[k']? = some d' → ρ (.tmp d') = F k' a) → Agree ops a0.tmps.size σ o ρ w → St B w0 w (H k a) → (execOp ρ o).run P w = .ok (.value (F (k + 1) a)) w) :
    ∀ ρ vs w, (∀ k' d', k' < k + 1 → ds[k']? = some d' → ρ (.tmp d') = vs k') → PJ B w0 X F H (k + 1) vs w → Agree ops a0.tmps.size σ o ρ w → ∃ v w', (execOp ρ o).run P w = .ok (.value v) w' ∧ PJ B w0 X F H (k + 1 + 1) (updv vs (k + 1) v) w' :=
  PJ.eff fun ρ a w h1 h2 h3 => ⟨a, w, h ρ a w h1 h2 h3, fun _ _ => rfl, by rw [hH]; exact h3⟩
/-- A later call. -/
theorem PJ.call {k : Nat} {f : FuncId} {xs : List Operand} (args : α → List Value) (ha : ∀ ρ a w, (∀ k' d', k' < k + 1 → ds[k']? = some d' → ρ (.tmp d') = F k' a) → Agree ops a0.tmps.size σ o ρ w → xs.map ρ = args a) (hrun : ∀ a w, (callFunc f (args a).toArray).run P w = .ok (.enter f (args a).toArray) w)
    (hc : ∀ a w, St B w0 w (H k a) → Calls P f (args a).toArray w fun e w' => ∃ a', e = .returned (F (k + 1) a') ∧ (∀ k', k' < k + 1 → F k' a' = F k' a) ∧ St B w0 w' (H (k + 1) a')) :
    ∀ ρ vs w, (∀ k' d', k' < k + 1 → ds[k']? = some d' → ρ (.tmp d') = vs k') → PJ B w0 X F H (k + 1) vs w → Agree ops a0.tmps.size σ o ρ w → ∃ args, xs.map ρ = args ∧ (callFunc f args.toArray).run P w = .ok (.enter f args.toArray) w ∧
      Calls P f args.toArray w fun e w' => ∃ v, e = .returned v ∧ PJ B w0 X F H (k + 1 + 1) (updv vs (k + 1) v) w' := by
  rintro ρ vs w hv ⟨a, hvs, s⟩ hag
  refine ⟨args a, ha ρ a w (fun k' d' hk hd => (hv k' d' hk hd).trans (hvs k' hk)) hag, hrun a w, (hc a w s).mono ?_⟩
  rintro e w' ⟨a', rfl, h2, h3⟩
  refine ⟨_, rfl, a', fun k' hk' => ?_, h3⟩
  by_cases e : k' = k + 1
  · subst e; simp [updv]
  · simp only [updv, if_neg e]
    rw [hvs k' (by omega), h2 k' (by omega)]
theorem PJ.val {k : Nat} {v : Value} (h : JV (PJ B w0 X F H) k v) : ∃ a, v = F k a := by
  obtain ⟨vs, w, ⟨a, hv, _⟩, rfl⟩ := h
  exact ⟨a, hv k (Nat.lt_succ_self k)⟩
theorem PJ.keep {j : Nat} {vs : Nat → Value} {w w' : World} (h : PJ B w0 X F H j vs w) (hb : Below w.heap.size w w') : PJ B w0 X F H j vs w' := by
  match j, h with
  | 0, h => exact St.keep h hb
  | j + 1, ⟨a, h1, h2⟩ => exact ⟨a, h1, h2.keep hb⟩
theorem PJ.callK {j : Nat} {vs : Nat → Value} {w : World} {f : FuncId} {args : Array Value} {v : Value} (h : PJ B w0 X F H j vs w) (hc : Calls P f args w fun e w' => e = .returned v ∧ Below w.heap.size w w') : Calls P f args w fun e w' => e = .returned v ∧ PJ B w0 X F H j vs w' :=
  hc.mono fun _ _ ⟨h1, h2⟩ => ⟨h1, h.keep h2⟩
/-- An operation that only reads, behind the k-th effect. -/
theorem RXl.valueA {I : Nat → (Nat → Value) → World → Prop} (k e : Nat) (hke : effs[k]? = some e) (hb : ((Region.before ops).getD i 0).testBit e = true) (v : Value) (hi : ops[i]? = some o) (hf : inFrame ops a0.tmps.size o = true) (hw : wantS ops σ o = true) (hne : effs.contains i = false)
    (hrun : ∀ ρ w j, k < j → j ≤ effs.length → I j (fun t => ρ (.tmp t)) w → Agree ops a0.tmps.size σ o ρ w → (execOp ρ o).run P w = .ok (.value v) w)
    (h : RXl P ops Q a0 I effs E rest (i + 1) (upd σ o.dst (.ex v))) : RXl P ops Q a0 I effs E (o :: rest) i σ := by
  refine ⟨.ex v, Free.ex v, fun a w j ha hI _ _ hh => ?_, h⟩
  have hni : i ∉ effs := by simpa using hne
  unfold wpOp
  simp only [hi, want_of hw hf hh, if_true]
  refine .inl ?_
  have hr := hrun a.eval w j ((ha.2.1 k e hke).1 hb) ha.1 hI (agree_eval hh)
  unfold Oper.wp
  rw [hr]
  exact ⟨v, rfl, rfl, fun hc => absurd hc hni, fun _ => hI⟩
/-- The same, where the values are told by one hidden thing. -/
theorem PJ.after {k : Nat} {v : Value} (h : ∀ ρ a w j, k ≤ j → (∀ k' d', k' < j + 1 → ds[k']? = some d' → ρ (.tmp d') = F k' a) → Agree ops a0.tmps.size σ o ρ w → St B w0 w (H j a) → (execOp ρ o).run P w = .ok (.value v) w) :
    ∀ ρ w j, k < j → j ≤ effs.length → IJ ds (PJ B w0 X F H) j (fun t => ρ (.tmp t)) w → Agree ops a0.tmps.size σ o ρ w → (execOp ρ o).run P w = .ok (.value v) w := by
  rintro ρ w j hkj _ ⟨vs, hv, hJ⟩ hag
  match j, hkj, hv, hJ with
  | j + 1, hkj, hv, ⟨a, ha, s⟩ => exact h ρ a w j (by omega) (fun k' d' hk hd => (hv k' d' hk hd).symm.trans (ha k' hk)) hag s
/-- What holds at every time of the world alone. -/
theorem PJ.any {Y : HP → Prop} (hX : Y X) (hH : ∀ j a, Y (H j a)) {j : Nat} {vs : Nat → Value} {w : World} (h : PJ B w0 X F H j vs w) : ∃ Z, Y Z ∧ St B w0 w Z := by
  match j, h with
  | 0, h => exact ⟨X, hX, h⟩
  | j + 1, ⟨a, _, h⟩ => exact ⟨_, hH j a, h⟩
end
theorem exec_move {P : Program} {ρ : Operand → Value} {o : Oper} {w : World} {x : Operand} (hop : o.op = .move x) : (execOp ρ o).run P w = .ok (.value (ρ x)) w := by simp [execOp, hop]
theorem exec_assign {P : Program} {ρ : Operand → Value} {o : Oper} {w : World} {x : Operand} (hop : o.op = .assign x) : (execOp ρ o).run P w = .ok (.value (ρ x)) w := by simp [execOp, hop]
theorem exec_extract {P : Program} {ρ : Operand → Value} {o : Oper} {w : World} {x : Operand} {k : Nat} {vs : Array Value} {v : Value} (hop : o.op = .extract x k) (hx : ρ x = .tuple vs) (hv : vs[k]? = some v) : (execOp ρ o).run P w = .ok (.value v) w := by
  have hk : k < vs.size := (Array.getElem?_eq_some_iff.1 hv).1
  have e : vs[k] = v := (Array.getElem?_eq_some_iff.1 hv).2
  simp [execOp, hop, hx, go_sem, hk, e]
end Go.Proofs.Ytjnfhppjkadlpaa.Reg

set_option linter.unusedSimpArgs false
set_option linter.unusedVariables false
namespace Go.Proofs.Ytjnfhppjkadlpaa.Obr
open Go Go.RowKit Go.Proofs.Ytjnfhppjkadlpaa Go.Proofs.Ytjnfhppjkadlpaa.Sp Go.Proofs.Ytjnfhppjkadlpaa.Reg Go.Proofs.Ytjnfhppjkadlpaa.SlW Go.Proofs.Ytjnfhppjkadlpaa.Rd
theorem tBB : SlT Try.prog 38 32 1 24 (.slice none 0 0) := ⟨Try.underlying38, info_parts (by kernel_rfl), rfl, by decide⟩
/-- A slice that is no nil. -/
def Nn (v : Value) : Prop := ∃ g n c, v = .slice (some ⟨g, 0, none⟩) n c
/-- None is nil. -/
def NN (vs : List Value) : Prop := ∀ v ∈ vs, Nn v
theorem NN.nil : NN [] := fun _ h => by cases h
theorem NN.app {a b : List Value} (ha : NN a) (hb : NN b) : NN (a ++ b) := fun v h => (List.mem_append.1 h).elim (ha v) (hb v)
theorem NN.snoc {a : List Value} {v : Value} (ha : NN a) (hv : Nn v) : NN (a ++ [v]) := ha.app fun x h => by cases List.mem_singleton.1 h; exact hv
/-- Rows of bytes of one's own. -/
def ob (v : Value) (vs : List Value) (l : List (List UInt8)) : HP := row 32 1 v l.length vs * rows 5 vs l
section
variable {B : Nat} {w0 : World} {R : HP}
theorem ob_nil {w : World} (s : St B w0 w R) : St B w0 w (ob (.slice none 0 0) [] [] * R) := by
  unfold ob
  show St B w0 w (row 32 1 (.slice none 0 0) 0 [] * emp * R)
  rw [sep_emp]
  exact s.rowNil _ _
theorem ob_snoc {w : World} {v v' : Value} {vs : List Value} {l : List (List UInt8)} {r : List UInt8} (h : vs.length = l.length) (s : St B w0 w (row 32 1 v (l.length + 1) (vs ++ [v']) * (rows 5 vs l * (row 5 1 v' r.length (bvs r) * R)))) :
    St B w0 w (ob v (vs ++ [v']) (l ++ [r]) * R) := by
  unfold ob
  rw [rows_snoc _ _ _ _ _ h, List.length_append]
  exact s.eq (by show _ = row 32 1 v (l.length + 1) (vs ++ [v']) * _ * _; ac_rfl)
theorem ob_bss {w : World} {v : Value} {vs : List Value} {l : List (List UInt8)} (s : St B w0 w (ob v vs l * R)) : BSS w v l := by
  unfold ob at s
  exact (s.eq (sep_assoc _ _ _)).bss rfl
/-- Rows one behind the other. -/
theorem rows_app (e : TypeId) : ∀ (vs vs' : List Value) (l l' : List (List UInt8)), vs.length = l.length → rows e (vs ++ vs') (l ++ l') = rows e vs l * rows e vs' l'
  | [], vs', [], l', _ => (emp_sep _).symm
  | v :: vs, vs', b :: l, l', h => by
    show row e 1 v b.length (bvs b) * rows e (vs ++ vs') (l ++ l') = row e 1 v b.length (bvs b) * rows e vs l * rows e vs' l'
    rw [rows_app e vs vs' l l' (by simpa using h), sep_assoc]
  | [], _, _ :: _, _, h => by simp at h
  | _ :: _, _, [], _, h => by simp at h
/-- A new row of noughts that is no nil. -/
theorem make1_nn {w : World} {g n : Nat} (hn : n ≤ maxLen) (s : St B w0 w (pts g (.cells (Array.replicate n (Value.int .u8 0)) 5) * R)) :
    St B w0 w (row 5 1 (.slice (some ⟨g, 0, none⟩) n n) n (bvs (List.replicate n 0)) * R) := s.rowMk (Nat.le_refl _) hn (by simp) (by simp [bvs, bv])
/-! ### shards that may be missing -/
/-- A shard's header: nil, or bytes that can be read. -/
def SB (w : World) (v : Value) : Option (List UInt8) → Prop
  | none => v = .slice none 0 0
  | some b => BS w v b ∧ ∃ g off n c, v = .slice (some ⟨g, off, none⟩) n c
/-- Shards that can be read. -/
def SHS (w : World) (v : Value) (l : List (Option (List UInt8))) : Prop :=
  ∃ a c vs, v = .slice a l.length c ∧ Rd w a vs ∧ vs.length = l.length ∧ l.length ≤ c ∧ c ≤ maxLen ∧ (a = none → c = 0) ∧ ∀ i (hi : i < l.length), ∃ v, vs[i]? = some v ∧ SB w v l[i]
theorem SB.bs {w : World} {v : Value} {o : Option (List UInt8)} (h : SB w v o) : BS w v (o.getD []) := by
  cases o with
  | none =>
    cases (show v = .slice none 0 0 from h)
    exact ⟨none, 0, rfl, Nat.le_refl _, by unfold maxLen; omega, fun _ => rfl, .inl rfl⟩
  | some b => exact h.1
theorem SHS.bss {w : World} {v : Value} {l : List (Option (List UInt8))} (h : SHS w v l) : BSS w v (l.map (·.getD [])) := by
  obtain ⟨a, c, vs, rfl, hr, hl, h1, h2, h3, hb⟩ := h
  refine ⟨a, c, vs, by simp, hr, by simpa using hl.symm, by simpa using h1, h2, h3, fun i hi => ?_⟩
  obtain ⟨v, e1, e2⟩ := hb i (by simpa using hi)
  exact ⟨v, e1, by simpa using e2.bs⟩
theorem SHS.at {w : World} {a : Option Addr} {n c : Nat} {l : List (Option (List UInt8))} (h : SHS w (.slice a n c) l) (k : Nat) (hk : k < l.length) : ∃ b off v, a = some ⟨b, off, none⟩ ∧ w.cell? ⟨b, off + k, none⟩ = some v ∧ SB w v l[k] := by
  obtain ⟨a, c, vs, e, hr, hl, h1, h2, h3, hb⟩ := h
  cases e
  obtain ⟨v, e1, e2⟩ := hb k hk
  obtain ⟨b, off, rfl, hc⟩ := hr.at (by rintro rfl; simp at hl; omega)
  exact ⟨b, off, v, rfl, hc k v e1, e2⟩
/-- All of them are there. -/
theorem ob_shs {w : World} {v : Value} {vs : List Value} {l : List (List UInt8)} (hn : NN vs) (hl : vs.length = l.length) (s : St B w0 w (ob v vs l * R)) : SHS w v (l.map some) := by
  have s1 : St B w0 w (row 32 1 v l.length vs * (rows 5 vs l * R)) := s.eq (by unfold ob; ac_rfl)
  have s2 : St B w0 w (rows 5 vs l * (row 32 1 v l.length vs * R)) := s.eq (by unfold ob; ac_rfl)
  obtain ⟨a, c, rfl, h1, h2, h3, h4⟩ := s1.rowSlice
  refine ⟨a, c, vs, by simp, s1.rowRd, by simpa using hl, by simpa using h1, h2, h3, fun i hi => ?_⟩
  obtain ⟨u, e1, e2⟩ := s2.rowsBS _ _ hl i (by simpa using hi)
  refine ⟨u, e1, ?_⟩
  rw [List.getElem_map]
  obtain ⟨g, n, c, e⟩ := hn u (List.mem_of_getElem? e1)
  exact ⟨e2, g, 0, n, c, e⟩
set_option maxHeartbeats 400000 in
theorem equal_calls (v1 v2 : Value) (l1 l2 : List UInt8) (w : World) (h1 : BS w v1 l1) (h2 : BS w v2 l2) :
    Calls Try.prog 59 #[v1, v2] w fun e w' => e = .returned (.bool (decide (l1 = l2))) ∧ w = w' := by
  obtain ⟨a1, c1, rfl, -⟩ := id h1
  obtain ⟨a2, c2, rfl, -⟩ := id h2
  have q1 := run_str (P := Try.prog) Try.underlying32 Try.underlying5 Try.underlying9 h1
  have q2 := run_str (P := Try.prog) Try.underlying32 Try.underlying5 Try.underlying9 h2
  clear h1 h2
  by_cases he : l1 = l2
  · subst he
    go_enter Try.func59, Try.ntmps59
    go_wp2_with fail
    go_ret
    exact ⟨by simp, rfl⟩
  · have hd : decide (l1 = l2) = false := decide_eq_false he
    rw [hd]
    have hne : ¬ ((⟨l1.toArray⟩ : ByteArray) = ⟨l2.toArray⟩) := by
      intro e
      injection e with e
      exact he (by simpa using e)
    clear hd
    have HE := Lib.hid he
    clear he
    go_enter Try.func59, Try.ntmps59
    go_wp2_with fail
    go_ret
    exact ⟨by simp [HE.out], rfl⟩
end
end Go.Proofs.Ytjnfhppjkadlpaa.Obr

set_option linter.unusedSimpArgs false
set_option linter.unusedVariables false
namespace Go.Proofs.Ytjnfhppjkadlpaa.Obr
open Go Go.RowKit Go.Proofs.Ytjnfhppjkadlpaa Go.Proofs.Ytjnfhppjkadlpaa.Sp Go.Proofs.Ytjnfhppjkadlpaa.Reg Go.Proofs.Ytjnfhppjkadlpaa.SlW Go.Proofs.Ytjnfhppjkadlpaa.Rd
theorem Reads.of {B : Nat} {w0 : World} {R R' X : HP} {v : Value} {bs : List UInt8} (e : R' = X * R) (h : Reads B w0 R v bs) : Reads B w0 R' v bs := fun w H s => h w (H * X) (s.eq (by rw [e, sep_assoc]))
/-- Rows of bytes. -/
def BRd (B : Nat) (w0 : World) (R : HP) (v : Value) (d : List (List UInt8)) : Prop :=
  ∃ A c vs, v = .slice A d.length c ∧ vs.length = d.length ∧ d.length ≤ c ∧ c ≤ maxLen ∧ (A = none → c = 0) ∧ (∀ w H, St B w0 w (H * R) → Rd w A vs) ∧ ∀ i (h : i < d.length), ∃ u, vs[i]? = some u ∧ Reads B w0 R u d[i]
/-- A header: nil, or bytes. -/
def SR (B : Nat) (w0 : World) (R : HP) (u : Value) : Option (List UInt8) → Prop
  | none => u = .slice none 0 0
  | some b => (∃ g off n c, u = .slice (some ⟨g, off, none⟩) n c) ∧ Reads B w0 R u b
/-- Shards that may be missing. -/
def SRd (B : Nat) (w0 : World) (R : HP) (v : Value) (l : List (Option (List UInt8))) : Prop :=
  ∃ A c vs, v = .slice A l.length c ∧ vs.length = l.length ∧ l.length ≤ c ∧ c ≤ maxLen ∧ (A = none → c = 0) ∧ (∀ w H, St B w0 w (H * R) → Rd w A vs) ∧ ∀ i (h : i < l.length), ∃ u, vs[i]? = some u ∧ SR B w0 R u l[i]
section
variable {B : Nat} {w0 : World} {R R' X : HP} {v : Value}
theorem BRd.of {d : List (List UInt8)} (e : R' = X * R) (h : BRd B w0 R v d) : BRd B w0 R' v d := by
  obtain ⟨A, c, vs, h1, h2, h3, h4, h5, h6, h7⟩ := h
  refine ⟨A, c, vs, h1, h2, h3, h4, h5, fun w H s => h6 w (H * X) (s.eq (by rw [e, sep_assoc])), fun i hi => ?_⟩
  obtain ⟨u, e1, e2⟩ := h7 i hi
  exact ⟨u, e1, Reads.of e e2⟩
theorem SR.of {u : Value} {o : Option (List UInt8)} (e : R' = X * R) (h : SR B w0 R u o) : SR B w0 R' u o := by
  cases o with
  | none => exact h
  | some b => exact ⟨h.1, Reads.of e h.2⟩
theorem SRd.of {l : List (Option (List UInt8))} (e : R' = X * R) (h : SRd B w0 R v l) : SRd B w0 R' v l := by
  obtain ⟨A, c, vs, h1, h2, h3, h4, h5, h6, h7⟩ := h
  refine ⟨A, c, vs, h1, h2, h3, h4, h5, fun w H s => h6 w (H * X) (s.eq (by rw [e, sep_assoc])), fun i hi => ?_⟩
  obtain ⟨u, e1, e2⟩ := h7 i hi
  exact ⟨u, e1, SR.of e e2⟩
theorem bs_nil (w : World) : BS w (.slice none 0 0) [] := ⟨none, 0, rfl, Nat.le_refl _, by unfold maxLen; omega, fun _ => rfl, .inl rfl⟩
theorem SR.reads {u : Value} {o : Option (List UInt8)} (h : SR B w0 R u o) : Reads B w0 R u (o.getD []) := by
  cases o with
  | none => cases (show u = _ from h); exact fun w _ _ => bs_nil w
  | some b => exact h.2
theorem SRd.brd {l : List (Option (List UInt8))} (h : SRd B w0 R v l) : BRd B w0 R v (l.map (·.getD [])) := by
  obtain ⟨A, c, vs, h1, h2, h3, h4, h5, h6, h7⟩ := h
  refine ⟨A, c, vs, by simpa using h1, by simpa using h2, by simpa using h3, h4, h5, h6, fun i hi => ?_⟩
  obtain ⟨u, e1, e2⟩ := h7 i (by simpa using hi)
  exact ⟨u, e1, by simpa using e2.reads⟩
/-- Its beginning. -/
theorem SRd.take {A : Option Addr} {n c : Nat} {l : List (Option (List UInt8))} (h : SRd B w0 R (.slice A n c) l) (k : Nat) (hk : k ≤ l.length) : SRd B w0 R (.slice A k c) (l.take k) := by
  obtain ⟨A, c, vs, h1, h2, h3, h4, h5, h6, h7⟩ := h
  cases h1
  refine ⟨A, c, vs.take k, by simp [hk], by simp [h2], by simp; omega, h4, h5, fun w H s => ?_, fun i hi => ?_⟩
  · have := (h6 w H s).sub 0 k A (fun _ => by cases A <;> simp [Addr.add])
    simpa using this
  · have hi2 : i < k ∧ i < l.length := by rw [List.length_take] at hi; omega
    obtain ⟨u, e1, e2⟩ := h7 i hi2.2
    exact ⟨u, by rw [List.getElem?_take, if_pos hi2.1]; exact e1, by simpa using e2⟩
theorem BRd.bss {d : List (List UInt8)} (h : BRd B w0 R v d) {w : World} {H : HP} (s : St B w0 w (H * R)) : BSS w v d := by
  obtain ⟨A, c, vs, h1, h2, h3, h4, h5, h6, h7⟩ := h
  refine ⟨A, c, vs, h1, h6 w H s, h2.symm, h3, h4, h5, fun i hi => ?_⟩
  obtain ⟨u, e1, e2⟩ := h7 i hi
  exact ⟨u, e1, e2 w H s⟩
/-- All of them are there. -/
theorem BRd.srd {d : List (List UInt8)} {vs : List Value} {A : Option Addr} {c : Nat} (hn : ∀ i (h : i < d.length), ∃ u, vs[i]? = some u ∧ (∃ g off n c, u = .slice (some ⟨g, off, none⟩) n c) ∧ Reads B w0 R u d[i])
    (h2 : vs.length = d.length) (h3 : d.length ≤ c) (h4 : c ≤ maxLen) (h5 : A = none → c = 0) (h6 : ∀ w H, St B w0 w (H * R) → Rd w A vs) : SRd B w0 R (.slice A d.length c) (d.map some) := by
  refine ⟨A, c, vs, by simp, by simpa using h2, by simpa using h3, h4, h5, h6, fun i hi => ?_⟩
  obtain ⟨u, e1, e2, e3⟩ := hn i (by simpa using hi)
  refine ⟨u, e1, ?_⟩
  rw [List.getElem_map]
  exact ⟨e2, e3⟩
theorem ob_row {w : World} {vs : List Value} {l : List (List UInt8)} (s : St B w0 w (ob v vs l * R)) : St B w0 w (row 32 1 v l.length vs * (rows 5 vs l * R)) := s.eq (by unfold ob; ac_rfl)
theorem ob_rows {w : World} {vs : List Value} {l : List (List UInt8)} (s : St B w0 w (ob v vs l * R)) : St B w0 w (rows 5 vs l * (row 32 1 v l.length vs * R)) := s.eq (by unfold ob; ac_rfl)
theorem ob_unrow {w : World} {vs : List Value} {l : List (List UInt8)} (s : St B w0 w (row 32 1 v l.length vs * (rows 5 vs l * R))) : St B w0 w (ob v vs l * R) := s.eq (by unfold ob; ac_rfl)
theorem ob_reads {vs : List Value} {l : List (List UInt8)} (hl : vs.length = l.length) {i : Nat} (hi : i < l.length) {u : Value} (hu : vs[i]? = some u) : Reads B w0 (ob v vs l) u l[i] := fun w H s => by
  obtain ⟨u', e1, e2⟩ := (ob_rows (s.eq (sep_comm _ _))).rowsBS _ _ hl i hi
  rw [hu] at e1
  cases e1
  exact e2
theorem ob_brd {w : World} {vs : List Value} {l : List (List UInt8)} (hl : vs.length = l.length) (s : St B w0 w (ob v vs l * R)) : BRd B w0 (ob v vs l) v l := by
  obtain ⟨a, c, rfl, h1, h2, h3, h4⟩ := (ob_row s).rowSlice
  refine ⟨a, c, vs, rfl, hl, h1, h2, h3, fun w H s => (ob_row (s.eq (sep_comm _ _))).rowRd, fun i hi => ?_⟩
  have hu : vs[i]? = some vs[i] := List.getElem?_eq_getElem (by omega)
  exact ⟨vs[i], hu, ob_reads hl hi hu⟩
theorem ob_srd {w : World} {vs : List Value} {l : List (List UInt8)} (hn : NN vs) (hl : vs.length = l.length) (s : St B w0 w (ob v vs l * R)) : SRd B w0 (ob v vs l) v (l.map some) := by
  obtain ⟨a, c, rfl, h1, h2, h3, h4⟩ := (ob_row s).rowSlice
  refine BRd.srd (vs := vs) (fun i hi => ?_) hl h1 h2 h3 fun w H s => (ob_row (s.eq (sep_comm _ _))).rowRd
  have hu : vs[i]? = some vs[i] := List.getElem?_eq_getElem (by omega)
  obtain ⟨g, n, c, e⟩ := hn vs[i] (List.getElem_mem _)
  exact ⟨vs[i], hu, ⟨g, 0, n, c, e⟩, ob_reads hl hi hu⟩
theorem brd_arg {d : List (List UInt8)} (R : HP) (h : BSS w0 v d) : BRd w0.heap.size w0 R v d := by
  obtain ⟨A, c, vs, h1, h2, h3, h4, h5, h6, h7⟩ := h
  refine ⟨A, c, vs, h1, h3.symm, h4, h5, h6, fun w H s => h2.st rfl s, fun i hi => ?_⟩
  obtain ⟨u, e1, e2⟩ := h7 i hi
  exact ⟨u, e1, reads_arg R e2⟩
/-! ### bytes told by a function -/
def brv (g n : Nat) : Value := .slice (some ⟨g, 0, none⟩) n n
def br (g n : Nat) (f : Nat → UInt8) : HP := row 5 1 (.slice (some ⟨g, 0, none⟩) n n) n (bvs ((List.range n).map f))
theorem br_congr {g n : Nat} {f f' : Nat → UInt8} (h : ∀ q, q < n → f q = f' q) : br g n f = br g n f' := by
  unfold br
  rw [List.map_congr_left (g := f') fun q hq => h q (List.mem_range.1 hq)]
theorem br_at {w : World} {g n : Nat} {f : Nat → UInt8} (s : St B w0 w (br g n f * R)) {q : Nat} (hq : q < n) : w.cell? ⟨g, q, none⟩ = some (bv (f q)) := by
  obtain ⟨-, -, -, -, -, h, -⟩ := St.rowB' s
  rw [h q (by simpa using hq)]
  simp
theorem br_set {w : World} {g n : Nat} {f : Nat → UInt8} (s : St B w0 w (br g n f * R)) {q : Nat} (hq : q < n) (x : UInt8) :
    w.frozen? ⟨g, q, none⟩ = false ∧ St B w0 (w.setCell ⟨g, q, none⟩ (bv x)) (br g n (fun p => if p = q then x else f p) * R) := by
  obtain ⟨-, -, -, -, -, -, h1, -, h2⟩ := St.rowB' s
  refine ⟨h1 q, ?_⟩
  have := h2 q x (by simpa using hq)
  have e : ((List.range n).map f).set q x = (List.range n).map fun p => if p = q then x else f p := by
    refine List.ext_getElem? fun p => ?_
    rw [List.getElem?_set, List.getElem?_map, List.getElem?_map]
    by_cases hp : p < n
    · rw [List.getElem?_range hp]
      by_cases e : q = p
      · subst e; simp [hq]
      · simp [e, Ne.symm e]
    · rw [List.getElem?_eq_none (by simpa using hp)]
      by_cases e : q = p
      · subst e; omega
      · simp [e]
  rw [e] at this
  exact this
theorem br_bs {w : World} {g n : Nat} {f : Nat → UInt8} (s : St B w0 w (br g n f * R)) : BS w (.slice (some ⟨g, 0, none⟩) n n) ((List.range n).map f) := St.bs s
theorem br_made {w : World} {g n : Nat} (s : St B w0 w (row 5 1 (.slice (some ⟨g, 0, none⟩) n n) n (List.replicate n (Value.int .u8 0)) * R)) : St B w0 w (br g n (fun _ => 0) * R) := by
  refine s.eq ?_
  unfold br
  congr 2
  simp [bvs, bv, List.map_const']
end
end Go.Proofs.Ytjnfhppjkadlpaa.Obr

namespace Go.Proofs.Ytjnfhppjkadlpaa.Sp
open Go Go.RowKit
abbrev ivs (l : List Int) : List Value := l.map (Value.int .i64)
/-- A slice of ints that reads as these. -/
def IS (w : World) (v : Value) (ns : List Int) : Prop :=
  ∃ a c, v = .slice a ns.length c ∧ ns.length ≤ c ∧ c ≤ maxLen ∧ (a = none → c = 0) ∧ Rd w a (ivs ns)
theorem IS.below {w w' : World} {v : Value} {ns : List Int} (h : IS w v ns) (hb : Below w.heap.size w w') : IS w' v ns := by
  obtain ⟨a, c, h1, h2, h3, h4, h5⟩ := h
  exact ⟨a, c, h1, h2, h3, h4, h5.below hb⟩
theorem IS.st {B : Nat} {w0 w : World} {H : HP} {v : Value} {ns : List Int} (h : IS w0 v ns) (hB : B = w0.heap.size) (s : St B w0 w H) : IS w v ns := by
  obtain ⟨a, c, h1, h2, h3, h4, h5⟩ := h
  exact ⟨a, c, h1, h2, h3, h4, h5.st hB s⟩
theorem IS.rd {w : World} {a : Option Addr} {n c : Nat} {ns : List Int} (h : IS w (.slice a n c) ns) : n = ns.length ∧ ns.length ≤ c ∧ c ≤ maxLen ∧ (a = none → c = 0) ∧ Rd w a (ivs ns) := by
  obtain ⟨a', c', e, h2, h3, h4, h5⟩ := h
  cases e
  exact ⟨rfl, h2, h3, h4, h5⟩
theorem IS.cellAt {w : World} {b off n c : Nat} {ns : List Int} (h : IS w (.slice (some ⟨b, off, none⟩) n c) ns) (j : Nat) (hj : j < ns.length) : w.cell? ⟨b, off + j, none⟩ = some (.int .i64 ns[j]) := by
  obtain ⟨-, -, -, -, hr⟩ := h.rd
  obtain ⟨b', off', e, hc⟩ := hr.at (by intro h0; have := congrArg List.length h0; rw [List.length_map, List.length_nil] at this; omega)
  cases e
  exact hc j _ (by simp [ivs, hj])
theorem IS.head {w : World} {a : Option Addr} {n c : Nat} {ns : List Int} (h : IS w (.slice a n c) ns) (h0 : 0 < ns.length) : ∃ b off, a = some ⟨b, off, none⟩ := by
  obtain ⟨-, -, -, -, hr⟩ := h.rd
  obtain ⟨b', off', e, hc⟩ := hr.at (by intro h1; have := congrArg List.length h1; rw [List.length_map, List.length_nil] at this; omega)
  exact ⟨b', off', e⟩
theorem IS.ofRow {w : World} {a : Option Addr} {len cap : Nat} {zs : List Int} (h : IsRow .i64 w a len cap zs) : ∃ ns : List Int, len = ns.length ∧ IS w (.slice a len cap) ns := by
  obtain ⟨h1, h2, h3, h4, h5, h6⟩ := Rd.ofRow h
  exact ⟨zs.take len, h2.symm, a, cap, by rw [h2], by rw [h2]; exact h3, h4, h5, h1⟩
/-- Ints that can be read wherever these are owned. -/
def IReads (B : Nat) (w0 : World) (R : HP) (v : Value) (ns : List Int) : Prop := ∀ w H, St B w0 w (H * R) → IS w v ns
theorem ireads_arg {w0 : World} {v : Value} {ns : List Int} (R : HP) (h : IS w0 v ns) : IReads w0.heap.size w0 R v ns := fun _ _ s => h.st rfl s
theorem ireads_left {B : Nat} {w0 : World} {R : HP} {v : Value} {ns : List Int} (X : HP) (h : IReads B w0 R v ns) : IReads B w0 (X * R) v ns := fun _ H s => h _ (H * X) (s.eq (sep_assoc _ _ _).symm)
theorem ireads_right {B : Nat} {w0 : World} {R : HP} {v : Value} {ns : List Int} (X : HP) (h : IReads B w0 R v ns) : IReads B w0 (R * X) v ns := fun _ H s => h _ (H * X) (s.eq (by ac_rfl))
theorem ireads_lit {B : Nat} {w0 : World} {t : TypeId} {f : Nat × Nat} {g n : Nat} {C : Array Value} {ns : List Int} (hC : C = (ivs ns).toArray) (hn : n = ns.length) (h : ns.length ≤ maxLen) :
    IReads B w0 (pts g (.cells C t f)) (.slice (some ⟨g, 0, none⟩) n n) ns := fun _ _ s => by
  subst hn
  subst hC
  refine ⟨_, _, rfl, Nat.le_refl _, h, (fun e => by cases e), ?_⟩
  have q := (s.eq (sep_comm _ _)).rd 0 ns.length
  have e : (((ivs ns).toArray.toList.drop 0).take ns.length) = ivs ns := by simp [List.take_of_length_le]
  rw [e] at q
  exact q
/-- A row of ints. -/
theorem St.iS {B : Nat} {w0 w : World} {R : HP} {e : TypeId} {v : Value} {n : Nat} {l : List Int} (s : St B w0 w (row e 1 v n (ivs l) * R)) : IS w v l := by
  obtain ⟨hl, h⟩ := s.rowOpen
  have hn : n = l.length := by simpa using hl.symm
  subst hn
  rcases h with ⟨rfl, h0, _⟩ | ⟨g, cap, cur, rfl, h1, h2, h3, h4, t⟩
  · have : l = [] := List.eq_nil_of_length_eq_zero h0
    subst this
    exact ⟨none, 0, rfl, by simp, by simp, fun _ => rfl, .nil _ _⟩
  · exact ⟨_, _, rfl, h1, h2, (fun e => by cases e), s.rowRd⟩
end Go.Proofs.Ytjnfhppjkadlpaa.Sp

namespace Go.Proofs.Ytjnfhppjkadlpaa.Str
open Go Go.RowKit Go.Proofs.Ytjnfhppjkadlpaa Go.Proofs.Ytjnfhppjkadlpaa.Sp Go.Proofs.Ytjnfhppjkadlpaa.Reg Go.Proofs.Ytjnfhppjkadlpaa.SlW Go.Proofs.Ytjnfhppjkadlpaa.Rd
/-- A value is returned, and what is owned behind it. -/
def RetS (B : Nat) (w0 : World) (H : HP) (v : Value) (e : Ending) (w' : World) : Prop := e = .returned v ∧ St B w0 w' H
theorem run_str_at {P : Program} {t : TypeId} (ht : P.underlying t = some .string) (w : World) (bs : List UInt8) (k : IntKind) (n : Nat) (h : n < bs.length) :
    (Instr.index t (str bs) (.int k (n : Int))).run P w = .ok (.int .u8 (bs[n].toNat : Int)) w := by
  have hsz : (⟨bs.toArray⟩ : ByteArray).size = bs.length := by simp [ByteArray.size]
  unfold str
  rw [run_index_string w t _ k _ ht, dif_pos ⟨by omega, by rw [hsz]; omega⟩]
  simp [ByteArray.getElem_eq_getElem_data]
theorem run_str_take {P : Program} {t : TypeId} (ht : P.underlying t = some .string) (w : World) (bs : List UInt8) (k : IntKind) (n : Nat) (h : n ≤ bs.length) :
    (Instr.sliceAt t (str bs) none (some (.int k (n : Int))) none).run P w = .ok (str (bs.take n)) w := by
  have hsz : (⟨bs.toArray⟩ : ByteArray).size = bs.length := by simp [ByteArray.size]
  have he : (⟨bs.toArray⟩ : ByteArray).extract 0 n = ⟨(bs.take n).toArray⟩ := by
    apply ByteArray.ext
    simp [ByteArray.data_extract]
  rw [run_sliceAt_string w t _ _ _ _ ht]
  unfold str
  simp [Instr.slice, run_underlying ht, Instr.sliceBounds, run_sliceBound, hsz, h, he]
theorem run_str_mid {P : Program} {t : TypeId} (ht : P.underlying t = some .string) (w : World) (bs : List UInt8) (k k' : IntKind) (l n : Nat) (hln : l ≤ n) (h : n ≤ bs.length) :
    (Instr.sliceAt t (str bs) (some (.int k (l : Int))) (some (.int k' (n : Int))) none).run P w = .ok (str ((bs.drop l).take (n - l))) w := by
  have hsz : (⟨bs.toArray⟩ : ByteArray).size = bs.length := by simp [ByteArray.size]
  have he : (⟨bs.toArray⟩ : ByteArray).extract l n = ⟨((bs.drop l).take (n - l)).toArray⟩ := by
    apply ByteArray.ext
    simp [ByteArray.data_extract]
  rw [run_sliceAt_string w t _ _ _ _ ht]
  unfold str
  simp [Instr.slice, run_underlying ht, Instr.sliceBounds, run_sliceBound, hsz, h, he, hln]
theorem run_str_from {P : Program} {t : TypeId} (ht : P.underlying t = some .string) (w : World) (bs : List UInt8) (k : IntKind) (l : Nat) (h : l ≤ bs.length) :
    (Instr.sliceAt t (str bs) (some (.int k (l : Int))) none none).run P w = .ok (str (bs.drop l)) w := by
  have hsz : (⟨bs.toArray⟩ : ByteArray).size = bs.length := by simp [ByteArray.size]
  have he : (⟨bs.toArray⟩ : ByteArray).extract l bs.length = ⟨(bs.drop l).toArray⟩ := by
    apply ByteArray.ext
    simp [ByteArray.data_extract]
    exact List.take_of_length_le (by simp)
  rw [run_sliceAt_string w t _ _ _ _ ht]
  unfold str
  simp [Instr.slice, run_underlying ht, Instr.sliceBounds, run_sliceBound, hsz, h, he]
/-- The texts' values. -/
def sv (l : List (List UInt8)) : List Value := l.map str
theorem sv_len (l : List (List UInt8)) : (sv l).length = l.length := List.length_map _
theorem str_inj {a b : List UInt8} (h : str a = str b) : a = b := by
  unfold str at h
  injection h with h
  injection h with h
  simpa using h
/-- A slice of texts that reads as these. -/
def SL (w : World) (v : Value) (l : List (List UInt8)) : Prop := ∃ a c, v = .slice a l.length c ∧ l.length ≤ c ∧ c ≤ maxLen ∧ (a = none → c = 0) ∧ Rd w a (sv l)
theorem SL.below {w w' : World} {v : Value} {l : List (List UInt8)} (h : SL w v l) (hb : Below w.heap.size w w') : SL w' v l := by
  obtain ⟨a, c, h1, h2, h3, h4, h5⟩ := h
  exact ⟨a, c, h1, h2, h3, h4, h5.below hb⟩
theorem St.sl {B : Nat} {w0 w : World} {R : HP} {e : TypeId} {v : Value} {n : Nat} (l : List (List UInt8)) (s : St B w0 w (row e 1 v n (sv l) * R)) : SL w v l := by
  obtain ⟨hl, h⟩ := s.rowOpen
  have hn : n = l.length := by rw [sv_len] at hl; simpa using hl.symm
  subst hn
  rcases h with ⟨rfl, h0, _⟩ | ⟨g, cap, cur, rfl, h1, h2, h3, h4, t⟩
  · obtain rfl : l = [] := List.eq_nil_of_length_eq_zero h0
    exact ⟨none, 0, rfl, Nat.le_refl _, Nat.zero_le _, fun _ => rfl, .inl rfl⟩
  · exact ⟨_, _, rfl, h1, h2, (fun e => by cases e), s.rowRd⟩
theorem SL.at {w : World} {a : Option Addr} {c n : Nat} {l : List (List UInt8)} (h : SL w (.slice a n c) l) (k : Nat) (hk : k < l.length) : ∃ b off, a = some ⟨b, off, none⟩ ∧ w.cell? ⟨b, off + k, none⟩ = some (str l[k]) := by
  obtain ⟨a', c', e, -, -, -, hr⟩ := h
  cases e
  obtain ⟨b, off, rfl, hc⟩ := hr.at (by intro e; have := congrArg List.length e; rw [sv_len, List.length_nil] at this; omega)
  exact ⟨b, off, rfl, hc k _ (by simp [sv, hk])⟩
theorem tSS : SlT Try.prog 34 9 1 16 (.string ⟨#[]⟩) := ⟨Try.underlying34, info_parts (by kernel_rfl), rfl, by decide⟩
/-- New texts are handed back. -/
def RetSS (B : Nat) (w0 : World) (R : HP) (l : List (List UInt8)) (e : Ending) (w' : World) : Prop := ∃ v, e = .returned v ∧ St B w0 w' (row 9 1 v l.length (sv l) * R)
section
variable {B : Nat} {w0 : World} {R : HP}
set_option maxRecDepth 100000 in
set_option maxHeartbeats 1600000 in
/-- The texts of slices of bytes. -/
theorem strings_calls (v : Value) (l : List (List UInt8)) (w : World) (h : ∀ w' H, St B w0 w' (H * R) → BSS w' v l) (hm : l.length ≤ 1000000) (s : St B w0 w R) :
    Calls Try.prog 24 #[v] w (RetSS B w0 R l) := by
  have HB := Lib.hid h
  obtain ⟨A, c, vs, rfl, -⟩ := h w emp (s.eq (emp_sep _).symm)
  have S := Lib.hid s
  clear s
  clear h
  go_enter Try.func24, Try.ntmps24
  go_wp2_with fail
  go_loopw [3, 4] (fun v i wr => ∃ k : Nat, k ≤ l.length ∧ i = .int .i64 k ∧ St B w0 wr (row 9 1 v k (sv (l.take k)) * R)) (fun _ i _ => l.length - (intOf i).toNat)
  case atStart => exact ⟨0, Nat.zero_le _, rfl, S.out.rowNil _ _⟩
  case round =>
    obtain ⟨k, hk, rfl, hs⟩ := hrel
    clear S
    obtain ⟨a3, c3, rfl, -⟩ := hs.rowSlice
    by_cases hlt : k < l.length
    · obtain ⟨-, -, -, -, vs, hr, hlv, hb⟩ := (HB.out _ _ hs).open'
      obtain ⟨u, hu, hbu⟩ := hb k hlt
      obtain ⟨a2, c2, rfl, hbu2⟩ : ∃ a c, u = .slice a l[k].length c ∧ BS _ (.slice a l[k].length c) l[k] := by
        obtain ⟨a, c, e, _⟩ := id hbu
        exact ⟨a, c, e, e ▸ hbu⟩
      obtain ⟨b, off, rfl, hc⟩ := hr.at (by rintro rfl; rw [List.length_nil] at hlv; omega)
      have hcell := hc k _ hu
      have hcv := run_str (P := Try.prog) Try.underlying32 Try.underlying5 Try.underlying9 hbu2
      have ht : sv (l.take (k + 1)) = sv (l.take k) ++ [str l[k]] := by rw [List.take_succ_eq_append_getElem hlt]; simp only [sv, List.map_append, List.map_cons, List.map_nil]
      have HT := Lib.hid ht
      have s2 := hs.alloc (.cells #[str l[k]] 9)
      have s4 := Lib.hid (St.eq (Q := row 9 1 (.slice a3 k c3) k (sv (l.take k)) * (pts wr.heap.size (.cells #[str l[k]] 9) * R)) (by ac_rfl) s2)
      have hrd := Lib.hid (Rd.new wr #[str l[k]] 9)
      clear hr hlv hb hc hu hbu hbu2 ht s2 hs
      go_wp2_with (at_builtin; go_must (refine wpl_append rfl _ _ rfl tSS s4.out (some ⟨wr.heap.size, 0, none⟩) 1 1 [str l[k]] rfl rfl hrd.out (fun e => by cases e) (by simp) (by simp [Value.oneCell']) (by unfold maxLen; omega) (by omega) ?_); intro v5 w5 s5 hv5; have S5 := Lib.hid s5; clear s5 hv5 s4 hrd)
      go_roundw
      case rel =>
        refine ⟨k + 1, by omega, by go_num, ?_⟩
        rw [HT.out]
        exact (S5.out.eq (sep_left_comm _ _ _)).right
      case measure => simp [intOf]; omega
    · obtain rfl : k = l.length := by omega
      rw [List.take_length] at hs
      have HS := Lib.hid hs
      clear hs
      go_wp2_with fail
      go_ret
      exact ⟨_, rfl, HS.out⟩
set_option maxRecDepth 100000 in
set_option maxHeartbeats 1600000 in
/-- Are two rows of texts the same? -/
theorem same_calls (v1 v2 : Value) (a b : List (List UInt8)) (w : World) (h1 : SL w v1 a) (h2 : SL w v2 b) :
    Calls Try.prog 23 #[v1, v2] w fun e w' => e = .returned (.bool (decide (a = b))) ∧ Add w w' := by
  obtain ⟨A1, c1, rfl, -, hm1, -⟩ := id h1
  obtain ⟨A2, c2, rfl, -, hm2, -⟩ := id h2
  have hl1 : a.length ≤ 9223372036854775807 := by obtain ⟨_, _, e, q1, q2, _⟩ := id h1; unfold maxLen at q2; omega
  unfold maxLen at hm1 hm2
  have H1 := Lib.hid h1
  have H2 := Lib.hid h2
  clear h1 h2
  by_cases hl : a.length = b.length
  · have e0 : ((a.length : Int) != b.length) = false := by simp; omega
    have HL := Lib.hid hl
    clear hl
    go_enter Try.func23, Try.ntmps23
    go_wp2_with fail
    go_loopw [5] (fun i wr => ∃ k : Nat, k ≤ a.length ∧ i = .int .i64 k ∧ a.take k = b.take k ∧ Add w wr) (fun i _ => a.length - (intOf i).toNat)
    case atStart => exact ⟨0, Nat.zero_le _, rfl, rfl, Add.refl w⟩
    case round =>
      obtain ⟨k, hk, rfl, het, ha⟩ := hrel
      have HA := Lib.hid ha
      have HET := Lib.hid het
      clear ha het
      by_cases hlt : k < a.length
      · have hlt2 : k < b.length := by rw [← HL.out]; exact hlt
        obtain ⟨b1, o1, rfl, hc1⟩ := (H1.out.below HA.out).at k hlt
        obtain ⟨b2, o2, rfl, hc2⟩ := (H2.out.below HA.out).at k hlt2
        have d1 : ∀ w', Add wr w' → w'.cell? ⟨b1, o1 + k, none⟩ = some (str a[k]) := fun w' h => Add.cell h hc1
        have d2 : ∀ w', Add wr w' → w'.cell? ⟨b2, o2 + k, none⟩ = some (str b[k]) := fun w' h => Add.cell h hc2
        have hta : a.take (k + 1) = a.take k ++ [a[k]] := List.take_succ_eq_append_getElem hlt
        have htb : b.take (k + 1) = b.take k ++ [b[k]] := List.take_succ_eq_append_getElem hlt2
        have hne : a[k] ≠ b[k] → a ≠ b := by rintro h rfl; exact h rfl
        generalize a[k] = x1 at *
        generalize b[k] = x2 at *
        have t1 : (k : Int) < (a.length : Int) := by omega
        have t2 : (k : Int) < (b.length : Int) := by omega
        have D1 := Lib.hid d1
        have D2 := Lib.hid d2
        clear d1 d2
        clear hc1 hc2
        by_cases he : x1 = x2
        · have HN := Lib.hid (show a.take (k + 1) = b.take (k + 1) by rw [hta, htb, HET.out, he])
          have He := Lib.hid he
          clear hne hta htb he
          go_wp2_with fail
          refine wp_region_rx (fun _ w' => Add wr w') [] mixed (by kernel_rfl) (by kernel_rfl) (Add.drew _) ?_
          refine RXl.exact (.slice (some ⟨b1, o1, none⟩) a.length c1) rfl rfl rfl rfl rfl (fun _ _ _ _ _ => rfl) ?_
          refine RXl.exact (.int .i64 k) rfl rfl rfl rfl rfl (fun _ _ _ _ _ => rfl) ?_
          refine RXl.exact (.pointer (some ⟨b1, o1 + k, none⟩)) rfl rfl rfl rfl rfl (fun j τ w' hj hJ => by simp [rho, upd, Spec.val, execOp, go_sem, t1]) ?_
          refine RXl.exact (str x1) rfl rfl rfl rfl rfl (fun j τ w' hj hJ => by have c := D1.out w' hJ; simp [rho, upd, Spec.val, execOp, go_sem, c]) ?_
          refine RXl.exact (.slice (some ⟨b2, o2, none⟩) b.length c2) rfl rfl rfl rfl rfl (fun _ _ _ _ _ => rfl) ?_
          refine RXl.exact (.int .i64 k) rfl rfl rfl rfl rfl (fun _ _ _ _ _ => rfl) ?_
          refine RXl.exact (.pointer (some ⟨b2, o2 + k, none⟩)) rfl rfl rfl rfl rfl (fun j τ w' hj hJ => by simp [rho, upd, Spec.val, execOp, go_sem, t2]) ?_
          refine RXl.exact (str x2) rfl rfl rfl rfl rfl (fun j τ w' hj hJ => by have c := D2.out w' hJ; simp [rho, upd, Spec.val, execOp, go_sem, c]) ?_
          refine RXl.exact (.bool false) rfl rfl rfl rfl rfl (fun j τ w' hj hJ => by simp [rho, upd, Spec.val, execOp, go_sem]; exact He.out) ?_
          refine RXl.nilx _ (Agr.upd _ _ (Agr.upd _ _ (Agr.upd _ _ (Agr.upd _ _ (Agr.upd _ _ (Agr.upd _ _ (Agr.upd _ _ (Agr.upd _ _ (Agr.upd _ _ (Agr.base _)))))))))) fun w3 hJ => ?_
          obtain ⟨_, hJ⟩ := hJ
          simp only [Act.put, List.setIfInBounds_toArray, List.set_cons_succ, List.set_cons_zero]
          go_wp2_with fail
          go_roundw
          case rel => exact ⟨k + 1, by omega, by go_num, HN.out, HA.out.trans hJ⟩
          case measure => simp [intOf]; omega
        · have HN := Lib.hid (show decide (a = b) = false from decide_eq_false (hne he))
          have He := Lib.hid he
          clear hne hta htb he
          go_wp2_with fail
          refine wp_region_rx (fun _ w' => Add wr w') [] mixed (by kernel_rfl) (by kernel_rfl) (Add.drew _) ?_
          refine RXl.exact (.slice (some ⟨b1, o1, none⟩) a.length c1) rfl rfl rfl rfl rfl (fun _ _ _ _ _ => rfl) ?_
          refine RXl.exact (.int .i64 k) rfl rfl rfl rfl rfl (fun _ _ _ _ _ => rfl) ?_
          refine RXl.exact (.pointer (some ⟨b1, o1 + k, none⟩)) rfl rfl rfl rfl rfl (fun j τ w' hj hJ => by simp [rho, upd, Spec.val, execOp, go_sem, t1]) ?_
          refine RXl.exact (str x1) rfl rfl rfl rfl rfl (fun j τ w' hj hJ => by have c := D1.out w' hJ; simp [rho, upd, Spec.val, execOp, go_sem, c]) ?_
          refine RXl.exact (.slice (some ⟨b2, o2, none⟩) b.length c2) rfl rfl rfl rfl rfl (fun _ _ _ _ _ => rfl) ?_
          refine RXl.exact (.int .i64 k) rfl rfl rfl rfl rfl (fun _ _ _ _ _ => rfl) ?_
          refine RXl.exact (.pointer (some ⟨b2, o2 + k, none⟩)) rfl rfl rfl rfl rfl (fun j τ w' hj hJ => by simp [rho, upd, Spec.val, execOp, go_sem, t2]) ?_
          refine RXl.exact (str x2) rfl rfl rfl rfl rfl (fun j τ w' hj hJ => by have c := D2.out w' hJ; simp [rho, upd, Spec.val, execOp, go_sem, c]) ?_
          refine RXl.exact (.bool true) rfl rfl rfl rfl rfl (fun j τ w' hj hJ => by simp [rho, upd, Spec.val, execOp, go_sem]; exact He.out) ?_
          refine RXl.nilx _ (Agr.upd _ _ (Agr.upd _ _ (Agr.upd _ _ (Agr.upd _ _ (Agr.upd _ _ (Agr.upd _ _ (Agr.upd _ _ (Agr.upd _ _ (Agr.upd _ _ (Agr.base _)))))))))) fun w3 hJ => ?_
          obtain ⟨_, hJ⟩ := hJ
          simp only [Act.put, List.setIfInBounds_toArray, List.set_cons_succ, List.set_cons_zero]
          go_wp2_with fail
          go_ret
          exact ⟨by rw [HN.out]; rfl, HA.out.trans hJ⟩
      · obtain rfl : k = a.length := by omega
        have HN := Lib.hid (show decide (a = b) = true from decide_eq_true (by have h := HET.out; rw [List.take_length, HL.out, List.take_length] at h; exact h))
        go_wp2_with fail
        go_ret
        exact ⟨by rw [HN.out]; rfl, HA.out⟩
  · have e0 : ((a.length : Int) != b.length) = true := by simp; omega
    have HN := Lib.hid (show decide (a = b) = false from decide_eq_false (by rintro rfl; exact hl rfl))
    clear hl
    go_enter Try.func23, Try.ntmps23
    go_wp2_with fail
    go_ret
    exact ⟨by rw [HN.out]; rfl, Add.refl w⟩
end
end Go.Proofs.Ytjnfhppjkadlpaa.Str

namespace Go.Proofs.Ytjnfhppjkadlpaa.Sp
open Go Go.RowKit Go.Proofs.Ytjnfhppjkadlpaa Go.Proofs.Ytjnfhppjkadlpaa.Sp Go.Proofs.Ytjnfhppjkadlpaa.Reg
/-- copy of bytes into an owned row. -/
theorem copy_st {P : Program} {dT sT ty e : TypeId} (hu : P.underlying dT = some (.slice e)) (hs : (P.info? e).map (·.size) = some 1) {B : Nat} {w0 w : World} {R : HP} {g n c : Nat} {l : List UInt8}
    (s : St B w0 w (row e 1 (.slice (some ⟨g, 0, none⟩) n c) n (bvs l) * R)) (o dLen dCap : Nat) (a : Option Addr) (c2 : Nat) (data : List UInt8) (hd : BS w (.slice a data.length c2) data) (h1 : data.length ≤ dLen) (h2 : o + data.length ≤ l.length) :
    ∃ w', (Builtin.copy_ #[dT, sT] ty #[.slice (some ⟨g, o, none⟩) dLen dCap, .slice a data.length c2]).run P w = .ok (goInt data.length) w' ∧
      St B w0 w' (row e 1 (.slice (some ⟨g, 0, none⟩) n c) n (bvs (l.take o ++ data ++ l.drop (o + data.length))) * R) := by
  by_cases h0 : data.length = 0
  · have e0 : data = [] := List.eq_nil_of_length_eq_zero h0
    subst e0
    refine ⟨w, run_copy_none w dT sT ty e _ _ _ _ _ _ hu hs (by simp), ?_⟩
    simpa using s
  · obtain ⟨-, -, -, -, hr⟩ := hd.rd
    obtain ⟨b, off, rfl, hc⟩ := hr.at (by intro e; have := congrArg List.length e; rw [List.length_map, List.length_nil] at this; exact h0 this)
    obtain ⟨hl, h⟩ := s.rowOpen
    rcases h with ⟨e1, _, _⟩ | ⟨g', c', cur, e1, h3, h4, h5, h6, t⟩
    · cases e1
    cases e1
    rw [Nat.mul_one] at h5 h6
    have hn : n = l.length := by simpa using hl.symm
    have hrun := run_copy_row (P := P) w dT sT ty e g o dLen dCap ⟨b, off, none⟩ data.length c2 cur e (bvs data) hu hs t.block (by rw [List.length_map]; exact (Nat.min_eq_left h1).symm) (fun j v hj => by
      rw [Addr.add_lit]
      exact hc j v hj) (by rw [List.length_map]; omega) (bvs_one _)
    rw [List.length_map] at hrun
    refine ⟨_, hrun, ?_⟩
    refine (t.setRow _).rowMk h3 h4 (by simp; omega) ?_
    rw [Nat.mul_one]
    obtain ⟨D, hD⟩ : ∃ D, cur.toList = bvs l ++ D := ⟨cur.toList.drop n, by rw [← h6]; exact (List.take_append_drop _ _).symm⟩
    show List.take n (cur.toList.take o ++ bvs data ++ cur.toList.drop (o + data.length)) = _
    have q1 : (bvs l ++ D).take o = (bvs l).take o := List.take_append_of_le_length (by rw [List.length_map]; omega)
    have q2 : (bvs l ++ D).drop (o + data.length) = (bvs l).drop (o + data.length) ++ D := List.drop_append_of_le_length (by rw [List.length_map]; omega)
    rw [hD, q1, q2, ← List.append_assoc, List.take_left' (by simp; omega)]
    simp [bvs, List.map_take, List.map_drop]
end Go.Proofs.Ytjnfhppjkadlpaa.Sp

namespace Go.Proofs.Ytjnfhppjkadlpaa.Sp
open Go Go.RowKit
section
variable {P : Program} {B : Nat} {w0 w : World} {R : HP} {t e : TypeId} {size bytes : Nat} {z : Value} {n : Nat} {xs : List Value}
theorem run_append_full (T : SlT P t e size bytes z) (ty : TypeId) (s : St B w0 w R) (g off : Nat) (hxs : xs.length = n * size) (hsrc : Rd w (some ⟨g, off, none⟩) xs) (ax : Option Addr) (m c : Nat) (hm : 0 < m) (news : List Value) (hr : Rd w ax news)
    (hl : news.length = m * size) (h63 : n + m ≤ maxLen) (hbytes : (n + m) * bytes ≤ 140737488355328) :
    ∃ g' c' w', (Builtin.append_ #[t, t] ty #[.slice (some ⟨g, off, none⟩) n n, .slice ax m c]).run P w = .ok (.slice (some ⟨g', 0, none⟩) (n + m) c') w' ∧ St B w0 w' (row e size (.slice (some ⟨g', 0, none⟩) (n + m) c') (n + m) (xs ++ news) * R) := by
  obtain ⟨ht, ⟨i, hi, hz, hsz, hby⟩, hzs, hpos⟩ := T
  subst hsz
  subst hby
  have hsmall : n + m ≤ 9223372036854775807 := by simp only [maxLen] at h63; omega
  have hlen : (xs ++ news).length = (n + m) * i.size := by rw [List.length_append, hxs, hl, Nat.add_mul]
  have hnn : news ≠ [] := by
    intro h
    have := Nat.mul_pos hm hpos
    rw [h, List.length_nil] at hl
    omega
  obtain ⟨b, o2, rfl, hc⟩ := hr.at hnn
  have hnews : ∀ j u, news[j]? = some u → w.cell? ((⟨b, o2, none⟩ : Addr).add j) = some u := fun j u hj => by rw [Addr.add_lit]; exact hc j u hj
  have holds : ∀ j u, xs[j]? = some u → w.cell? ((⟨g, off, none⟩ : Addr).add j) = some u := by
    intro j u hj
    obtain ⟨b', o', e', h⟩ := hsrc.at (by rintro rfl; simp at hj)
    cases e'
    rw [Addr.add_lit]
    exact h j u hj
  have hrr := run_append_grow (P := P) w t ty e i z ht hi hz ⟨g, off, none⟩ n n xs hxs holds _ m c news hl hnews (by omega) (by omega) (growslice_fits (by omega) hbytes)
  refine ⟨_, _, _, hrr, ?_⟩
  have hge := grownCap_ge w (n + m) n e
  have hcm : grownCap w (n + m) n e ≤ maxLen := grownCap_le_maxLen w (n + m) n e h63
  have q := s.drew.alloc (.cells (xs.toArray ++ news.toArray ++ Builtin.zeroCells z.cells (grownCap w (n + m) n e - (n + m))) e)
  refine q.rowMk hge hcm ?_ ?_
  · refine Nat.le_of_eq ?_
    simp only [Array.size_append, List.size_toArray, size_zeroCells, hzs, hxs, hl, ← Nat.add_mul]
    congr 1
    omega
  · simp only [Array.toList_append, List.append_assoc]
    rw [← List.append_assoc, ← hlen]
    exact List.take_left
variable {ops : Array Oper} {rest : List Oper} {o : Oper} {a : Act} {Q : Exit → Act → World → Prop}
theorem wpl_append_full (hg : o.guard = none) (so xo : Operand) (hop : o.op = .call { callee := .builtin .append, args := #[so, xo], argTypes := #[t, t] })
    (T : SlT P t e size bytes z) (s : St B w0 w R) (g off : Nat) (hxs : xs.length = n * size) (hsrc : Rd w (some ⟨g, off, none⟩) xs) (ax : Option Addr) (m c : Nat) (hm : 0 < m) (news : List Value) (hs : a.eval so = .slice (some ⟨g, off, none⟩) n n) (hx : a.eval xo = .slice ax m c)
    (hr : Rd w ax news) (hl : news.length = m * size) (h63 : n + m ≤ maxLen) (hbytes : (n + m) * bytes ≤ 140737488355328)
    (hK : ∀ g' c' w', St B w0 w' (row e size (.slice (some ⟨g', 0, none⟩) (n + m) c') (n + m) (xs ++ news) * R) → wpList P ops Q rest (a.put o.dst (.slice (some ⟨g', 0, none⟩) (n + m) c')) w') :
    wpList P ops Q (o :: rest) a w := by
  refine wpList_plain hg fun K hK' => ?_
  obtain ⟨g', c', w', hrun, r1⟩ := run_append_full (P := P) T o.type s g off hxs hsrc ax m c hm news hr hl h63 hbytes
  unfold Oper.wp
  simp [execOp, hop, resolve, invoke, builtin, hs, hx, hrun, Result.andThen]
  exact hK' _ _ (hK g' c' w' r1)
end
end Go.Proofs.Ytjnfhppjkadlpaa.Sp
