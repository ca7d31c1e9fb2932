/- Regions whose order is drawn and that hold operations that turn memory and give values that nobody knows ahead (fresh addresses, capacities): J speaks of the world and of those values. Program-free; no condition. -/
import Derived.Test.YtjnfhppjkadlpaaRex
namespace Go.Proofs.Ytjnfhppjkadlpaa.Reg
open Go Go.RowKit Go.Proofs.Ytjnfhppjkadlpaa.Sp
section
variable {P : Program} {ops : Array Oper} {Q : Exit → Act → World → Prop} {a0 : Act} {effs : List Nat} {E : Sig → Prop} {σ : Sig} {o : Oper} {rest : List Oper} {i : Nat}
def updv (vs : Nat → Value) (k : Nat) (v : Value) : Nat → Value := fun j => if j = k then v else vs j
/-- Of what stands in the effects' slots. -/
def IJ (ds : List Nat) (J : Nat → (Nat → Value) → World → Prop) (j : Nat) (τ : Nat → Value) (w : World) : Prop := ∃ vs, (∀ k d, k < j → ds[k]? = some d → vs k = τ d) ∧ J j vs w
theorem wp_region_rv {id : Nat} {l : List Oper} {a : Act} {w : World} (ds : List Nat) (J : Nat → (Nat → Value) → World → Prop) (effs : List Nat) (hm : P.follows .mixedOrders = true) (hok : regOk l.toArray = true) (hef : effsOk l.toArray effs = true)
    (hds : (effs.map fun e => (l.toArray[e]?).bind (·.dst)).take ds.length = ds.map some) (h0 : ∀ vs, J 0 vs w.drew)
    (h : RXl P l.toArray Q a (IJ ds J) effs (EndX Q a (IJ ds J) effs) l 0 (fun t => .ex (a.tmps.getD t undef))) : (Code.region id l.toArray true).wp P Q a w := by
  refine wp_region_rxi (IJ ds J) effs hm hok hef ?_ ⟨fun _ => undef, fun k d hk => absurd hk (Nat.not_lt_zero _), h0 _⟩ h
  rintro j τ τ' w' hag ⟨vs, hvs, hJ⟩
  refine ⟨vs, fun k d hk hd => (hvs k d hk hd).trans ?_, hJ⟩
  have hkd : k < ds.length := (List.getElem?_eq_some_iff.1 hd).1
  have hlen : ds.length ≤ effs.length := by have := congrArg List.length hds; simp at this; omega
  have hk' : k < effs.length := by omega
  have q := congrArg (·[k]?) hds
  simp only [List.getElem?_take, hkd, if_true, List.getElem?_map, hd, List.getElem?_eq_getElem hk', Option.map_some, Option.some.injEq] at q
  exact hag k effs[k] hk (List.getElem?_eq_getElem hk') d q
variable {ds : List Nat} {J : Nat → (Nat → Value) → World → Prop}
theorem IJ.step {k d : Nat} {a : Act} {vs : Nat → Value} {w' : World} {v : Value} (hkd : ds[k]? = some d) (hin : (ds.take k).contains d = false) (hlt : d < a.tmps.size)
    (hvs : ∀ k' d', k' < k → ds[k']? = some d' → vs k' = slotsOf a d') (hJ : J (k + 1) (updv vs k v) w') : IJ ds J (k + 1) (slotsOf (a.put (some d) v)) w' := by
  refine ⟨updv vs k v, fun k' d' hk' hd' => ?_, hJ⟩
  by_cases e : k' = k
  · subst e
    rw [hkd] at hd'
    obtain rfl := Option.some.inj hd'
    simp [updv, Act.put, hlt]
  · have hne : d ≠ d' := by
      rintro rfl
      have : d ∈ ds.take k := by
        refine List.mem_of_getElem? (i := k') ?_
        rw [List.getElem?_take, if_pos (by omega)]
        exact hd'
      simp [this] at hin
    rw [slotsOf_put a (some d) v d' (fun q => hne (Option.some.inj q))]
    simp only [updv, if_neg e]
    exact hvs k' d' (by omega) hd'
/-- What J says of the k-th value. -/
def JV (J : Nat → (Nat → Value) → World → Prop) (k : Nat) (v : Value) : Prop := ∃ vs w, J (k + 1) vs w ∧ vs k = v
/-- An operation that turns memory and gives a value that is told by J. -/
theorem RXl.effV (k d : Nat) (hd : o.dst = some d) (hkd : ds[k]? = some d) (hin : (ds.take k).contains d = false) (hlt : d < a0.tmps.size) (hi : ops[i]? = some o) (hf : inFrame ops a0.tmps.size o = true) (hw : wantS ops σ o = true) (hke : effs[k]? = some i)
    (hrun : ∀ ρ vs w, (∀ k' d', k' < k → ds[k']? = some d' → ρ (.tmp d') = vs k') → J k vs w → Agree ops a0.tmps.size σ o ρ w → ∃ v w', (execOp ρ o).run P w = .ok (.value v) w' ∧ J (k + 1) (updv vs k v) w')
    (h : RXl P ops Q a0 (IJ ds J) effs E rest (i + 1) (upd σ o.dst (.so fun v _ => JV J k v))) : RXl P ops Q a0 (IJ ds J) effs E (o :: rest) i σ := by
  refine RXl.effv k (.so fun v _ => JV J k v) (Free.so _) hi hf hw hke (fun a w hI hsz hag => ?_) h
  obtain ⟨vs, hvs, hJ⟩ := hI
  obtain ⟨v, w', hr, hJ'⟩ := hrun a.eval vs w (fun k' d' hk' hd' => (hvs k' d' hk' hd').symm) hJ hag
  exact ⟨v, w', hr, ⟨_, w', hJ', by simp [updv]⟩, by rw [hd]; exact IJ.step hkd hin (by rw [hsz]; exact hlt) hvs hJ'⟩
/-- A call that turns memory and gives such a value; its arguments may be such, too. -/
theorem RXl.callV (k d : Nat) (hd : o.dst = some d) (hkd : ds[k]? = some d) (hin : (ds.take k).contains d = false) (hlt : d < a0.tmps.size) (f : FuncId) (xs : List Operand) (ats : Array TypeId) (hop : o.op = .call { callee := .value (.func f), args := xs.toArray, argTypes := ats })
    (hi : ops[i]? = some o) (hf : inFrame ops a0.tmps.size o = true) (hw : wantS ops σ o = true) (hke : effs[k]? = some i)
    (hc : ∀ ρ vs w, (∀ k' d', k' < k → ds[k']? = some d' → ρ (.tmp d') = vs k') → J k vs w → Agree ops a0.tmps.size σ o ρ w → ∃ args, xs.map ρ = args ∧ (callFunc f args.toArray).run P w = .ok (.enter f args.toArray) w ∧
      Calls P f args.toArray w fun e w' => ∃ v, e = .returned v ∧ J (k + 1) (updv vs k v) w')
    (h : RXl P ops Q a0 (IJ ds J) effs E rest (i + 1) (upd σ o.dst (.so fun v _ => JV J k v))) : RXl P ops Q a0 (IJ ds J) effs E (o :: rest) i σ := by
  refine ⟨.so fun v _ => JV J k v, Free.so _, fun a w j hal hI _ hsz hh => ?_, h⟩
  obtain rfl := hal.2.2 k hke
  have him : i ∈ effs := List.mem_of_getElem? hke
  unfold wpOp
  simp only [hi, want_of hw hf hh, if_true]
  refine .inl ?_
  obtain ⟨vs, hvs, hJ⟩ := hI
  obtain ⟨args, ha, hr, hcl⟩ := hc a.eval vs w (fun k' d' hk' hd' => (hvs k' d' hk' hd').symm) hJ (agree_eval hh)
  unfold Oper.wp
  rw [execOp_go (fun _ => rfl) f xs ats hop args ha, hr]
  refine Calls.mono hcl fun e w' he => ?_
  obtain ⟨v, rfl, h1⟩ := he
  exact ⟨v, rfl, ⟨_, w', h1, by simp [updv]⟩, fun _ => by rw [hd]; exact IJ.step hkd hin (by rw [hsz]; exact hlt) hvs h1, fun hc => absurd him hc⟩
/-- A store, J told. -/
theorem RXl.effS (k : Nat) (hi : ops[i]? = some o) (hf : inFrame ops a0.tmps.size o = true) (hw : wantS ops σ o = true) (hke : effs[k]? = some i) (hd : o.dst = none) (hkd : ds[k]? = none)
    (hrun : ∀ ρ vs w, (∀ k' d', k' < k → ds[k']? = some d' → ρ (.tmp d') = vs k') → J k vs w → Agree ops a0.tmps.size σ o ρ w → ∃ w', (execOp ρ o).run P w = .ok .skip w' ∧ J (k + 1) vs w')
    (h : RXl P ops Q a0 (IJ ds J) effs E rest (i + 1) σ) : RXl P ops Q a0 (IJ ds J) effs E (o :: rest) i σ := by
  refine RXl.effI k hi hf hw hke hd (fun a w hI hsz hag => ?_) h
  obtain ⟨vs, hvs, hJ⟩ := hI
  obtain ⟨w', hr, hJ'⟩ := hrun a.eval vs w (fun k' d' hk' hd' => (hvs k' d' hk' hd').symm) hJ hag
  refine ⟨w', hr, vs, fun k' d' hk' hd' => ?_, hJ'⟩
  rcases Nat.lt_or_ge k' k with h | h
  · exact hvs k' d' h hd'
  · obtain rfl : k' = k := by omega
    rw [hkd] at hd'
    cases hd'

/-! ### the frame behind it -/
def puts : Act → List Nat → (Nat → Value) → Act
  | A, [], _ => A
  | A, d :: ds, vs => puts (A.put (some d) (vs 0)) ds fun k => vs (k + 1)
theorem puts_size : ∀ (ds : List Nat) (A : Act) (vs : Nat → Value), (puts A ds vs).tmps.size = A.tmps.size ∧ (puts A ds vs).defers = A.defers
  | [], _, _ => ⟨rfl, rfl⟩
  | d :: ds, A, vs => by
    have := puts_size ds (A.put (some d) (vs 0)) fun k => vs (k + 1)
    exact ⟨this.1.trans (by simp [Act.put]), this.2⟩
theorem puts_not : ∀ (ds : List Nat) (A : Act) (vs : Nat → Value) (t : Nat), t ∉ ds → (puts A ds vs).tmps.getD t undef = A.tmps.getD t undef
  | [], _, _, _, _ => rfl
  | d :: ds, A, vs, t, h => by
    rw [List.mem_cons, not_or] at h
    refine (puts_not ds _ _ t h.2).trans ?_
    exact slotsOf_put A (some d) (vs 0) t (fun q => h.1 (Option.some.inj q).symm)
theorem puts_at : ∀ (ds : List Nat) (A : Act) (vs : Nat → Value) (k d : Nat), ds.Nodup → ds[k]? = some d → d < A.tmps.size → (puts A ds vs).tmps.getD d undef = vs k
  | [], _, _, k, d, _, h, _ => by simp at h
  | e :: ds, A, vs, 0, d, hn, h, hlt => by
    obtain rfl : e = d := by simpa using h
    refine (puts_not ds _ _ e (List.nodup_cons.1 hn).1).trans ?_
    simp [Act.put, hlt]
  | e :: ds, A, vs, k + 1, d, hn, h, hlt => by
    exact puts_at ds (A.put (some e) (vs 0)) (fun k => vs (k + 1)) k d (List.nodup_cons.1 hn).2 (by simpa using h) (by simpa [Act.put] using hlt)
/-- The specs tell the frame, but for these slots. -/
def AgrL (ds : List Nat) (a0 : Act) (σ : Sig) (A : Act) : Prop := A.defers = a0.defers ∧ A.tmps.size = a0.tmps.size ∧ ∀ t, t < a0.tmps.size → t ∉ ds → σ t = .ex (A.tmps.getD t undef)
theorem AgrL.base (a0 : Act) : AgrL ds a0 (fun t => .ex (a0.tmps.getD t undef)) a0 := ⟨rfl, rfl, fun _ _ _ => rfl⟩
theorem AgrL.upd {A : Act} (d : Option Tmp) (v : Value) (h : AgrL ds a0 σ A) : AgrL ds a0 (Reg.upd σ d (.ex v)) (A.put d v) := by
  obtain ⟨h1, h2, h3⟩ := h
  refine ⟨by rw [← h1]; cases d <;> rfl, by rw [← h2]; cases d <;> simp [Act.put], fun t ht hn => ?_⟩
  by_cases hd : d = some t
  · subst hd
    have ht' : t < A.tmps.size := by rw [h2]; exact ht
    simp [Reg.upd, Act.put, ht']
  · rw [show (A.put d v).tmps.getD t undef = A.tmps.getD t undef from slotsOf_put A d v t hd]
    simp [Reg.upd, hd, h3 t ht hn]
theorem AgrL.none {A : Act} (s : Spec) (h : AgrL ds a0 σ A) : AgrL ds a0 (Reg.upd σ none s) A := ⟨h.1, h.2.1, fun t ht hn => by simpa [Reg.upd] using h.2.2 t ht hn⟩
theorem AgrL.unk {A : Act} (d : Nat) (s : Spec) (hd : ds.contains d = true) (h : AgrL ds a0 σ A) : AgrL ds a0 (Reg.upd σ (some d) s) A := by
  refine ⟨h.1, h.2.1, fun t ht hn => ?_⟩
  have hne : (some d : Option Nat) ≠ some t := by
    intro e
    obtain rfl := Option.some.inj e
    exact hn (by simpa using hd)
  simpa [Reg.upd, hne] using h.2.2 t ht hn
theorem RXl.nilV (A : Act) (hA : AgrL ds a0 σ A) (hlen : ds.length ≤ effs.length) (hnd : ds.Nodup) (h : ∀ vs w, J effs.length vs w → Q .normal (puts A ds vs) w) : RXl P ops Q a0 (IJ ds J) effs (EndX Q a0 (IJ ds J) effs) [] i σ := by
  refine RXl.nil fun a w hI hdf hs hh => ?_
  obtain ⟨vs, hvs, hJ⟩ := hI
  obtain ⟨h1, h2, h3⟩ := hA
  have e : a = puts A ds vs := by
    obtain ⟨p1, p2⟩ := puts_size ds A vs
    have pn := puts_not ds A vs
    have pa := puts_at ds A vs
    generalize puts A ds vs = B at p1 p2 pn pa
    obtain ⟨tm, df⟩ := a
    obtain ⟨tB, dB⟩ := B
    have e1 : df = dB := hdf.trans (h1.symm.trans p2.symm)
    have e2 : tm = tB := by
      apply Array.ext (hs.trans (h2.symm.trans p1.symm))
      intro t g1 g2
      have ht : t < a0.tmps.size := by rw [← hs]; exact g1
      have q2 : tm.getD t undef = tB.getD t undef := by
        by_cases hm : t ∈ ds
        · obtain ⟨k, hk⟩ := List.getElem?_of_mem hm
          have hk1 : k < ds.length := (List.getElem?_eq_some_iff.1 hk).1
          rw [show tB.getD t undef = vs k from pa k t hnd hk (by rw [h2]; exact ht)]
          exact (hvs k t (by omega) hk).symm
        · have q := hh t ht
          rw [h3 t ht hm] at q
          exact (show tm.getD t undef = A.tmps.getD t undef from q).trans (pn t hm).symm
      simpa [Array.getD, g1, g2] using q2
    rw [e1, e2]
  rw [e]
  exact h vs w hJ
/-! ### the usual case: the values are told by one hidden thing (an address, a capacity ..) -/
def PJ (B : Nat) (w0 : World) {α : Type} (X : HP) (F : Nat → α → Value) (H : Nat → α → HP) (j : Nat) (vs : Nat → Value) (w : World) : Prop := match j with
  | 0 => St B w0 w X
  | j + 1 => ∃ a, (∀ k, k < j + 1 → vs k = F k a) ∧ St B w0 w (H j a)
variable {B : Nat} {w0 : World} {α : Type} {X : HP} {F : Nat → α → Value} {H : Nat → α → HP}
/-- The first: a call. -/
theorem PJ.first {f : FuncId} {xs : List Operand} (args : List Value) (ha : ∀ ρ w, Agree ops a0.tmps.size σ o ρ w → xs.map ρ = args) (hrun : ∀ w, (callFunc f args.toArray).run P w = .ok (.enter f args.toArray) w)
    (hc : ∀ w, St B w0 w X → Calls P f args.toArray w fun e w' => ∃ a, e = .returned (F 0 a) ∧ St B w0 w' (H 0 a)) :
    ∀ ρ vs w, (∀ k' d', k' < 0 → ds[k']? = some d' → ρ (.tmp d') = vs k') → PJ B w0 X F H 0 vs w → Agree ops a0.tmps.size σ o ρ w → ∃ args, xs.map ρ = args ∧ (callFunc f args.toArray).run P w = .ok (.enter f args.toArray) w ∧
      Calls P f args.toArray w fun e w' => ∃ v, e = .returned v ∧ PJ B w0 X F H (0 + 1) (updv vs 0 v) w' := by
  intro ρ vs w _ hJ hag
  refine ⟨args, ha ρ w hag, hrun w, (hc w hJ).mono ?_⟩
  rintro e w' ⟨a, rfl, s⟩
  refine ⟨F 0 a, rfl, a, fun k hk => ?_, s⟩
  obtain rfl : k = 0 := by have hk : k < 1 := hk; omega
  simp [updv]
/-- The first: an operation that is no call. -/
theorem PJ.firstOp (h : ∀ ρ w, Agree ops a0.tmps.size σ o ρ w → St B w0 w X → ∃ a w', (execOp ρ o).run P w = .ok (.value (F 0 a)) w' ∧ St B w0 w' (H 0 a)) :
    ∀ ρ vs w, (∀ k' d', k' < 0 → ds[k']? = some d' → ρ (.tmp d') = vs k') → PJ B w0 X F H 0 vs w → Agree ops a0.tmps.size σ o ρ w → ∃ v w', (execOp ρ o).run P w = .ok (.value v) w' ∧ PJ B w0 X F H (0 + 1) (updv vs 0 v) w' := by
  intro ρ vs w _ hJ hag
  obtain ⟨a, w', h1, h2⟩ := h ρ w hag hJ
  refine ⟨F 0 a, w', h1, a, fun k hk => ?_, h2⟩
  obtain rfl : k = 0 := by have hk : k < 1 := hk; omega
  simp [updv]
/-- A later one, no call. -/
theorem PJ.eff {k : Nat} (h : ∀ ρ a w, (∀ k' d', k' < k + 1 → ds[k']? = some d' → ρ (.tmp d') = F k' a) → Agree ops a0.tmps.size σ o ρ w → St B w0 w (H k a) →
      ∃ a' w', (execOp ρ o).run P w = .ok (.value (F (k + 1) a')) w' ∧ (∀ k', k' < k + 1 → F k' a' = F k' a) ∧ St B w0 w' (H (k + 1) a')) :
    ∀ ρ vs w, (∀ k' d', k' < k + 1 → ds[k']? = some d' → ρ (.tmp d') = vs k') → PJ B w0 X F H (k + 1) vs w → Agree ops a0.tmps.size σ o ρ w → ∃ v w', (execOp ρ o).run P w = .ok (.value v) w' ∧ PJ B w0 X F H (k + 1 + 1) (updv vs (k + 1) v) w' := by
  rintro ρ vs w hv ⟨a, hvs, s⟩ hag
  obtain ⟨a', w', h1, h2, h3⟩ := h ρ a w (fun k' d' hk hd => (hv k' d' hk hd).trans (hvs k' hk)) hag s
  refine ⟨_, w', h1, a', fun k' hk' => ?_, h3⟩
  by_cases e : k' = k + 1
  · subst e; simp [updv]
  · simp only [updv, if_neg e]
    rw [hvs k' (by omega), h2 k' (by omega)]
/-- A later one that only reads. -/
theorem PJ.pass {k : Nat} (hH : H (k + 1) = H k) (h : ∀ ρ a w, (∀ k' d', k' < k + 1 → ds[k']? = some d' → ρ (.tmp d') = F k' a) → Agree ops a0.tmps.size σ o ρ w → St B w0 w (H k a) → (execOp ρ o).run P w = .ok (.value (F (k + 1) a)) w) :
    ∀ ρ vs w, (∀ k' d', k' < k + 1 → ds[k']? = some d' → ρ (.tmp d') = vs k') → PJ B w0 X F H (k + 1) vs w → Agree ops a0.tmps.size σ o ρ w → ∃ v w', (execOp ρ o).run P w = .ok (.value v) w' ∧ PJ B w0 X F H (k + 1 + 1) (updv vs (k + 1) v) w' :=
  PJ.eff fun ρ a w h1 h2 h3 => ⟨a, w, h ρ a w h1 h2 h3, fun _ _ => rfl, by rw [hH]; exact h3⟩
/-- A later call. -/
theorem PJ.call {k : Nat} {f : FuncId} {xs : List Operand} (args : α → List Value) (ha : ∀ ρ a w, (∀ k' d', k' < k + 1 → ds[k']? = some d' → ρ (.tmp d') = F k' a) → Agree ops a0.tmps.size σ o ρ w → xs.map ρ = args a) (hrun : ∀ a w, (callFunc f (args a).toArray).run P w = .ok (.enter f (args a).toArray) w)
    (hc : ∀ a w, St B w0 w (H k a) → Calls P f (args a).toArray w fun e w' => ∃ a', e = .returned (F (k + 1) a') ∧ (∀ k', k' < k + 1 → F k' a' = F k' a) ∧ St B w0 w' (H (k + 1) a')) :
    ∀ ρ vs w, (∀ k' d', k' < k + 1 → ds[k']? = some d' → ρ (.tmp d') = vs k') → PJ B w0 X F H (k + 1) vs w → Agree ops a0.tmps.size σ o ρ w → ∃ args, xs.map ρ = args ∧ (callFunc f args.toArray).run P w = .ok (.enter f args.toArray) w ∧
      Calls P f args.toArray w fun e w' => ∃ v, e = .returned v ∧ PJ B w0 X F H (k + 1 + 1) (updv vs (k + 1) v) w' := by
  rintro ρ vs w hv ⟨a, hvs, s⟩ hag
  refine ⟨args a, ha ρ a w (fun k' d' hk hd => (hv k' d' hk hd).trans (hvs k' hk)) hag, hrun a w, (hc a w s).mono ?_⟩
  rintro e w' ⟨a', rfl, h2, h3⟩
  refine ⟨_, rfl, a', fun k' hk' => ?_, h3⟩
  by_cases e : k' = k + 1
  · subst e; simp [updv]
  · simp only [updv, if_neg e]
    rw [hvs k' (by omega), h2 k' (by omega)]
theorem PJ.val {k : Nat} {v : Value} (h : JV (PJ B w0 X F H) k v) : ∃ a, v = F k a := by
  obtain ⟨vs, w, ⟨a, hv, _⟩, rfl⟩ := h
  exact ⟨a, hv k (Nat.lt_succ_self k)⟩
theorem PJ.keep {j : Nat} {vs : Nat → Value} {w w' : World} (h : PJ B w0 X F H j vs w) (hb : Below w.heap.size w w') : PJ B w0 X F H j vs w' := by
  match j, h with
  | 0, h => exact St.keep h hb
  | j + 1, ⟨a, h1, h2⟩ => exact ⟨a, h1, h2.keep hb⟩
theorem PJ.callK {j : Nat} {vs : Nat → Value} {w : World} {f : FuncId} {args : Array Value} {v : Value} (h : PJ B w0 X F H j vs w) (hc : Calls P f args w fun e w' => e = .returned v ∧ Below w.heap.size w w') : Calls P f args w fun e w' => e = .returned v ∧ PJ B w0 X F H j vs w' :=
  hc.mono fun _ _ ⟨h1, h2⟩ => ⟨h1, h.keep h2⟩
/-- An operation that only reads, behind the k-th effect. -/
theorem RXl.valueA {I : Nat → (Nat → Value) → World → Prop} (k e : Nat) (hke : effs[k]? = some e) (hb : ((Region.before ops).getD i 0).testBit e = true) (v : Value) (hi : ops[i]? = some o) (hf : inFrame ops a0.tmps.size o = true) (hw : wantS ops σ o = true) (hne : effs.contains i = false)
    (hrun : ∀ ρ w j, k < j → j ≤ effs.length → I j (fun t => ρ (.tmp t)) w → Agree ops a0.tmps.size σ o ρ w → (execOp ρ o).run P w = .ok (.value v) w)
    (h : RXl P ops Q a0 I effs E rest (i + 1) (upd σ o.dst (.ex v))) : RXl P ops Q a0 I effs E (o :: rest) i σ := by
  refine ⟨.ex v, Free.ex v, fun a w j ha hI _ _ hh => ?_, h⟩
  have hni : i ∉ effs := by simpa using hne
  unfold wpOp
  simp only [hi, want_of hw hf hh, if_true]
  refine .inl ?_
  have hr := hrun a.eval w j ((ha.2.1 k e hke).1 hb) ha.1 hI (agree_eval hh)
  unfold Oper.wp
  rw [hr]
  exact ⟨v, rfl, rfl, fun hc => absurd hc hni, fun _ => hI⟩
/-- The same, where the values are told by one hidden thing. -/
theorem PJ.after {k : Nat} {v : Value} (h : ∀ ρ a w j, k ≤ j → (∀ k' d', k' < j + 1 → ds[k']? = some d' → ρ (.tmp d') = F k' a) → Agree ops a0.tmps.size σ o ρ w → St B w0 w (H j a) → (execOp ρ o).run P w = .ok (.value v) w) :
    ∀ ρ w j, k < j → j ≤ effs.length → IJ ds (PJ B w0 X F H) j (fun t => ρ (.tmp t)) w → Agree ops a0.tmps.size σ o ρ w → (execOp ρ o).run P w = .ok (.value v) w := by
  rintro ρ w j hkj _ ⟨vs, hv, hJ⟩ hag
  match j, hkj, hv, hJ with
  | j + 1, hkj, hv, ⟨a, ha, s⟩ => exact h ρ a w j (by omega) (fun k' d' hk hd => (hv k' d' hk hd).symm.trans (ha k' hk)) hag s
/-- What holds at every time of the world alone. -/
theorem PJ.any {Y : HP → Prop} (hX : Y X) (hH : ∀ j a, Y (H j a)) {j : Nat} {vs : Nat → Value} {w : World} (h : PJ B w0 X F H j vs w) : ∃ Z, Y Z ∧ St B w0 w Z := by
  match j, h with
  | 0, h => exact ⟨X, hX, h⟩
  | j + 1, ⟨a, _, h⟩ => exact ⟨_, hH j a, h⟩
end
theorem exec_move {P : Program} {ρ : Operand → Value} {o : Oper} {w : World} {x : Operand} (hop : o.op = .move x) : (execOp ρ o).run P w = .ok (.value (ρ x)) w := by simp [execOp, hop]
theorem exec_assign {P : Program} {ρ : Operand → Value} {o : Oper} {w : World} {x : Operand} (hop : o.op = .assign x) : (execOp ρ o).run P w = .ok (.value (ρ x)) w := by simp [execOp, hop]
theorem exec_extract {P : Program} {ρ : Operand → Value} {o : Oper} {w : World} {x : Operand} {k : Nat} {vs : Array Value} {v : Value} (hop : o.op = .extract x k) (hx : ρ x = .tuple vs) (hv : vs[k]? = some v) : (execOp ρ o).run P w = .ok (.value v) w := by
  have hk : k < vs.size := (Array.getElem?_eq_some_iff.1 hv).1
  have e : vs[k] = v := (Array.getElem?_eq_some_iff.1 hv).2
  simp [execOp, hop, hx, go_sem, hk, e]
end Go.Proofs.Ytjnfhppjkadlpaa.Reg
