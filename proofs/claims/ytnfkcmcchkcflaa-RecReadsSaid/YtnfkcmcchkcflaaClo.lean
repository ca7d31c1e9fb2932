/- Calls of closures inside regions that draw their order. Program-free; no condition. -/
import Derived.Test.YtnfkcmcchkcflaaRey
import Derived.Test.YtnfkcmcchkcflaaRez
namespace Go.Proofs.Ytnfkcmcchkcflaa.Reg
open Go Go.RowKit Go.Proofs.Ytnfkcmcchkcflaa.Sp
section
variable {P : Program} {ops : Array Oper} {Q : Exit → Act → World → Prop} {a0 : Act} {effs : List Nat} {E : Sig → Prop} {σ : Sig} {o : Oper} {rest : List Oper} {i : Nat}
/-- A call, however it is named, that turns memory, its value known. -/
theorem RXl.callp {J : Nat → World → Prop} (k : Nat) (v : Value) (f : FuncId) (args : Array Value) (hn : notSel o = true)
    (hi : ops[i]? = some o) (hk : known ops a0.tmps.size σ o = true) (hw : wantS ops σ o = true) (hke : effs[k]? = some i)
    (hrun : ∀ w, (execOp (rho σ) o).run P w = .ok (.enter f args) w)
    (hc : ∀ w, J k w → Calls P f args w fun e w' => e = .returned v ∧ J (k + 1) w')
    (h : RXl P ops Q a0 (fun j _ w => J j w) effs E rest (i + 1) (upd σ o.dst (.ex v))) : RXl P ops Q a0 (fun j _ w => J j w) effs E (o :: rest) i σ := by
  refine ⟨.ex v, Free.ex v, fun a w j hal hI _ hsz hh => ?_, h⟩
  obtain rfl := hal.2.2 k hke
  have him : i ∈ effs := List.mem_of_getElem? hke
  unfold wpOp
  simp only [hi, want_of hw (inFrame_of_known hk) hh, if_true]
  refine .inl ?_
  unfold Oper.wp
  rw [eval_rho hk hh (notSel_spec hn), hrun w]
  refine Calls.mono (hc w hI) fun e w' he => ?_
  obtain ⟨rfl, h2⟩ := he
  exact ⟨v, rfl, rfl, fun _ => h2, fun hc => absurd him hc⟩
variable {ds : List Nat} {J : Nat → (Nat → Value) → World → Prop}
/-- A call, however it is named, that turns memory, its value told by J. -/
theorem RXl.callVp (k d : Nat) (hd : o.dst = some d) (hkd : ds[k]? = some d) (hin : (ds.take k).contains d = false) (hlt : d < a0.tmps.size)
    (hi : ops[i]? = some o) (hf : inFrame ops a0.tmps.size o = true) (hw : wantS ops σ o = true) (hke : effs[k]? = some i)
    (hc : ∀ ρ vs w, (∀ k' d', k' < k → ds[k']? = some d' → ρ (.tmp d') = vs k') → J k vs w → Agree ops a0.tmps.size σ o ρ w → ∃ f args, (execOp ρ o).run P w = .ok (.enter f args) w ∧
      Calls P f args w fun e w' => ∃ v, e = .returned v ∧ J (k + 1) (updv vs k v) w')
    (h : RXl P ops Q a0 (IJ ds J) effs E rest (i + 1) (upd σ o.dst (.so fun v _ => JV J k v))) : RXl P ops Q a0 (IJ ds J) effs E (o :: rest) i σ := by
  refine ⟨.so fun v _ => JV J k v, Free.so _, fun a w j hal hI _ hsz hh => ?_, h⟩
  obtain rfl := hal.2.2 k hke
  have him : i ∈ effs := List.mem_of_getElem? hke
  unfold wpOp
  simp only [hi, want_of hw hf hh, if_true]
  refine .inl ?_
  obtain ⟨vs, hvs, hJ⟩ := hI
  obtain ⟨f, args, hr, hcl⟩ := hc a.eval vs w (fun k' d' hk' hd' => (hvs k' d' hk' hd').symm) hJ (agree_eval hh)
  unfold Oper.wp
  rw [hr]
  refine Calls.mono hcl fun e w' he => ?_
  obtain ⟨v, rfl, h1⟩ := he
  exact ⟨v, rfl, ⟨_, w', h1, by simp [updv]⟩, fun _ => by rw [hd]; exact IJ.step hkd hin (by rw [hsz]; exact hlt) hvs h1, fun hc => absurd him hc⟩
end
section
variable {P : Program} {ops : Array Oper} {Q : Exit → Act → World → Prop} {a0 : Act} {effs : List Nat} {E : Sig → Prop} {σ : Sig} {o : Oper} {rest : List Oper} {i : Nat} {K : (Nat → Bool) → World → Prop}
/-- A call, however it is named, in a region whose effects are in no fixed order; its value is known. -/
theorem RZl.callz (v : Value) (f : FuncId) (args : Array Value) (hn : notSel o = true)
    (hi : ops[i]? = some o) (hk : known ops a0.tmps.size σ o = true) (hw : wantS ops σ o = true) (hke : effs.contains i = true)
    (hrun : ∀ w, (execOp (rho σ) o).run P w = .ok (.enter f args) w)
    (hc : ∀ w D, AllowedZ ops effs i D → K D w → Calls P f args w fun e w' => e = .returned v ∧ K (dset D i) w')
    (h : RZl P ops Q a0 (fun D _ w => K D w) effs E rest (i + 1) (upd σ o.dst (.ex v))) : RZl P ops Q a0 (fun D _ w => K D w) effs E (o :: rest) i σ := by
  have him : i ∈ effs := by simpa using hke
  refine ⟨.ex v, Free.ex v, fun a w D hal hI _ hsz hh => ?_, h⟩
  unfold wpOp
  simp only [hi, want_of hw (inFrame_of_known hk) hh, if_true]
  refine .inl ?_
  unfold Oper.wp
  rw [eval_rho hk hh (notSel_spec hn), hrun w]
  refine Calls.mono (hc w D hal hI) fun e w' he => ?_
  obtain ⟨rfl, h2⟩ := he
  exact ⟨v, rfl, rfl, fun _ => h2, fun hc => absurd him hc⟩
/-- An operation that turns memory and gives a known value. -/
theorem RZl.effz (v : Value) (hn : notSel o = true) (hi : ops[i]? = some o) (hk : known ops a0.tmps.size σ o = true) (hw : wantS ops σ o = true) (hke : effs.contains i = true)
    (hrun : ∀ w D, AllowedZ ops effs i D → K D w → ∃ w', (execOp (rho σ) o).run P w = .ok (.value v) w' ∧ K (dset D i) w')
    (h : RZl P ops Q a0 (fun D _ w => K D w) effs E rest (i + 1) (upd σ o.dst (.ex v))) : RZl P ops Q a0 (fun D _ w => K D w) effs E (o :: rest) i σ := by
  have him : i ∈ effs := by simpa using hke
  refine ⟨.ex v, Free.ex v, fun a w D hal hI _ hsz hh => ?_, h⟩
  unfold wpOp
  simp only [hi, want_of hw (inFrame_of_known hk) hh, if_true]
  refine .inl ?_
  obtain ⟨w', hr, h2⟩ := hrun w D hal hI
  unfold Oper.wp
  rw [eval_rho hk hh (notSel_spec hn), hr]
  exact ⟨v, rfl, rfl, fun _ => h2, fun hc => absurd him hc⟩
/-- A store. -/
theorem RZl.stoz (hn : notSel o = true) (hi : ops[i]? = some o) (hk : known ops a0.tmps.size σ o = true) (hw : wantS ops σ o = true) (hke : effs.contains i = true) (hd : o.dst = none)
    (hrun : ∀ w D, AllowedZ ops effs i D → K D w → ∃ w', (execOp (rho σ) o).run P w = .ok .skip w' ∧ K (dset D i) w')
    (h : RZl P ops Q a0 (fun D _ w => K D w) effs E rest (i + 1) σ) : RZl P ops Q a0 (fun D _ w => K D w) effs E (o :: rest) i σ := by
  have him : i ∈ effs := by simpa using hke
  have e : upd σ o.dst (.so fun _ _ => True) = σ := by funext t; simp [upd, hd]
  refine ⟨.so fun _ _ => True, Free.so _, fun a w D hal hI _ hsz hh => ?_, by rw [e]; exact h⟩
  unfold wpOp
  simp only [hi, want_of hw (inFrame_of_known hk) hh, if_true]
  refine .inl ?_
  obtain ⟨w', hr, h2⟩ := hrun w D hal hI
  unfold Oper.wp
  rw [eval_rho hk hh (notSel_spec hn), hr]
  exact ⟨undef, rfl, trivial, fun _ => h2, fun hc => absurd him hc⟩
theorem RZl.nilz (A : Act) (hA : Agr a0 σ A) (h : ∀ w, K (fun _ => true) w → Q .normal A w) : RZl P ops Q a0 (fun D _ w => K D w) effs (EndZ Q a0 fun D _ w => K D w) [] i σ := by
  refine RZl.nil fun a w hI hdf hs hh => ?_
  obtain ⟨h1, h2, h3⟩ := hA
  have e : a = A := by
    obtain ⟨tm, df⟩ := a
    obtain ⟨tA, dA⟩ := A
    have e1 : df = dA := hdf.trans h1.symm
    have e2 : tm = tA := by
      apply Array.ext (hs.trans h2.symm)
      intro t g1 g2
      have ht : t < a0.tmps.size := by rw [← hs]; exact g1
      have q := hh t ht
      rw [h3 t ht] at q
      have q2 : tm.getD t undef = tA.getD t undef := q
      simpa [Array.getD, g1, g2] using q2
    rw [e1, e2]
  rw [e]
  exact h w hI
theorem AllowedZ.done {D : Nat → Bool} (h : AllowedZ ops effs i D) (e : Nat) (he : effs.contains e = true) (hb : ((Region.before ops).getD i 0).testBit e = true) : D e = true := (h e (by simpa using he)).1 hb
theorem AllowedZ.not {D : Nat → Bool} (h : AllowedZ ops effs i D) (e : Nat) (he : effs.contains e = true) (hb : ((Region.before ops).getD e 0).testBit i = true) : D e = false := (h e (by simpa using he)).2 (.inl hb)
theorem AllowedZ.self {D : Nat → Bool} (h : AllowedZ ops effs i D) (he : effs.contains i = true) : D i = false := (h i (by simpa using he)).2 (.inr rfl)
end
end Go.Proofs.Ytnfkcmcchkcflaa.Reg
