/- The code laws' Shards: a, b = append(a, s), append(b, Shard{..}): two chains of effects, the second one's literal in no order to the first. No condition. -/
import Derived.Test.YtjnfhppjkadlpaaCdU
import Derived.Test.YtjnfhppjkadlpaaRez
set_option linter.unusedSimpArgs false
set_option linter.unusedVariables false
namespace Go.Proofs.Ytjnfhppjkadlpaa.Shd
open Go Go.RowKit Go.Proofs.Ytjnfhppjkadlpaa Go.Proofs.Ytjnfhppjkadlpaa.Sp Go.Proofs.Ytjnfhppjkadlpaa.Reg Go.Proofs.Ytjnfhppjkadlpaa.Rd Go.Proofs.Ytjnfhppjkadlpaa.Obr
theorem tSh : SlT Try.prog 63 116 2 24 (.agg #[.string ⟨#[]⟩, .bool false]) := ⟨Try.underlying63, info_parts (by kernel_rfl), rfl, by decide⟩
/-- Where it stands: which of the effects are done, and what is in their slots. -/
def SI (B : Nat) (w0 : World) (Z : HP) (A : Value) (i : Nat) (hs : List Value) (u : Value) (Bv : Value) (cs lit : List Value) (d2 d3 d11 d12 d13 d14 : Bool) (t42 t43 t51 t52 t6 t7 : Value) (w : World) : Prop :=
  ∃ g1 g2 : Nat, (d2 = true → t42 = .slice (some ⟨g1, 0, none⟩) 1 1) ∧ (d11 = true → t51 = .slice (some ⟨g2, 0, none⟩) 1 1) ∧ (d13 = true → d3 = true ∧ t6 = t43) ∧ (d14 = true → d12 = true ∧ t7 = t52) ∧
    St B w0 w ((if d3 = true then row 32 1 t43 (i + 1) (hs ++ [u]) else row 32 1 A i hs * (if d2 = true then pts g1 (.cells [u].toArray 32) else emp)) *
      ((if d12 = true then row 116 2 t52 (i + 1) (cs ++ lit) else row 116 2 Bv i cs * (if d11 = true then pts g2 (.cells lit.toArray 116) else emp)) * Z))
section
variable {B : Nat} {w0 w : World} {Z : HP} {A : Value} {i : Nat} {hs : List Value} {u Bv : Value} {cs lit : List Value}
section
variable {d2 d3 d11 d12 d13 d14 : Bool} {t42 t43 t51 t52 t6 t7 : Value}
theorem SI.s2 (h : SI B w0 Z A i hs u Bv cs lit d2 d3 d11 d12 d13 d14 t42 t43 t51 t52 t6 t7 w) (h2 : d2 = false) (h3 : d3 = false) :
    SI B w0 Z A i hs u Bv cs lit true d3 d11 d12 d13 d14 (.slice (some ⟨w.heap.size, 0, none⟩) 1 1) t43 t51 t52 t6 t7 (w.alloc (.cells [u].toArray 32)) := by
  obtain ⟨g1, g2, q1, q2, q3, q4, s⟩ := h
  subst h2 h3
  simp only [Bool.false_eq_true, if_false, sep_emp] at s
  refine ⟨w.heap.size, g2, fun _ => rfl, q2, q3, q4, ?_⟩
  simp only [Bool.false_eq_true, if_false, if_true]
  exact (s.alloc _).eq (by ac_rfl)
theorem SI.s3 (ty : TypeId) (hi : i ≤ 1000) (hu : u.oneCell' = true) (h : SI B w0 Z A i hs u Bv cs lit d2 d3 d11 d12 d13 d14 t42 t43 t51 t52 t6 t7 w) (h2 : d2 = true) (h3 : d3 = false) (h13 : d13 = false) :
    ∃ v w', (Builtin.append_ #[38, 38] ty #[A, t42]).run Try.prog w = .ok v w' ∧ SI B w0 Z A i hs u Bv cs lit d2 true d11 d12 d13 d14 t42 v t51 t52 t6 t7 w' := by
  obtain ⟨g1, g2, q1, q2, q3, q4, s⟩ := h
  subst h2 h3 h13
  simp only [Bool.false_eq_true, if_false, if_true] at s
  have s1 := s.eq (Q := row 32 1 A i hs * (pts g1 (.cells [u].toArray 32) * ((if d12 = true then row 116 2 t52 (i + 1) (cs ++ lit) else row 116 2 Bv i cs * (if d11 = true then pts g2 (.cells lit.toArray 116) else emp)) * Z))) (by ac_rfl)
  have hr : Rd w (some ⟨g1, 0, none⟩) [u] := by simpa using s1.right.rd 0 1
  obtain ⟨v, w', hrun, r1, -⟩ := run_append_st (P := Try.prog) tBB ty s1 (some ⟨g1, 0, none⟩) 1 1 [u] hr (fun e => by cases e) rfl (fun x hx => by cases List.mem_singleton.1 hx; exact hu) (by unfold maxLen; omega) (by omega)
  refine ⟨v, w', by rw [q1 rfl]; exact hrun, g1, g2, q1, q2, fun e => (by cases e), q4, ?_⟩
  simp only [if_true]
  exact (r1.eq (Q := pts g1 (.cells [u].toArray 32) * (row 32 1 v (i + 1) (hs ++ [u]) * ((if d12 = true then row 116 2 t52 (i + 1) (cs ++ lit) else row 116 2 Bv i cs * (if d11 = true then pts g2 (.cells lit.toArray 116) else emp)) * Z))) (by ac_rfl)).right
theorem SI.s11 (h : SI B w0 Z A i hs u Bv cs lit d2 d3 d11 d12 d13 d14 t42 t43 t51 t52 t6 t7 w) (h11 : d11 = false) (h12 : d12 = false) :
    SI B w0 Z A i hs u Bv cs lit d2 d3 true d12 d13 d14 t42 t43 (.slice (some ⟨w.heap.size, 0, none⟩) 1 1) t52 t6 t7 (w.alloc (.cells lit.toArray 116)) := by
  obtain ⟨g1, g2, q1, q2, q3, q4, s⟩ := h
  subst h11 h12
  simp only [Bool.false_eq_true, if_false, sep_emp] at s
  refine ⟨g1, w.heap.size, q1, fun _ => rfl, q3, q4, ?_⟩
  simp only [Bool.false_eq_true, if_false, if_true]
  exact (s.alloc _).eq (by ac_rfl)
theorem SI.s12 (ty : TypeId) (hi : i ≤ 1000) (hll : lit.length = 2) (hlo : ∀ x ∈ lit, x.oneCell' = true) (h : SI B w0 Z A i hs u Bv cs lit d2 d3 d11 d12 d13 d14 t42 t43 t51 t52 t6 t7 w) (h11 : d11 = true) (h12 : d12 = false) (h14 : d14 = false) :
    ∃ v w', (Builtin.append_ #[63, 63] ty #[Bv, t51]).run Try.prog w = .ok v w' ∧ SI B w0 Z A i hs u Bv cs lit d2 d3 d11 true d13 d14 t42 t43 t51 v t6 t7 w' := by
  obtain ⟨g1, g2, q1, q2, q3, q4, s⟩ := h
  subst h11 h12 h14
  simp only [Bool.false_eq_true, if_false, if_true] at s
  have s1 := s.eq (Q := row 116 2 Bv i cs * (pts g2 (.cells lit.toArray 116) * ((if d3 = true then row 32 1 t43 (i + 1) (hs ++ [u]) else row 32 1 A i hs * (if d2 = true then pts g1 (.cells [u].toArray 32) else emp)) * Z))) (by ac_rfl)
  have hr : Rd w (some ⟨g2, 0, none⟩) lit := by
    have := s1.right.rd 0 lit.length
    simpa using this
  obtain ⟨v, w', hrun, r1, -⟩ := run_append_st (P := Try.prog) tSh ty s1 (some ⟨g2, 0, none⟩) 1 1 lit hr (fun e => by cases e) (by rw [hll]) hlo (by unfold maxLen; omega) (by omega)
  refine ⟨v, w', by rw [q2 rfl]; exact hrun, g1, g2, q1, q2, q3, fun e => (by cases e), ?_⟩
  simp only [if_true]
  exact (r1.eq (Q := pts g2 (.cells lit.toArray 116) * ((if d3 = true then row 32 1 t43 (i + 1) (hs ++ [u]) else row 32 1 A i hs * (if d2 = true then pts g1 (.cells [u].toArray 32) else emp)) * (row 116 2 v (i + 1) (cs ++ lit) * Z))) (by ac_rfl)).right
theorem SI.s13 (h : SI B w0 Z A i hs u Bv cs lit d2 d3 d11 d12 d13 d14 t42 t43 t51 t52 t6 t7 w) (h3 : d3 = true) : SI B w0 Z A i hs u Bv cs lit d2 d3 d11 d12 true d14 t42 t43 t51 t52 t43 t7 w := by
  obtain ⟨g1, g2, q1, q2, q3, q4, s⟩ := h
  exact ⟨g1, g2, q1, q2, fun _ => ⟨h3, rfl⟩, q4, s⟩
theorem SI.s14 (h : SI B w0 Z A i hs u Bv cs lit d2 d3 d11 d12 d13 d14 t42 t43 t51 t52 t6 t7 w) (h12 : d12 = true) : SI B w0 Z A i hs u Bv cs lit d2 d3 d11 d12 d13 true t42 t43 t51 t52 t6 t52 w := by
  obtain ⟨g1, g2, q1, q2, q3, q4, s⟩ := h
  exact ⟨g1, g2, q1, q2, q3, fun _ => ⟨h12, rfl⟩, s⟩
theorem SI.z (h : SI B w0 Z A i hs u Bv cs lit d2 d3 d11 d12 d13 d14 t42 t43 t51 t52 t6 t7 w) : ∃ H, St B w0 w (H * Z) := by
  obtain ⟨g1, g2, q1, q2, q3, q4, s⟩ := h
  exact ⟨_, s.eq (sep_assoc _ _ _).symm⟩
theorem SI.fin (h : SI B w0 Z A i hs u Bv cs lit true true true true true true t42 t43 t51 t52 t6 t7 w) : St B w0 w (row 32 1 t6 (i + 1) (hs ++ [u]) * (row 116 2 t7 (i + 1) (cs ++ lit) * Z)) := by
  obtain ⟨g1, g2, q1, q2, q3, q4, s⟩ := h
  simp only [if_true] at s
  rw [(q3 rfl).2, (q4 rfl).2]
  exact s
end
/-- Over the region's own counts. -/
def SID (B : Nat) (w0 : World) (Z : HP) (A : Value) (i : Nat) (hs : List Value) (u : Value) (Bv : Value) (cs lit : List Value) (D : Nat → Bool) (τ : Nat → Value) (w : World) : Prop :=
  SI B w0 Z A i hs u Bv cs lit (D 2) (D 3) (D 11) (D 12) (D 13) (D 14) (τ 42) (τ 43) (τ 51) (τ 52) (τ 6) (τ 7) w
theorem SID.start {τ : Nat → Value} (h : St B w0 w (row 32 1 A i hs * (row 116 2 Bv i cs * Z))) : SID B w0 Z A i hs u Bv cs lit (fun _ => false) τ w := by
  refine ⟨0, 0, fun e => (by cases e), fun e => (by cases e), fun e => (by cases e), fun e => (by cases e), ?_⟩
  simp only [Bool.false_eq_true, if_false, sep_emp]
  exact h
theorem SID.loc {ops : Array Oper} (k2 : (ops[2]?).bind (·.dst) = some 42) (k3 : (ops[3]?).bind (·.dst) = some 43) (k11 : (ops[11]?).bind (·.dst) = some 51) (k12 : (ops[12]?).bind (·.dst) = some 52) (k13 : (ops[13]?).bind (·.dst) = some 6) (k14 : (ops[14]?).bind (·.dst) = some 7)
    (D D' : Nat → Bool) (τ τ' : Nat → Value) (w : World) (hD : ∀ e ∈ [2, 3, 11, 12, 13, 14], D e = D' e) (hτ : ∀ e ∈ [2, 3, 11, 12, 13, 14], D e = true → ∀ t, (ops[e]?).bind (·.dst) = some t → τ t = τ' t) (h : SID B w0 Z A i hs u Bv cs lit D τ w) : SID B w0 Z A i hs u Bv cs lit D' τ' w := by
  obtain ⟨g1, g2, q1, q2, q3, q4, s⟩ := h
  have e2 := hD 2 (by simp)
  have e3 := hD 3 (by simp)
  have e11 := hD 11 (by simp)
  have e12 := hD 12 (by simp)
  have e13 := hD 13 (by simp)
  have e14 := hD 14 (by simp)
  refine ⟨g1, g2, fun e => ?_, fun e => ?_, fun e => ?_, fun e => ?_, s.eq ?_⟩
  · rw [← e2] at e; rw [← hτ 2 (by simp) e 42 k2]; exact q1 e
  · rw [← e11] at e; rw [← hτ 11 (by simp) e 51 k11]; exact q2 e
  · rw [← e13] at e; have q := q3 e; rw [← hτ 13 (by simp) e 6 k13, ← hτ 3 (by simp) q.1 43 k3, ← e3]; exact q
  · rw [← e14] at e; have q := q4 e; rw [← hτ 14 (by simp) e 7 k14, ← hτ 12 (by simp) q.1 52 k12, ← e12]; exact q
  · rw [← e2, ← e3, ← e11, ← e12]
    congr 1
    · by_cases c : D 3 = true
      · rw [if_pos c, if_pos c, hτ 3 (by simp) c 43 k3]
      · rw [if_neg c, if_neg c]
    · congr 1
      by_cases c : D 12 = true
      · rw [if_pos c, if_pos c, hτ 12 (by simp) c 52 k12]
      · rw [if_neg c, if_neg c]
/-! One effect more. -/
section
variable {D : Nat → Bool} {a : Act} {v : Value}
theorem SID.put2 (hsz : 42 < a.tmps.size) (h : SI B w0 Z A i hs u Bv cs lit true (D 3) (D 11) (D 12) (D 13) (D 14) v (slotsOf a 43) (slotsOf a 51) (slotsOf a 52) (slotsOf a 6) (slotsOf a 7) w) : SID B w0 Z A i hs u Bv cs lit (dset D 2) (slotsOf (a.put (some 42) v)) w := by
  unfold SID
  rw [slotsOf_at _ _ _ hsz, slotsOf_put _ _ _ 43 (by decide), slotsOf_put _ _ _ 51 (by decide), slotsOf_put _ _ _ 52 (by decide), slotsOf_put _ _ _ 6 (by decide), slotsOf_put _ _ _ 7 (by decide)]
  exact h
theorem SID.put3 (hsz : 43 < a.tmps.size) (h : SI B w0 Z A i hs u Bv cs lit (D 2) true (D 11) (D 12) (D 13) (D 14) (slotsOf a 42) v (slotsOf a 51) (slotsOf a 52) (slotsOf a 6) (slotsOf a 7) w) : SID B w0 Z A i hs u Bv cs lit (dset D 3) (slotsOf (a.put (some 43) v)) w := by
  unfold SID
  rw [slotsOf_at _ _ _ hsz, slotsOf_put _ _ _ 42 (by decide), slotsOf_put _ _ _ 51 (by decide), slotsOf_put _ _ _ 52 (by decide), slotsOf_put _ _ _ 6 (by decide), slotsOf_put _ _ _ 7 (by decide)]
  exact h
theorem SID.put11 (hsz : 51 < a.tmps.size) (h : SI B w0 Z A i hs u Bv cs lit (D 2) (D 3) true (D 12) (D 13) (D 14) (slotsOf a 42) (slotsOf a 43) v (slotsOf a 52) (slotsOf a 6) (slotsOf a 7) w) : SID B w0 Z A i hs u Bv cs lit (dset D 11) (slotsOf (a.put (some 51) v)) w := by
  unfold SID
  rw [slotsOf_at _ _ _ hsz, slotsOf_put _ _ _ 42 (by decide), slotsOf_put _ _ _ 43 (by decide), slotsOf_put _ _ _ 52 (by decide), slotsOf_put _ _ _ 6 (by decide), slotsOf_put _ _ _ 7 (by decide)]
  exact h
theorem SID.put12 (hsz : 52 < a.tmps.size) (h : SI B w0 Z A i hs u Bv cs lit (D 2) (D 3) (D 11) true (D 13) (D 14) (slotsOf a 42) (slotsOf a 43) (slotsOf a 51) v (slotsOf a 6) (slotsOf a 7) w) : SID B w0 Z A i hs u Bv cs lit (dset D 12) (slotsOf (a.put (some 52) v)) w := by
  unfold SID
  rw [slotsOf_at _ _ _ hsz, slotsOf_put _ _ _ 42 (by decide), slotsOf_put _ _ _ 43 (by decide), slotsOf_put _ _ _ 51 (by decide), slotsOf_put _ _ _ 6 (by decide), slotsOf_put _ _ _ 7 (by decide)]
  exact h
theorem SID.put13 (hsz : 6 < a.tmps.size) (h : SI B w0 Z A i hs u Bv cs lit (D 2) (D 3) (D 11) (D 12) true (D 14) (slotsOf a 42) (slotsOf a 43) (slotsOf a 51) (slotsOf a 52) v (slotsOf a 7) w) : SID B w0 Z A i hs u Bv cs lit (dset D 13) (slotsOf (a.put (some 6) v)) w := by
  unfold SID
  rw [slotsOf_at _ _ _ hsz, slotsOf_put _ _ _ 42 (by decide), slotsOf_put _ _ _ 43 (by decide), slotsOf_put _ _ _ 51 (by decide), slotsOf_put _ _ _ 52 (by decide), slotsOf_put _ _ _ 7 (by decide)]
  exact h
theorem SID.put14 (hsz : 7 < a.tmps.size) (h : SI B w0 Z A i hs u Bv cs lit (D 2) (D 3) (D 11) (D 12) (D 13) true (slotsOf a 42) (slotsOf a 43) (slotsOf a 51) (slotsOf a 52) (slotsOf a 6) v w) : SID B w0 Z A i hs u Bv cs lit (dset D 14) (slotsOf (a.put (some 7) v)) w := by
  unfold SID
  rw [slotsOf_at _ _ _ hsz, slotsOf_put _ _ _ 42 (by decide), slotsOf_put _ _ _ 43 (by decide), slotsOf_put _ _ _ 51 (by decide), slotsOf_put _ _ _ 52 (by decide), slotsOf_put _ _ _ 6 (by decide)]
  exact h
end
end
end Go.Proofs.Ytjnfhppjkadlpaa.Shd
