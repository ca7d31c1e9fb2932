/- The document's records: RecOf. No condition. -/
import Derived.Test.YtnfkcmcchkcflaaRcD6
import Derived.Test.YtnfkcmcchkcflaaRcW7
import Derived.Test.YtnfkcmcchkcflaaRcD4
import Derived.Deep.DeepCutAuto
import Derived.Deep.CutRange
import Derived.Deep.MidRow
set_option linter.unusedSimpArgs false
set_option linter.unusedVariables false
namespace Go.Proofs.Ytnfkcmcchkcflaa.RcD
open Go Go.RowKit Go.Proofs.Ytnfkcmcchkcflaa Go.Proofs.Ytnfkcmcchkcflaa.Sp Go.Proofs.Ytnfkcmcchkcflaa.Reg Go.Proofs.Ytnfkcmcchkcflaa.RcM Go.Proofs.Ytnfkcmcchkcflaa.SlW Go.Proofs.Ytnfkcmcchkcflaa.RcW Go.Proofs.Ytnfkcmcchkcflaa.Rd
section
variable {B : Nat} {w0 : World}
/-- The record under way beside its rows. -/
def XP (po : Nat) (r : Rc) (sv lv : Value) : HP := pts po (.cells (rcA r sv lv) 27 (0, 0)) * (row 3 1 sv r.sids.length (ivs r.sids) * row 31 3 lv r.locs.length (r.locs.flatMap lcC))
section
variable {p po : Nat} {s : List UInt8 × Bool} {r : Rc} {sv lv : Value} {Y : HP} {w : World}
theorem XP.front (h : St B w0 w (rr p s * (XP po r sv lv * Y))) : St B w0 w (pts po (.cells (rcA r sv lv) 27 (0, 0)) * (rr p s * ((row 3 1 sv r.sids.length (ivs r.sids) * row 31 3 lv r.locs.length (r.locs.flatMap lcC)) * Y))) := h.eq (by unfold XP; ac_rfl)
theorem XP.back (h : St B w0 w (pts po (.cells (rcA r sv lv) 27 (0, 0)) * (rr p s * ((row 3 1 sv r.sids.length (ivs r.sids) * row 31 3 lv r.locs.length (r.locs.flatMap lcC)) * Y)))) : St B w0 w (rr p s * (XP po r sv lv * Y)) := h.eq (by unfold XP; ac_rfl)
theorem XP.key (h : St B w0 w (rr p s * (XP po r sv lv * Y))) (k : List UInt8) : St B w0 (w.setCell ⟨po, 1, none⟩ (str k)) (rr p s * (XP po { r with key := k } sv lv * Y)) := XP.back (r := { r with key := k }) ((XP.front h).set 1 (str k))
theorem XP.n (h : St B w0 w (rr p s * (XP po r sv lv * Y))) (k : Int) : St B w0 (w.setCell ⟨po, 2, none⟩ (.int .i64 k)) (rr p s * (XP po { r with n := k } sv lv * Y)) := XP.back (r := { r with n := k }) ((XP.front h).set 2 (.int .i64 k))
theorem XP.sid (h : St B w0 w (rr p s * (XP po r sv lv * Y))) (k : Int) : St B w0 (w.setCell ⟨po, 3, none⟩ (.int .i64 k)) (rr p s * (XP po { r with sid := k } sv lv * Y)) := XP.back (r := { r with sid := k }) ((XP.front h).set 3 (.int .i64 k))
theorem XP.col (h : St B w0 w (rr p s * (XP po r sv lv * Y))) (k : Int) : St B w0 (w.setCell ⟨po, 5, none⟩ (.int .i64 k)) (rr p s * (XP po { r with colour := k } sv lv * Y)) := XP.back (r := { r with colour := k }) ((XP.front h).set 5 (.int .i64 k))
theorem XP.there {b : Nat} {X : HP} (h : St B w0 w (pts b (.cells (rcA r sv lv) 27 (0, 0)) * X)) : w.there b 7 6 := fun j hj => by
  rw [h.cell, h.free]
  refine ⟨?_, rfl⟩
  obtain rfl | rfl | rfl | rfl | rfl | rfl : j = 0 ∨ j = 1 ∨ j = 2 ∨ j = 3 ∨ j = 4 ∨ j = 5 := by omega
  all_goals rfl
theorem XP.tab (h : St B w0 w (rr p s * (XP po r sv lv * Y))) (a b c d e f : Int) : St B w0 (w.setCells po 7 [.int .i64 a, .int .i64 b, .int .i64 c, .int .i64 d, .int .i64 e, .int .i64 f]) (rr p s * (XP po { r with tab := ⟨a, b, c, d, e, f⟩ } sv lv * Y)) :=
  XP.back (r := { r with tab := ⟨a, b, c, d, e, f⟩ }) (((((((XP.front h).set 7 (.int .i64 a)).set 8 (.int .i64 b)).set 9 (.int .i64 c)).set 10 (.int .i64 d)).set 11 (.int .i64 e)).set 12 (.int .i64 f))
end
section
variable {p po : Nat} {s s' : List UInt8 × Bool} {r : Rc} {sv lv : Value} {y : Int} {Y : HP}
/-- Where r.Sids = append(r.Sids, p.num(4)) stands. -/
def SJ (B : Nat) (w0 : World) (p po : Nat) (s : List UInt8 × Bool) (r : Rc) (sv lv : Value) (Y : HP) (j : Nat) (vs : Nat → Value) (w : World) : Prop := match j with
  | 0 => St B w0 w (rr p s * (pts po (.cells (rcA r sv lv) 27 (0, 0)) * (row 3 1 sv r.sids.length (ivs r.sids) * Y)))
  | 1 => vs 0 = .int .i64 (gNum dtk 4 s).1 ∧ St B w0 w (rr p (gNum dtk 4 s).2 * (pts po (.cells (rcA r sv lv) 27 (0, 0)) * (row 3 1 sv r.sids.length (ivs r.sids) * Y)))
  | 2 => ∃ g, vs 1 = .slice (some ⟨g, 0, none⟩) 1 1 ∧ St B w0 w (pts g (.cells #[.int .i64 (gNum dtk 4 s).1] 3 (0, 0)) * (rr p (gNum dtk 4 s).2 * (pts po (.cells (rcA r sv lv) 27 (0, 0)) * (row 3 1 sv r.sids.length (ivs r.sids) * Y))))
  | 3 => ∃ sv', vs 2 = sv' ∧ sv'.oneCell' = true ∧ St B w0 w (rr p (gNum dtk 4 s).2 * (pts po (.cells (rcA r sv lv) 27 (0, 0)) * (row 3 1 sv' (r.sids.length + 1) (ivs r.sids ++ [.int .i64 (gNum dtk 4 s).1]) * Y)))
  | _ => ∃ sv', St B w0 w (rr p (gNum dtk 4 s).2 * (pts po (.cells (rcA r sv' lv) 27 (0, 0)) * (row 3 1 sv' (r.sids.length + 1) (ivs r.sids ++ [.int .i64 (gNum dtk 4 s).1]) * Y)))
theorem SJ.rec : ∀ {j : Nat} {vs : Nat → Value} {w : World}, j < 4 → SJ B w0 p po s r sv lv Y j vs w → ∃ Z, St B w0 w (pts po (.cells (rcA r sv lv) 27 (0, 0)) * Z)
  | 0, _, _, _, h => ⟨_, St.eq (sep_left_comm _ _ _) h⟩
  | 1, _, _, _, ⟨_, h⟩ => ⟨_, h.eq (sep_left_comm _ _ _)⟩
  | 2, _, _, _, ⟨_, _, h⟩ => ⟨_, h.eq (by rw [← sep_assoc, sep_left_comm])⟩
  | 3, _, _, _, ⟨_, _, _, h⟩ => ⟨_, h.eq (sep_left_comm _ _ _)⟩
  | j + 4, _, _, hj, _ => absurd hj (by omega)
theorem SJ.num {ρ : Operand → Value} {vs : Nat → Value} {w : World} {q z : Operand} (hq : ρ q = .pointer (some ⟨p, 0, none⟩)) (hz : ρ z = .int .i64 4) (hJ : SJ B w0 p po s r sv lv Y 0 vs w) :
    ∃ args, [q, z].map ρ = args ∧ (callFunc 42 args.toArray).run Try.prog w = .ok (.enter 42 args.toArray) w ∧ Calls Try.prog 42 args.toArray w fun e w' => ∃ v, e = .returned v ∧ SJ B w0 p po s r sv lv Y 1 (updv vs 0 v) w' := by
  refine ⟨[.pointer (some ⟨p, 0, none⟩), .int .i64 4], by simp [hq, hz], rfl, (rnum_calls p 4 (by omega) s _ w hJ).mono ?_⟩
  rintro e w' ⟨rfl, h⟩
  exact ⟨_, rfl, by simp [updv], h⟩
theorem SJ.lit {ρ : Operand → Value} {o : Oper} {vs : Nat → Value} {w : World} {q : Operand} (hop : o.op = .buildSlice 22 1 #[(0, q)]) (hq : ρ q = vs 0) (hJ : SJ B w0 p po s r sv lv Y 1 vs w) :
    ∃ v w', (execOp ρ o).run Try.prog w = .ok (.value v) w' ∧ SJ B w0 p po s r sv lv Y 2 (updv vs 1 v) w' := by
  obtain ⟨e, h⟩ := hJ
  refine ⟨.slice (some ⟨w.heap.size, 0, none⟩) 1 1, w.alloc (.cells #[.int .i64 (gNum dtk 4 s).1] 3), ?_, w.heap.size, by simp [updv], h.alloc _⟩
  simp [execOp, hop, hq, e, go_sem]
theorem SJ.app {ρ : Operand → Value} {o : Oper} {vs : Nat → Value} {w : World} {q q2 : Operand} (hop : o.op = .call { callee := .builtin .append, args := #[q, q2], argTypes := #[22, 22] })
    (hx : ρ q = sv) (hy : ρ q2 = vs 1) (hl : r.sids.length ≤ 1000) (hJ : SJ B w0 p po s r sv lv Y 2 vs w) :
    ∃ v w', (execOp ρ o).run Try.prog w = .ok (.value v) w' ∧ SJ B w0 p po s r sv lv Y 3 (updv vs 2 v) w' := by
  obtain ⟨g, e, h⟩ := hJ
  have hrd : Rd w (some ⟨g, 0, none⟩) [.int .i64 (gNum dtk 4 s).1] := h.rd 0 1
  have s1 := h.eq (Q := row 3 1 sv r.sids.length (ivs r.sids) * (pts g (.cells #[.int .i64 (gNum dtk 4 s).1] 3 (0, 0)) * (rr p (gNum dtk 4 s).2 * (pts po (.cells (rcA r sv lv) 27 (0, 0)) * Y)))) (by ac_rfl)
  obtain ⟨v', w', hr, s2, -⟩ := run_append_st (P := Try.prog) tI o.type s1 (some ⟨g, 0, none⟩) 1 1 [.int .i64 (gNum dtk 4 s).1] hrd (fun e => by cases e) rfl (by intro u hu; simp at hu; subst hu; rfl) (by unfold maxLen; omega) (by omega)
  have h1 : v'.oneCell' = true := by
    obtain ⟨a, c, rfl, -⟩ := s2.rowSlice
    rfl
  refine ⟨v', w', ?_, v', by simp [updv], h1, (s2.eq (Q := pts g (.cells #[.int .i64 (gNum dtk 4 s).1] 3 (0, 0)) * (rr p (gNum dtk 4 s).2 * (pts po (.cells (rcA r sv lv) 27 (0, 0)) * (row 3 1 v' (r.sids.length + 1) (ivs r.sids ++ [.int .i64 (gNum dtk 4 s).1]) * Y)))) (by ac_rfl)).right⟩
  simp [execOp, hop, resolve, invoke, builtin, hx, hy, e, hr, Result.andThen]
theorem SJ.sto {ρ : Operand → Value} {o : Oper} {vs : Nat → Value} {w : World} {q q2 : Operand} (hop : o.op = .store 22 q q2) (hx : ρ q = .pointer (some ⟨po, 4, none⟩)) (hy : ρ q2 = vs 2) (hJ : SJ B w0 p po s r sv lv Y 3 vs w) :
    ∃ w', (execOp ρ o).run Try.prog w = .ok .skip w' ∧ SJ B w0 p po s r sv lv Y 4 vs w' := by
  obtain ⟨sv', e, h1, h⟩ := hJ
  have h2 := h.eq (sep_left_comm _ _ _)
  exact ⟨_, exec_store hop hx (hy.trans e) h1 (by kernel_rfl) (h2.cell 4) (h2.free 4), sv', (h2.set 4 sv').eq (sep_left_comm _ _ _)⟩
/-- Where r.Locs = append(r.Locs, api.Loc{d, k, p.num(4)}) stands. -/
def LK (B : Nat) (w0 : World) (p po : Nat) (s : List UInt8 × Bool) (r : Rc) (sv lv : Value) (d k : Int) (Y : HP) (j : Nat) (vs : Nat → Value) (w : World) : Prop := match j with
  | 0 => St B w0 w (rr p s * (pts po (.cells (rcA r sv lv) 27 (0, 0)) * (row 31 3 lv r.locs.length (r.locs.flatMap lcC) * Y)))
  | 1 => vs 0 = .int .i64 (gNum dtk 4 s).1 ∧ St B w0 w (rr p (gNum dtk 4 s).2 * (pts po (.cells (rcA r sv lv) 27 (0, 0)) * (row 31 3 lv r.locs.length (r.locs.flatMap lcC) * Y)))
  | 2 => vs 1 = .agg #[.int .i64 d, .int .i64 k, .int .i64 (gNum dtk 4 s).1] ∧ St B w0 w (rr p (gNum dtk 4 s).2 * (pts po (.cells (rcA r sv lv) 27 (0, 0)) * (row 31 3 lv r.locs.length (r.locs.flatMap lcC) * Y)))
  | 3 => ∃ g, vs 2 = .slice (some ⟨g, 0, none⟩) 1 1 ∧ St B w0 w (pts g (.cells #[.int .i64 d, .int .i64 k, .int .i64 (gNum dtk 4 s).1] 31 (0, 0)) * (rr p (gNum dtk 4 s).2 * (pts po (.cells (rcA r sv lv) 27 (0, 0)) * (row 31 3 lv r.locs.length (r.locs.flatMap lcC) * Y))))
  | 4 => ∃ lv', vs 3 = lv' ∧ lv'.oneCell' = true ∧ St B w0 w (rr p (gNum dtk 4 s).2 * (pts po (.cells (rcA r sv lv) 27 (0, 0)) * (row 31 3 lv' (r.locs.length + 1) (r.locs.flatMap lcC ++ lcC ⟨d, k, (gNum dtk 4 s).1⟩) * Y)))
  | _ => ∃ lv', St B w0 w (rr p (gNum dtk 4 s).2 * (pts po (.cells (rcA r sv lv') 27 (0, 0)) * (row 31 3 lv' (r.locs.length + 1) (r.locs.flatMap lcC ++ lcC ⟨d, k, (gNum dtk 4 s).1⟩) * Y)))
variable {d k : Int}
theorem LK.rec : ∀ {j : Nat} {vs : Nat → Value} {w : World}, j < 5 → LK B w0 p po s r sv lv d k Y j vs w → ∃ Z, St B w0 w (pts po (.cells (rcA r sv lv) 27 (0, 0)) * Z)
  | 0, _, _, _, h => ⟨_, St.eq (sep_left_comm _ _ _) h⟩
  | 1, _, _, _, ⟨_, h⟩ => ⟨_, h.eq (sep_left_comm _ _ _)⟩
  | 2, _, _, _, ⟨_, h⟩ => ⟨_, h.eq (sep_left_comm _ _ _)⟩
  | 3, _, _, _, ⟨_, _, h⟩ => ⟨_, h.eq (by rw [← sep_assoc, sep_left_comm])⟩
  | 4, _, _, _, ⟨_, _, _, h⟩ => ⟨_, h.eq (sep_left_comm _ _ _)⟩
  | j + 5, _, _, hj, _ => absurd hj (by omega)
theorem LK.num {ρ : Operand → Value} {vs : Nat → Value} {w : World} {q z : Operand} (hq : ρ q = .pointer (some ⟨p, 0, none⟩)) (hz : ρ z = .int .i64 4) (hJ : LK B w0 p po s r sv lv d k Y 0 vs w) :
    ∃ args, [q, z].map ρ = args ∧ (callFunc 42 args.toArray).run Try.prog w = .ok (.enter 42 args.toArray) w ∧ Calls Try.prog 42 args.toArray w fun e w' => ∃ v, e = .returned v ∧ LK B w0 p po s r sv lv d k Y 1 (updv vs 0 v) w' := by
  refine ⟨[.pointer (some ⟨p, 0, none⟩), .int .i64 4], by simp [hq, hz], rfl, (rnum_calls p 4 (by omega) s _ w hJ).mono ?_⟩
  rintro e w' ⟨rfl, h⟩
  exact ⟨_, rfl, by simp [updv], h⟩
theorem LK.mk {ρ : Operand → Value} {o : Oper} {vs : Nat → Value} {w : World} {q1 q2 q3 : Operand} (hop : o.op = .build 31 #[(0, q1), (1, q2), (2, q3)]) (h1 : ρ q1 = .int .i64 d) (h2 : ρ q2 = .int .i64 k) (h3 : ρ q3 = vs 0) (hJ : LK B w0 p po s r sv lv d k Y 1 vs w) :
    ∃ v w', (execOp ρ o).run Try.prog w = .ok (.value v) w' ∧ LK B w0 p po s r sv lv d k Y 2 (updv vs 1 v) w' := by
  obtain ⟨e, h⟩ := hJ
  refine ⟨.agg #[.int .i64 d, .int .i64 k, .int .i64 (gNum dtk 4 s).1], w, ?_, by simp [updv], h⟩
  simp [execOp, hop, h1, h2, h3, e, go_sem]
theorem LK.lit {ρ : Operand → Value} {o : Oper} {vs : Nat → Value} {w : World} {q : Operand} (hop : o.op = .buildSlice 23 1 #[(0, q)]) (hq : ρ q = vs 1) (hJ : LK B w0 p po s r sv lv d k Y 2 vs w) :
    ∃ v w', (execOp ρ o).run Try.prog w = .ok (.value v) w' ∧ LK B w0 p po s r sv lv d k Y 3 (updv vs 2 v) w' := by
  obtain ⟨e, h⟩ := hJ
  refine ⟨.slice (some ⟨w.heap.size, 0, none⟩) 1 1, w.alloc (.cells #[.int .i64 d, .int .i64 k, .int .i64 (gNum dtk 4 s).1] 31), ?_, w.heap.size, by simp [updv], h.alloc _⟩
  simp [execOp, hop, hq, e, go_sem]
theorem LK.app {ρ : Operand → Value} {o : Oper} {vs : Nat → Value} {w : World} {q q2 : Operand} (hop : o.op = .call { callee := .builtin .append, args := #[q, q2], argTypes := #[23, 23] })
    (hx : ρ q = lv) (hy : ρ q2 = vs 2) (hl : r.locs.length ≤ 1000) (hJ : LK B w0 p po s r sv lv d k Y 3 vs w) :
    ∃ v w', (execOp ρ o).run Try.prog w = .ok (.value v) w' ∧ LK B w0 p po s r sv lv d k Y 4 (updv vs 3 v) w' := by
  obtain ⟨g, e, h⟩ := hJ
  have hrd : Rd w (some ⟨g, 0, none⟩) (lcC ⟨d, k, (gNum dtk 4 s).1⟩) := h.rd 0 3
  have s1 := h.eq (Q := row 31 3 lv r.locs.length (r.locs.flatMap lcC) * (pts g (.cells #[.int .i64 d, .int .i64 k, .int .i64 (gNum dtk 4 s).1] 31 (0, 0)) * (rr p (gNum dtk 4 s).2 * (pts po (.cells (rcA r sv lv) 27 (0, 0)) * Y)))) (by ac_rfl)
  obtain ⟨v', w', hr, s2, -⟩ := run_append_st (P := Try.prog) tL o.type s1 (some ⟨g, 0, none⟩) 1 1 (lcC ⟨d, k, (gNum dtk 4 s).1⟩) hrd (fun e => by cases e) rfl (by intro u hu; simp [lcC] at hu; rcases hu with rfl | rfl | rfl <;> rfl) (by unfold maxLen; omega) (by omega)
  have h1 : v'.oneCell' = true := by
    obtain ⟨a, c, rfl, -⟩ := s2.rowSlice
    rfl
  refine ⟨v', w', ?_, v', by simp [updv], h1, (s2.eq (Q := pts g (.cells #[.int .i64 d, .int .i64 k, .int .i64 (gNum dtk 4 s).1] 31 (0, 0)) * (rr p (gNum dtk 4 s).2 * (pts po (.cells (rcA r sv lv) 27 (0, 0)) * (row 31 3 v' (r.locs.length + 1) (r.locs.flatMap lcC ++ lcC ⟨d, k, (gNum dtk 4 s).1⟩) * Y)))) (by ac_rfl)).right⟩
  simp [execOp, hop, resolve, invoke, builtin, hx, hy, e, hr, Result.andThen]
theorem LK.sto {ρ : Operand → Value} {o : Oper} {vs : Nat → Value} {w : World} {q q2 : Operand} (hop : o.op = .store 23 q q2) (hx : ρ q = .pointer (some ⟨po, 6, none⟩)) (hy : ρ q2 = vs 3) (hJ : LK B w0 p po s r sv lv d k Y 4 vs w) :
    ∃ w', (execOp ρ o).run Try.prog w = .ok .skip w' ∧ LK B w0 p po s r sv lv d k Y 5 vs w' := by
  obtain ⟨lv', e, h1, h⟩ := hJ
  have h2 := h.eq (sep_left_comm _ _ _)
  exact ⟨_, exec_store hop hx (hy.trans e) h1 (by kernel_rfl) (h2.cell 6) (h2.free 6), lv', (h2.set 6 lv').eq (sep_left_comm _ _ _)⟩
end
/-- Where RecOf stands: its reader, its record, the names, the result. -/
def DO (B : Nat) (w0 : World) (p po : Nat) (x : Sh) (pn : Nat) (s : List UInt8 × Bool) (r : Rc) (X : HP) (w : World) : Prop := ∃ sv lv, St B w0 w (rr p s * (XP po r sv lv * (pts pn (.cells (nmA x) 61 (0, 0)) * X)))
theorem DO.names {p po pn : Nat} {x : Sh} {s : List UInt8 × Bool} {r : Rc} {sv lv : Value} {X : HP} {w : World} (h : St B w0 w (rr p s * (XP po r sv lv * (pts pn (.cells (nmA x) 61 (0, 0)) * X)))) (i : Nat) : w.cell? ⟨pn, i, none⟩ = (nmA x)[i]? := (h.right.right).cell i
theorem DO.weak {p po pn g : Nat} {o : Obj} {x : Sh} {s : List UInt8 × Bool} {r : Rc} {X : HP} {w : World} (h : DO B w0 p po x pn s r (pts g o * X) w) : DO B w0 p po x pn s r X w := by
  obtain ⟨sv, lv, h⟩ := h
  exact ⟨sv, lv, (h.eq (Q := pts g o * (rr p s * (XP po r sv lv * (pts pn (.cells (nmA x) 61 (0, 0)) * X)))) (by ac_rfl)).right⟩
theorem DO.drop {p po pn g : Nat} {o : Obj} {x : Sh} {s : List UInt8 × Bool} {r : Rc} {sv lv : Value} {X : HP} {w : World} (h : St B w0 w (rr p s * (XP po r sv lv * (pts pn (.cells (nmA x) 61 (0, 0)) * (pts g o * X))))) : St B w0 w (rr p s * (XP po r sv lv * (pts pn (.cells (nmA x) 61 (0, 0)) * X))) :=
  (h.eq (Q := pts g o * (rr p s * (XP po r sv lv * (pts pn (.cells (nmA x) 61 (0, 0)) * X)))) (by ac_rfl)).right
theorem one_natd (s : List UInt8 × Bool) : ∃ k : Nat, k ≤ 255 ∧ (gNum dtk 1 s).1 = k := by
  have hl := dtk_len 1 s
  obtain ⟨c, hc⟩ : ∃ c, (dtk 1 s).1 = [c] := by
    match h : (dtk 1 s).1, hl with
    | [c], _ => exact ⟨c, rfl⟩
  exact ⟨c.toNat, by have := c.toNat_lt; omega, by simp [gNum, hc, pNum]⟩
theorem set_tab (TT : List Int) (j : Nat) (y : Int) (hj : j < 6) (hL : TT.length = j) : (ivs (TT ++ List.replicate (6 - j) 0)).toArray.setIfInBounds j (.int .i64 y) = (ivs (TT ++ [y] ++ List.replicate (6 - (j + 1)) 0)).toArray := by
  rw [List.setIfInBounds_toArray]
  congr 1
  unfold ivs
  rw [show (Value.int .i64 y) = (fun n : Int => Value.int .i64 n) y from rfl, ← List.map_set]
  congr 1
  rw [List.set_append_right _ _ (by omega), hL, Nat.sub_self]
  rw [show 6 - j = (6 - (j + 1)) + 1 by omega, List.replicate_succ]
  simp
set_option maxRecDepth 100000 in
set_option maxHeartbeats 16000000 in
theorem recof_calls (R : HP) (l : List UInt8) (hlen : l.length ≤ 1000000) (w : World) (s : St B w0 w R) : Calls Try.prog 15 #[str l] w (RetD B w0 R (rOf l)) := by
  have s1 := (s.alloc (.cells (rcA Rc.zero (.slice none 0 0) (.slice none 0 0)) 27)).alloc (.cells #[str l, .bool false] 79)
  rw [show (w.alloc (.cells (rcA Rc.zero (.slice none 0 0) (.slice none 0 0)) 27 (0, 0))).heap.size = w.heap.size + 1 by simp] at s1
  have q := rnum_calls (w.heap.size + 1) 1 (by omega) (l, false) _ _ s1
  have hpd : (gParse dtk (l, false)) = gRead dtk (shp (gNum dtk 1 (l, false)).1.toNat) (gNum dtk 1 (l, false)).1 (gNum dtk 1 (l, false)).2 := rfl
  obtain ⟨kn, hkn, hk0⟩ := one_natd (l, false)
  rw [hk0] at q hpd
  generalize (gNum dtk 1 (l, false)).2 = s0 at q hpd
  have Q := Lib.hid q
  have Hpd := Lib.hid hpd
  clear hpd
  clear s1 s q hk0
  have HD1 := Lib.hid (fun r (a : _) b c => doc_some (b := l) (r := r) a b c)
  have HD2 := Lib.hid (fun h => doc_none (b := l) h)
  unfold rcA at Q
  simp only [Rc.zero, Tb.zero] at Q
  go_enter Try.func15, Try.ntmps15
  go_wp2_with fail
  refine Q.out.mono ?_
  rintro e w1 ⟨rfl, h1⟩
  have h2 := h1.alloc (.cells #[.int .i64 (kn : Int), str [], .int .i64 0, .int .i64 0, .slice none 0 0, .int .i64 0, .slice none 0 0, .int .i64 0, .int .i64 0, .int .i64 0, .int .i64 0, .int .i64 0, .int .i64 0] 27)
  have c0 := h2.cell 0
  simp at c0
  have H2 := Lib.hid h2
  clear h1 h2 Q
  generalize w.heap.size = p2 at *
  go_wp2_with fail
  refine (rin_calls _ _ _ _).mono ?_
  rintro e w3 ⟨rfl, a3⟩
  have h3 := H2.out.keep a3
  have c0' := h3.cell 0
  simp at c0'
  have H3 := Lib.hid h3
  clear a3 h3 H2 c0
  generalize hpo : w1.heap.size = po at *
  clear hpo
  cases h0 : inn (kn : Int) 1 8
  · have HN := Lib.hid (show rOf l = none from HD2.out (fun h => by
      rw [Hpd.out] at h
      have g := ((good_iff _).1 h.1)
      have g0 := g.k0
      have g1 := g.k1
      rw [inn_no] at h0
      have : (gRead dtk (shp (kn : Int).toNat) (kn : Int) s0).1.kind = kn := rfl
      omega))
    have SZ := Lib.hid (H3.out.eq (Q := pts p2 (.cells #[.int .i64 0, str [], .int .i64 0, .int .i64 0, .slice none 0 0, .int .i64 0, .slice none 0 0, .int .i64 0, .int .i64 0, .int .i64 0, .int .i64 0, .int .i64 0, .int .i64 0] 27 (0, 0)) * ((rr (p2 + 1) s0 * pts po (.cells #[.int .i64 (kn : Int), str [], .int .i64 0, .int .i64 0, .slice none 0 0, .int .i64 0, .slice none 0 0, .int .i64 0, .int .i64 0, .int .i64 0, .int .i64 0, .int .i64 0, .int .i64 0] 27 (0, 0))) * R)) (by ac_rfl))
    clear H3
    go_upto_region 4 with fail
    refine wp_region_lit ?_
    refine Great.wpList_readTo rfl _ rfl (.agg (rcA Rc.zero (.slice none 0 0) (.slice none 0 0))) (by kernel_rfl) ?_
    refine wpList_store_row rfl 27 (.tmp 2) (.tmp 25) rfl p2 (rcA Rc.zero (.slice none 0 0) (.slice none 0 0)) (by kernel_rfl) (by kernel_rfl) 27 _ SZ.out.block (by kernel_rfl) (by kernel_rfl) (by kernel_rfl) ?_
    refine Great.wpList_readTo rfl _ rfl (.bool false) (by kernel_rfl) (wpList_nil ?_)
    have SF := Lib.hid (SZ.out.setRow (rcA Rc.zero (.slice none 0 0) (.slice none 0 0)))
    go_wp2_with fail
    refine back2 rfl rfl rfl SF.out.block rfl ?_
    rw [HN.out]
    exact retD_none SF.out.right
  · have g0 := (inn_iff.1 h0).1
    have g8 := (inn_iff.1 h0).2
    have k1 : 1 ≤ kn := by omega
    have k8 : kn ≤ 8 := by omega
    have hgr : gParse dtk (l, false) = gRead dtk (shp kn) (kn : Int) s0 := by rw [Hpd.out, Int.toNat_natCast]
    have hqs := fun w => rsids_calls kn k1 k8 w
    have hxl := shp_l2 kn
    have hxs : (shp kn).sids ≤ 1 := by
      obtain rfl | rfl | rfl | rfl | rfl | rfl | rfl | rfl : kn = 1 ∨ kn = 2 ∨ kn = 3 ∨ kn = 4 ∨ kn = 5 ∨ kn = 6 ∨ kn = 7 ∨ kn = 8 := by omega
      all_goals simp [shp]
    have Hqs := Lib.hid hqs
    have Hgr := Lib.hid hgr
    clear hgr
    clear g0 g8 h0 hqs Hpd
    go_wp2_with fail
    refine (rnames_calls kn k1 k8 _).mono ?_
    rintro e w4 ⟨rfl, a4⟩
    have h4 := (H3.out.keep a4).alloc (.cells (nmA (shp kn)) 61)
    have hcut : DO B w0 (p2 + 1) po (shp kn) w4.heap.size s0 { Rc.zero with kind := kn } (pts p2 (.cells #[.int .i64 0, str [], .int .i64 0, .int .i64 0, .slice none 0 0, .int .i64 0, .slice none 0 0, .int .i64 0, .int .i64 0, .int .i64 0, .int .i64 0, .int .i64 0, .int .i64 0] 27 (0, 0)) * R) (w4.alloc (.cells (nmA (shp kn)) 61)) := by
      have h5 := (h4.rowNil 31 3).rowNil 3 1
      exact ⟨.slice none 0 0, .slice none 0 0, h5.eq (by unfold XP rcA; simp only [Rc.zero, Tb.zero, ivs, List.map_nil, List.flatMap_nil, List.length_nil]; ac_rfl)⟩
    clear a4 h4 H3 c0'
    generalize hX : pts p2 (.cells #[.int .i64 0, str [], .int .i64 0, .int .i64 0, .slice none 0 0, .int .i64 0, .slice none 0 0, .int .i64 0, .int .i64 0, .int .i64 0, .int .i64 0, .int .i64 0, .int .i64 0] 27 (0, 0)) * R = X at hcut
    have HX := Lib.hid hX
    clear hX
    unfold nmA at hcut ⊢
    generalize shp kn = x at *
    obtain ⟨sv, lv, hcut⟩ := hcut
    have HC := Lib.hid hcut
    have e0 := DO.names hcut 0
    have e1 := DO.names hcut 1
    have e2 := DO.names hcut 2
    have e3 := DO.names hcut 3
    have e4 := DO.names hcut 4
    unfold nmA at e0 e1 e2 e3 e4
    simp only [List.getElem?_toArray, List.getElem?_cons_zero, List.getElem?_cons_succ] at e0 e1 e2 e3 e4
    clear hcut
    go_upto_if 30 with fail
    go_cut [] from 15 to 35 (fun wx => DO B w0 (p2 + 1) po x w4.heap.size (gKey dtk x s0).2 { Rc.zero with kind := kn, key := (gKey dtk x s0).1 } X wx)
    case first =>
      generalize w4.alloc (.cells #[.bool x.key, .bool (decide (0 ≤ x.n)), .bool x.sid, .bool x.colour, .bool x.table] 61) = wA at *
      cases hk : x.key
      · have HW := Lib.hid (show gKey dtk x s0 = ([], s0) by unfold gKey; rw [if_neg (by simp [hk])])
        go_wp2_with fail
        go_meet
        rw [HW.out]
        exact ⟨sv, lv, HC.out⟩
      · obtain ⟨k, hk1, hk2⟩ := one_natd s0
        have HW := Lib.hid (show gKey dtk x s0 = dtk k (gNum dtk 1 s0).2 by unfold gKey; rw [if_pos hk, hk2, Int.toNat_natCast])
        have q := rnum_calls (p2 + 1) 1 (by omega) s0 _ _ HC.out
        rw [hk2] at q
        generalize (gNum dtk 1 s0).2 = d1 at q HW
        have Q := Lib.hid q
        clear q hk2
        go_wp2_with fail
        refine Q.out.mono ?_
        rintro e w5 ⟨rfl, h5⟩
        have Q3 := Lib.hid (rtake_calls (p2 + 1) k (by omega) d1 _ _ h5)
        clear h5 Q
        go_wp2_with fail
        refine Q3.out.mono ?_
        rintro e w6 ⟨rfl, h6⟩
        have c1 := (XP.front h6).cell 1
        have f1 := (XP.front h6).free 1
        unfold rcA at c1
        simp at c1
        have H6 := Lib.hid h6
        clear h6 Q3 e0 e1 e2 e3 e4
        go_wp2_with fail
        go_meet
        rw [HW.out]
        exact ⟨sv, lv, XP.key H6.out _⟩
    case rest =>
    generalize w4.heap.size = pn at *
    generalize p2 + 1 = p at *
    generalize hK1 : gKey dtk x s0 = P1 at hcut
    obtain ⟨k1, s1⟩ := P1
    have HK1 := Lib.hid hK1
    clear hK1
    simp only at hcut
    clear HC e0 e1 e2 e3 e4
    obtain ⟨wA, hwA⟩ : ∃ z, z = wc := ⟨_, rfl⟩
    subst hwA
    obtain ⟨sv, lv, hcut⟩ := hcut
    have HC := Lib.hid hcut
    have e0 := DO.names hcut 0
    have e1 := DO.names hcut 1
    have e2 := DO.names hcut 2
    have e3 := DO.names hcut 3
    have e4 := DO.names hcut 4
    unfold nmA at e0 e1 e2 e3 e4
    simp only [List.getElem?_toArray, List.getElem?_cons_zero, List.getElem?_cons_succ] at e0 e1 e2 e3 e4
    clear hcut
    go_upto_if 37 with fail
    go_cut [] from 15 to 40 (fun wx => DO B w0 p po x pn (gN dtk x s1).2 { Rc.zero with kind := kn, key := k1, n := (gN dtk x s1).1 } X wx)
    case first =>
      by_cases hk : 0 ≤ x.n
      · rw [decide_eq_true hk]
        have HW := Lib.hid (show gN dtk x s1 = gNum dtk 1 s1 by unfold gN; rw [if_pos hk])
        have Q := Lib.hid (rnum_calls p 1 (by omega) s1 _ _ HC.out)
        clear hk
        go_wp2_with fail
        refine Q.out.mono ?_
        rintro e w3 ⟨rfl, h3⟩
        have c1 := (XP.front h3).cell 2
        have f1 := (XP.front h3).free 2
        unfold rcA at c1
        simp at c1
        have H3 := Lib.hid h3
        clear h3 Q e0 e1 e2 e3 e4
        go_wp2_with fail
        go_meet
        rw [HW.out]
        exact ⟨sv, lv, XP.n H3.out _⟩
      · rw [decide_eq_false hk]
        have HW := Lib.hid (show gN dtk x s1 = (0, s1) by unfold gN; rw [if_neg (by simp [hk])])
        go_wp2_with fail
        go_meet
        rw [HW.out]
        exact ⟨sv, lv, HC.out⟩
    case rest =>
    generalize hK2 : gN dtk x s1 = P2 at hcut
    obtain ⟨k2, s2⟩ := P2
    have HK2 := Lib.hid hK2
    clear hK2
    simp only at hcut
    clear HC e0 e1 e2 e3 e4
    obtain ⟨wA, hwA⟩ : ∃ z, z = wc := ⟨_, rfl⟩
    subst hwA
    obtain ⟨sv, lv, hcut⟩ := hcut
    have HC := Lib.hid hcut
    have e0 := DO.names hcut 0
    have e1 := DO.names hcut 1
    have e2 := DO.names hcut 2
    have e3 := DO.names hcut 3
    have e4 := DO.names hcut 4
    unfold nmA at e0 e1 e2 e3 e4
    simp only [List.getElem?_toArray, List.getElem?_cons_zero, List.getElem?_cons_succ] at e0 e1 e2 e3 e4
    clear hcut
    go_upto_if 42 with fail
    go_cut [] from 15 to 45 (fun wx => DO B w0 p po x pn (gSid dtk x s2).2 { Rc.zero with kind := kn, key := k1, n := k2, sid := (gSid dtk x s2).1 } X wx)
    case first =>
      cases hk : x.sid
      · skip
        have HW := Lib.hid (show gSid dtk x s2 = (0, s2) by unfold gSid; rw [if_neg (by simp [hk])])
        go_wp2_with fail
        go_meet
        rw [HW.out]
        exact ⟨sv, lv, HC.out⟩
      · skip
        have HW := Lib.hid (show gSid dtk x s2 = gNum dtk 4 s2 by unfold gSid; rw [if_pos hk])
        have Q := Lib.hid (rnum_calls p 4 (by omega) s2 _ _ HC.out)
        clear hk
        go_wp2_with fail
        refine Q.out.mono ?_
        rintro e w3 ⟨rfl, h3⟩
        have c1 := (XP.front h3).cell 3
        have f1 := (XP.front h3).free 3
        unfold rcA at c1
        simp at c1
        have H3 := Lib.hid h3
        clear h3 Q e0 e1 e2 e3 e4
        go_wp2_with fail
        go_meet
        rw [HW.out]
        exact ⟨sv, lv, XP.sid H3.out _⟩
    case rest =>
    generalize hK3 : gSid dtk x s2 = P3 at hcut
    obtain ⟨k3, s3⟩ := P3
    have HK3 := Lib.hid hK3
    clear hK3
    simp only at hcut
    clear HC e0 e1 e2 e3 e4
    obtain ⟨wA, hwA⟩ : ∃ z, z = wc := ⟨_, rfl⟩
    subst hwA
    obtain ⟨sv, lv, hcut⟩ := hcut
    have HC := Lib.hid hcut
    have e0 := DO.names hcut 0
    have e1 := DO.names hcut 1
    have e2 := DO.names hcut 2
    have e3 := DO.names hcut 3
    have e4 := DO.names hcut 4
    unfold nmA at e0 e1 e2 e3 e4
    simp only [List.getElem?_toArray, List.getElem?_cons_zero, List.getElem?_cons_succ] at e0 e1 e2 e3 e4
    clear hcut
    go_upto_if 47 with fail
    go_cut [] from 15 to 50 (fun wx => DO B w0 p po x pn (gCol dtk x s3).2 { Rc.zero with kind := kn, key := k1, n := k2, sid := k3, colour := (gCol dtk x s3).1 } X wx)
    case first =>
      cases hk : x.colour
      · skip
        have HW := Lib.hid (show gCol dtk x s3 = (0, s3) by unfold gCol; rw [if_neg (by simp [hk])])
        go_wp2_with fail
        go_meet
        rw [HW.out]
        exact ⟨sv, lv, HC.out⟩
      · skip
        have HW := Lib.hid (show gCol dtk x s3 = gNum dtk 1 s3 by unfold gCol; rw [if_pos hk])
        have Q := Lib.hid (rnum_calls p 1 (by omega) s3 _ _ HC.out)
        clear hk
        go_wp2_with fail
        refine Q.out.mono ?_
        rintro e w3 ⟨rfl, h3⟩
        have c1 := (XP.front h3).cell 5
        have f1 := (XP.front h3).free 5
        unfold rcA at c1
        simp at c1
        have H3 := Lib.hid h3
        clear h3 Q e0 e1 e2 e3 e4
        go_wp2_with fail
        go_meet
        rw [HW.out]
        exact ⟨sv, lv, XP.col H3.out _⟩
    case rest =>
    generalize hK4 : gCol dtk x s3 = P4 at hcut
    obtain ⟨k4, s4⟩ := P4
    have HK4 := Lib.hid hK4
    clear hK4
    simp only at hcut
    clear HC e0 e1 e2 e3 e4
    obtain ⟨wA, hwA⟩ : ∃ z, z = wc := ⟨_, rfl⟩
    subst hwA
    obtain ⟨sv, lv, hcut⟩ := hcut
    have HC := Lib.hid hcut
    have e0 := DO.names hcut 0
    have e1 := DO.names hcut 1
    have e2 := DO.names hcut 2
    have e3 := DO.names hcut 3
    have e4 := DO.names hcut 4
    unfold nmA at e0 e1 e2 e3 e4
    simp only [List.getElem?_toArray, List.getElem?_cons_zero, List.getElem?_cons_succ] at e0 e1 e2 e3 e4
    clear hcut
    obtain ⟨m, hm3, hm, hgm⟩ : ∃ m : Nat, m ≤ 3 ∧ dSids x = m ∧ gSids dtk x s4 = gMany (gNum dtk 4) m s4 := by
      unfold dSids gSids
      split
      · exact ⟨3, by omega, rfl, rfl⟩
      · exact ⟨0, by omega, rfl, rfl⟩
    have hqs := Hqs.out
    rw [hm] at hqs
    have Hqs2 := Lib.hid hqs
    clear Hqs hqs hm
    have Hgm := Lib.hid hgm
    clear hgm
    have c0 := (XP.front HC.out).cell 0
    unfold rcA at c0
    simp at c0
    go_wp2_with fail
    refine (Hqs2.out _).mono ?_
    rintro e w5 ⟨rfl, a5⟩
    have H0 := Lib.hid (show DO B w0 p po x pn s4 { Rc.zero with kind := kn, key := k1, n := k2, sid := k3, colour := k4 } X w5 from ⟨sv, lv, HC.out.keep a5⟩)
    clear a5 HC e0 e1 e2 e3 e4 Hqs2 c0
    go_wp2_with fail
    go_loopw [9] (fun i wr => ∃ n : Nat, n ≤ m ∧ i = .int .i64 n ∧ DO B w0 p po x pn (gMany (gNum dtk 4) n s4).2 { Rc.zero with kind := kn, key := k1, n := k2, sid := k3, colour := k4, sids := (gMany (gNum dtk 4) n s4).1 } X wr) (fun i => fun _ => m - (intOf i).toNat)
    case atStart => exact ⟨0, Nat.zero_le _, rfl, H0.out⟩
    case round =>
      obtain ⟨n, hn, rfl, hcut⟩ := hrel
      clear H0
      have hLn := gMany_len (gNum dtk 4) s4 n
      by_cases hlt : n < m
      · have hltI : (n : Int) < (m : Int) := by omega
        have hgs : gMany (gNum dtk 4) (n + 1) s4 = ((gMany (gNum dtk 4) n s4).1 ++ [(gNum dtk 4 (gMany (gNum dtk 4) n s4).2).1], (gNum dtk 4 (gMany (gNum dtk 4) n s4).2).2) := rfl
        generalize gMany (gNum dtk 4) n s4 = M at hcut hLn hgs
        obtain ⟨SS, s'⟩ := M
        simp only at hcut hLn hgs
        obtain ⟨sv, lv, hcut⟩ := hcut
        have S6 := Lib.hid (show SJ B w0 p po s' { Rc.zero with kind := kn, key := k1, n := k2, sid := k3, colour := k4, sids := SS } sv lv (row 31 3 lv 0 [] * (pts pn (.cells (nmA x) 61 (0, 0)) * X)) 0 (fun _ => undef) wr from hcut.eq (by unfold XP; simp only [Rc.zero, List.length_nil, List.flatMap_nil]; ac_rfl))
        have hL : SS.length ≤ 1000 := by omega
        have HLn := Lib.hid hLn
        have Hgs := Lib.hid hgs
        clear hLn hgs
        clear hcut
        go_wp2_with fail
        refine wp_region_rv [65, 66, 67] (SJ B w0 p po s' { Rc.zero with kind := kn, key := k1, n := k2, sid := k3, colour := k4, sids := SS } sv lv (row 31 3 lv 0 [] * (pts pn (.cells (nmA x) 61 (0, 0)) * X))) [3, 4, 5, 7] mixed (by kernel_rfl) (by kernel_rfl) rfl (fun _ => St.drew S6.out) ?_
        refine RXl.exact (.pointer (some ⟨po, 4, none⟩)) rfl rfl rfl rfl rfl (fun j τ w' hj hJ => (by obtain ⟨vs, hv, hJ⟩ := hJ; exact (by simp [rho, upd, Spec.val, execOp, go_sem]))) ?_
        refine RXl.exactB 3 7 rfl (by kernel_rfl) (sv) rfl rfl rfl rfl rfl (fun j τ w' hj hJ => (by obtain ⟨vs, hv, hJ⟩ := hJ; exact (by obtain ⟨Z, z⟩ := SJ.rec (by omega) hJ; have c := z.cell 4; simp [rcA] at c; simp [rho, upd, Spec.val, execOp, go_sem, c]))) ?_
        refine RXl.exact (.pointer (some ⟨p, 0, none⟩)) rfl rfl rfl rfl rfl (fun _ _ _ _ _ => rfl) ?_
        refine RXl.callV 0 65 rfl rfl rfl (Nat.le_of_ble_eq_true rfl) _ [.tmp 64, .const (.int .i64 4)] _ rfl rfl rfl rfl rfl (fun ρ vs w hv hJ hag => SJ.num (hag.ex 64 _ rfl rfl rfl) (hag.2.1 _) hJ) ?_
        refine RXl.effV 1 66 rfl rfl rfl (Nat.le_of_ble_eq_true rfl) rfl rfl rfl rfl (fun ρ vs w hv hJ hag => SJ.lit rfl (hv 0 65 (by decide) rfl) hJ) ?_
        refine RXl.effV 2 67 rfl rfl rfl (Nat.le_of_ble_eq_true rfl) rfl rfl rfl rfl (fun ρ vs w hv hJ hag => SJ.app rfl (hag.ex 63 _ rfl rfl rfl) (hv 1 66 (by decide) rfl) hL hJ) ?_
        refine RXl.exact (.pointer (some ⟨po, 4, none⟩)) rfl rfl rfl rfl rfl (fun j τ w' hj hJ => (by obtain ⟨vs, hv, hJ⟩ := hJ; exact (by simp [rho, upd, Spec.val, execOp, go_sem]))) ?_
        refine RXl.effS 3 rfl rfl rfl rfl rfl rfl (fun ρ vs w hv hJ hag => SJ.sto rfl (hag.ex 68 _ rfl rfl rfl) (hv 2 67 (by decide) rfl) hJ) ?_
        refine RXl.nilV _ (AgrL.upd _ _ (AgrL.unk 67 _ rfl (AgrL.unk 66 _ rfl (AgrL.unk 65 _ rfl (AgrL.upd _ _ (AgrL.upd _ _ (AgrL.upd _ _ (AgrL.base _)))))))) (by decide) (by decide) fun vs w8 hJ => ?_
        simp only [puts, Act.put, List.setIfInBounds_toArray, List.set_cons_succ, List.set_cons_zero]
        obtain ⟨sv', s8⟩ := hJ
        have hgs := Hgs.out
        have HF := Lib.hid (show DO B w0 p po x pn (gMany (gNum dtk 4) (n + 1) s4).2 { Rc.zero with kind := kn, key := k1, n := k2, sid := k3, colour := k4, sids := (gMany (gNum dtk 4) (n + 1) s4).1 } X w8 from by
          rw [hgs]
          refine ⟨sv', lv, s8.eq ?_⟩
          unfold XP rcA
          simp only [List.length_append, List.length_singleton, ivs, List.map_append, List.map_cons, List.map_nil, Rc.zero, List.length_nil, List.flatMap_nil]
          ac_rfl)
        clear s8 hgs Hgs S6
        go_wp2_with fail
        go_roundw
        case rel => exact ⟨n + 1, by omega, by go_num, HF.out⟩
        case measure => simp [intOf]; omega
      · obtain rfl : n = m := by omega
        have hnl : ¬ (n : Int) < (n : Int) := by omega
        have HK5 := Lib.hid (show gSids dtk x s4 = ((gMany (gNum dtk 4) n s4).1, (gMany (gNum dtk 4) n s4).2) from Hgm.out)
        generalize gMany (gNum dtk 4) n s4 = M at *
        obtain ⟨k5, s5⟩ := M
        simp only at hcut HK5 hLn
        clear hlt hn Hgm
        obtain ⟨sv, lv, hcut⟩ := hcut
        have HC := Lib.hid hcut
        have e0 := DO.names hcut 0
        have e1 := DO.names hcut 1
        have e2 := DO.names hcut 2
        have e3 := DO.names hcut 3
        have e4 := DO.names hcut 4
        unfold nmA at e0 e1 e2 e3 e4
        simp only [List.getElem?_toArray, List.getElem?_cons_zero, List.getElem?_cons_succ] at e0 e1 e2 e3 e4
        clear hcut
        go_upto_if 70 with fail
        go_cut [8] from 51 to 72 (fun v8 wx => v8 = .int .i64 (gCnt dtk x s5).1 ∧ DO B w0 p po x pn (gCnt dtk x s5).2 { Rc.zero with kind := kn, key := k1, n := k2, sid := k3, colour := k4, sids := k5 } X wx)
        case first =>
          by_cases hk : x.locs < 0
          · have HW := Lib.hid (show gCnt dtk x s5 = gNum dtk 1 s5 by unfold gCnt; rw [if_pos hk])
            have Q := Lib.hid (rnum_calls p 1 (by omega) s5 _ _ HC.out)
            clear e0 e1 e2 e3 e4
            go_wp2_with fail
            refine Q.out.mono ?_
            rintro e w6 ⟨rfl, h6⟩
            have H6 := Lib.hid h6
            clear h6 Q
            go_wp2_with fail
            go_meet
            rw [HW.out]
            exact ⟨rfl, sv, lv, H6.out⟩
          · have HW := Lib.hid (show gCnt dtk x s5 = (x.locs, s5) by unfold gCnt; rw [if_neg hk])
            have hk' : 0 ≤ x.locs := by omega
            clear hk
            go_wp2_with fail
            go_meet
            rw [HW.out]
            exact ⟨rfl, sv, lv, HC.out⟩
        case rest =>
        obtain ⟨rfl, hcut⟩ := hcut
        have hcn : ∃ m : Nat, m ≤ 1000 ∧ (gCnt dtk x s5).1 = m := by
          unfold gCnt
          split
          · obtain ⟨k, h1, h2⟩ := one_natd s5
            exact ⟨k, by omega, h2⟩
          · exact ⟨x.locs.toNat, by omega, by show x.locs = _; omega⟩
        obtain ⟨m, hm, hcm⟩ := hcn
        have hcq : gCnt dtk x s5 = ((m : Int), (gCnt dtk x s5).2) := by rw [← hcm]
        rw [hcm]
        generalize (gCnt dtk x s5).2 = s6 at *
        clear hcm
        have HK6 := Lib.hid hcq
        clear HC e0 e1 e2 e3 e4 hcq
        obtain ⟨wA, hwA⟩ : ∃ z, z = wc := ⟨_, rfl⟩
        subst hwA
        have H := Lib.hid hcut
        clear hcut
        go_wp2_with fail
        go_loopw [10] (fun i wr => ∃ n : Nat, n ≤ m ∧ i = .int .i64 n ∧ DO B w0 p po x pn (gMany (gLoc dtk) n s6).2 { Rc.zero with kind := kn, key := k1, n := k2, sid := k3, colour := k4, sids := k5, locs := (gMany (gLoc dtk) n s6).1 } X wr) (fun i => fun _ => m - (intOf i).toNat)
        case atStart => exact ⟨0, Nat.zero_le _, rfl, H.out⟩
        case round =>
          obtain ⟨n', hn, rfl, hcut⟩ := hrel
          clear H
          have hLn2 := gMany_len (gLoc dtk) s6 n'
          by_cases hlt : n' < m
          · have hltI : (n' : Int) < (m : Int) := by omega
            have hgs : gMany (gLoc dtk) (n' + 1) s6 = ((gMany (gLoc dtk) n' s6).1 ++ [(gLoc dtk (gMany (gLoc dtk) n' s6).2).1], (gLoc dtk (gMany (gLoc dtk) n' s6).2).2) := rfl
            generalize gMany (gLoc dtk) n' s6 = M at hcut hLn2 hgs
            obtain ⟨LL, s'⟩ := M
            simp only at hcut hLn2 hgs
            obtain ⟨sv, lv, hcut⟩ := hcut
            have hy : gLoc dtk s' = (⟨(gNum dtk 1 s').1, (gNum dtk 1 (gNum dtk 1 s').2).1, (gNum dtk 4 (gNum dtk 1 (gNum dtk 1 s').2).2).1⟩, (gNum dtk 4 (gNum dtk 1 (gNum dtk 1 s').2).2).2) := rfl
            have q := rnum_calls p 1 (by omega) s' _ _ hcut
            generalize (gNum dtk 1 s').1 = y1 at q hy
            generalize (gNum dtk 1 s').2 = t1 at q hy
            have Q := Lib.hid q
            clear q hcut
            have hL : LL.length ≤ 1000 := by omega
            have HLn2 := Lib.hid hLn2
            have Hgs := Lib.hid hgs
            have Hy := Lib.hid hy
            clear hLn2 hgs hy
            go_wp2_with fail
            refine Q.out.mono ?_
            rintro e w6 ⟨rfl, h6⟩
            have hy := Hy.out
            have q := rnum_calls p 1 (by omega) t1 _ _ h6
            generalize (gNum dtk 1 t1).1 = y2 at q hy
            generalize (gNum dtk 1 t1).2 = t2 at q hy
            clear h6 Q Hy
            have Q := Lib.hid q
            clear q
            have Hy := Lib.hid hy
            clear hy
            go_wp2_with fail
            refine Q.out.mono ?_
            rintro e w7 ⟨rfl, h7⟩
            have S6 := Lib.hid (show LK B w0 p po t2 { Rc.zero with kind := kn, key := k1, n := k2, sid := k3, colour := k4, sids := k5, locs := LL } sv lv y1 y2 (row 3 1 sv k5.length (ivs k5) * (pts pn (.cells (nmA x) 61 (0, 0)) * X)) 0 (fun _ => undef) w7 from h7.eq (by unfold XP; ac_rfl))
            clear h7 Q
            go_wp2_with fail
            refine wp_region_rv [87, 88, 89, 90] (LK B w0 p po t2 { Rc.zero with kind := kn, key := k1, n := k2, sid := k3, colour := k4, sids := k5, locs := LL } sv lv y1 y2 (row 3 1 sv k5.length (ivs k5) * (pts pn (.cells (nmA x) 61 (0, 0)) * X))) [5, 6, 7, 8, 10] mixed (by kernel_rfl) (by kernel_rfl) rfl (fun _ => St.drew S6.out) ?_
            refine RXl.exact (.pointer (some ⟨po, 6, none⟩)) rfl rfl rfl rfl rfl (fun j τ w' hj hJ => (by obtain ⟨vs, hv, hJ⟩ := hJ; exact (by simp [rho, upd, Spec.val, execOp, go_sem]))) ?_
            refine RXl.exactB 4 10 rfl (by kernel_rfl) (lv) rfl rfl rfl rfl rfl (fun j τ w' hj hJ => (by obtain ⟨vs, hv, hJ⟩ := hJ; exact (by obtain ⟨Z, z⟩ := LK.rec (by omega) hJ; have c := z.cell 6; simp [rcA] at c; simp [rho, upd, Spec.val, execOp, go_sem, c]))) ?_
            refine RXl.exact (.int .i64 y1) rfl rfl rfl rfl rfl (fun _ _ _ _ _ => rfl) ?_
            refine RXl.exact (.int .i64 y2) rfl rfl rfl rfl rfl (fun _ _ _ _ _ => rfl) ?_
            refine RXl.exact (.pointer (some ⟨p, 0, none⟩)) rfl rfl rfl rfl rfl (fun _ _ _ _ _ => rfl) ?_
            refine RXl.callV 0 87 rfl rfl rfl (Nat.le_of_ble_eq_true rfl) _ [.tmp 86, .const (.int .i64 4)] _ rfl rfl rfl rfl rfl (fun ρ vs w hv hJ hag => LK.num (hag.ex 86 _ rfl rfl rfl) (hag.2.1 _) hJ) ?_
            refine RXl.effV 1 88 rfl rfl rfl (Nat.le_of_ble_eq_true rfl) rfl rfl rfl rfl (fun ρ vs w hv hJ hag => LK.mk rfl (hag.ex 84 _ rfl rfl rfl) (hag.ex 85 _ rfl rfl rfl) (hv 0 87 (by decide) rfl) hJ) ?_
            refine RXl.effV 2 89 rfl rfl rfl (Nat.le_of_ble_eq_true rfl) rfl rfl rfl rfl (fun ρ vs w hv hJ hag => LK.lit rfl (hv 1 88 (by decide) rfl) hJ) ?_
            refine RXl.effV 3 90 rfl rfl rfl (Nat.le_of_ble_eq_true rfl) rfl rfl rfl rfl (fun ρ vs w hv hJ hag => LK.app rfl (hag.ex 83 _ rfl rfl rfl) (hv 2 89 (by decide) rfl) hL hJ) ?_
            refine RXl.exact (.pointer (some ⟨po, 6, none⟩)) rfl rfl rfl rfl rfl (fun j τ w' hj hJ => (by obtain ⟨vs, hv, hJ⟩ := hJ; exact (by simp [rho, upd, Spec.val, execOp, go_sem]))) ?_
            refine RXl.effS 4 rfl rfl rfl rfl rfl rfl (fun ρ vs w hv hJ hag => LK.sto rfl (hag.ex 91 _ rfl rfl rfl) (hv 3 90 (by decide) rfl) hJ) ?_
            refine RXl.nilV _ (AgrL.upd _ _ (AgrL.unk 90 _ rfl (AgrL.unk 89 _ rfl (AgrL.unk 88 _ rfl (AgrL.unk 87 _ rfl (AgrL.upd _ _ (AgrL.upd _ _ (AgrL.upd _ _ (AgrL.upd _ _ (AgrL.upd _ _ (AgrL.base _))))))))))) (by decide) (by decide) fun vs w8 hJ => ?_
            simp only [puts, Act.put, List.setIfInBounds_toArray, List.set_cons_succ, List.set_cons_zero]
            obtain ⟨lv', s8⟩ := hJ
            have hy := Hy.out
            have hgs := Hgs.out
            rw [hy] at hgs
            have HF := Lib.hid (show DO B w0 p po x pn (gMany (gLoc dtk) (n' + 1) s6).2 { Rc.zero with kind := kn, key := k1, n := k2, sid := k3, colour := k4, sids := k5, locs := (gMany (gLoc dtk) (n' + 1) s6).1 } X w8 from by
              rw [hgs]
              refine ⟨sv, lv', s8.eq ?_⟩
              unfold XP rcA
              simp only [List.length_append, List.length_singleton, List.flatMap_append, List.flatMap_cons, List.flatMap_nil, List.append_nil]
              ac_rfl)
            clear s8 hgs hy Hgs Hy S6
            go_wp2_with fail
            go_roundw
            case rel => exact ⟨n' + 1, by omega, by go_num, HF.out⟩
            case measure => simp [intOf]; omega
          · obtain rfl : n' = m := by omega
            have hnl2 : ¬ (n' : Int) < (n' : Int) := by omega
            generalize hM : gMany (gLoc dtk) n' s6 = M at hcut
            obtain ⟨LL, s7⟩ := M
            simp only at hcut
            have HM := Lib.hid hM
            clear hM hLn2 hlt hn
            obtain ⟨r7, hr7⟩ : ∃ r7 : Rc, r7 = { Rc.zero with kind := kn, key := k1, n := k2, sid := k3, colour := k4, sids := k5, locs := LL } := ⟨_, rfl⟩
            have HR7 := Lib.hid (show ({ r7 with tab := tbOf [0, 0, 0, 0, 0, 0] } : Rc) = r7 by rw [hr7]; rfl)
            have HR8 := Lib.hid (show r7.key = k1 ∧ r7.sids = k5 ∧ r7.kind = kn by rw [hr7]; exact ⟨rfl, rfl, rfl⟩)
            have hcut : DO B w0 p po x pn s7 r7 X wr := by rw [hr7]; exact hcut
            obtain ⟨sv, lv, hcut⟩ := hcut
            have HC := Lib.hid hcut
            have e0 := DO.names hcut 0
            have e1 := DO.names hcut 1
            have e2 := DO.names hcut 2
            have e3 := DO.names hcut 3
            have e4 := DO.names hcut 4
            unfold nmA at e0 e1 e2 e3 e4
            simp only [List.getElem?_toArray, List.getElem?_cons_zero, List.getElem?_cons_succ] at e0 e1 e2 e3 e4
            clear hcut
            have HEND := Lib.hid (show ∀ T s', gTab dtk x s7 = (T, s') → gRead dtk x (kn : Int) s0 = ({ r7 with tab := tbOf T }, s') from fun T s' hT => by
              rw [hr7]
              unfold gRead
              simp only [HK1.out, HK2.out, HK3.out, HK4.out, HK5.out, HK6.out, Int.toNat_natCast, HM.out, hT])
            have hkl : k1.length ≤ 255 := by
              have h := HK1.out
              unfold gKey at h
              split at h
              · obtain ⟨k, h1, h2⟩ := one_natd s0
                rw [h2, Int.toNat_natCast] at h
                have h3 := dtk_len k (gNum dtk 1 s0).2
                rw [h] at h3
                simp only at h3
                omega
              · cases h; simp
            have hsl : k5.length ≤ 3 := by omega
            clear HK1 HK2 HK3 HK4 HK5 HK6 HM hLn hr7
            go_upto_if 93 with fail
            go_cut [] from 7 to 115 (fun wx => DO B w0 p po x pn (gTab dtk x s7).2 { r7 with tab := tbOf (gTab dtk x s7).1 } X wx)
            case first =>
              cases hk : x.table
              · have HW := Lib.hid (show gTab dtk x s7 = ([0, 0, 0, 0, 0, 0], s7) by unfold gTab; rw [if_neg (by simp [hk])])
                go_wp2_with fail
                go_meet
                rw [HW.out]
                rw [show ({ r7 with tab := tbOf [0, 0, 0, 0, 0, 0] } : Rc) = r7 from HR7.out]
                exact ⟨sv, lv, HC.out⟩
              · have HW := Lib.hid (show gTab dtk x s7 = gMany (gNum dtk 4) 6 s7 by unfold gTab; rw [if_pos hk])
                obtain ⟨gt, hgt⟩ : ∃ g, g = wr.heap.size := ⟨_, rfl⟩
                have H0 := Lib.hid (show DO B w0 p po x pn s7 r7 (pts gt (.cells (ivs [0, 0, 0, 0, 0, 0]).toArray 66 (0, 0)) * X) (wr.alloc (.cells (ivs [0, 0, 0, 0, 0, 0]).toArray 66)) from ⟨sv, lv, (HC.out.alloc (.cells (ivs [0, 0, 0, 0, 0, 0]).toArray 66)).eq (by rw [hgt]; ac_rfl)⟩)
                clear HC
                go_wp2_with fail
                simp only [← hgt]
                clear hgt
                go_loopw [14] (fun i w9 => ∃ n : Nat, n ≤ 6 ∧ i = .int .i64 n ∧ DO B w0 p po x pn (gMany (gNum dtk 4) n s7).2 r7 (pts gt (.cells (ivs ((gMany (gNum dtk 4) n s7).1 ++ List.replicate (6 - n) 0)).toArray 66 (0, 0)) * X) w9) (fun i => fun _ => 6 - (intOf i).toNat)
                case atStart => exact ⟨0, Nat.zero_le _, rfl, H0.out⟩
                case round =>
                  obtain ⟨j, hj, rfl, hcut⟩ := hrel
                  clear H0 e0 e1 e2 e3 e4
                  have hLn := gMany_len (gNum dtk 4) s7 j
                  by_cases hlt : j < 6
                  · have hltI : (j : Int) < 6 := by omega
                    have hgs : gMany (gNum dtk 4) (j + 1) s7 = ((gMany (gNum dtk 4) j s7).1 ++ [(gNum dtk 4 (gMany (gNum dtk 4) j s7).2).1], (gNum dtk 4 (gMany (gNum dtk 4) j s7).2).2) := rfl
                    generalize gMany (gNum dtk 4) j s7 = M at hcut hLn hgs
                    obtain ⟨TT, t'⟩ := M
                    simp only at hcut hLn hgs
                    obtain ⟨sv, lv, hcut⟩ := hcut
                    have q := rnum_calls p 4 (by omega) t' _ _ hcut
                    have hset := set_tab TT j (gNum dtk 4 t').1 hlt hLn
                    generalize (gNum dtk 4 t').1 = y1 at q hgs hset
                    generalize (gNum dtk 4 t').2 = t1 at q hgs
                    have Q := Lib.hid q
                    clear q hcut
                    have Hgs := Lib.hid hgs
                    have Hset := Lib.hid hset
                    clear hgs hset
                    go_wp2_with fail
                    refine Q.out.mono ?_
                    rintro e w6 ⟨rfl, h6⟩
                    have h7 := h6.eq (Q := pts gt (.cells (ivs (TT ++ List.replicate (6 - j) 0)).toArray 66 (0, 0)) * (rr p t1 * (XP po r7 sv lv * (pts pn (.cells (nmA x) 61 (0, 0)) * X)))) (by ac_rfl)
                    have hc1 : ∃ u, w6.cell? ⟨gt, j, none⟩ = some u := by
                      rw [h7.cell j, List.getElem?_toArray, List.getElem?_eq_getElem (by simp [ivs, hLn]; omega)]
                      exact ⟨_, rfl⟩
                    obtain ⟨u, c1⟩ := hc1
                    have f1 := h7.free j
                    have h8 := h7.set j (.int .i64 y1)
                    rw [Hset.out] at h8
                    have HF := Lib.hid (show DO B w0 p po x pn (gMany (gNum dtk 4) (j + 1) s7).2 r7 (pts gt (.cells (ivs ((gMany (gNum dtk 4) (j + 1) s7).1 ++ List.replicate (6 - (j + 1)) 0)).toArray 66 (0, 0)) * X) (w6.setCell ⟨gt, j, none⟩ (.int .i64 y1)) from by
                      rw [Hgs.out]
                      refine ⟨sv, lv, ?_⟩
                      show St B w0 _ (rr p t1 * (XP po r7 sv lv * (pts pn (.cells (nmA x) 61 (0, 0)) * (pts gt (.cells (ivs (TT ++ [y1] ++ List.replicate (6 - (j + 1)) 0)).toArray 66 (0, 0)) * X))))
                      exact h8.eq (by ac_rfl))
                    clear h6 h7 h8 Q Hset Hgs
                    go_wp2_with fail
                    go_roundw
                    case rel => exact ⟨j + 1, by omega, by go_num, HF.out⟩
                    case measure => simp [intOf]; omega
                  · obtain rfl : j = 6 := by omega
                    have hnl4 : ¬ ((6 : Nat) : Int) < 6 := by omega
                    rw [← HW.out] at hcut hLn
                    generalize gTab dtk x s7 = M at *
                    obtain ⟨TT, t'⟩ := M
                    simp only [Nat.sub_self, List.replicate_zero, List.append_nil] at hcut hLn ⊢
                    obtain ⟨a0, a1, a2, a3, a4, a5, rfl⟩ : ∃ a0 a1 a2 a3 a4 a5, TT = [a0, a1, a2, a3, a4, a5] := by
                      match TT, hLn with
                      | [a0, a1, a2, a3, a4, a5], _ => exact ⟨a0, a1, a2, a3, a4, a5, rfl⟩
                    obtain ⟨sv, lv, h⟩ := hcut
                    have h7 := h.eq (Q := pts gt (.cells (ivs [a0, a1, a2, a3, a4, a5]).toArray 66 (0, 0)) * (rr p t' * (XP po r7 sv lv * (pts pn (.cells (nmA x) 61 (0, 0)) * X)))) (by ac_rfl)
                    have c0 := h7.cell 0
                    have c1 := h7.cell 1
                    have c2 := h7.cell 2
                    have c3 := h7.cell 3
                    have c4 := h7.cell 4
                    have c5 := h7.cell 5
                    simp [ivs] at c0 c1 c2 c3 c4 c5
                    have HT := Lib.hid ((XP.tab h a0 a1 a2 a3 a4 a5))
                    have hfr := XP.front h7.right
                    have d7 := hfr.cell 7
                    have d8 := hfr.cell 8
                    have d9 := hfr.cell 9
                    have d10 := hfr.cell 10
                    have d11 := hfr.cell 11
                    have d12 := hfr.cell 12
                    have f7 := hfr.free 7
                    have f8 := hfr.free 8
                    have f9 := hfr.free 9
                    have f10 := hfr.free 10
                    have f11 := hfr.free 11
                    have f12 := hfr.free 12
                    unfold rcA at d7 d8 d9 d10 d11 d12
                    simp at d7 d8 d9 d10 d11 d12
                    clear hfr
                    clear h h7 hLn hlt hj HW
                    go_wp2_with fail
                    go_meet
                    exact ⟨sv, lv, DO.drop HT.out⟩
            case rest =>
            generalize hT : gTab dtk x s7 = M at hcut
            obtain ⟨TT, sE⟩ := M
            simp only at hcut
            have hG := Hgr.out.trans (HEND.out TT sE hT)
            clear hT HC e0 e1 e2 e3 e4 HEND
            obtain ⟨h71, h72, h73⟩ := HR8.out
            obtain ⟨r, hr⟩ : ∃ r : Rc, r = { r7 with tab := tbOf TT } := ⟨_, rfl⟩
            have hrk : r.key.length ≤ 255 := by rw [hr]; show r7.key.length ≤ 255; rw [h71]; exact hkl
            have hrs : r.sids.length ≤ 3 := by rw [hr]; show r7.sids.length ≤ 3; rw [h72]; exact hsl
            rw [← hr] at hcut hG
            have hG1 : (gParse dtk (l, false)).1 = r := by rw [hG]
            have hG2 : (gParse dtk (l, false)).2 = sE := by rw [hG]
            rw [hG1] at HD1 HD2
            rw [hG2] at HD2
            obtain ⟨wA, hwA⟩ : ∃ z, z = wc := ⟨_, rfl⟩
            subst hwA
            obtain ⟨sv, lv, h⟩ := hcut
            have h8 := h.eq (Q := row 3 1 sv r.sids.length (ivs r.sids) * (row 31 3 lv r.locs.length (r.locs.flatMap lcC) * (rr p sE * (pts po (.cells (rcA r sv lv) 27 (0, 0)) * (pts pn (.cells (nmA x) 61 (0, 0)) * X))))) (by unfold XP; ac_rfl)
            obtain ⟨b1, d1, rfl, -⟩ := h8.rowSlice
            obtain ⟨b2, d2, rfl, -⟩ := h8.right.rowSlice
            have S := Lib.hid h
            have hIS := St.iS h8
            have hLS := St.ls h8.right
            have HIS := Lib.hid hIS
            have HLS := Lib.hid hLS
            have c1 := h.cell 1
            simp at c1
            clear h h8 hIS hLS hG hG1 hG2 hr HR7 HR8 h71 h72 h73 hkl hsl Hgr
            obtain ⟨bt, bad⟩ := sE
            simp only at c1 HD2
            cases bad
            case true =>
              have HN := Lib.hid (show rOf l = none from HD2.out (fun h => by cases h.2.2))
              have SZ := Lib.hid (show St B w0 wA (pts p2 (.cells #[.int .i64 0, str [], .int .i64 0, .int .i64 0, .slice none 0 0, .int .i64 0, .slice none 0 0, .int .i64 0, .int .i64 0, .int .i64 0, .int .i64 0, .int .i64 0, .int .i64 0] 27 (0, 0)) * ((rr p (bt, true) * (XP po r (.slice b1 r.sids.length d1) (.slice b2 r.locs.length d2) * pts pn (.cells (nmA x) 61 (0, 0)))) * R)) from S.out.eq (by rw [← HX.out]; ac_rfl))
              go_upto_region 34 with fail
              refine wp_region_lit ?_
              refine Great.wpList_readTo rfl _ rfl (.agg (rcA Rc.zero (.slice none 0 0) (.slice none 0 0))) (by kernel_rfl) ?_
              refine wpList_store_row rfl 27 (.tmp 2) (.tmp 131) rfl p2 (rcA Rc.zero (.slice none 0 0) (.slice none 0 0)) (by kernel_rfl) (by kernel_rfl) 27 _ SZ.out.block (by kernel_rfl) (by kernel_rfl) (by kernel_rfl) ?_
              refine Great.wpList_readTo rfl _ rfl (.bool false) (by kernel_rfl) (wpList_nil ?_)
              have SF := Lib.hid (SZ.out.setRow (rcA Rc.zero (.slice none 0 0) (.slice none 0 0)))
              go_wp2_with fail
              refine back2 rfl rfl rfl SF.out.block rfl ?_
              rw [HN.out]
              exact retD_none SF.out.right
            case false =>
              have x0 := (XP.front S.out).cell 0
              have x1 := (XP.front S.out).cell 1
              have x2 := (XP.front S.out).cell 2
              have x3 := (XP.front S.out).cell 3
              have x4 := (XP.front S.out).cell 4
              have x5 := (XP.front S.out).cell 5
              have x6 := (XP.front S.out).cell 6
              have x7 := (XP.front S.out).cell 7
              have x8 := (XP.front S.out).cell 8
              have x9 := (XP.front S.out).cell 9
              have x10 := (XP.front S.out).cell 10
              have x11 := (XP.front S.out).cell 11
              have x12 := (XP.front S.out).cell 12
              unfold rcA at x0 x1 x2 x3 x4 x5 x6 x7 x8 x9 x10 x11 x12
              simp at x0 x1 x2 x3 x4 x5 x6 x7 x8 x9 x10 x11 x12
              have q := recok_calls r (.slice b1 r.sids.length d1) (.slice b2 r.locs.length d2) wA HIS.out HLS.out (by unfold maxLen; omega)
              unfold rcV at q
              have Q := Lib.hid q
              clear q
              cases hro : rOk r
              · have HN := Lib.hid (show rOf l = none from HD2.out (fun h => by rw [hro] at h; cases h.1))
                rw [hro] at Q
                clear hro
                go_wp2_with fail
                refine Q.out.mono ?_
                rintro e w6 ⟨rfl, a6⟩
                have SZ := Lib.hid (show St B w0 w6 (pts p2 (.cells #[.int .i64 0, str [], .int .i64 0, .int .i64 0, .slice none 0 0, .int .i64 0, .slice none 0 0, .int .i64 0, .int .i64 0, .int .i64 0, .int .i64 0, .int .i64 0, .int .i64 0] 27 (0, 0)) * ((rr p (bt, false) * (XP po r (.slice b1 r.sids.length d1) (.slice b2 r.locs.length d2) * pts pn (.cells (nmA x) 61 (0, 0)))) * R)) from (S.out.keep a6).eq (by rw [← HX.out]; ac_rfl))
                clear a6 c1 x0 x1 x2 x3 x4 x5 x6 x7 x8 x9 x10 x11 x12 Q S
                go_upto_region 34 with fail
                refine wp_region_lit ?_
                refine Great.wpList_readTo rfl _ rfl (.agg (rcA Rc.zero (.slice none 0 0) (.slice none 0 0))) (by kernel_rfl) ?_
                refine wpList_store_row rfl 27 (.tmp 2) (.tmp 131) rfl p2 (rcA Rc.zero (.slice none 0 0) (.slice none 0 0)) (by kernel_rfl) (by kernel_rfl) 27 _ SZ.out.block (by kernel_rfl) (by kernel_rfl) (by kernel_rfl) ?_
                refine Great.wpList_readTo rfl _ rfl (.bool false) (by kernel_rfl) (wpList_nil ?_)
                have SF := Lib.hid (SZ.out.setRow (rcA Rc.zero (.slice none 0 0) (.slice none 0 0)))
                go_wp2_with fail
                refine back2 rfl rfl rfl SF.out.block rfl ?_
                rw [HN.out]
                exact retD_none SF.out.right
              · rw [hro] at Q
                have HRO := Lib.hid hro
                clear hro
                go_wp2_with fail
                refine Q.out.mono ?_
                rintro e w6 ⟨rfl, a6⟩
                have S6 := Lib.hid (S.out.keep a6)
                have q := recbytes_calls r (.slice b1 r.sids.length d1) (.slice b2 r.locs.length d2) w6 (HIS.out.below a6) (HLS.out.below a6) HRO.out
                unfold rcV at q
                have Q2 := Lib.hid q
                clear a6 c1 x0 x1 x2 x3 x4 x5 x6 x7 x8 x9 x10 x11 x12 Q S q
                have x0 := (XP.front S6.out).cell 0
                have x1 := (XP.front S6.out).cell 1
                have x2 := (XP.front S6.out).cell 2
                have x3 := (XP.front S6.out).cell 3
                have x4 := (XP.front S6.out).cell 4
                have x5 := (XP.front S6.out).cell 5
                have x6 := (XP.front S6.out).cell 6
                have x7 := (XP.front S6.out).cell 7
                have x8 := (XP.front S6.out).cell 8
                have x9 := (XP.front S6.out).cell 9
                have x10 := (XP.front S6.out).cell 10
                have x11 := (XP.front S6.out).cell 11
                have x12 := (XP.front S6.out).cell 12
                unfold rcA at x0 x1 x2 x3 x4 x5 x6 x7 x8 x9 x10 x11 x12
                simp at x0 x1 x2 x3 x4 x5 x6 x7 x8 x9 x10 x11 x12
                by_cases he : rBytes r = l
                · have HN := Lib.hid (show rOf l = some r from HD1.out r rfl HRO.out he)
                  rw [he] at Q2
                  clear he
                  go_wp2_with fail
                  refine Q2.out.mono ?_
                  rintro e w7 ⟨rfl, a7⟩
                  have S7 := Lib.hid (S6.out.keep a7)
                  have SZ := Lib.hid (show St B w0 w7 (pts p2 (.cells #[.int .i64 0, str [], .int .i64 0, .int .i64 0, .slice none 0 0, .int .i64 0, .slice none 0 0, .int .i64 0, .int .i64 0, .int .i64 0, .int .i64 0, .int .i64 0, .int .i64 0] 27 (0, 0)) * ((rr p (bt, false) * (XP po r (.slice b1 r.sids.length d1) (.slice b2 r.locs.length d2) * pts pn (.cells (nmA x) 61 (0, 0)))) * R)) from S7.out.eq (by rw [← HX.out]; ac_rfl))
                  have SPO := Lib.hid (XP.front S7.out)
                  clear a7 x0 x1 x2 x3 x4 x5 x6 x7 x8 x9 x10 x11 x12 Q2 S6
                  go_upto_region 35 with fail
                  refine wp_region_lit ?_
                  refine wpList_load_row rfl 27 (.tmp 5) rfl po (by kernel_rfl) 27 (rcA r (.slice b1 r.sids.length d1) (.slice b2 r.locs.length d2)) (0, 0) _ SPO.out.block Try.underlying27 rfl (by kernel_rfl) ?_
                  refine wpList_store_row rfl 27 (.tmp 2) (.tmp 132) rfl p2 (rcA r (.slice b1 r.sids.length d1) (.slice b2 r.locs.length d2)) (by kernel_rfl) (by kernel_rfl) 27 _ SZ.out.block (by kernel_rfl) (by kernel_rfl) (by kernel_rfl) ?_
                  refine Great.wpList_readTo rfl _ rfl (.bool true) (by kernel_rfl) (wpList_nil ?_)
                  have SF := Lib.hid (SZ.out.setRow (rcA r (.slice b1 r.sids.length d1) (.slice b2 r.locs.length d2)))
                  go_wp2_with fail
                  refine back2 rfl rfl rfl SF.out.block rfl ?_
                  rw [HN.out]
                  exact ⟨_, _, rfl, (SF.out.eq (Q := (pts p2 (.cells (rcA r (.slice b1 r.sids.length d1) (.slice b2 r.locs.length d2)) 27 (0, 0)) * (rr p (bt, false) * (pts po (.cells (rcA r (.slice b1 r.sids.length d1) (.slice b2 r.locs.length d2)) 27 (0, 0)) * pts pn (.cells (nmA x) 61 (0, 0))))) * (row 3 1 (.slice b1 r.sids.length d1) r.sids.length (ivs r.sids) * (row 31 3 (.slice b2 r.locs.length d2) r.locs.length (r.locs.flatMap lcC) * R))) (by unfold XP; ac_rfl)).right⟩
                · have HN := Lib.hid (show rOf l = none from HD2.out (fun h => he h.2.1))
                  have hne : ¬ ((⟨(rBytes r).toArray⟩ : ByteArray) = ⟨l.toArray⟩) := by
                    intro e
                    injection e with e
                    exact he (by simpa using e)
                  go_wp2_with fail
                  refine Q2.out.mono ?_
                  rintro e w7 ⟨rfl, a7⟩
                  have SZ := Lib.hid (show St B w0 w7 (pts p2 (.cells #[.int .i64 0, str [], .int .i64 0, .int .i64 0, .slice none 0 0, .int .i64 0, .slice none 0 0, .int .i64 0, .int .i64 0, .int .i64 0, .int .i64 0, .int .i64 0, .int .i64 0] 27 (0, 0)) * ((rr p (bt, false) * (XP po r (.slice b1 r.sids.length d1) (.slice b2 r.locs.length d2) * pts pn (.cells (nmA x) 61 (0, 0)))) * R)) from (S6.out.keep a7).eq (by rw [← HX.out]; ac_rfl))
                  clear a7 x0 x1 x2 x3 x4 x5 x6 x7 x8 x9 x10 x11 x12 Q2 S6
                  generalize rBytes r = bts at *
                  have hb : (bts == l) = false := by rw [beq_eq_false_iff_ne]; exact he
                  clear he
                  go_upto_region 34 with fail
                  refine wp_region_lit ?_
                  refine Great.wpList_readTo rfl _ rfl (.agg (rcA Rc.zero (.slice none 0 0) (.slice none 0 0))) (by kernel_rfl) ?_
                  refine wpList_store_row rfl 27 (.tmp 2) (.tmp 131) rfl p2 (rcA Rc.zero (.slice none 0 0) (.slice none 0 0)) (by kernel_rfl) (by kernel_rfl) 27 _ SZ.out.block (by kernel_rfl) (by kernel_rfl) (by kernel_rfl) ?_
                  refine Great.wpList_readTo rfl _ rfl (.bool false) (by kernel_rfl) (wpList_nil ?_)
                  have SF := Lib.hid (SZ.out.setRow (rcA Rc.zero (.slice none 0 0) (.slice none 0 0)))
                  go_wp2_with fail
                  refine back2 rfl rfl rfl SF.out.block rfl ?_
                  rw [HN.out]
                  exact retD_none SF.out.right
end
end Go.Proofs.Ytnfkcmcchkcflaa.RcD
