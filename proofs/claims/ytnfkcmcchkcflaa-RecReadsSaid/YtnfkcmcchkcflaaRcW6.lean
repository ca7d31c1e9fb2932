/- Package rec, walked: read. No condition. -/
import Derived.Test.YtnfkcmcchkcflaaRcW5
import Derived.Test.YtnfkcmcchkcflaaRws
set_option linter.unusedSimpArgs false
set_option linter.unusedVariables false
namespace Go.Proofs.Ytnfkcmcchkcflaa.RcW
open Go Go.RowKit Go.Proofs.Ytnfkcmcchkcflaa Go.Proofs.Ytnfkcmcchkcflaa.Sp Go.Proofs.Ytnfkcmcchkcflaa.Reg Go.Proofs.Ytnfkcmcchkcflaa.RcM Go.Proofs.Ytnfkcmcchkcflaa.SlW Go.Proofs.Ytnfkcmcchkcflaa.Rd
theorem tL : SlT Try.prog 23 31 3 24 (.agg #[.int .i64 0, .int .i64 0, .int .i64 0]) := ⟨Try.underlying23, info_parts (by kernel_rfl), rfl, by decide⟩
section
variable {B : Nat} {w0 : World} {R : HP}
/-- What read turns: the record, its Sids and its Locs; and its own shape. -/
def XO (bs po : Nat) (x : Sh) (r : Rc) (sv lv : Value) : HP :=
  pts bs (.cells #[.bool x.key, .bool x.sid, .bool x.colour, .bool x.table, .int .i64 x.n, .int .i64 x.sids, .int .i64 x.locs] 51 (0, 0)) * (pts po (.cells #[.int .i64 r.kind, str r.key, .int .i64 r.n, .int .i64 r.sid, sv, .int .i64 r.colour, lv, .int .i64 r.tab.hot, .int .i64 r.tab.warm, .int .i64 r.tab.gap, .int .i64 r.tab.add, .int .i64 r.tab.top, .int .i64 r.tab.half] 27 (0, 0)) * (row 3 1 sv r.sids.length (ivs r.sids) * row 31 3 lv r.locs.length (r.locs.flatMap lcC)))
/-- Where read stands. -/
def RO (B : Nat) (w0 : World) (R : HP) (p bs po : Nat) (x : Sh) (r : Rc) (l : List UInt8) (X : HP) (w : World) : Prop := ∃ sv lv, RdS B w0 R p l (XO bs po x r sv lv * X) w
section
variable {p bs po c : Nat} {a : Option Addr} {x : Sh} {r : Rc} {l : List UInt8} {sv lv : Value} {X : HP} {w : World}
theorem RdS.weak {p : Nat} {l : List UInt8} {X Y : HP} {w : World} (h : RdS B w0 R p l (X * Y) w) : RdS B w0 R p l Y w := by
  obtain ⟨a, c, hr, s⟩ := h
  exact ⟨a, c, hr, (s.eq (Q := X * (rdr p a c l * (Y * R))) (by ac_rfl)).right⟩
theorem XO_front (s : St B w0 w (rdr p a c l * ((XO bs po x r sv lv * X) * R))) :
    St B w0 w (pts po (.cells #[.int .i64 r.kind, str r.key, .int .i64 r.n, .int .i64 r.sid, sv, .int .i64 r.colour, lv, .int .i64 r.tab.hot, .int .i64 r.tab.warm, .int .i64 r.tab.gap, .int .i64 r.tab.add, .int .i64 r.tab.top, .int .i64 r.tab.half] 27 (0, 0)) * (rdr p a c l * ((pts bs (.cells #[.bool x.key, .bool x.sid, .bool x.colour, .bool x.table, .int .i64 x.n, .int .i64 x.sids, .int .i64 x.locs] 51 (0, 0)) * ((row 3 1 sv r.sids.length (ivs r.sids) * row 31 3 lv r.locs.length (r.locs.flatMap lcC)) * X)) * R))) := s.eq (by unfold XO; ac_rfl)
theorem XO_back (s : St B w0 w (pts po (.cells #[.int .i64 r.kind, str r.key, .int .i64 r.n, .int .i64 r.sid, sv, .int .i64 r.colour, lv, .int .i64 r.tab.hot, .int .i64 r.tab.warm, .int .i64 r.tab.gap, .int .i64 r.tab.add, .int .i64 r.tab.top, .int .i64 r.tab.half] 27 (0, 0)) * (rdr p a c l * ((pts bs (.cells #[.bool x.key, .bool x.sid, .bool x.colour, .bool x.table, .int .i64 x.n, .int .i64 x.sids, .int .i64 x.locs] 51 (0, 0)) * ((row 3 1 sv r.sids.length (ivs r.sids) * row 31 3 lv r.locs.length (r.locs.flatMap lcC)) * X)) * R)))) :
    St B w0 w (rdr p a c l * ((XO bs po x r sv lv * X) * R)) := s.eq (by unfold XO; ac_rfl)
theorem XO_shape (s : St B w0 w (rdr p a c l * ((XO bs po x r sv lv * X) * R))) : ∀ i, w.cell? ⟨bs, i, none⟩ = (#[.bool x.key, .bool x.sid, .bool x.colour, .bool x.table, .int .i64 x.n, .int .i64 x.sids, .int .i64 x.locs] : Array Value)[i]? := fun i =>
  (s.eq (Q := pts bs (.cells #[.bool x.key, .bool x.sid, .bool x.colour, .bool x.table, .int .i64 x.n, .int .i64 x.sids, .int .i64 x.locs] 51 (0, 0)) * (rdr p a c l * ((pts po (.cells #[.int .i64 r.kind, str r.key, .int .i64 r.n, .int .i64 r.sid, sv, .int .i64 r.colour, lv, .int .i64 r.tab.hot, .int .i64 r.tab.warm, .int .i64 r.tab.gap, .int .i64 r.tab.add, .int .i64 r.tab.top, .int .i64 r.tab.half] 27 (0, 0)) * ((row 3 1 sv r.sids.length (ivs r.sids) * row 31 3 lv r.locs.length (r.locs.flatMap lcC)) * X)) * R))) (by unfold XO; ac_rfl)).cell i
theorem XO_key (s : St B w0 w (rdr p a c l * ((XO bs po x r sv lv * X) * R))) (k : List UInt8) : St B w0 (w.setCell ⟨po, 1, none⟩ (str k)) (rdr p a c l * ((XO bs po x { r with key := k } sv lv * X) * R)) :=
  XO_back (r := { r with key := k }) ((XO_front s).set 1 (str k))
theorem XO_n (s : St B w0 w (rdr p a c l * ((XO bs po x r sv lv * X) * R))) (k : Int) : St B w0 (w.setCell ⟨po, 2, none⟩ (.int .i64 k)) (rdr p a c l * ((XO bs po x { r with n := k } sv lv * X) * R)) :=
  XO_back (r := { r with n := k }) ((XO_front s).set 2 (.int .i64 k))
theorem XO_sid (s : St B w0 w (rdr p a c l * ((XO bs po x r sv lv * X) * R))) (k : Int) : St B w0 (w.setCell ⟨po, 3, none⟩ (.int .i64 k)) (rdr p a c l * ((XO bs po x { r with sid := k } sv lv * X) * R)) :=
  XO_back (r := { r with sid := k }) ((XO_front s).set 3 (.int .i64 k))
theorem XO_col (s : St B w0 w (rdr p a c l * ((XO bs po x r sv lv * X) * R))) (k : Int) : St B w0 (w.setCell ⟨po, 5, none⟩ (.int .i64 k)) (rdr p a c l * ((XO bs po x { r with colour := k } sv lv * X) * R)) :=
  XO_back (r := { r with colour := k }) ((XO_front s).set 5 (.int .i64 k))
theorem XO_sids {g : Nat} {u v z : Int} (s : St B w0 w (pts g (.cells #[.int .i64 u, .int .i64 v, .int .i64 z] 3 (0, 0)) * (rdr p a c l * ((XO bs po x r sv lv * X) * R)))) :
    St B w0 (w.setCell ⟨po, 4, none⟩ (.slice (some ⟨g, 0, none⟩) 3 3)) (rdr p a c l * ((XO bs po x { r with sids := [u, v, z] } (.slice (some ⟨g, 0, none⟩) 3 3) lv * X) * R)) := by
  have s1 := s.rowMk (n := 3) (cap := 3) (size := 1) (xs := ivs [u, v, z]) (by decide) (by decide) (by simp) rfl
  have s2 := s1.eq (Q := pts po (.cells #[.int .i64 r.kind, str r.key, .int .i64 r.n, .int .i64 r.sid, sv, .int .i64 r.colour, lv, .int .i64 r.tab.hot, .int .i64 r.tab.warm, .int .i64 r.tab.gap, .int .i64 r.tab.add, .int .i64 r.tab.top, .int .i64 r.tab.half] 27 (0, 0)) * (rdr p a c l * ((pts bs (.cells #[.bool x.key, .bool x.sid, .bool x.colour, .bool x.table, .int .i64 x.n, .int .i64 x.sids, .int .i64 x.locs] 51 (0, 0)) * ((row 3 1 (.slice (some ⟨g, 0, none⟩) 3 3) 3 (ivs [u, v, z]) * row 31 3 lv r.locs.length (r.locs.flatMap lcC)) * X)) * (row 3 1 sv r.sids.length (ivs r.sids) * R)))) (by unfold XO; ac_rfl)
  have s3 := s2.set 4 (.slice (some ⟨g, 0, none⟩) 3 3)
  refine XO_back (r := { r with sids := [u, v, z] }) (sv := .slice (some ⟨g, 0, none⟩) 3 3) ?_
  exact (s3.eq (Q := row 3 1 sv r.sids.length (ivs r.sids) * (pts po (.cells ((#[.int .i64 r.kind, str r.key, .int .i64 r.n, .int .i64 r.sid, sv, .int .i64 r.colour, lv, .int .i64 r.tab.hot, .int .i64 r.tab.warm, .int .i64 r.tab.gap, .int .i64 r.tab.add, .int .i64 r.tab.top, .int .i64 r.tab.half] : Array Value).setIfInBounds 4 (.slice (some ⟨g, 0, none⟩) 3 3)) 27 (0, 0)) * (rdr p a c l * ((pts bs (.cells #[.bool x.key, .bool x.sid, .bool x.colour, .bool x.table, .int .i64 x.n, .int .i64 x.sids, .int .i64 x.locs] 51 (0, 0)) * ((row 3 1 (.slice (some ⟨g, 0, none⟩) 3 3) 3 (ivs [u, v, z]) * row 31 3 lv r.locs.length (r.locs.flatMap lcC)) * X)) * R)))) (by ac_rfl)).right
theorem XO_tab (s : St B w0 w (rdr p a c l * ((XO bs po x r sv lv * X) * R))) (L : List Int) (hL : r.tab = tbOf L) (hl : L.length = 6) (i : Nat) (hi : i < 6) (k : Int) :
    St B w0 (w.setCell ⟨po, 7 + i, none⟩ (.int .i64 k)) (rdr p a c l * ((XO bs po x { r with tab := tbOf (L.set i k) } sv lv * X) * R)) := by
  obtain ⟨a0, a1, a2, a3, a4, a5, rfl⟩ : ∃ a0 a1 a2 a3 a4 a5, L = [a0, a1, a2, a3, a4, a5] := by
    match L, hl with
    | [a0, a1, a2, a3, a4, a5], _ => exact ⟨a0, a1, a2, a3, a4, a5, rfl⟩
  have s1 := (XO_front s).set (7 + i) (.int .i64 k)
  rw [hL] at s1
  obtain rfl | rfl | rfl | rfl | rfl | rfl : i = 0 ∨ i = 1 ∨ i = 2 ∨ i = 3 ∨ i = 4 ∨ i = 5 := by omega
  all_goals exact XO_back (r := { r with tab := _ }) s1
end
section
variable {po gl : Nat} {r : Rc} {sv lv : Value} {y : Lc} {Y : HP}
/-- Where out.Locs = append(out.Locs, l) stands. -/
def LJ (B : Nat) (w0 : World) (po gl : Nat) (r : Rc) (sv lv : Value) (y : Lc) (Y : HP) (j : Nat) (vs : Nat → Value) (w : World) : Prop := match j with
  | 0 => St B w0 w (pts po (.cells #[.int .i64 r.kind, str r.key, .int .i64 r.n, .int .i64 r.sid, sv, .int .i64 r.colour, lv, .int .i64 r.tab.hot, .int .i64 r.tab.warm, .int .i64 r.tab.gap, .int .i64 r.tab.add, .int .i64 r.tab.top, .int .i64 r.tab.half] 27 (0, 0)) * (row 31 3 lv r.locs.length (r.locs.flatMap lcC) * (pts gl (.cells #[.int .i64 y.d, .int .i64 y.s, .int .i64 y.id] 31 (0, 0)) * Y)))
  | 1 => ∃ g, vs 0 = .slice (some ⟨g, 0, none⟩) 1 1 ∧ St B w0 w (pts po (.cells #[.int .i64 r.kind, str r.key, .int .i64 r.n, .int .i64 r.sid, sv, .int .i64 r.colour, lv, .int .i64 r.tab.hot, .int .i64 r.tab.warm, .int .i64 r.tab.gap, .int .i64 r.tab.add, .int .i64 r.tab.top, .int .i64 r.tab.half] 27 (0, 0)) * (row 31 3 lv r.locs.length (r.locs.flatMap lcC) * (pts gl (.cells #[.int .i64 y.d, .int .i64 y.s, .int .i64 y.id] 31 (0, 0)) * (pts g (.cells #[.int .i64 y.d, .int .i64 y.s, .int .i64 y.id] 31 (0, 0)) * Y))))
  | 2 => ∃ lv', vs 1 = lv' ∧ lv'.oneCell' = true ∧ St B w0 w (pts po (.cells #[.int .i64 r.kind, str r.key, .int .i64 r.n, .int .i64 r.sid, sv, .int .i64 r.colour, lv, .int .i64 r.tab.hot, .int .i64 r.tab.warm, .int .i64 r.tab.gap, .int .i64 r.tab.add, .int .i64 r.tab.top, .int .i64 r.tab.half] 27 (0, 0)) * (row 31 3 lv' (r.locs.length + 1) (r.locs.flatMap lcC ++ lcC y) * (pts gl (.cells #[.int .i64 y.d, .int .i64 y.s, .int .i64 y.id] 31 (0, 0)) * Y)))
  | _ => ∃ lv', St B w0 w (pts po (.cells #[.int .i64 r.kind, str r.key, .int .i64 r.n, .int .i64 r.sid, sv, .int .i64 r.colour, lv', .int .i64 r.tab.hot, .int .i64 r.tab.warm, .int .i64 r.tab.gap, .int .i64 r.tab.add, .int .i64 r.tab.top, .int .i64 r.tab.half] 27 (0, 0)) * (row 31 3 lv' (r.locs.length + 1) (r.locs.flatMap lcC ++ lcC y) * (pts gl (.cells #[.int .i64 y.d, .int .i64 y.s, .int .i64 y.id] 31 (0, 0)) * Y)))
theorem LJ.loc : ∀ {j : Nat} {vs : Nat → Value} {w : World}, LJ B w0 po gl r sv lv y Y j vs w → ∃ Z, St B w0 w (pts gl (.cells #[.int .i64 y.d, .int .i64 y.s, .int .i64 y.id] 31 (0, 0)) * Z)
  | 0, _, _, h => ⟨_, St.eq (by rw [← sep_assoc, sep_left_comm]) h⟩
  | 1, _, _, ⟨_, _, h⟩ => ⟨_, h.eq (by rw [← sep_assoc, sep_left_comm])⟩
  | 2, _, _, ⟨_, _, _, h⟩ => ⟨_, h.eq (by rw [← sep_assoc, sep_left_comm])⟩
  | _ + 3, _, _, ⟨_, h⟩ => ⟨_, h.eq (by rw [← sep_assoc, sep_left_comm])⟩
theorem LJ.out : ∀ {j : Nat} {vs : Nat → Value} {w : World}, j < 3 → LJ B w0 po gl r sv lv y Y j vs w → ∃ Z, St B w0 w (pts po (.cells #[.int .i64 r.kind, str r.key, .int .i64 r.n, .int .i64 r.sid, sv, .int .i64 r.colour, lv, .int .i64 r.tab.hot, .int .i64 r.tab.warm, .int .i64 r.tab.gap, .int .i64 r.tab.add, .int .i64 r.tab.top, .int .i64 r.tab.half] 27 (0, 0)) * Z)
  | 0, _, _, _, h => ⟨_, h⟩
  | 1, _, _, _, ⟨_, _, h⟩ => ⟨_, h⟩
  | 2, _, _, _, ⟨_, _, _, h⟩ => ⟨_, h⟩
  | j + 3, _, _, hj, _ => absurd hj (by omega)
theorem LJ.lit {ρ : Operand → Value} {o : Oper} {vs : Nat → Value} {w : World} {q : Operand} (hop : o.op = .buildSlice 23 1 #[(0, q)]) (hq : ρ q = lcV y) (hJ : LJ B w0 po gl r sv lv y Y 0 vs w) :
    ∃ v w', (execOp ρ o).run Try.prog w = .ok (.value v) w' ∧ LJ B w0 po gl r sv lv y Y 1 (updv vs 0 v) w' := by
  refine ⟨.slice (some ⟨w.heap.size, 0, none⟩) 1 1, w.alloc (.cells #[.int .i64 y.d, .int .i64 y.s, .int .i64 y.id] 31), ?_, w.heap.size, by simp [updv], (St.alloc hJ _).eq (by ac_rfl)⟩
  unfold lcV at hq
  simp [execOp, hop, hq, go_sem]
theorem LJ.app {ρ : Operand → Value} {o : Oper} {vs : Nat → Value} {w : World} {q q2 : Operand} (hop : o.op = .call { callee := .builtin .append, args := #[q, q2], argTypes := #[23, 23] })
    (hx : ρ q = lv) (hy : ρ q2 = vs 0) (hl : r.locs.length ≤ 1000) (hJ : LJ B w0 po gl r sv lv y Y 1 vs w) :
    ∃ v w', (execOp ρ o).run Try.prog w = .ok (.value v) w' ∧ LJ B w0 po gl r sv lv y Y 2 (updv vs 1 v) w' := by
  obtain ⟨g, e, s⟩ := hJ
  have hrd : Rd w (some ⟨g, 0, none⟩) (lcC y) := (s.right.right.right).rd 0 3
  have s1 := s.eq (Q := row 31 3 lv r.locs.length (r.locs.flatMap lcC) * (pts g (.cells #[.int .i64 y.d, .int .i64 y.s, .int .i64 y.id] 31 (0, 0)) * (pts po (.cells #[.int .i64 r.kind, str r.key, .int .i64 r.n, .int .i64 r.sid, sv, .int .i64 r.colour, lv, .int .i64 r.tab.hot, .int .i64 r.tab.warm, .int .i64 r.tab.gap, .int .i64 r.tab.add, .int .i64 r.tab.top, .int .i64 r.tab.half] 27 (0, 0)) * (pts gl (.cells #[.int .i64 y.d, .int .i64 y.s, .int .i64 y.id] 31 (0, 0)) * Y)))) (by ac_rfl)
  obtain ⟨v', w', hr, s2, -⟩ := run_append_st (P := Try.prog) tL o.type s1 (some ⟨g, 0, none⟩) 1 1 (lcC y) hrd (fun e => by cases e) rfl (by intro u hu; simp [lcC] at hu; rcases hu with rfl | rfl | rfl <;> rfl) (by unfold maxLen; omega) (by omega)
  have s3 := s2.eq (Q := pts g (.cells #[.int .i64 y.d, .int .i64 y.s, .int .i64 y.id] 31 (0, 0)) * (pts po (.cells #[.int .i64 r.kind, str r.key, .int .i64 r.n, .int .i64 r.sid, sv, .int .i64 r.colour, lv, .int .i64 r.tab.hot, .int .i64 r.tab.warm, .int .i64 r.tab.gap, .int .i64 r.tab.add, .int .i64 r.tab.top, .int .i64 r.tab.half] 27 (0, 0)) * (row 31 3 v' (r.locs.length + 1) (r.locs.flatMap lcC ++ lcC y) * (pts gl (.cells #[.int .i64 y.d, .int .i64 y.s, .int .i64 y.id] 31 (0, 0)) * Y)))) (by ac_rfl)
  have h1 : v'.oneCell' = true := by
    obtain ⟨a, c, rfl, -⟩ := s2.rowSlice
    rfl
  refine ⟨v', w', ?_, v', by simp [updv], h1, s3.right⟩
  simp [execOp, hop, resolve, invoke, builtin, hx, hy, e, hr, Result.andThen]
theorem LJ.sto {ρ : Operand → Value} {o : Oper} {vs : Nat → Value} {w : World} {q q2 : Operand} (hop : o.op = .store 23 q q2) (hx : ρ q = .pointer (some ⟨po, 6, none⟩)) (hy : ρ q2 = vs 1) (hJ : LJ B w0 po gl r sv lv y Y 2 vs w) :
    ∃ w', (execOp ρ o).run Try.prog w = .ok .skip w' ∧ LJ B w0 po gl r sv lv y Y 3 vs w' := by
  obtain ⟨lv', e, h1, s⟩ := hJ
  exact ⟨_, exec_store hop hx (hy.trans e) h1 (by kernel_rfl) (s.cell 6) (s.free 6), lv', s.set 6 lv'⟩
end
theorem RdS.alloc {p : Nat} {l : List UInt8} {X : HP} {w : World} (h : RdS B w0 R p l X w) (o : Obj) : RdS B w0 R p l (pts w.heap.size o * X) (w.alloc o) := by
  obtain ⟨a, c, hr, s⟩ := h
  exact ⟨a, c, hr, (s.alloc o).eq (by ac_rfl)⟩
theorem RdS.front {p b : Nat} {l : List UInt8} {c : Array Value} {t : TypeId} {X : HP} {w : World} (h : RdS B w0 R p l (pts b (.cells c t (0, 0)) * X) w) :
    (∀ i, w.cell? ⟨b, i, none⟩ = c[i]?) ∧ (∀ i, w.frozen? ⟨b, i, none⟩ = false) ∧ ∀ i v, RdS B w0 R p l (pts b (.cells (c.setIfInBounds i v) t (0, 0)) * X) (w.setCell ⟨b, i, none⟩ v) := by
  obtain ⟨a, c', hr, s⟩ := h
  have s1 := s.eq (Q := pts b (.cells c t (0, 0)) * (rdr p a c' l * (X * R))) (by ac_rfl)
  exact ⟨fun i => s1.cell i, fun i => s1.free i, fun i v => ⟨a, c', hr, (s1.set i v).eq (by ac_rfl)⟩⟩
theorem gMany_len {σ α : Type} (f : σ → α × σ) (s : σ) : ∀ n, (gMany f n s).1.length = n
  | 0 => rfl
  | n + 1 => by simp [gMany, gMany_len f s n]
theorem one_nat (l : List UInt8) : ∃ k : Nat, k ≤ 255 ∧ (gNum ptk 1 l).1 = k := by
  have : ∃ x, (ptk 1 l).1 = [x] := by
    cases l with
    | nil => exact ⟨0, rfl⟩
    | cons a l => exact ⟨a, by simp [ptk]⟩
  obtain ⟨x, hx⟩ := this
  exact ⟨x.toNat, by have := x.toNat_lt; omega, by simp [gNum, hx, pNum]⟩
set_option maxRecDepth 100000 in
set_option maxHeartbeats 16000000 in
theorem read_calls (p po : Nat) (x : Sh) (kind : Int) (l : List UInt8) (X : HP) (hxl : x.locs ≤ 1000) (w : World) (s : RdS B w0 R p l (pts po (.cells #[.int .i64 kind, str [], .int .i64 0, .int .i64 0, .slice none 0 0, .int .i64 0, .slice none 0 0, .int .i64 0, .int .i64 0, .int .i64 0, .int .i64 0, .int .i64 0, .int .i64 0] 27 (0, 0)) * X) w) :
    Calls Try.prog 38 #[.pointer (some ⟨p, 0, none⟩), shV x, .pointer (some ⟨po, 0, none⟩)] w fun e w' => e = .returned (.tuple #[]) ∧ ∃ bs, RO B w0 R p bs po x (gRead ptk x kind l).1 (gRead ptk x kind l).2 X w' := by
  obtain ⟨sa, hsa⟩ : ∃ sa : Array Value, sa = #[.bool x.key, .bool x.sid, .bool x.colour, .bool x.table, .int .i64 x.n, .int .i64 x.sids, .int .i64 x.locs] := ⟨_, rfl⟩
  have hsv : shV x = .agg sa := by rw [hsa]; rfl
  have hcut : RO B w0 R p w.heap.size po x { Rc.zero with kind := kind } l X (w.alloc (.cells sa 51)) := by
    rw [hsa]
    obtain ⟨a, c, hr, s1⟩ := s
    have s2 := ((s1.rowNil 31 3).rowNil 3 1).alloc (.cells #[.bool x.key, .bool x.sid, .bool x.colour, .bool x.table, .int .i64 x.n, .int .i64 x.sids, .int .i64 x.locs] 51)
    exact ⟨.slice none 0 0, .slice none 0 0, a, c, hr, s2.eq (by unfold XO; simp only [Rc.zero, Tb.zero, ivs, List.map_nil, List.flatMap_nil, List.length_nil]; ac_rfl)⟩
  clear s
  rw [hsv]
  clear hsv hsa
  obtain ⟨sv, lv, hcut⟩ := hcut
  have HC := Lib.hid hcut
  obtain ⟨a, c, hr, s⟩ := hcut
  have q := XO_shape s
  have e0 := q 0
  have e1 := q 1
  have e2 := q 2
  have e3 := q 3
  have e4 := q 4
  have e5 := q 5
  have e6 := q 6
  simp at e0 e1 e2 e3 e4 e5 e6
  clear q hr s
  go_enter Try.func38, Try.ntmps38
  go_upto_if 12 with fail
  go_cut [] from 5 to 20 (fun wx => RO B w0 R p w.heap.size po x { Rc.zero with kind := kind, key := (gKey ptk x l).1 } (gKey ptk x l).2 X wx)
  case first =>
    cases hk : x.key
    · have HW := Lib.hid (show gKey ptk x l = ([], l) by unfold gKey; rw [if_neg (by simp [hk])])
      go_wp2_with fail
      go_meet
      rw [HW.out]
      exact ⟨sv, lv, HC.out⟩
    · obtain ⟨k, hk1, hk2⟩ := one_nat l
      have HW := Lib.hid (show gKey ptk x l = ((ptk k (l.drop 1)).1, (l.drop 1).drop k) by unfold gKey; rw [if_pos hk, hk2, Int.toNat_natCast]; rfl)
      have q := one_calls p l _ _ HC.out
      rw [hk2] at q
      generalize l.drop 1 = d1 at q HW
      have Q := Lib.hid q
      clear q hk2
      go_wp2_with fail
      refine Q.out.mono ?_
      rintro e w3 ⟨rfl, h3⟩
      have Q3 := Lib.hid (take_calls p k d1 (by omega) _ _ h3)
      clear h3 Q
      go_wp2_with fail
      refine Q3.out.mono ?_
      rintro e w4 ⟨g, rfl, h4⟩
      obtain ⟨a4, c4, hr4, s4⟩ := h4
      have hcv : (convert 32 9 (.slice (some ⟨g, 0, none⟩) k k)).run Try.prog w4 = .ok (str (ptk k d1).1) w4 := run_str (P := Try.prog) Try.underlying32 Try.underlying5 Try.underlying9 ((s4.eq (Q := row 5 1 (.slice (some ⟨g, 0, none⟩) k k) k (bvs (ptk k d1).1) * _) (by rw [sep_left_comm, sep_assoc])).bs)
      have S4 := Lib.hid (s4.eq (Q := rdr p a4 c4 (d1.drop k) * ((XO w.heap.size po x { Rc.zero with kind := kind } sv lv * X) * (row 5 1 (.slice (some ⟨g, 0, none⟩) k k) k (bvs (ptk k d1).1) * R))) (by ac_rfl))
      have HR4 := Lib.hid hr4
      have c1 := (XO_front S4.out).cell 1
      have f1 := (XO_front S4.out).free 1
      simp at c1
      clear s4 hr4 Q3
      go_wp2_with fail
      go_meet
      rw [HW.out]
      exact ⟨sv, lv, a4, c4, HR4.out, ((XO_key S4.out _).eq (Q := row 5 1 (.slice (some ⟨g, 0, none⟩) k k) k (bvs (ptk k d1).1) * (rdr p a4 c4 (d1.drop k) * ((XO w.heap.size po x { Rc.zero with kind := kind, key := (ptk k d1).1 } sv lv * X) * R))) (by ac_rfl)).right⟩
  case rest =>
  generalize hK1 : gKey ptk x l = P1 at hcut
  obtain ⟨k1, l1⟩ := P1
  have HK1 := Lib.hid hK1
  clear hK1
  simp only at hcut
  clear HC e0 e1 e2 e3 e4 e5 e6
  obtain ⟨wA, hwA⟩ : ∃ z, z = wc := ⟨_, rfl⟩
  subst hwA
  generalize w.heap.size = bs at *
  obtain ⟨sv, lv, hcut⟩ := hcut
  have HC := Lib.hid hcut
  obtain ⟨a, c, hr, s⟩ := hcut
  have q := XO_shape s
  have e0 := q 0
  have e1 := q 1
  have e2 := q 2
  have e3 := q 3
  have e4 := q 4
  have e5 := q 5
  have e6 := q 6
  simp at e0 e1 e2 e3 e4 e5 e6
  clear q hr s
  go_upto_if 23 with fail
  go_cut [] from 11 to 28 (fun wx => RO B w0 R p bs po x { Rc.zero with kind := kind, key := k1, n := (gN ptk x l1).1 } (gN ptk x l1).2 X wx)
  case first =>
    by_cases hk : 0 ≤ x.n
    · have HW := Lib.hid (show gN ptk x l1 = gNum ptk 1 l1 by unfold gN; rw [if_pos hk])
      have Q := Lib.hid (one_calls p l1 _ _ HC.out)
      clear e0 e1 e2 e3 e4 e5 e6
      go_wp2_with fail
      refine Q.out.mono ?_
      rintro e w3 ⟨rfl, a3, c3, hr3, s3⟩
      have c1 := (XO_front s3).cell 2
      have f1 := (XO_front s3).free 2
      simp at c1
      have S3 := Lib.hid s3
      have HR3 := Lib.hid hr3
      clear s3 hr3 Q
      go_wp2_with fail
      go_meet
      rw [HW.out]
      exact ⟨sv, lv, a3, c3, HR3.out, XO_n S3.out _⟩
    · have HW := Lib.hid (show gN ptk x l1 = (0, l1) by unfold gN; rw [if_neg hk])
      go_wp2_with fail
      go_meet
      rw [HW.out]
      exact ⟨sv, lv, HC.out⟩
  case rest =>
  generalize hK2 : gN ptk x l1 = P2 at hcut
  obtain ⟨k2, l2⟩ := P2
  have HK2 := Lib.hid hK2
  clear hK2
  simp only at hcut
  clear HC e0 e1 e2 e3 e4 e5 e6
  obtain ⟨wA, hwA⟩ : ∃ z, z = wc := ⟨_, rfl⟩
  subst hwA
  obtain ⟨sv, lv, hcut⟩ := hcut
  have HC := Lib.hid hcut
  obtain ⟨a, c, hr, s⟩ := hcut
  have q := XO_shape s
  have e0 := q 0
  have e1 := q 1
  have e2 := q 2
  have e3 := q 3
  have e4 := q 4
  have e5 := q 5
  have e6 := q 6
  simp at e0 e1 e2 e3 e4 e5 e6
  clear q hr s
  go_upto_if 30 with fail
  go_cut [] from 11 to 35 (fun wx => RO B w0 R p bs po x { Rc.zero with kind := kind, key := k1, n := k2, sid := (gSid ptk x l2).1 } (gSid ptk x l2).2 X wx)
  case first =>
    cases hk : x.sid
    · have HW := Lib.hid (show gSid ptk x l2 = (0, l2) by unfold gSid; rw [if_neg (by simp [hk])])
      go_wp2_with fail
      go_meet
      rw [HW.out]
      exact ⟨sv, lv, HC.out⟩
    · have HW := Lib.hid (show gSid ptk x l2 = gNum ptk 4 l2 by unfold gSid; rw [if_pos hk])
      have Q := Lib.hid (four_calls p l2 _ _ HC.out)
      clear e0 e1 e2 e3 e4 e5 e6
      go_wp2_with fail
      refine Q.out.mono ?_
      rintro e w3 ⟨rfl, a3, c3, hr3, s3⟩
      have c1 := (XO_front s3).cell 3
      have f1 := (XO_front s3).free 3
      simp at c1
      have S3 := Lib.hid s3
      have HR3 := Lib.hid hr3
      clear s3 hr3 Q
      go_wp2_with fail
      go_meet
      rw [HW.out]
      exact ⟨sv, lv, a3, c3, HR3.out, XO_sid S3.out _⟩
  case rest =>
  generalize hK3 : gSid ptk x l2 = P3 at hcut
  obtain ⟨k3, l3⟩ := P3
  have HK3 := Lib.hid hK3
  clear hK3
  simp only at hcut
  clear HC e0 e1 e2 e3 e4 e5 e6
  obtain ⟨wA, hwA⟩ : ∃ z, z = wc := ⟨_, rfl⟩
  subst hwA
  obtain ⟨sv, lv, hcut⟩ := hcut
  have HC := Lib.hid hcut
  obtain ⟨a, c, hr, s⟩ := hcut
  have q := XO_shape s
  have e0 := q 0
  have e1 := q 1
  have e2 := q 2
  have e3 := q 3
  have e4 := q 4
  have e5 := q 5
  have e6 := q 6
  simp at e0 e1 e2 e3 e4 e5 e6
  clear q hr s
  go_upto_if 37 with fail
  go_cut [] from 11 to 42 (fun wx => RO B w0 R p bs po x { Rc.zero with kind := kind, key := k1, n := k2, sid := k3, colour := (gCol ptk x l3).1 } (gCol ptk x l3).2 X wx)
  case first =>
    cases hk : x.colour
    · have HW := Lib.hid (show gCol ptk x l3 = (0, l3) by unfold gCol; rw [if_neg (by simp [hk])])
      go_wp2_with fail
      go_meet
      rw [HW.out]
      exact ⟨sv, lv, HC.out⟩
    · have HW := Lib.hid (show gCol ptk x l3 = gNum ptk 1 l3 by unfold gCol; rw [if_pos hk])
      have Q := Lib.hid (one_calls p l3 _ _ HC.out)
      clear e0 e1 e2 e3 e4 e5 e6
      go_wp2_with fail
      refine Q.out.mono ?_
      rintro e w3 ⟨rfl, a3, c3, hr3, s3⟩
      have c1 := (XO_front s3).cell 5
      have f1 := (XO_front s3).free 5
      simp at c1
      have S3 := Lib.hid s3
      have HR3 := Lib.hid hr3
      clear s3 hr3 Q
      go_wp2_with fail
      go_meet
      rw [HW.out]
      exact ⟨sv, lv, a3, c3, HR3.out, XO_col S3.out _⟩
  case rest =>
  generalize hK4 : gCol ptk x l3 = P4 at hcut
  obtain ⟨k4, l4⟩ := P4
  have HK4 := Lib.hid hK4
  clear hK4
  simp only at hcut
  clear HC e0 e1 e2 e3 e4 e5 e6
  obtain ⟨wA, hwA⟩ : ∃ z, z = wc := ⟨_, rfl⟩
  subst hwA
  obtain ⟨sv, lv, hcut⟩ := hcut
  have HC := Lib.hid hcut
  obtain ⟨a, c, hr, s⟩ := hcut
  have q := XO_shape s
  have e0 := q 0
  have e1 := q 1
  have e2 := q 2
  have e3 := q 3
  have e4 := q 4
  have e5 := q 5
  have e6 := q 6
  simp at e0 e1 e2 e3 e4 e5 e6
  clear q hr s
  go_upto_if 45 with fail
  go_cut [] from 11 to 55 (fun wx => RO B w0 R p bs po x { Rc.zero with kind := kind, key := k1, n := k2, sid := k3, colour := k4, sids := (gSids ptk x l4).1 } (gSids ptk x l4).2 X wx)
  case first =>
    by_cases hk : 0 ≤ x.sids
    · have HW := Lib.hid (show gSids ptk x l4 = ([(gNum ptk 4 l4).1, (gNum ptk 4 (l4.drop 4)).1, (gNum ptk 4 ((l4.drop 4).drop 4)).1], ((l4.drop 4).drop 4).drop 4) by unfold gSids; rw [if_pos hk]; rfl)
      have q := four_calls p l4 _ _ HC.out
      generalize (gNum ptk 4 l4).1 = u1 at q HW
      generalize l4.drop 4 = m1 at q HW
      have Q := Lib.hid q
      clear e0 e1 e2 e3 e4 e5 e6 q
      go_wp2_with fail
      refine Q.out.mono ?_
      rintro e w3 ⟨rfl, h3⟩
      have q := four_calls p m1 _ _ h3
      generalize (gNum ptk 4 m1).1 = u2 at q HW
      generalize m1.drop 4 = m2 at q HW
      clear h3 Q
      have Q := Lib.hid q
      clear q
      go_wp2_with fail
      refine Q.out.mono ?_
      rintro e w4 ⟨rfl, h4⟩
      have q := four_calls p m2 _ _ h4
      generalize (gNum ptk 4 m2).1 = u3 at q HW
      generalize m2.drop 4 = m3 at q HW
      clear h4 Q
      have Q := Lib.hid q
      clear q
      go_wp2_with fail
      refine Q.out.mono ?_
      rintro e w5 ⟨rfl, a3, c3, hr3, s3⟩
      have s4 := s3.alloc (.cells #[.int .i64 u1, .int .i64 u2, .int .i64 u3] 3)
      have c1 := (XO_front s4.right).cell 4
      have f1 := (XO_front s4.right).free 4
      simp at c1
      have S4 := Lib.hid s4
      have HR3 := Lib.hid hr3
      clear s3 hr3 Q s4
      go_wp2_with fail
      go_meet
      rw [HW.out]
      exact ⟨_, lv, a3, c3, HR3.out, XO_sids S4.out⟩
    · have HW := Lib.hid (show gSids ptk x l4 = ([], l4) by unfold gSids; rw [if_neg hk])
      go_wp2_with fail
      go_meet
      rw [HW.out]
      exact ⟨sv, lv, HC.out⟩
  case rest =>
  generalize hK5 : gSids ptk x l4 = P5 at hcut
  obtain ⟨k5, l5⟩ := P5
  have HK5 := Lib.hid hK5
  clear hK5
  simp only at hcut
  clear HC e0 e1 e2 e3 e4 e5 e6
  obtain ⟨wA, hwA⟩ : ∃ z, z = wc := ⟨_, rfl⟩
  subst hwA
  obtain ⟨sv, lv, hcut⟩ := hcut
  have HC := Lib.hid hcut
  obtain ⟨a, c, hr, s⟩ := hcut
  have q := XO_shape s
  have e0 := q 0
  have e1 := q 1
  have e2 := q 2
  have e3 := q 3
  have e4 := q 4
  have e5 := q 5
  have e6 := q 6
  simp at e0 e1 e2 e3 e4 e5 e6
  clear q hr s
  go_upto_if 59 with fail
  go_cut [6] from 11 to 61 (fun v6 wx => v6 = .int .i64 (gCnt ptk x l5).1 ∧ RO B w0 R p bs po x { Rc.zero with kind := kind, key := k1, n := k2, sid := k3, colour := k4, sids := k5 } (gCnt ptk x l5).2 X wx)
  case first =>
    by_cases hk : x.locs < 0
    · have HW := Lib.hid (show gCnt ptk x l5 = gNum ptk 1 l5 by unfold gCnt; rw [if_pos hk])
      have Q := Lib.hid (one_calls p l5 _ _ HC.out)
      clear e0 e1 e2 e3 e4 e5 e6
      go_wp2_with fail
      refine Q.out.mono ?_
      rintro e w3 ⟨rfl, h3⟩
      have H3 := Lib.hid h3
      clear h3 Q
      go_wp2_with fail
      go_meet
      rw [HW.out]
      exact ⟨rfl, sv, lv, H3.out⟩
    · have HW := Lib.hid (show gCnt ptk x l5 = (x.locs, l5) by unfold gCnt; rw [if_neg hk])
      have hk' : 0 ≤ x.locs := by omega
      clear hk
      go_wp2_with fail
      go_meet
      rw [HW.out]
      exact ⟨rfl, sv, lv, HC.out⟩
  case rest =>
  obtain ⟨rfl, hcut⟩ := hcut
  have hcn : ∃ m : Nat, m ≤ 1000 ∧ (gCnt ptk x l5).1 = m := by
    unfold gCnt
    split
    · obtain ⟨k, h1, h2⟩ := one_nat l5
      exact ⟨k, by omega, h2⟩
    · exact ⟨x.locs.toNat, by omega, by show x.locs = _; omega⟩
  obtain ⟨m, hm, hcm⟩ := hcn
  have hcq : gCnt ptk x l5 = ((m : Int), (gCnt ptk x l5).2) := by rw [← hcm]
  rw [hcm]
  generalize (gCnt ptk x l5).2 = l6 at *
  clear hcm
  have HK6 := Lib.hid hcq
  clear HC e0 e1 e2 e3 e4 e5 e6 hcq
  obtain ⟨wA, hwA⟩ : ∃ z, z = wc := ⟨_, rfl⟩
  subst hwA
  have H := Lib.hid hcut
  clear hcut
  go_wp2_with fail
  go_loopw [63] (fun i wr => ∃ n : Nat, n ≤ m ∧ i = .int .i64 n ∧ RO B w0 R p bs po x { Rc.zero with kind := kind, key := k1, n := k2, sid := k3, colour := k4, sids := k5, locs := (gMany (gLoc ptk) n l6).1 } (gMany (gLoc ptk) n l6).2 X wr) (fun i _ => m - (intOf i).toNat)
  case atStart => exact ⟨0, Nat.zero_le _, rfl, H.out⟩
  case round =>
    obtain ⟨n, hn, rfl, hcut⟩ := hrel
    clear H
    have hLn := gMany_len (gLoc ptk) l6 n
    by_cases hlt : n < m
    · have hgs : gMany (gLoc ptk) (n + 1) l6 = ((gMany (gLoc ptk) n l6).1 ++ [(gLoc ptk (gMany (gLoc ptk) n l6).2).1], (gLoc ptk (gMany (gLoc ptk) n l6).2).2) := rfl
      generalize gMany (gLoc ptk) n l6 = M at hcut hLn hgs
      obtain ⟨LL, l'⟩ := M
      simp only at hcut hLn hgs
      obtain ⟨sv, lv, hcut⟩ := hcut
      have hy : gLoc ptk l' = (⟨(gNum ptk 1 l').1, (gNum ptk 1 (l'.drop 1)).1, (gNum ptk 4 ((l'.drop 1).drop 1)).1⟩, ((l'.drop 1).drop 1).drop 4) := rfl
      have q := one_calls p l' _ _ hcut
      generalize (gNum ptk 1 l').1 = y1 at q hy
      generalize l'.drop 1 = m1 at q hy
      have Q := Lib.hid q
      have hltI : (n : Int) < (m : Int) := by omega
      clear q hcut
      have HLn := Lib.hid hLn
      have Hgs := Lib.hid hgs
      have Hy := Lib.hid hy
      clear hLn hgs hy
      go_wp2_with fail
      refine Q.out.mono ?_
      rintro e w1 ⟨rfl, h3⟩
      have h4 := h3.alloc (.cells #[.int .i64 y1, .int .i64 0, .int .i64 0] 31)
      have hy := Hy.out
      have q := one_calls p m1 _ _ h4
      generalize (gNum ptk 1 m1).1 = y2 at q hy
      generalize m1.drop 1 = m2 at q hy
      clear h3 h4 Q Hy
      have Q := Lib.hid q
      clear q
      have Hy := Lib.hid hy
      clear hy
      go_wp2_with fail
      refine Q.out.mono ?_
      rintro e w2 ⟨rfl, h3⟩
      obtain ⟨d1, d2, d3⟩ := h3.front
      have c1 := d1 1
      have f1 := d2 1
      simp at c1
      have h4 : RdS B w0 R p m2 (pts w1.heap.size (.cells #[.int .i64 y1, .int .i64 y2, .int .i64 0] 31 (0, 0)) * (XO bs po x { Rc.zero with kind := kind, key := k1, n := k2, sid := k3, colour := k4, sids := k5, locs := LL } sv lv * X)) (w2.setCell ⟨w1.heap.size, 1, none⟩ (.int .i64 y2)) := d3 1 (.int .i64 y2)
      have hy := Hy.out
      have q := four_calls p m2 _ _ h4
      generalize (gNum ptk 4 m2).1 = y3 at q hy
      generalize m2.drop 4 = m3 at q hy
      clear h3 h4 Q Hy d1 d2 d3
      have Q := Lib.hid q
      clear q
      have Hy := Lib.hid hy
      clear hy
      go_wp2_with fail
      refine Q.out.mono ?_
      rintro e w3 ⟨rfl, h3⟩
      obtain ⟨d1, d2, d3⟩ := h3.front
      have c2 := d1 2
      have f2 := d2 2
      simp at c2
      have h4 : RdS B w0 R p m3 (pts w1.heap.size (.cells #[.int .i64 y1, .int .i64 y2, .int .i64 y3] 31 (0, 0)) * (XO bs po x { Rc.zero with kind := kind, key := k1, n := k2, sid := k3, colour := k4, sids := k5, locs := LL } sv lv * X)) (w3.setCell ⟨w1.heap.size, 2, none⟩ (.int .i64 y3)) := d3 2 (.int .i64 y3)
      obtain ⟨a6, c6, hr6, s6⟩ := h4
      have S6 := Lib.hid (show LJ B w0 po w1.heap.size { Rc.zero with kind := kind, key := k1, n := k2, sid := k3, colour := k4, sids := k5, locs := LL } sv lv ⟨y1, y2, y3⟩ (rdr p a6 c6 m3 * (pts bs (.cells #[.bool x.key, .bool x.sid, .bool x.colour, .bool x.table, .int .i64 x.n, .int .i64 x.sids, .int .i64 x.locs] 51 (0, 0)) * (row 3 1 sv k5.length (ivs k5) * (X * R)))) 0 (fun _ => undef) (w3.setCell ⟨w1.heap.size, 2, none⟩ (.int .i64 y3)) from s6.eq (by unfold XO; ac_rfl))
      have HR6 := Lib.hid hr6
      clear h3 Q c1 f1 d1 d2 d3 hr6 s6
      have hL1000 : LL.length ≤ 1000 := by rw [HLn.out]; omega
      go_wp2_with fail
      refine wp_region_rv [80, 81] (LJ B w0 po w1.heap.size { Rc.zero with kind := kind, key := k1, n := k2, sid := k3, colour := k4, sids := k5, locs := LL } sv lv ⟨y1, y2, y3⟩ (rdr p a6 c6 m3 * (pts bs (.cells #[.bool x.key, .bool x.sid, .bool x.colour, .bool x.table, .int .i64 x.n, .int .i64 x.sids, .int .i64 x.locs] 51 (0, 0)) * (row 3 1 sv k5.length (ivs k5) * (X * R))))) [6, 7, 10] mixed (by kernel_rfl) (by kernel_rfl) rfl (fun _ => St.drew S6.out) ?_
      refine RXl.exact (.pointer (some ⟨po, 0, none⟩)) rfl rfl rfl rfl rfl (fun _ _ _ _ _ => rfl) ?_
      refine RXl.exact (.pointer (some ⟨po, 0, none⟩)) rfl rfl rfl rfl rfl (fun _ _ _ _ _ => rfl) ?_
      refine RXl.exact (.pointer (some ⟨po, 0, none⟩)) rfl rfl rfl rfl rfl (fun j τ w' hj hJ => (by obtain ⟨vs, hv, hJ⟩ := hJ; exact (by simp [rho, upd, Spec.val, execOp, go_sem]))) ?_
      refine RXl.exact (.pointer (some ⟨po, 6, none⟩)) rfl rfl rfl rfl rfl (fun j τ w' hj hJ => (by obtain ⟨vs, hv, hJ⟩ := hJ; exact (by simp [rho, upd, Spec.val, execOp, go_sem]))) ?_
      refine RXl.exactB 2 10 rfl (by kernel_rfl) (lv) rfl rfl rfl rfl rfl (fun j τ w' hj hJ => (by obtain ⟨vs, hv, hJ⟩ := hJ; exact (by obtain ⟨Z, z⟩ := LJ.out (by omega) hJ; have c := z.cell 6; simp at c; simp [rho, upd, Spec.val, execOp, go_sem, c]))) ?_
      refine RXl.exact (.agg #[.int .i64 y1, .int .i64 y2, .int .i64 y3]) rfl rfl rfl rfl rfl (fun j τ w' hj hJ => (by obtain ⟨vs, hv, hJ⟩ := hJ; exact (by obtain ⟨Z, z⟩ := LJ.loc hJ; have c0 := z.cell 0; have c1 := z.cell 1; have c2 := z.cell 2; simp at c0 c1 c2; simp [rho, upd, Spec.val, execOp, go_sem, c0, c1, c2]))) ?_
      refine RXl.effV 0 80 rfl rfl rfl (Nat.le_of_ble_eq_true rfl) rfl rfl rfl rfl (fun ρ vs w hv hJ hag => LJ.lit rfl (hag.ex 79 _ rfl rfl rfl) hJ) ?_
      refine RXl.effV 1 81 rfl rfl rfl (Nat.le_of_ble_eq_true rfl) rfl rfl rfl rfl (fun ρ vs w hv hJ hag => LJ.app rfl (hag.ex 78 _ rfl rfl rfl) (hv 0 80 (by decide) rfl) hL1000 hJ) ?_
      refine RXl.exact (.pointer (some ⟨po, 0, none⟩)) rfl rfl rfl rfl rfl (fun j τ w' hj hJ => (by obtain ⟨vs, hv, hJ⟩ := hJ; exact (by simp [rho, upd, Spec.val, execOp, go_sem]))) ?_
      refine RXl.exact (.pointer (some ⟨po, 6, none⟩)) rfl rfl rfl rfl rfl (fun j τ w' hj hJ => (by obtain ⟨vs, hv, hJ⟩ := hJ; exact (by simp [rho, upd, Spec.val, execOp, go_sem]))) ?_
      refine RXl.effS 2 rfl rfl rfl rfl rfl rfl (fun ρ vs w hv hJ hag => LJ.sto rfl (hag.ex 83 _ rfl rfl rfl) (hv 1 81 (by decide) rfl) hJ) ?_
      refine RXl.nilV _ (AgrL.upd _ _ (AgrL.upd _ _ (AgrL.unk 81 _ rfl (AgrL.unk 80 _ rfl (AgrL.upd _ _ (AgrL.upd _ _ (AgrL.upd _ _ (AgrL.upd _ _ (AgrL.upd _ _ (AgrL.upd _ _ (AgrL.base _))))))))))) (by decide) (by decide) fun vs w8 hJ => ?_
      simp only [puts, Act.put, List.setIfInBounds_toArray, List.set_cons_succ, List.set_cons_zero]
      obtain ⟨lv', s8⟩ := hJ
      have hy := Hy.out
      have hgs := Hgs.out
      rw [hy] at hgs
      have HF := Lib.hid (show RO B w0 R p bs po x { Rc.zero with kind := kind, key := k1, n := k2, sid := k3, colour := k4, sids := k5, locs := (gMany (gLoc ptk) (n + 1) l6).1 } (gMany (gLoc ptk) (n + 1) l6).2 X w8 from by
        rw [hgs]
        refine ⟨sv, lv', a6, c6, HR6.out, ?_⟩
        refine (s8.eq (Q := pts w1.heap.size (.cells #[.int .i64 y1, .int .i64 y2, .int .i64 y3] 31 (0, 0)) * (rdr p a6 c6 m3 * ((XO bs po x { Rc.zero with kind := kind, key := k1, n := k2, sid := k3, colour := k4, sids := k5, locs := LL ++ [⟨y1, y2, y3⟩] } sv lv' * X) * R))) ?_).right
        unfold XO
        simp only [List.length_append, List.length_singleton, List.flatMap_append, List.flatMap_cons, List.flatMap_nil, List.append_nil]
        ac_rfl)
      clear s8 hgs hy Hgs Hy S6
      go_wp2_with fail
      go_roundw
      case rel => exact ⟨n + 1, by omega, by go_num, HF.out⟩
      case measure => simp [intOf]; omega
    · obtain rfl : n = m := by omega
      have hnl : ¬ (n : Int) < (n : Int) := by omega
      generalize hM : gMany (gLoc ptk) n l6 = M at hcut
      obtain ⟨LL, l7⟩ := M
      simp only at hcut
      have HM := Lib.hid hM
      clear hM hLn hlt hn
      obtain ⟨sv, lv, hcut⟩ := hcut
      have HC := Lib.hid hcut
      obtain ⟨a, c, hr, s⟩ := hcut
      have q := XO_shape s
      have e0 := q 0
      have e1 := q 1
      have e2 := q 2
      have e3 := q 3
      have e4 := q 4
      have e5 := q 5
      have e6 := q 6
      simp at e0 e1 e2 e3 e4 e5 e6
      clear q hr s
      have HEND := Lib.hid (show ∀ T s', gTab ptk x l7 = (T, s') → gRead ptk x kind l = ({ Rc.zero with kind := kind, key := k1, n := k2, sid := k3, colour := k4, sids := k5, locs := LL, tab := tbOf T }, s') from fun T s' hT => by
        unfold gRead
        simp only [HK1.out, HK2.out, HK3.out, HK4.out, HK5.out, HK6.out, Int.toNat_natCast, HM.out, hT])
      clear HK1 HK2 HK3 HK4 HK5 HK6 HM
      cases hk : x.table
      · have HW := Lib.hid (HEND.out [0, 0, 0, 0, 0, 0] l7 (by unfold gTab; rw [if_neg (by simp [hk])]))
        go_wp2_with fail
        go_end0
        rw [HW.out]
        exact ⟨rfl, bs, sv, lv, HC.out⟩
      · have HW := Lib.hid (show gTab ptk x l7 = gMany (gNum ptk 4) 6 l7 by unfold gTab; rw [if_pos hk])
        obtain ⟨a, c, hr, s⟩ := HC.out
        have S := Lib.hid s
        have HR := Lib.hid hr
        clear s hr HC e0 e1 e2 e4 e5 e6
        go_wp2_with fail
        refine wp_region_rv [108] (PJ B w0 (rdr p a c l7 * ((XO bs po x { Rc.zero with kind := kind, key := k1, n := k2, sid := k3, colour := k4, sids := k5, locs := LL } sv lv * X) * R)) (fun _ (g : Nat) => .slice (some ⟨g, 0, none⟩) 6 6) (fun _ g => pts g (.cells #[.pointer (some ⟨po, 7, none⟩), .pointer (some ⟨po, 8, none⟩), .pointer (some ⟨po, 9, none⟩), .pointer (some ⟨po, 10, none⟩), .pointer (some ⟨po, 11, none⟩), .pointer (some ⟨po, 12, none⟩)] 87 (0, 0)) * (rdr p a c l7 * ((XO bs po x { Rc.zero with kind := kind, key := k1, n := k2, sid := k3, colour := k4, sids := k5, locs := LL } sv lv * X) * R)))) [18] mixed (by kernel_rfl) (by kernel_rfl) rfl (fun _ => St.drew S.out) ?_
        refine RXl.exact (.pointer (some ⟨po, 7, none⟩)) rfl rfl rfl rfl rfl (fun _ _ _ _ _ => rfl) ?_
        refine RXl.exact (.pointer (some ⟨po, 7, none⟩)) rfl rfl rfl rfl rfl (fun j τ w' hj hJ => (by obtain ⟨vs, hv, hJ⟩ := hJ; exact (by simp [rho, upd, Spec.val, execOp, go_sem]))) ?_
        refine RXl.exact (.pointer (some ⟨po, 7, none⟩)) rfl rfl rfl rfl rfl (fun j τ w' hj hJ => (by obtain ⟨vs, hv, hJ⟩ := hJ; exact (by simp [rho, upd, Spec.val, execOp, go_sem]))) ?_
        refine RXl.exact (.pointer (some ⟨po, 7, none⟩)) rfl rfl rfl rfl rfl (fun _ _ _ _ _ => rfl) ?_
        refine RXl.exact (.pointer (some ⟨po, 7, none⟩)) rfl rfl rfl rfl rfl (fun j τ w' hj hJ => (by obtain ⟨vs, hv, hJ⟩ := hJ; exact (by simp [rho, upd, Spec.val, execOp, go_sem]))) ?_
        refine RXl.exact (.pointer (some ⟨po, 8, none⟩)) rfl rfl rfl rfl rfl (fun j τ w' hj hJ => (by obtain ⟨vs, hv, hJ⟩ := hJ; exact (by simp [rho, upd, Spec.val, execOp, go_sem]))) ?_
        refine RXl.exact (.pointer (some ⟨po, 7, none⟩)) rfl rfl rfl rfl rfl (fun _ _ _ _ _ => rfl) ?_
        refine RXl.exact (.pointer (some ⟨po, 7, none⟩)) rfl rfl rfl rfl rfl (fun j τ w' hj hJ => (by obtain ⟨vs, hv, hJ⟩ := hJ; exact (by simp [rho, upd, Spec.val, execOp, go_sem]))) ?_
        refine RXl.exact (.pointer (some ⟨po, 9, none⟩)) rfl rfl rfl rfl rfl (fun j τ w' hj hJ => (by obtain ⟨vs, hv, hJ⟩ := hJ; exact (by simp [rho, upd, Spec.val, execOp, go_sem]))) ?_
        refine RXl.exact (.pointer (some ⟨po, 7, none⟩)) rfl rfl rfl rfl rfl (fun _ _ _ _ _ => rfl) ?_
        refine RXl.exact (.pointer (some ⟨po, 7, none⟩)) rfl rfl rfl rfl rfl (fun j τ w' hj hJ => (by obtain ⟨vs, hv, hJ⟩ := hJ; exact (by simp [rho, upd, Spec.val, execOp, go_sem]))) ?_
        refine RXl.exact (.pointer (some ⟨po, 10, none⟩)) rfl rfl rfl rfl rfl (fun j τ w' hj hJ => (by obtain ⟨vs, hv, hJ⟩ := hJ; exact (by simp [rho, upd, Spec.val, execOp, go_sem]))) ?_
        refine RXl.exact (.pointer (some ⟨po, 7, none⟩)) rfl rfl rfl rfl rfl (fun _ _ _ _ _ => rfl) ?_
        refine RXl.exact (.pointer (some ⟨po, 7, none⟩)) rfl rfl rfl rfl rfl (fun j τ w' hj hJ => (by obtain ⟨vs, hv, hJ⟩ := hJ; exact (by simp [rho, upd, Spec.val, execOp, go_sem]))) ?_
        refine RXl.exact (.pointer (some ⟨po, 11, none⟩)) rfl rfl rfl rfl rfl (fun j τ w' hj hJ => (by obtain ⟨vs, hv, hJ⟩ := hJ; exact (by simp [rho, upd, Spec.val, execOp, go_sem]))) ?_
        refine RXl.exact (.pointer (some ⟨po, 7, none⟩)) rfl rfl rfl rfl rfl (fun _ _ _ _ _ => rfl) ?_
        refine RXl.exact (.pointer (some ⟨po, 7, none⟩)) rfl rfl rfl rfl rfl (fun j τ w' hj hJ => (by obtain ⟨vs, hv, hJ⟩ := hJ; exact (by simp [rho, upd, Spec.val, execOp, go_sem]))) ?_
        refine RXl.exact (.pointer (some ⟨po, 12, none⟩)) rfl rfl rfl rfl rfl (fun j τ w' hj hJ => (by obtain ⟨vs, hv, hJ⟩ := hJ; exact (by simp [rho, upd, Spec.val, execOp, go_sem]))) ?_
        refine RXl.effV 0 108 rfl rfl rfl (Nat.le_of_ble_eq_true rfl) rfl rfl rfl rfl (PJ.firstOp (fun ρ w hag s => ⟨w.heap.size, w.alloc (.cells #[.pointer (some ⟨po, 7, none⟩), .pointer (some ⟨po, 8, none⟩), .pointer (some ⟨po, 9, none⟩), .pointer (some ⟨po, 10, none⟩), .pointer (some ⟨po, 11, none⟩), .pointer (some ⟨po, 12, none⟩)] 87), by simp [execOp, hag.ex 92 _ rfl rfl rfl, hag.ex 95 _ rfl rfl rfl, hag.ex 98 _ rfl rfl rfl, hag.ex 101 _ rfl rfl rfl, hag.ex 104 _ rfl rfl rfl, hag.ex 107 _ rfl rfl rfl, go_sem], s.alloc _⟩)) ?_
        refine RXl.value (.ex (.int .i64 6)) (Free.ex _) rfl rfl rfl rfl (fun ρ w' j hj hI hag => ⟨_, (by obtain ⟨a, e⟩ := PJ.val (hag.so 108 _ rfl rfl rfl); simp [execOp, go_sem, resolve, invoke, builtin, e]), rfl⟩) ?_
        refine RXl.exact ((.int .i64 0)) rfl rfl rfl rfl rfl (fun _ _ _ _ _ => rfl) ?_
        refine RXl.nilV _ (AgrL.upd _ _ (AgrL.upd _ _ (AgrL.unk 108 _ rfl (AgrL.upd _ _ (AgrL.upd _ _ (AgrL.upd _ _ (AgrL.upd _ _ (AgrL.upd _ _ (AgrL.upd _ _ (AgrL.upd _ _ (AgrL.upd _ _ (AgrL.upd _ _ (AgrL.upd _ _ (AgrL.upd _ _ (AgrL.upd _ _ (AgrL.upd _ _ (AgrL.upd _ _ (AgrL.upd _ _ (AgrL.upd _ _ (AgrL.upd _ _ (AgrL.upd _ _ (AgrL.base _)))))))))))))))))))))) (by decide) (by decide) fun vs w8 hJ => ?_
        simp only [puts, Act.put, List.setIfInBounds_toArray, List.set_cons_succ, List.set_cons_zero]
        obtain ⟨g, hv, s8⟩ := hJ
        rw [show vs 0 = .slice (some ⟨g, 0, none⟩) 6 6 from hv 0 (by decide)]
        have H8 := Lib.hid (show RO B w0 R p bs po x { Rc.zero with kind := kind, key := k1, n := k2, sid := k3, colour := k4, sids := k5, locs := LL } l7 (pts g (.cells #[.pointer (some ⟨po, 7, none⟩), .pointer (some ⟨po, 8, none⟩), .pointer (some ⟨po, 9, none⟩), .pointer (some ⟨po, 10, none⟩), .pointer (some ⟨po, 11, none⟩), .pointer (some ⟨po, 12, none⟩)] 87 (0, 0)) * X) w8 from ⟨sv, lv, a, c, HR.out, St.eq (by ac_rfl) s8⟩)
        clear s8 hv S HR
        go_wp2_with fail
        go_loopw [110] (fun i wr => ∃ n : Nat, n ≤ 6 ∧ i = .int .i64 n ∧ RO B w0 R p bs po x { Rc.zero with kind := kind, key := k1, n := k2, sid := k3, colour := k4, sids := k5, locs := LL, tab := tbOf ((gMany (gNum ptk 4) n l7).1 ++ List.replicate (6 - n) 0) } (gMany (gNum ptk 4) n l7).2 (pts g (.cells #[.pointer (some ⟨po, 7, none⟩), .pointer (some ⟨po, 8, none⟩), .pointer (some ⟨po, 9, none⟩), .pointer (some ⟨po, 10, none⟩), .pointer (some ⟨po, 11, none⟩), .pointer (some ⟨po, 12, none⟩)] 87 (0, 0)) * X) wr) (fun i _ => 6 - (intOf i).toNat)
        case atStart => exact ⟨0, Nat.zero_le _, rfl, H8.out⟩
        case round =>
          obtain ⟨n, hn, rfl, hcut⟩ := hrel
          clear H8
          have hLn := gMany_len (gNum ptk 4) l7 n
          by_cases hlt : n < 6
          · have hgs : gMany (gNum ptk 4) (n + 1) l7 = ((gMany (gNum ptk 4) n l7).1 ++ [(gNum ptk 4 (gMany (gNum ptk 4) n l7).2).1], (gMany (gNum ptk 4) n l7).2.drop 4) := rfl
            generalize gMany (gNum ptk 4) n l7 = M at hcut hLn hgs
            obtain ⟨TT, l'⟩ := M
            simp only at hcut hLn hgs
            obtain ⟨sv, lv, hcut⟩ := hcut
            have hcp : wr.cell? ⟨g, n, none⟩ = some (.pointer (some ⟨po, 7 + n, none⟩)) := by
              obtain ⟨a, c, hr, s⟩ := hcut
              have q := (s.eq (Q := pts g (.cells #[.pointer (some ⟨po, 7, none⟩), .pointer (some ⟨po, 8, none⟩), .pointer (some ⟨po, 9, none⟩), .pointer (some ⟨po, 10, none⟩), .pointer (some ⟨po, 11, none⟩), .pointer (some ⟨po, 12, none⟩)] 87 (0, 0)) * (rdr p a c l' * ((XO bs po x { Rc.zero with kind := kind, key := k1, n := k2, sid := k3, colour := k4, sids := k5, locs := LL, tab := tbOf (TT ++ List.replicate (6 - n) 0) } sv lv * X) * R))) (by ac_rfl)).cell n
              rw [q]
              obtain rfl | rfl | rfl | rfl | rfl | rfl : n = 0 ∨ n = 1 ∨ n = 2 ∨ n = 3 ∨ n = 4 ∨ n = 5 := by omega
              all_goals rfl
            have q := four_calls p l' _ _ hcut
            have hset : (TT ++ List.replicate (6 - n) 0).set n (gNum ptk 4 l').1 = TT ++ [(gNum ptk 4 l').1] ++ List.replicate (6 - (n + 1)) 0 := by
              rw [List.set_append_right _ _ (by omega), hLn, Nat.sub_self]
              rw [show 6 - n = (6 - (n + 1)) + 1 by omega, List.replicate_succ]
              simp
            have hl6 : (TT ++ List.replicate (6 - n) 0).length = 6 := by rw [List.length_append, hLn, List.length_replicate]; omega
            generalize (gNum ptk 4 l').1 = y at q hgs hset
            generalize l'.drop 4 = m1 at q hgs
            have Q := Lib.hid q
            have hltI : (n : Int) < 6 := by omega
            clear q hcut
            have HLn := Lib.hid hLn
            have Hgs := Lib.hid hgs
            have Hset := Lib.hid hset
            have Hl6 := Lib.hid hl6
            clear hLn hgs hset hl6
            go_wp2_with fail
            refine Q.out.mono ?_
            rintro e w1 ⟨rfl, a6, c6, hr6, s6⟩
            have hc1 : ∃ u, w1.cell? ⟨po, 7 + n, none⟩ = some u := by
              have q := (XO_front s6).cell (7 + n)
              rw [q]
              obtain rfl | rfl | rfl | rfl | rfl | rfl : n = 0 ∨ n = 1 ∨ n = 2 ∨ n = 3 ∨ n = 4 ∨ n = 5 := by omega
              all_goals exact ⟨_, rfl⟩
            obtain ⟨u, c1⟩ := hc1
            have f1 := (XO_front s6).free (7 + n)
            have s7 := XO_tab s6 (TT ++ List.replicate (6 - n) 0) rfl Hl6.out n hlt y
            rw [Hset.out] at s7
            have HF := Lib.hid (show RO B w0 R p bs po x { Rc.zero with kind := kind, key := k1, n := k2, sid := k3, colour := k4, sids := k5, locs := LL, tab := tbOf ((gMany (gNum ptk 4) (n + 1) l7).1 ++ List.replicate (6 - (n + 1)) 0) } (gMany (gNum ptk 4) (n + 1) l7).2 (pts g (.cells #[.pointer (some ⟨po, 7, none⟩), .pointer (some ⟨po, 8, none⟩), .pointer (some ⟨po, 9, none⟩), .pointer (some ⟨po, 10, none⟩), .pointer (some ⟨po, 11, none⟩), .pointer (some ⟨po, 12, none⟩)] 87 (0, 0)) * X) (w1.setCell ⟨po, 7 + n, none⟩ (.int .i64 y)) from by
              rw [Hgs.out]
              exact ⟨sv, lv, a6, c6, hr6, s7⟩)
            clear s6 s7 hr6 Q hcp Hset Hl6 Hgs
            go_wp2_with fail
            go_roundw
            case rel => exact ⟨n + 1, by omega, by go_num, HF.out⟩
            case measure => simp [intOf]; omega
          · obtain rfl : n = 6 := by omega
            have HE2 := Lib.hid (HEND.out (gMany (gNum ptk 4) 6 l7).1 (gMany (gNum ptk 4) 6 l7).2 HW.out)
            have hq : (gMany (gNum ptk 4) 6 l7).1 ++ List.replicate (6 - 6) 0 = (gMany (gNum ptk 4) 6 l7).1 := List.append_nil _
            rw [hq] at hcut
            have HC := Lib.hid hcut
            clear hcut hq hLn hlt hn
            go_wp2_with fail
            go_end0
            rw [HE2.out]
            obtain ⟨sv, lv, a, c, hr, s⟩ := HC.out
            exact ⟨rfl, bs, sv, lv, a, c, hr, (s.eq (Q := pts g (.cells #[.pointer (some ⟨po, 7, none⟩), .pointer (some ⟨po, 8, none⟩), .pointer (some ⟨po, 9, none⟩), .pointer (some ⟨po, 10, none⟩), .pointer (some ⟨po, 11, none⟩), .pointer (some ⟨po, 12, none⟩)] 87 (0, 0)) * (rdr p a c (gMany (gNum ptk 4) 6 l7).2 * ((XO bs po x { Rc.zero with kind := kind, key := k1, n := k2, sid := k3, colour := k4, sids := k5, locs := LL, tab := tbOf (gMany (gNum ptk 4) 6 l7).1 } sv lv * X) * R))) (by ac_rfl)).right⟩
end
end Go.Proofs.Ytnfkcmcchkcflaa.RcW
