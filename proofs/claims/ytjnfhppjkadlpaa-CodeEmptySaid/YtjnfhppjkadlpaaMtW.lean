/- mat's small functions, walked: in, New, Size, At, Cells, row. -/
import Derived.Test.YtjnfhppjkadlpaaMtM
import Derived.Test.YtjnfhppjkadlpaaGfX
namespace Go.Proofs.Ytjnfhppjkadlpaa.Mt
open Go Go.RowKit Go.Proofs.Ytjnfhppjkadlpaa Go.Proofs.Ytjnfhppjkadlpaa.Sp Go.Proofs.Ytjnfhppjkadlpaa.Reg Go.Proofs.Ytjnfhppjkadlpaa.Rd Go.Proofs.Ytjnfhppjkadlpaa.Gf
theorem tB : SlT Try.prog 32 5 1 1 (.int .u8 0) := ⟨Try.underlying32, info_parts (by kernel_rfl), rfl, by decide⟩
/-- The struct's cells. -/
def mc (g cap fb r c : Nat) : Array Value := #[.pointer (some ⟨fb, 0, none⟩), .int .i64 (r : Int), .int .i64 (c : Int), .slice (some ⟨g, 0, none⟩) (r * c) cap]
/-- A Matrix: where its cells lie is told. -/
def mo (b g cap fb r c : Nat) (f : Mx) : HP := pts b (.cells (mc g cap fb r c) 141) * row 5 1 (.slice (some ⟨g, 0, none⟩) (r * c) cap) (r * c) (bvs (cl r c f))
/-- The same, where that is not told. -/
def mt (b fb r c : Nat) (f : Mx) : HP := exi fun p : Nat × Nat => mo b p.1 p.2 fb r c f
section
variable {B : Nat} {w0 : World} {R : HP}
theorem mt_open {b fb r c : Nat} {f : Mx} {w : World} (s : St B w0 w (mt b fb r c f * R)) : ∃ g cap, St B w0 w (mo b g cap fb r c f * R) := by
  obtain ⟨p, h⟩ := St.ex.1 s
  exact ⟨p.1, p.2, h⟩
theorem mt_close {b g cap fb r c : Nat} {f : Mx} {w : World} (s : St B w0 w (mo b g cap fb r c f * R)) : St B w0 w (mt b fb r c f * R) := St.ex.2 ⟨(g, cap), s⟩
theorem mo_cells {b g cap fb r c : Nat} {f : Mx} {w : World} (s : St B w0 w (mo b g cap fb r c f * R)) :
    w.cell? ⟨b, 0, none⟩ = some (.pointer (some ⟨fb, 0, none⟩)) ∧ w.cell? ⟨b, 1, none⟩ = some (.int .i64 (r : Int)) ∧ w.cell? ⟨b, 2, none⟩ = some (.int .i64 (c : Int)) ∧ w.cell? ⟨b, 3, none⟩ = some (.slice (some ⟨g, 0, none⟩) (r * c) cap) := by
  have s' := s.eq (sep_assoc _ _ _)
  exact ⟨s'.cell 0, s'.cell 1, s'.cell 2, s'.cell 3⟩
theorem mo_row {b g cap fb r c : Nat} {f : Mx} {w : World} (s : St B w0 w (mo b g cap fb r c f * R)) : St B w0 w (row 5 1 (.slice (some ⟨g, 0, none⟩) (r * c) cap) (r * c) (bvs (cl r c f)) * (pts b (.cells (mc g cap fb r c) 141) * R)) := s.eq (by unfold mo; ac_rfl)
theorem mo_unrow {b g cap fb r c : Nat} {f : Mx} {w : World} (s : St B w0 w (row 5 1 (.slice (some ⟨g, 0, none⟩) (r * c) cap) (r * c) (bvs (cl r c f)) * (pts b (.cells (mc g cap fb r c) 141) * R))) : St B w0 w (mo b g cap fb r c f * R) := s.eq (by unfold mo; ac_rfl)
theorem mo_cap {b g cap fb r c : Nat} {f : Mx} {w : World} (s : St B w0 w (mo b g cap fb r c f * R)) : r * c ≤ cap ∧ cap ≤ maxLen := by
  obtain ⟨-, -, h1, h2, -⟩ := (mo_row s).row1
  exact ⟨h1, h2⟩
theorem mo_at {b g cap fb r c : Nat} {f : Mx} {w : World} (s : St B w0 w (mo b g cap fb r c f * R)) {i j : Nat} (hi : i < r) (hj : j < c) : w.cell? ⟨g, i * c + j, none⟩ = some (bv (f i j)) := by
  obtain ⟨-, -, -, -, h, -⟩ := (mo_row s).row1
  rw [h _ (at_lt hi hj), bvs, List.getElem?_map, cl_get f hi hj]
  rfl
theorem mo_set {b g cap fb r c : Nat} {f : Mx} {w : World} (s : St B w0 w (mo b g cap fb r c f * R)) {i j : Nat} (hi : i < r) (hj : j < c) (v : UInt8) :
    w.frozen? ⟨g, i * c + j, none⟩ = false ∧ St B w0 (w.setCell ⟨g, i * c + j, none⟩ (bv v)) (mo b g cap fb r c (upm f i j v) * R) := by
  obtain ⟨-, -, -, -, -, h1, h2⟩ := (mo_row s).row1
  refine ⟨h1 _, mo_unrow ?_⟩
  have q := h2 (i * c + j) (bv v) (at_lt hi hj)
  rw [← cl_set f hi hj v]
  simpa [bvs, List.map_set] using q
theorem mo_congr {b g cap fb r c : Nat} {f f' : Mx} {w : World} (s : St B w0 w (mo b g cap fb r c f * R)) (h : cl r c f = cl r c f') : St B w0 w (mo b g cap fb r c f' * R) := by
  unfold mo at s ⊢
  rw [← h]; exact s
theorem mt_congr {b fb r c : Nat} {f f' : Mx} {w : World} (s : St B w0 w (mt b fb r c f * R)) (h : cl r c f = cl r c f') : St B w0 w (mt b fb r c f' * R) := by
  obtain ⟨g, cap, s⟩ := mt_open s
  exact mt_close (mo_congr s h)
/-- What is reckoned of a place. -/
theorem place {i j c m : Nat} (h : i * c + j ≤ m) (hm : m ≤ 1000000) : IntKind.i64.wrap ((i : Int) * (c : Int)) = (i : Int) * (c : Int) ∧ IntKind.i64.wrap ((i : Int) * (c : Int) + (j : Int)) = (i : Int) * (c : Int) + (j : Int) ∧
    ((i : Int) * (c : Int) + (j : Int)).toNat = i * c + j ∧ (0 : Int) ≤ (i : Int) * (c : Int) + (j : Int) := by
  have e : (i : Int) * (c : Int) = ((i * c : Nat) : Int) := by push_cast; rfl
  rw [e]
  generalize i * c = p at h
  rw [IntKind.wrap_i64, IntKind.wrap_i64]
  omega
def inB (n : Int) : Bool := decide (1 ≤ n ∧ n ≤ 32)
theorem in_calls (n : Int) (w : World) : Calls Try.prog 88 #[.int .i64 n] w fun e w' => e = .returned (.bool (inB n)) ∧ w = w' := by
  by_cases h1 : 1 ≤ n
  · by_cases h2 : n ≤ 32
    · rw [show inB n = true from decide_eq_true ⟨h1, h2⟩]
      go_enter Try.func88, Try.ntmps88
      go_wp2_with fail
      go_ret
      exact ⟨rfl, rfl⟩
    · rw [show inB n = false from decide_eq_false (fun h => h2 h.2)]
      have h3 : decide (n ≤ 32) = false := by simp; omega
      clear h2
      go_enter Try.func88, Try.ntmps88
      go_wp2_with fail
      go_ret
      exact ⟨rfl, rfl⟩
  · rw [show inB n = false from decide_eq_false (fun h => h1 h.1)]
    have h3 : n < 1 := by omega
    clear h1
    go_enter Try.func88, Try.ntmps88
    go_wp2_with fail
    go_ret
    exact ⟨rfl, rfl⟩
set_option maxRecDepth 100000 in
set_option maxHeartbeats 4000000 in
theorem at_in (b g cap fb r c : Nat) (f : Mx) (i j : Nat) (li : i < r) (lj : j < c) (hr : r * c ≤ 1000000) (w : World) (s : St B w0 w (mo b g cap fb r c f * R)) :
    Calls Try.prog 73 #[.pointer (some ⟨b, 0, none⟩), .int .i64 (i : Int), .int .i64 (j : Int)] w (RetG B w0 (mo b g cap fb r c f * R) (bv (f i j))) := by
  have hp := at_lt li lj
  obtain ⟨q1, q2, q3, q4⟩ := place (Nat.le_of_lt hp) hr
  obtain ⟨c0, c1, c2, c3⟩ := mo_cells s
  have hl : (i : Int) * (c : Int) + (j : Int) < ((r * c : Nat) : Int) := by have e : (i : Int) * (c : Int) = ((i * c : Nat) : Int) := (by push_cast; rfl); rw [e]; omega
  push_cast at hl
  have Q := Lib.hid (And.intro q1 (And.intro q2 (And.intro q3 (And.intro q4 hl))))
  clear q1 q2 q3 q4 hl hp
  have S := Lib.hid s
  clear s
  go_enter Try.func73, Try.ntmps73
  go_wp2_with fail
  refine wp_region_rx (fun _ w' => St B w0 w' (mo b g cap fb r c f * R)) [] mixed (by kernel_rfl) (by kernel_rfl) S.out.drew ?_
  refine RXl.exact (.pointer (some ⟨b, 0, none⟩)) rfl rfl rfl rfl rfl (fun _ _ _ _ _ => rfl) ?_
  refine RXl.exact (.pointer (some ⟨b, 0, none⟩)) rfl rfl rfl rfl rfl (fun j τ w' hj hJ => by simp [rho, upd, Spec.val, execOp, go_sem]) ?_
  refine RXl.exact (.pointer (some ⟨b, 3, none⟩)) rfl rfl rfl rfl rfl (fun j τ w' hj hJ => by simp [rho, upd, Spec.val, execOp, go_sem]) ?_
  refine RXl.exact (.slice (some ⟨g, 0, none⟩) (r * c) cap) rfl rfl rfl rfl rfl (fun j τ w' hj hJ => by have c := (mo_cells hJ).2.2.2; simp [rho, upd, Spec.val, execOp, go_sem, c]) ?_
  refine RXl.exact (.int .i64 (i : Int)) rfl rfl rfl rfl rfl (fun _ _ _ _ _ => rfl) ?_
  refine RXl.exact (.pointer (some ⟨b, 0, none⟩)) rfl rfl rfl rfl rfl (fun _ _ _ _ _ => rfl) ?_
  refine RXl.exact (.pointer (some ⟨b, 0, none⟩)) rfl rfl rfl rfl rfl (fun j τ w' hj hJ => by simp [rho, upd, Spec.val, execOp, go_sem]) ?_
  refine RXl.exact (.pointer (some ⟨b, 2, none⟩)) rfl rfl rfl rfl rfl (fun j τ w' hj hJ => by simp [rho, upd, Spec.val, execOp, go_sem]) ?_
  refine RXl.exact (.int .i64 (c : Int)) rfl rfl rfl rfl rfl (fun j τ w' hj hJ => by have c := (mo_cells hJ).2.2.1; simp [rho, upd, Spec.val, execOp, go_sem, c]) ?_
  refine RXl.exact (.int .i64 ((i : Int) * (c : Int))) rfl rfl rfl rfl rfl (fun j τ w' hj hJ => by simp [rho, upd, Spec.val, execOp, go_sem, Q.out.1]) ?_
  refine RXl.exact (.int .i64 (j : Int)) rfl rfl rfl rfl rfl (fun _ _ _ _ _ => rfl) ?_
  refine RXl.exact (.int .i64 ((i : Int) * (c : Int) + (j : Int))) rfl rfl rfl rfl rfl (fun j τ w' hj hJ => by simp [rho, upd, Spec.val, execOp, go_sem, Q.out.2.1]) ?_
  refine RXl.exact (.pointer (some ⟨g, i * c + j, none⟩)) rfl rfl rfl rfl rfl (fun j τ w' hj hJ => by simp [rho, upd, Spec.val, execOp, go_sem, Q.out.2.2.1, Q.out.2.2.2.1, Q.out.2.2.2.2]) ?_
  refine RXl.exact (bv (f i j)) rfl rfl rfl rfl rfl (fun j τ w' hj hJ => by have c := mo_at hJ li lj; simp [rho, upd, Spec.val, execOp, go_sem, c]) ?_
  refine RXl.exact (bv (f i j)) rfl rfl rfl rfl rfl (fun _ _ _ _ _ => rfl) ?_
  refine RXl.nilx _ (Agr.upd _ _ (Agr.upd _ _ (Agr.upd _ _ (Agr.upd _ _ (Agr.upd _ _ (Agr.upd _ _ (Agr.upd _ _ (Agr.upd _ _ (Agr.upd _ _ (Agr.upd _ _ (Agr.upd _ _ (Agr.upd _ _ (Agr.upd _ _ (Agr.upd _ _ (Agr.upd _ _ (Agr.base _)))))))))))))))) fun w8 hJ => ?_
  obtain ⟨_, hJ⟩ := hJ
  simp only [Act.put, List.setIfInBounds_toArray, List.set_cons_succ, List.set_cons_zero]
  have S8 := Lib.hid (show St B w0 w8 (mo b g cap fb r c f * R) from hJ)
  clear hJ S
  go_wp2_with fail
  go_ret
  exact ⟨rfl, S8.out⟩
set_option maxHeartbeats 1000000 in
theorem at_out (b g cap fb r c : Nat) (f : Mx) (i j : Int) (h : i < 0 ∨ (r : Int) ≤ i ∨ j < 0 ∨ (c : Int) ≤ j) (w : World) (s : St B w0 w (mo b g cap fb r c f * R)) :
    Calls Try.prog 73 #[.pointer (some ⟨b, 0, none⟩), .int .i64 i, .int .i64 j] w (RetG B w0 (mo b g cap fb r c f * R) (bv 0)) := by
  obtain ⟨c0, c1, c2, c3⟩ := mo_cells s
  have S := Lib.hid s
  clear s
  by_cases h1 : i < 0
  · have k1 : decide (i < 0) = true := by simpa using h1
    clear h h1
    go_enter Try.func73, Try.ntmps73
    go_wp2_with fail
    go_ret
    exact ⟨rfl, S.out⟩
  · have k1 : decide (i < 0) = false := by simpa using h1
    by_cases h2 : (r : Int) ≤ i
    · have k2 : decide ((r : Int) ≤ i) = true := by simpa using h2
      clear h h1 h2
      go_enter Try.func73, Try.ntmps73
      go_wp2_with fail
      go_ret
      exact ⟨rfl, S.out⟩
    · have k2 : decide ((r : Int) ≤ i) = false := by simpa using h2
      by_cases h3 : j < 0
      · have k3 : decide (j < 0) = true := by simpa using h3
        clear h h1 h2 h3
        go_enter Try.func73, Try.ntmps73
        go_wp2_with fail
        go_ret
        exact ⟨rfl, S.out⟩
      · have k3 : decide (j < 0) = false := by simpa using h3
        have k4 : decide ((c : Int) ≤ j) = true := by simp; omega
        clear h h1 h2 h3
        go_enter Try.func73, Try.ntmps73
        go_wp2_with fail
        go_ret
        exact ⟨rfl, S.out⟩
/-- New bytes are handed back. -/
def RetB (B : Nat) (w0 : World) (H : HP) (bs : List UInt8) (e : Ending) (w' : World) : Prop := ∃ g c, e = .returned (.slice (some ⟨g, 0, none⟩) bs.length c) ∧ St B w0 w' (row 5 1 (.slice (some ⟨g, 0, none⟩) bs.length c) bs.length (bvs bs) * H)
theorem newB_ret {bs : List UInt8} {a : Option Addr} {e : Ending} {w' : World} {H : HP} (ha : a ≠ none) (h : SlW.NewB B w0 H bs (a = none) e w') : RetB B w0 H bs e w' := by
  obtain ⟨v, rfl, s, hv⟩ := h
  obtain ⟨g, cap, rfl, -⟩ := s.rowSome (fun e => ha (hv.1 e))
  exact ⟨g, cap, rfl, s⟩
theorem mo_bs {b g cap fb r c : Nat} {f : Mx} {w : World} (s : St B w0 w (mo b g cap fb r c f * R)) : BS w (.slice (some ⟨g, 0, none⟩) (r * c) cap) (cl r c f) := (mo_row s).bs
set_option maxRecDepth 100000 in
set_option maxHeartbeats 4000000 in
theorem row_calls (b g cap fb r c : Nat) (f : Mx) (i : Nat) (li : i < r) (hc0 : 0 < c) (hr : r * c ≤ 1000000) (w : World) (s : St B w0 w (mo b g cap fb r c f * R)) :
    Calls Try.prog 102 #[.pointer (some ⟨b, 0, none⟩), .int .i64 (i : Int)] w (RetG B w0 (mo b g cap fb r c f * R) (.slice (some ⟨g, i * c, none⟩) c (cap - i * c))) := by
  have hp := at_lt li hc0
  have hcap := (mo_cap s).1
  have hb : (i + 1) * c ≤ r * c := Nat.mul_le_mul_right c li
  have hb2 : (i + 1) * c = i * c + c := Nat.succ_mul i c
  have e1 : (i : Int) * (c : Int) = ((i * c : Nat) : Int) := by push_cast; rfl
  have e2 : ((i : Int) + 1) * (c : Int) = (((i + 1) * c : Nat) : Int) := by push_cast; rfl
  have hsl := fun w : World => run_slice_sl (P := Try.prog) tB w (some ⟨g, 0, none⟩) (r * c) cap (some (.int .i64 ((i * c : Nat) : Int))) (some (.int .i64 (((i + 1) * c : Nat) : Int))) (i * c) ((i + 1) * c) (.inr ⟨_, rfl⟩) (.inr ⟨_, rfl⟩) (by omega) (by omega)
  rw [if_neg (by omega), Nat.mul_one, show (i + 1) * c - i * c = c by omega] at hsl
  have hsl : ∀ w : World, (Instr.sliceAt 32 (.slice (some ⟨g, 0, none⟩) (r * c) cap) (some (.int .i64 ((i * c : Nat) : Int))) (some (.int .i64 (((i + 1) * c : Nat) : Int))) none).run Try.prog w = .ok (.slice (some ⟨g, i * c, none⟩) c (cap - i * c)) w := fun w => (hsl w).trans (by simp [Addr.add_lit])
  have w1 : IntKind.i64.wrap ((i : Int) * (c : Int)) = ((i * c : Nat) : Int) := by rw [e1, IntKind.wrap_i64]; omega
  have w2 : IntKind.i64.wrap (((i : Int) + 1) * (c : Int)) = (((i + 1) * c : Nat) : Int) := by rw [e2, IntKind.wrap_i64]; omega
  have w3 : IntKind.i64.wrap ((i : Int) + 1) = ((i + 1 : Nat) : Int) := by
    have : i < i * c + c := by
      have := Nat.le_mul_of_pos_right i hc0
      omega
    rw [IntKind.wrap_i64]; omega
  have Q := Lib.hid (And.intro w1 (And.intro w2 (And.intro w3 hsl)))
  clear hsl w1 w2 w3 e1 e2 hb hb2 hcap hp
  have S := Lib.hid s
  clear s
  go_enter Try.func102, Try.ntmps102
  go_wp2_with fail
  refine wp_region_rx (fun _ w' => St B w0 w' (mo b g cap fb r c f * R)) [] mixed (by kernel_rfl) (by kernel_rfl) S.out.drew ?_
  refine RXl.exact (.pointer (some ⟨b, 0, none⟩)) rfl rfl rfl rfl rfl (fun _ _ _ _ _ => rfl) ?_
  refine RXl.exact (.pointer (some ⟨b, 0, none⟩)) rfl rfl rfl rfl rfl (fun j τ w' hj hJ => by simp [rho, upd, Spec.val, execOp, go_sem]) ?_
  refine RXl.exact (.pointer (some ⟨b, 3, none⟩)) rfl rfl rfl rfl rfl (fun j τ w' hj hJ => by simp [rho, upd, Spec.val, execOp, go_sem]) ?_
  refine RXl.exact (.slice (some ⟨g, 0, none⟩) (r * c) cap) rfl rfl rfl rfl rfl (fun j τ w' hj hJ => by have c := (mo_cells hJ).2.2.2; simp [rho, upd, Spec.val, execOp, go_sem, c]) ?_
  refine RXl.exact (.int .i64 (i : Int)) rfl rfl rfl rfl rfl (fun _ _ _ _ _ => rfl) ?_
  refine RXl.exact (.pointer (some ⟨b, 0, none⟩)) rfl rfl rfl rfl rfl (fun _ _ _ _ _ => rfl) ?_
  refine RXl.exact (.pointer (some ⟨b, 0, none⟩)) rfl rfl rfl rfl rfl (fun j τ w' hj hJ => by simp [rho, upd, Spec.val, execOp, go_sem]) ?_
  refine RXl.exact (.pointer (some ⟨b, 2, none⟩)) rfl rfl rfl rfl rfl (fun j τ w' hj hJ => by simp [rho, upd, Spec.val, execOp, go_sem]) ?_
  refine RXl.exact (.int .i64 (c : Int)) rfl rfl rfl rfl rfl (fun j τ w' hj hJ => by have c := (mo_cells hJ).2.2.1; simp [rho, upd, Spec.val, execOp, go_sem, c]) ?_
  refine RXl.exact (.int .i64 ((i * c : Nat) : Int)) rfl rfl rfl rfl rfl (fun j τ w' hj hJ => by have c := Q.out.1; simp only [Int.natCast_mul] at c; simp [rho, upd, Spec.val, execOp, go_sem, c]) ?_
  refine RXl.exact (.int .i64 (i : Int)) rfl rfl rfl rfl rfl (fun _ _ _ _ _ => rfl) ?_
  refine RXl.exact (.int .i64 ((i + 1 : Nat) : Int)) rfl rfl rfl rfl rfl (fun j τ w' hj hJ => by have c := Q.out.2.2.1; simp only [Int.natCast_add] at c; simp [rho, upd, Spec.val, execOp, go_sem]; exact c) ?_
  refine RXl.exact (.pointer (some ⟨b, 0, none⟩)) rfl rfl rfl rfl rfl (fun _ _ _ _ _ => rfl) ?_
  refine RXl.exact (.pointer (some ⟨b, 0, none⟩)) rfl rfl rfl rfl rfl (fun j τ w' hj hJ => by simp [rho, upd, Spec.val, execOp, go_sem]) ?_
  refine RXl.exact (.pointer (some ⟨b, 2, none⟩)) rfl rfl rfl rfl rfl (fun j τ w' hj hJ => by simp [rho, upd, Spec.val, execOp, go_sem]) ?_
  refine RXl.exact (.int .i64 (c : Int)) rfl rfl rfl rfl rfl (fun j τ w' hj hJ => by have c := (mo_cells hJ).2.2.1; simp [rho, upd, Spec.val, execOp, go_sem, c]) ?_
  refine RXl.exact (.int .i64 (((i + 1) * c : Nat) : Int)) rfl rfl rfl rfl rfl (fun j τ w' hj hJ => by have c := Q.out.2.1; simp [rho, upd, Spec.val, execOp, go_sem]; push_cast at c; exact c) ?_
  refine RXl.exact (.slice (some ⟨g, i * c, none⟩) c (cap - i * c)) rfl rfl rfl rfl rfl (fun j τ w' hj hJ => exec_slice rfl (Q.out.2.2.2 w')) ?_
  refine RXl.exact (.slice (some ⟨g, i * c, none⟩) c (cap - i * c)) rfl rfl rfl rfl rfl (fun _ _ _ _ _ => rfl) ?_
  refine RXl.nilx _ (Agr.upd _ _ (Agr.upd _ _ (Agr.upd _ _ (Agr.upd _ _ (Agr.upd _ _ (Agr.upd _ _ (Agr.upd _ _ (Agr.upd _ _ (Agr.upd _ _ (Agr.upd _ _ (Agr.upd _ _ (Agr.upd _ _ (Agr.upd _ _ (Agr.upd _ _ (Agr.upd _ _ (Agr.upd _ _ (Agr.upd _ _ (Agr.upd _ _ (Agr.upd _ _ (Agr.base _)))))))))))))))))))) fun w8 hJ => ?_
  obtain ⟨_, hJ⟩ := hJ
  simp only [Act.put, List.setIfInBounds_toArray, List.set_cons_succ, List.set_cons_zero]
  have S8 := Lib.hid (show St B w0 w8 (mo b g cap fb r c f * R) from hJ)
  clear hJ S Q
  go_wp2_with fail
  go_ret
  exact ⟨rfl, S8.out⟩
theorem row_bs {b g cap fb r c : Nat} {f : Mx} {i : Nat} {w : World} (li : i < r) (hc0 : 0 < c) (s : St B w0 w (mo b g cap fb r c f * R)) : BS w (.slice (some ⟨g, i * c, none⟩) c (cap - i * c)) (mrow c f i) := by
  have hb : (i + 1) * c ≤ r * c := Nat.mul_le_mul_right c li
  have hb2 : (i + 1) * c = i * c + c := Nat.succ_mul i c
  have hcap := (mo_cap s).1
  have q := (mo_bs s).sub (i * c) (i * c + c) (by omega) (by rw [cl_len]; omega)
  rw [show i * c + c - i * c = c by omega, cl_row f li] at q
  unfold subA at q
  rw [if_neg (by omega), Nat.mul_one] at q
  simpa [Addr.add_lit] using q
set_option maxHeartbeats 1000000 in
theorem new_good (fb r c : Nat) (a : Option Addr) (n ca : Nat) (xs : List UInt8) (hr : 1 ≤ r ∧ r ≤ 32) (hc : 1 ≤ c ∧ c ≤ 32) (hl : xs.length = r * c) (w : World) (h : BS w (.slice a n ca) xs) (s : St B w0 w R) :
    Calls Try.prog 71 #[.pointer (some ⟨fb, 0, none⟩), .int .i64 (r : Int), .int .i64 (c : Int), .slice a n ca] w fun e w' => ∃ b, e = .returned (.tuple #[.pointer (some ⟨b, 0, none⟩), .int .i64 0]) ∧ St B w0 w' (mt b fb r c (ofl c xs) * R) := by
  obtain rfl := h.rd.1
  have hrc : r * c ≤ 32 * 32 := Nat.mul_le_mul hr.2 hc.2
  have hp : 0 < r * c := Nat.mul_pos hr.1 hc.1
  have ha : a ≠ none := by
    obtain ⟨_, _, rfl⟩ := h.head (by omega)
    simp
  have hc1 := SlW.clone_callsN a xs.length ca xs w h (by omega) s
  have HC := Lib.hid (show Calls _ _ _ _ (fun e w' => RetB B w0 R xs e w') from hc1.mono fun _ _ q => newB_ret ha q)
  have i1 : inB (r : Int) = true := decide_eq_true (by omega)
  have i2 : inB (c : Int) = true := decide_eq_true (by omega)
  have e1 : IntKind.i64.wrap ((r : Int) * (c : Int)) = (r : Int) * (c : Int) := by
    have e : (r : Int) * (c : Int) = ((r * c : Nat) : Int) := by push_cast; rfl
    rw [e, IntKind.wrap_i64]; omega
  have e2 : (xs.length : Int) = (r : Int) * (c : Int) := by rw [hl]; push_cast; rfl
  have HL := Lib.hid hl
  have HN := Lib.hid ha
  clear hc1 s h ha hl hrc hp
  go_enter Try.func71, Try.ntmps71
  go_wp2_with fail
  refine (in_calls (r : Int) w).mono ?_
  rw [i1]
  rintro e w' ⟨rfl, rfl⟩
  go_wp2_with fail
  refine (in_calls (c : Int) w).mono ?_
  rw [i2]
  rintro e w' ⟨rfl, rfl⟩
  go_wp2_with fail
  refine HC.out.mono ?_
  rintro e w1 ⟨g, cap, rfl, s1⟩
  have S1 := Lib.hid s1
  clear s1 HC
  go_wp2_with fail
  have s2 := S1.out.alloc (.cells #[.pointer (some ⟨fb, 0, none⟩), .int .i64 (r : Int), .int .i64 (c : Int), .slice (some ⟨g, 0, none⟩) xs.length cap] 141)
  have S2 := Lib.hid s2
  clear s2 S1
  go_ret2
  refine ⟨_, rfl, mt_close (g := g) (cap := cap) (S2.out.eq ?_)⟩
  unfold mo mc
  rw [cl_ofl HL.out, HL.out]
  ac_rfl
theorem mul_ne {r c n : Nat} (h : n ≠ r * c) : ((n : Int) != (r : Int) * (c : Int)) = true := by
  rw [bne_iff_ne]
  intro e
  exact h (by rw [← Int.natCast_mul] at e; omega)
set_option maxHeartbeats 1000000 in
theorem new_bad (fb : Nat) (r c : Int) (a : Option Addr) (n ca : Nat) (h : ¬ ((1 ≤ r ∧ r ≤ 32) ∧ (1 ≤ c ∧ c ≤ 32) ∧ (n : Int) = r * c)) (w : World) (s : St B w0 w R) :
    Calls Try.prog 71 #[.pointer (some ⟨fb, 0, none⟩), .int .i64 r, .int .i64 c, .slice a n ca] w (RetG B w0 R (.tuple #[.pointer none, .int .i64 1])) := by
  have S := Lib.hid s
  clear s
  by_cases hr : inB r = true
  · by_cases hc : inB c = true
    · have i1 : 1 ≤ r ∧ r ≤ 32 := of_decide_eq_true hr
      have i2 : 1 ≤ c ∧ c ≤ 32 := of_decide_eq_true hc
      have hn : ((n : Int) != r * c) = true := by rw [bne_iff_ne]; exact fun e => h ⟨i1, i2, e⟩
      have e1 : IntKind.i64.wrap (r * c) = r * c := by
        have h1 : 0 ≤ r * c := Int.mul_nonneg (by omega) (by omega)
        have h2 : r * c ≤ 32 * 32 := Int.mul_le_mul i1.2 i2.2 (by omega) (by omega)
        rw [IntKind.wrap_i64]; omega
      have HR := Lib.hid hr
      have HC := Lib.hid hc
      clear h hr hc
      go_enter Try.func71, Try.ntmps71
      go_wp2_with fail
      refine (in_calls r w).mono ?_
      rw [HR.out]
      rintro e w' ⟨rfl, rfl⟩
      go_wp2_with fail
      refine (in_calls c w).mono ?_
      rw [HC.out]
      rintro e w' ⟨rfl, rfl⟩
      go_wp2_with fail
      go_ret2
      exact ⟨rfl, S.out⟩
    · have HR := Lib.hid hr
      have HC := Lib.hid (show inB c = false by simpa using hc)
      clear h hr hc
      go_enter Try.func71, Try.ntmps71
      go_wp2_with fail
      refine (in_calls r w).mono ?_
      rw [HR.out]
      rintro e w' ⟨rfl, rfl⟩
      go_wp2_with fail
      refine (in_calls c w).mono ?_
      rw [HC.out]
      rintro e w' ⟨rfl, rfl⟩
      go_wp2_with fail
      go_ret2
      exact ⟨rfl, S.out⟩
  · have HR := Lib.hid (show inB r = false by simpa using hr)
    clear h hr
    go_enter Try.func71, Try.ntmps71
    go_wp2_with fail
    refine (in_calls r w).mono ?_
    rw [HR.out]
    rintro e w' ⟨rfl, rfl⟩
    go_wp2_with fail
    go_ret2
    exact ⟨rfl, S.out⟩
theorem new_nil (r c : Int) (v : Value) (w : World) (s : St B w0 w R) : Calls Try.prog 71 #[.pointer none, .int .i64 r, .int .i64 c, v] w (RetG B w0 R (.tuple #[.pointer none, .int .i64 1])) := by
  have S := Lib.hid s
  clear s
  go_enter Try.func71, Try.ntmps71
  go_wp2_with fail
  go_ret2
  exact ⟨rfl, S.out⟩
end
end Go.Proofs.Ytjnfhppjkadlpaa.Mt
