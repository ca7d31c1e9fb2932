/- Matrices as functions, laid row by row in a list; sums. Program-free. -/
import Derived.Test.YtjnfhppjkadlpaaMgG
import Derived.Test.YtjnfhppjkadlpaaMgB

namespace Go.Proofs.Ytjnfhppjkadlpaa.Mt
open Go Go.RowKit Go.Proofs.Ytjnfhppjkadlpaa Go.Proofs.Ytjnfhppjkadlpaa.Sp Go.Proofs.Ytjnfhppjkadlpaa.Gf
abbrev Mx := Nat → Nat → UInt8
def cl (r c : Nat) (f : Mx) : List UInt8 := (List.range (r * c)).map fun q => f (q / c) (q % c)
theorem cl_len (r c : Nat) (f : Mx) : (cl r c f).length = r * c := by simp [cl]
theorem at_lt {r c i j : Nat} (hi : i < r) (hj : j < c) : i * c + j < r * c := by
  have h : (i + 1) * c ≤ r * c := Nat.mul_le_mul_right c hi
  rw [Nat.succ_mul] at h
  omega
theorem at_div {c i j : Nat} (hj : j < c) : (i * c + j) / c = i ∧ (i * c + j) % c = j := by
  constructor
  · rw [Nat.mul_comm, Nat.mul_add_div (by omega), Nat.div_eq_of_lt hj, Nat.add_zero]
  · rw [Nat.mul_comm, Nat.mul_add_mod, Nat.mod_eq_of_lt hj]
theorem div_at {r c q : Nat} (hq : q < r * c) : q / c < r ∧ q % c < c ∧ q = q / c * c + q % c := by
  have hc : 0 < c := by
    rcases Nat.eq_zero_or_pos c with h | h
    · subst h; simp at hq
    · exact h
  refine ⟨(Nat.div_lt_iff_lt_mul hc).2 hq, Nat.mod_lt _ hc, ?_⟩
  rw [Nat.mul_comm]; exact (Nat.div_add_mod q c).symm
theorem cl_get {r c i j : Nat} (f : Mx) (hi : i < r) (hj : j < c) : (cl r c f)[i * c + j]? = some (f i j) := by
  have h := at_lt hi hj
  simp only [cl, List.getElem?_map, List.getElem?_range h, Option.map_some]
  rw [(at_div hj).1, (at_div hj).2]
theorem cl_congr {r c : Nat} {f g : Mx} (h : ∀ i j, i < r → j < c → f i j = g i j) : cl r c f = cl r c g := by
  refine List.map_congr_left fun q hq => ?_
  have := div_at (List.mem_range.1 hq)
  exact h _ _ this.1 this.2.1
theorem cl_inj {r c : Nat} {f g : Mx} (h : cl r c f = cl r c g) {i j : Nat} (hi : i < r) (hj : j < c) : f i j = g i j := by
  have h1 := cl_get f hi hj
  rw [h, cl_get g hi hj] at h1
  exact (Option.some.inj h1).symm
/-- One cell turned. -/
def upm (f : Mx) (a b : Nat) (v : UInt8) : Mx := fun i j => if i = a ∧ j = b then v else f i j
theorem cl_set {r c i j : Nat} (f : Mx) (_hi : i < r) (hj : j < c) (v : UInt8) : (cl r c f).set (i * c + j) v = cl r c (upm f i j v) := by
  apply List.ext_getElem
  · simp [cl]
  · intro q h1 h2
    have hq : q < r * c := by simpa [cl] using h2
    have hd := div_at hq
    rw [List.getElem_set]
    simp only [cl, List.getElem_map, List.getElem_range, upm]
    by_cases h : i * c + j = q
    · subst h
      rw [if_pos rfl, (at_div hj).1, (at_div hj).2, if_pos ⟨rfl, rfl⟩]
    · rw [if_neg h, if_neg]
      rintro ⟨e1, e2⟩
      exact h (by rw [hd.2.2, e1, e2])
/-- Cells as a function. -/
def ofl (c : Nat) (xs : List UInt8) : Mx := fun i j => xs.getD (i * c + j) 0
theorem cl_ofl {r c : Nat} {xs : List UInt8} (h : xs.length = r * c) : cl r c (ofl c xs) = xs := by
  apply List.ext_getElem
  · rw [cl_len, h]
  · intro q h1 h2
    have hd := div_at (show q < r * c by omega)
    simp only [cl, List.getElem_map, List.getElem_range, ofl]
    rw [← hd.2.2, List.getD_eq_getElem?_getD, List.getElem?_eq_getElem h2]
    rfl
/-- One row. -/
def mrow (c : Nat) (f : Mx) (i : Nat) : List UInt8 := (List.range c).map (f i)
theorem mrow_len (c : Nat) (f : Mx) (i : Nat) : (mrow c f i).length = c := by simp [mrow]
theorem cl_row {r c i : Nat} (f : Mx) (hi : i < r) : ((cl r c f).drop (i * c)).take c = mrow c f i := by
  have hb : i * c + c ≤ r * c := by rw [← Nat.succ_mul]; exact Nat.mul_le_mul_right c hi
  apply List.ext_getElem
  · simp [cl_len, mrow]; omega
  · intro j h1 h2
    have hj : j < c := by simpa [mrow] using h2
    simp only [List.getElem_take, List.getElem_drop, cl, List.getElem_map, List.getElem_range, mrow]
    rw [(at_div hj).1, (at_div hj).2]
theorem cl_succ (r c : Nat) (f : Mx) : cl (r + 1) c f = cl r c f ++ mrow c f r := by
  apply List.ext_getElem
  · simp [cl_len, mrow_len, Nat.succ_mul]
  · intro q h1 h2
    have hq : q < (r + 1) * c := by simpa [cl] using h1
    have hd := div_at hq
    by_cases h : q < r * c
    · rw [List.getElem_append_left (by rw [cl_len]; exact h)]
      simp [cl]
    · rw [List.getElem_append_right (by rw [cl_len]; omega)]
      simp only [cl, mrow, List.getElem_map, List.getElem_range, List.length_map, List.length_range]
      have e1 : q / c = r := by
        have : r ≤ q / c := by rw [Nat.le_div_iff_mul_le (by omega)]; omega
        omega
      have e2 : q % c = q - r * c := by have := hd.2.2; rw [e1] at this; omega
      rw [e1, e2]
theorem cl_one (c : Nat) (f : Mx) : cl 0 c f = [] := by simp [cl]
/-- A sum. -/
def sm : Nat → (Nat → UInt8) → UInt8
  | 0, _ => 0
  | n + 1, g => sm n g ^^^ g n
theorem sm_congr {n : Nat} {f g : Nat → UInt8} (h : ∀ k, k < n → f k = g k) : sm n f = sm n g := by
  induction n with
  | zero => rfl
  | succ n ih => show sm n f ^^^ f n = sm n g ^^^ g n; rw [ih fun k hk => h k (by omega), h n (by omega)]
def mmul (n : Nat) (f g : Mx) : Mx := fun i j => sm n fun k => gmul (f i k) (g k j)
def unit : Mx := fun i j => if i = j then 1 else 0
theorem gdot_map (f g : Nat → UInt8) : ∀ n, gdot ((List.range n).map f) ((List.range n).map g) = sm n fun k => gmul (f k) (g k)
  | 0 => rfl
  | n + 1 => by
    rw [List.range_succ, List.map_append, List.map_append]
    show gdot (_ ++ [f n]) (_ ++ [g n]) = sm n _ ^^^ _
    rw [gdot_snoc _ _ _ _ (by simp), gdot_map f g n]
/-- A product, under way. -/
def pm (n : Nat) (f g : Mx) (i j k : Nat) : Mx := fun a b => if a < i ∨ (a = i ∧ b < j) then mmul n f g a b else if a = i ∧ b = j then sm k fun q => gmul (f i q) (g q j) else 0
theorem pm_zero (n : Nat) (f g : Mx) : pm n f g 0 0 0 = fun _ _ => 0 := by
  funext a b
  unfold pm
  rw [if_neg (by omega)]
  split <;> rfl
theorem pm_k (n : Nat) (f g : Mx) (i j k : Nat) : upm (pm n f g i j k) i j (pm n f g i j k i j ^^^ gmul (f i k) (g k j)) = pm n f g i j (k + 1) := by
  funext a b
  unfold upm
  by_cases h : a = i ∧ b = j
  · rw [if_pos h]
    obtain ⟨rfl, rfl⟩ := h
    unfold pm
    rw [if_neg (by omega), if_pos ⟨rfl, rfl⟩, if_neg (by omega), if_pos ⟨rfl, rfl⟩]
    rfl
  · rw [if_neg h]
    unfold pm
    rw [if_neg h, if_neg h]
theorem pm_j (n : Nat) (f g : Mx) (i j : Nat) : pm n f g i j n = pm n f g i (j + 1) 0 := by
  funext a b
  unfold pm
  by_cases h1 : a < i ∨ (a = i ∧ b < j)
  · rw [if_pos h1, if_pos (by omega)]
  · rw [if_neg h1]
    by_cases h2 : a = i ∧ b = j
    · obtain ⟨rfl, rfl⟩ := h2
      rw [if_pos ⟨rfl, rfl⟩, if_pos (by omega)]
      rfl
    · rw [if_neg h2, if_neg (by omega)]
      split <;> rfl
theorem pm_i (n : Nat) (f g : Mx) (i r c : Nat) : cl r c (pm n f g i c 0) = cl r c (pm n f g (i + 1) 0 0) := by
  refine cl_congr fun a b _ hb => ?_
  unfold pm
  by_cases h1 : a < i ∨ (a = i ∧ b < c)
  · rw [if_pos h1, if_pos (by omega)]
  · rw [if_neg h1, if_neg (by omega), if_neg (by omega)]
    split <;> rfl
theorem pm_end (n : Nat) (f g : Mx) (r c : Nat) : cl r c (pm n f g r 0 0) = cl r c (mmul n f g) := by
  refine cl_congr fun a b ha _ => ?_
  unfold pm
  rw [if_pos (by omega)]
theorem cl_zero (r c : Nat) : cl r c (fun _ _ => 0) = List.replicate (r * c) 0 := by
  refine List.eq_replicate_iff.2 ⟨cl_len _ _ _, fun b hb => ?_⟩
  obtain ⟨q, _, rfl⟩ := List.mem_map.1 hb
  rfl
/-- The unit, under way. -/
def pu (k : Nat) : Mx := fun i j => if i = j ∧ i < k then 1 else 0
theorem pu_zero : pu 0 = fun _ _ => 0 := by funext i j; unfold pu; rw [if_neg (by omega)]
theorem pu_step (k : Nat) : upm (pu k) k k 1 = pu (k + 1) := by
  funext i j
  unfold upm pu
  by_cases h : i = k ∧ j = k
  · rw [if_pos h, if_pos (by omega)]
  · rw [if_neg h]
    by_cases h2 : i = j ∧ i < k
    · rw [if_pos h2, if_pos (by omega)]
    · rw [if_neg h2, if_neg (by omega)]
theorem pu_end (n : Nat) : cl n n (pu n) = cl n n unit := by
  refine cl_congr fun a b ha _ => ?_
  unfold pu unit
  by_cases h : a = b
  · rw [if_pos ⟨h, ha⟩, if_pos h]
  · rw [if_neg (fun q => h q.1), if_neg h]
end Go.Proofs.Ytjnfhppjkadlpaa.Mt

namespace Go.Proofs.Ytjnfhppjkadlpaa.Mt
open Go Go.RowKit Go.Proofs.Ytjnfhppjkadlpaa Go.Proofs.Ytjnfhppjkadlpaa.Sp Go.Proofs.Ytjnfhppjkadlpaa.Reg Go.Proofs.Ytjnfhppjkadlpaa.Rd Go.Proofs.Ytjnfhppjkadlpaa.Gf
theorem tB : SlT Try.prog 32 5 1 1 (.int .u8 0) := ⟨Try.underlying32, info_parts (by kernel_rfl), rfl, by decide⟩
/-- The struct's cells. -/
def mc (g cap fb r c : Nat) : Array Value := #[.pointer (some ⟨fb, 0, none⟩), .int .i64 (r : Int), .int .i64 (c : Int), .slice (some ⟨g, 0, none⟩) (r * c) cap]
/-- A Matrix: where its cells lie is told. -/
def mo (b g cap fb r c : Nat) (f : Mx) : HP := pts b (.cells (mc g cap fb r c) 141) * row 5 1 (.slice (some ⟨g, 0, none⟩) (r * c) cap) (r * c) (bvs (cl r c f))
/-- The same, where that is not told. -/
def mt (b fb r c : Nat) (f : Mx) : HP := exi fun p : Nat × Nat => mo b p.1 p.2 fb r c f
section
variable {B : Nat} {w0 : World} {R : HP}
theorem mt_open {b fb r c : Nat} {f : Mx} {w : World} (s : St B w0 w (mt b fb r c f * R)) : ∃ g cap, St B w0 w (mo b g cap fb r c f * R) := by
  obtain ⟨p, h⟩ := St.ex.1 s
  exact ⟨p.1, p.2, h⟩
theorem mt_close {b g cap fb r c : Nat} {f : Mx} {w : World} (s : St B w0 w (mo b g cap fb r c f * R)) : St B w0 w (mt b fb r c f * R) := St.ex.2 ⟨(g, cap), s⟩
theorem mo_cells {b g cap fb r c : Nat} {f : Mx} {w : World} (s : St B w0 w (mo b g cap fb r c f * R)) :
    w.cell? ⟨b, 0, none⟩ = some (.pointer (some ⟨fb, 0, none⟩)) ∧ w.cell? ⟨b, 1, none⟩ = some (.int .i64 (r : Int)) ∧ w.cell? ⟨b, 2, none⟩ = some (.int .i64 (c : Int)) ∧ w.cell? ⟨b, 3, none⟩ = some (.slice (some ⟨g, 0, none⟩) (r * c) cap) := by
  have s' := s.eq (sep_assoc _ _ _)
  exact ⟨s'.cell 0, s'.cell 1, s'.cell 2, s'.cell 3⟩
theorem mo_row {b g cap fb r c : Nat} {f : Mx} {w : World} (s : St B w0 w (mo b g cap fb r c f * R)) : St B w0 w (row 5 1 (.slice (some ⟨g, 0, none⟩) (r * c) cap) (r * c) (bvs (cl r c f)) * (pts b (.cells (mc g cap fb r c) 141) * R)) := s.eq (by unfold mo; ac_rfl)
theorem mo_unrow {b g cap fb r c : Nat} {f : Mx} {w : World} (s : St B w0 w (row 5 1 (.slice (some ⟨g, 0, none⟩) (r * c) cap) (r * c) (bvs (cl r c f)) * (pts b (.cells (mc g cap fb r c) 141) * R))) : St B w0 w (mo b g cap fb r c f * R) := s.eq (by unfold mo; ac_rfl)
theorem mo_cap {b g cap fb r c : Nat} {f : Mx} {w : World} (s : St B w0 w (mo b g cap fb r c f * R)) : r * c ≤ cap ∧ cap ≤ maxLen := by
  obtain ⟨-, -, h1, h2, -⟩ := (mo_row s).row1
  exact ⟨h1, h2⟩
theorem mo_at {b g cap fb r c : Nat} {f : Mx} {w : World} (s : St B w0 w (mo b g cap fb r c f * R)) {i j : Nat} (hi : i < r) (hj : j < c) : w.cell? ⟨g, i * c + j, none⟩ = some (bv (f i j)) := by
  obtain ⟨-, -, -, -, h, -⟩ := (mo_row s).row1
  rw [h _ (at_lt hi hj), bvs, List.getElem?_map, cl_get f hi hj]
  rfl
theorem mo_set {b g cap fb r c : Nat} {f : Mx} {w : World} (s : St B w0 w (mo b g cap fb r c f * R)) {i j : Nat} (hi : i < r) (hj : j < c) (v : UInt8) :
    w.frozen? ⟨g, i * c + j, none⟩ = false ∧ St B w0 (w.setCell ⟨g, i * c + j, none⟩ (bv v)) (mo b g cap fb r c (upm f i j v) * R) := by
  obtain ⟨-, -, -, -, -, h1, h2⟩ := (mo_row s).row1
  refine ⟨h1 _, mo_unrow ?_⟩
  have q := h2 (i * c + j) (bv v) (at_lt hi hj)
  rw [← cl_set f hi hj v]
  simpa [bvs, List.map_set] using q
theorem mo_congr {b g cap fb r c : Nat} {f f' : Mx} {w : World} (s : St B w0 w (mo b g cap fb r c f * R)) (h : cl r c f = cl r c f') : St B w0 w (mo b g cap fb r c f' * R) := by
  unfold mo at s ⊢
  rw [← h]; exact s
theorem mt_congr {b fb r c : Nat} {f f' : Mx} {w : World} (s : St B w0 w (mt b fb r c f * R)) (h : cl r c f = cl r c f') : St B w0 w (mt b fb r c f' * R) := by
  obtain ⟨g, cap, s⟩ := mt_open s
  exact mt_close (mo_congr s h)
/-- What is reckoned of a place. -/
theorem place {i j c m : Nat} (h : i * c + j ≤ m) (hm : m ≤ 1000000) : IntKind.i64.wrap ((i : Int) * (c : Int)) = (i : Int) * (c : Int) ∧ IntKind.i64.wrap ((i : Int) * (c : Int) + (j : Int)) = (i : Int) * (c : Int) + (j : Int) ∧
    ((i : Int) * (c : Int) + (j : Int)).toNat = i * c + j ∧ (0 : Int) ≤ (i : Int) * (c : Int) + (j : Int) := by
  have e : (i : Int) * (c : Int) = ((i * c : Nat) : Int) := by push_cast; rfl
  rw [e]
  generalize i * c = p at h
  rw [IntKind.wrap_i64, IntKind.wrap_i64]
  omega
def inB (n : Int) : Bool := decide (1 ≤ n ∧ n ≤ 32)
theorem in_calls (n : Int) (w : World) : Calls Try.prog 88 #[.int .i64 n] w fun e w' => e = .returned (.bool (inB n)) ∧ w = w' := by
  by_cases h1 : 1 ≤ n
  · by_cases h2 : n ≤ 32
    · rw [show inB n = true from decide_eq_true ⟨h1, h2⟩]
      go_enter Try.func88, Try.ntmps88
      go_wp2_with fail
      go_ret
      exact ⟨rfl, rfl⟩
    · rw [show inB n = false from decide_eq_false (fun h => h2 h.2)]
      have h3 : decide (n ≤ 32) = false := by simp; omega
      clear h2
      go_enter Try.func88, Try.ntmps88
      go_wp2_with fail
      go_ret
      exact ⟨rfl, rfl⟩
  · rw [show inB n = false from decide_eq_false (fun h => h1 h.1)]
    have h3 : n < 1 := by omega
    clear h1
    go_enter Try.func88, Try.ntmps88
    go_wp2_with fail
    go_ret
    exact ⟨rfl, rfl⟩
set_option maxRecDepth 100000 in
set_option maxHeartbeats 4000000 in
theorem at_in (b g cap fb r c : Nat) (f : Mx) (i j : Nat) (li : i < r) (lj : j < c) (hr : r * c ≤ 1000000) (w : World) (s : St B w0 w (mo b g cap fb r c f * R)) :
    Calls Try.prog 73 #[.pointer (some ⟨b, 0, none⟩), .int .i64 (i : Int), .int .i64 (j : Int)] w (RetG B w0 (mo b g cap fb r c f * R) (bv (f i j))) := by
  have hp := at_lt li lj
  obtain ⟨q1, q2, q3, q4⟩ := place (Nat.le_of_lt hp) hr
  obtain ⟨c0, c1, c2, c3⟩ := mo_cells s
  have hl : (i : Int) * (c : Int) + (j : Int) < ((r * c : Nat) : Int) := by have e : (i : Int) * (c : Int) = ((i * c : Nat) : Int) := (by push_cast; rfl); rw [e]; omega
  push_cast at hl
  have Q := Lib.hid (And.intro q1 (And.intro q2 (And.intro q3 (And.intro q4 hl))))
  clear q1 q2 q3 q4 hl hp
  have S := Lib.hid s
  clear s
  go_enter Try.func73, Try.ntmps73
  go_wp2_with fail
  refine wp_region_rx (fun _ w' => St B w0 w' (mo b g cap fb r c f * R)) [] mixed (by kernel_rfl) (by kernel_rfl) S.out.drew ?_
  refine RXl.exact (.pointer (some ⟨b, 0, none⟩)) rfl rfl rfl rfl rfl (fun _ _ _ _ _ => rfl) ?_
  refine RXl.exact (.pointer (some ⟨b, 0, none⟩)) rfl rfl rfl rfl rfl (fun j τ w' hj hJ => by simp [rho, upd, Spec.val, execOp, go_sem]) ?_
  refine RXl.exact (.pointer (some ⟨b, 3, none⟩)) rfl rfl rfl rfl rfl (fun j τ w' hj hJ => by simp [rho, upd, Spec.val, execOp, go_sem]) ?_
  refine RXl.exact (.slice (some ⟨g, 0, none⟩) (r * c) cap) rfl rfl rfl rfl rfl (fun j τ w' hj hJ => by have c := (mo_cells hJ).2.2.2; simp [rho, upd, Spec.val, execOp, go_sem, c]) ?_
  refine RXl.exact (.int .i64 (i : Int)) rfl rfl rfl rfl rfl (fun _ _ _ _ _ => rfl) ?_
  refine RXl.exact (.pointer (some ⟨b, 0, none⟩)) rfl rfl rfl rfl rfl (fun _ _ _ _ _ => rfl) ?_
  refine RXl.exact (.pointer (some ⟨b, 0, none⟩)) rfl rfl rfl rfl rfl (fun j τ w' hj hJ => by simp [rho, upd, Spec.val, execOp, go_sem]) ?_
  refine RXl.exact (.pointer (some ⟨b, 2, none⟩)) rfl rfl rfl rfl rfl (fun j τ w' hj hJ => by simp [rho, upd, Spec.val, execOp, go_sem]) ?_
  refine RXl.exact (.int .i64 (c : Int)) rfl rfl rfl rfl rfl (fun j τ w' hj hJ => by have c := (mo_cells hJ).2.2.1; simp [rho, upd, Spec.val, execOp, go_sem, c]) ?_
  refine RXl.exact (.int .i64 ((i : Int) * (c : Int))) rfl rfl rfl rfl rfl (fun j τ w' hj hJ => by simp [rho, upd, Spec.val, execOp, go_sem, Q.out.1]) ?_
  refine RXl.exact (.int .i64 (j : Int)) rfl rfl rfl rfl rfl (fun _ _ _ _ _ => rfl) ?_
  refine RXl.exact (.int .i64 ((i : Int) * (c : Int) + (j : Int))) rfl rfl rfl rfl rfl (fun j τ w' hj hJ => by simp [rho, upd, Spec.val, execOp, go_sem, Q.out.2.1]) ?_
  refine RXl.exact (.pointer (some ⟨g, i * c + j, none⟩)) rfl rfl rfl rfl rfl (fun j τ w' hj hJ => by simp [rho, upd, Spec.val, execOp, go_sem, Q.out.2.2.1, Q.out.2.2.2.1, Q.out.2.2.2.2]) ?_
  refine RXl.exact (bv (f i j)) rfl rfl rfl rfl rfl (fun j τ w' hj hJ => by have c := mo_at hJ li lj; simp [rho, upd, Spec.val, execOp, go_sem, c]) ?_
  refine RXl.exact (bv (f i j)) rfl rfl rfl rfl rfl (fun _ _ _ _ _ => rfl) ?_
  refine RXl.nilx _ (Agr.upd _ _ (Agr.upd _ _ (Agr.upd _ _ (Agr.upd _ _ (Agr.upd _ _ (Agr.upd _ _ (Agr.upd _ _ (Agr.upd _ _ (Agr.upd _ _ (Agr.upd _ _ (Agr.upd _ _ (Agr.upd _ _ (Agr.upd _ _ (Agr.upd _ _ (Agr.upd _ _ (Agr.base _)))))))))))))))) fun w8 hJ => ?_
  obtain ⟨_, hJ⟩ := hJ
  simp only [Act.put, List.setIfInBounds_toArray, List.set_cons_succ, List.set_cons_zero]
  have S8 := Lib.hid (show St B w0 w8 (mo b g cap fb r c f * R) from hJ)
  clear hJ S
  go_wp2_with fail
  go_ret
  exact ⟨rfl, S8.out⟩
set_option maxHeartbeats 1000000 in
theorem at_out (b g cap fb r c : Nat) (f : Mx) (i j : Int) (h : i < 0 ∨ (r : Int) ≤ i ∨ j < 0 ∨ (c : Int) ≤ j) (w : World) (s : St B w0 w (mo b g cap fb r c f * R)) :
    Calls Try.prog 73 #[.pointer (some ⟨b, 0, none⟩), .int .i64 i, .int .i64 j] w (RetG B w0 (mo b g cap fb r c f * R) (bv 0)) := by
  obtain ⟨c0, c1, c2, c3⟩ := mo_cells s
  have S := Lib.hid s
  clear s
  by_cases h1 : i < 0
  · have k1 : decide (i < 0) = true := by simpa using h1
    clear h h1
    go_enter Try.func73, Try.ntmps73
    go_wp2_with fail
    go_ret
    exact ⟨rfl, S.out⟩
  · have k1 : decide (i < 0) = false := by simpa using h1
    by_cases h2 : (r : Int) ≤ i
    · have k2 : decide ((r : Int) ≤ i) = true := by simpa using h2
      clear h h1 h2
      go_enter Try.func73, Try.ntmps73
      go_wp2_with fail
      go_ret
      exact ⟨rfl, S.out⟩
    · have k2 : decide ((r : Int) ≤ i) = false := by simpa using h2
      by_cases h3 : j < 0
      · have k3 : decide (j < 0) = true := by simpa using h3
        clear h h1 h2 h3
        go_enter Try.func73, Try.ntmps73
        go_wp2_with fail
        go_ret
        exact ⟨rfl, S.out⟩
      · have k3 : decide (j < 0) = false := by simpa using h3
        have k4 : decide ((c : Int) ≤ j) = true := by simp; omega
        clear h h1 h2 h3
        go_enter Try.func73, Try.ntmps73
        go_wp2_with fail
        go_ret
        exact ⟨rfl, S.out⟩
/-- New bytes are handed back. -/
def RetB (B : Nat) (w0 : World) (H : HP) (bs : List UInt8) (e : Ending) (w' : World) : Prop := ∃ g c, e = .returned (.slice (some ⟨g, 0, none⟩) bs.length c) ∧ St B w0 w' (row 5 1 (.slice (some ⟨g, 0, none⟩) bs.length c) bs.length (bvs bs) * H)
theorem newB_ret {bs : List UInt8} {a : Option Addr} {e : Ending} {w' : World} {H : HP} (ha : a ≠ none) (h : SlW.NewB B w0 H bs (a = none) e w') : RetB B w0 H bs e w' := by
  obtain ⟨v, rfl, s, hv⟩ := h
  obtain ⟨g, cap, rfl, -⟩ := s.rowSome (fun e => ha (hv.1 e))
  exact ⟨g, cap, rfl, s⟩
theorem mo_bs {b g cap fb r c : Nat} {f : Mx} {w : World} (s : St B w0 w (mo b g cap fb r c f * R)) : BS w (.slice (some ⟨g, 0, none⟩) (r * c) cap) (cl r c f) := (mo_row s).bs
set_option maxRecDepth 100000 in
set_option maxHeartbeats 4000000 in
theorem row_calls (b g cap fb r c : Nat) (f : Mx) (i : Nat) (li : i < r) (hc0 : 0 < c) (hr : r * c ≤ 1000000) (w : World) (s : St B w0 w (mo b g cap fb r c f * R)) :
    Calls Try.prog 102 #[.pointer (some ⟨b, 0, none⟩), .int .i64 (i : Int)] w (RetG B w0 (mo b g cap fb r c f * R) (.slice (some ⟨g, i * c, none⟩) c (cap - i * c))) := by
  have hp := at_lt li hc0
  have hcap := (mo_cap s).1
  have hb : (i + 1) * c ≤ r * c := Nat.mul_le_mul_right c li
  have hb2 : (i + 1) * c = i * c + c := Nat.succ_mul i c
  have e1 : (i : Int) * (c : Int) = ((i * c : Nat) : Int) := by push_cast; rfl
  have e2 : ((i : Int) + 1) * (c : Int) = (((i + 1) * c : Nat) : Int) := by push_cast; rfl
  have hsl := fun w : World => run_slice_sl (P := Try.prog) tB w (some ⟨g, 0, none⟩) (r * c) cap (some (.int .i64 ((i * c : Nat) : Int))) (some (.int .i64 (((i + 1) * c : Nat) : Int))) (i * c) ((i + 1) * c) (.inr ⟨_, rfl⟩) (.inr ⟨_, rfl⟩) (by omega) (by omega)
  rw [if_neg (by omega), Nat.mul_one, show (i + 1) * c - i * c = c by omega] at hsl
  have hsl : ∀ w : World, (Instr.sliceAt 32 (.slice (some ⟨g, 0, none⟩) (r * c) cap) (some (.int .i64 ((i * c : Nat) : Int))) (some (.int .i64 (((i + 1) * c : Nat) : Int))) none).run Try.prog w = .ok (.slice (some ⟨g, i * c, none⟩) c (cap - i * c)) w := fun w => (hsl w).trans (by simp [Addr.add_lit])
  have w1 : IntKind.i64.wrap ((i : Int) * (c : Int)) = ((i * c : Nat) : Int) := by rw [e1, IntKind.wrap_i64]; omega
  have w2 : IntKind.i64.wrap (((i : Int) + 1) * (c : Int)) = (((i + 1) * c : Nat) : Int) := by rw [e2, IntKind.wrap_i64]; omega
  have w3 : IntKind.i64.wrap ((i : Int) + 1) = ((i + 1 : Nat) : Int) := by
    have : i < i * c + c := by
      have := Nat.le_mul_of_pos_right i hc0
      omega
    rw [IntKind.wrap_i64]; omega
  have Q := Lib.hid (And.intro w1 (And.intro w2 (And.intro w3 hsl)))
  clear hsl w1 w2 w3 e1 e2 hb hb2 hcap hp
  have S := Lib.hid s
  clear s
  go_enter Try.func102, Try.ntmps102
  go_wp2_with fail
  refine wp_region_rx (fun _ w' => St B w0 w' (mo b g cap fb r c f * R)) [] mixed (by kernel_rfl) (by kernel_rfl) S.out.drew ?_
  refine RXl.exact (.pointer (some ⟨b, 0, none⟩)) rfl rfl rfl rfl rfl (fun _ _ _ _ _ => rfl) ?_
  refine RXl.exact (.pointer (some ⟨b, 0, none⟩)) rfl rfl rfl rfl rfl (fun j τ w' hj hJ => by simp [rho, upd, Spec.val, execOp, go_sem]) ?_
  refine RXl.exact (.pointer (some ⟨b, 3, none⟩)) rfl rfl rfl rfl rfl (fun j τ w' hj hJ => by simp [rho, upd, Spec.val, execOp, go_sem]) ?_
  refine RXl.exact (.slice (some ⟨g, 0, none⟩) (r * c) cap) rfl rfl rfl rfl rfl (fun j τ w' hj hJ => by have c := (mo_cells hJ).2.2.2; simp [rho, upd, Spec.val, execOp, go_sem, c]) ?_
  refine RXl.exact (.int .i64 (i : Int)) rfl rfl rfl rfl rfl (fun _ _ _ _ _ => rfl) ?_
  refine RXl.exact (.pointer (some ⟨b, 0, none⟩)) rfl rfl rfl rfl rfl (fun _ _ _ _ _ => rfl) ?_
  refine RXl.exact (.pointer (some ⟨b, 0, none⟩)) rfl rfl rfl rfl rfl (fun j τ w' hj hJ => by simp [rho, upd, Spec.val, execOp, go_sem]) ?_
  refine RXl.exact (.pointer (some ⟨b, 2, none⟩)) rfl rfl rfl rfl rfl (fun j τ w' hj hJ => by simp [rho, upd, Spec.val, execOp, go_sem]) ?_
  refine RXl.exact (.int .i64 (c : Int)) rfl rfl rfl rfl rfl (fun j τ w' hj hJ => by have c := (mo_cells hJ).2.2.1; simp [rho, upd, Spec.val, execOp, go_sem, c]) ?_
  refine RXl.exact (.int .i64 ((i * c : Nat) : Int)) rfl rfl rfl rfl rfl (fun j τ w' hj hJ => by have c := Q.out.1; simp only [Int.natCast_mul] at c; simp [rho, upd, Spec.val, execOp, go_sem, c]) ?_
  refine RXl.exact (.int .i64 (i : Int)) rfl rfl rfl rfl rfl (fun _ _ _ _ _ => rfl) ?_
  refine RXl.exact (.int .i64 ((i + 1 : Nat) : Int)) rfl rfl rfl rfl rfl (fun j τ w' hj hJ => by have c := Q.out.2.2.1; simp only [Int.natCast_add] at c; simp [rho, upd, Spec.val, execOp, go_sem]; exact c) ?_
  refine RXl.exact (.pointer (some ⟨b, 0, none⟩)) rfl rfl rfl rfl rfl (fun _ _ _ _ _ => rfl) ?_
  refine RXl.exact (.pointer (some ⟨b, 0, none⟩)) rfl rfl rfl rfl rfl (fun j τ w' hj hJ => by simp [rho, upd, Spec.val, execOp, go_sem]) ?_
  refine RXl.exact (.pointer (some ⟨b, 2, none⟩)) rfl rfl rfl rfl rfl (fun j τ w' hj hJ => by simp [rho, upd, Spec.val, execOp, go_sem]) ?_
  refine RXl.exact (.int .i64 (c : Int)) rfl rfl rfl rfl rfl (fun j τ w' hj hJ => by have c := (mo_cells hJ).2.2.1; simp [rho, upd, Spec.val, execOp, go_sem, c]) ?_
  refine RXl.exact (.int .i64 (((i + 1) * c : Nat) : Int)) rfl rfl rfl rfl rfl (fun j τ w' hj hJ => by have c := Q.out.2.1; simp [rho, upd, Spec.val, execOp, go_sem]; push_cast at c; exact c) ?_
  refine RXl.exact (.slice (some ⟨g, i * c, none⟩) c (cap - i * c)) rfl rfl rfl rfl rfl (fun j τ w' hj hJ => exec_slice rfl (Q.out.2.2.2 w')) ?_
  refine RXl.exact (.slice (some ⟨g, i * c, none⟩) c (cap - i * c)) rfl rfl rfl rfl rfl (fun _ _ _ _ _ => rfl) ?_
  refine RXl.nilx _ (Agr.upd _ _ (Agr.upd _ _ (Agr.upd _ _ (Agr.upd _ _ (Agr.upd _ _ (Agr.upd _ _ (Agr.upd _ _ (Agr.upd _ _ (Agr.upd _ _ (Agr.upd _ _ (Agr.upd _ _ (Agr.upd _ _ (Agr.upd _ _ (Agr.upd _ _ (Agr.upd _ _ (Agr.upd _ _ (Agr.upd _ _ (Agr.upd _ _ (Agr.upd _ _ (Agr.base _)))))))))))))))))))) fun w8 hJ => ?_
  obtain ⟨_, hJ⟩ := hJ
  simp only [Act.put, List.setIfInBounds_toArray, List.set_cons_succ, List.set_cons_zero]
  have S8 := Lib.hid (show St B w0 w8 (mo b g cap fb r c f * R) from hJ)
  clear hJ S Q
  go_wp2_with fail
  go_ret
  exact ⟨rfl, S8.out⟩
theorem row_bs {b g cap fb r c : Nat} {f : Mx} {i : Nat} {w : World} (li : i < r) (hc0 : 0 < c) (s : St B w0 w (mo b g cap fb r c f * R)) : BS w (.slice (some ⟨g, i * c, none⟩) c (cap - i * c)) (mrow c f i) := by
  have hb : (i + 1) * c ≤ r * c := Nat.mul_le_mul_right c li
  have hb2 : (i + 1) * c = i * c + c := Nat.succ_mul i c
  have hcap := (mo_cap s).1
  have q := (mo_bs s).sub (i * c) (i * c + c) (by omega) (by rw [cl_len]; omega)
  rw [show i * c + c - i * c = c by omega, cl_row f li] at q
  unfold subA at q
  rw [if_neg (by omega), Nat.mul_one] at q
  simpa [Addr.add_lit] using q
set_option maxHeartbeats 1000000 in
theorem new_good (fb r c : Nat) (a : Option Addr) (n ca : Nat) (xs : List UInt8) (hr : 1 ≤ r ∧ r ≤ 32) (hc : 1 ≤ c ∧ c ≤ 32) (hl : xs.length = r * c) (w : World) (h : BS w (.slice a n ca) xs) (s : St B w0 w R) :
    Calls Try.prog 71 #[.pointer (some ⟨fb, 0, none⟩), .int .i64 (r : Int), .int .i64 (c : Int), .slice a n ca] w fun e w' => ∃ b, e = .returned (.tuple #[.pointer (some ⟨b, 0, none⟩), .int .i64 0]) ∧ St B w0 w' (mt b fb r c (ofl c xs) * R) := by
  obtain rfl := h.rd.1
  have hrc : r * c ≤ 32 * 32 := Nat.mul_le_mul hr.2 hc.2
  have hp : 0 < r * c := Nat.mul_pos hr.1 hc.1
  have ha : a ≠ none := by
    obtain ⟨_, _, rfl⟩ := h.head (by omega)
    simp
  have hc1 := SlW.clone_callsN a xs.length ca xs w h (by omega) s
  have HC := Lib.hid (show Calls _ _ _ _ (fun e w' => RetB B w0 R xs e w') from hc1.mono fun _ _ q => newB_ret ha q)
  have i1 : inB (r : Int) = true := decide_eq_true (by omega)
  have i2 : inB (c : Int) = true := decide_eq_true (by omega)
  have e1 : IntKind.i64.wrap ((r : Int) * (c : Int)) = (r : Int) * (c : Int) := by
    have e : (r : Int) * (c : Int) = ((r * c : Nat) : Int) := by push_cast; rfl
    rw [e, IntKind.wrap_i64]; omega
  have e2 : (xs.length : Int) = (r : Int) * (c : Int) := by rw [hl]; push_cast; rfl
  have HL := Lib.hid hl
  have HN := Lib.hid ha
  clear hc1 s h ha hl hrc hp
  go_enter Try.func71, Try.ntmps71
  go_wp2_with fail
  refine (in_calls (r : Int) w).mono ?_
  rw [i1]
  rintro e w' ⟨rfl, rfl⟩
  go_wp2_with fail
  refine (in_calls (c : Int) w).mono ?_
  rw [i2]
  rintro e w' ⟨rfl, rfl⟩
  go_wp2_with fail
  refine HC.out.mono ?_
  rintro e w1 ⟨g, cap, rfl, s1⟩
  have S1 := Lib.hid s1
  clear s1 HC
  go_wp2_with fail
  have s2 := S1.out.alloc (.cells #[.pointer (some ⟨fb, 0, none⟩), .int .i64 (r : Int), .int .i64 (c : Int), .slice (some ⟨g, 0, none⟩) xs.length cap] 141)
  have S2 := Lib.hid s2
  clear s2 S1
  go_ret2
  refine ⟨_, rfl, mt_close (g := g) (cap := cap) (S2.out.eq ?_)⟩
  unfold mo mc
  rw [cl_ofl HL.out, HL.out]
  ac_rfl
theorem mul_ne {r c n : Nat} (h : n ≠ r * c) : ((n : Int) != (r : Int) * (c : Int)) = true := by
  rw [bne_iff_ne]
  intro e
  exact h (by rw [← Int.natCast_mul] at e; omega)
set_option maxHeartbeats 1000000 in
theorem new_bad (fb : Nat) (r c : Int) (a : Option Addr) (n ca : Nat) (h : ¬ ((1 ≤ r ∧ r ≤ 32) ∧ (1 ≤ c ∧ c ≤ 32) ∧ (n : Int) = r * c)) (w : World) (s : St B w0 w R) :
    Calls Try.prog 71 #[.pointer (some ⟨fb, 0, none⟩), .int .i64 r, .int .i64 c, .slice a n ca] w (RetG B w0 R (.tuple #[.pointer none, .int .i64 1])) := by
  have S := Lib.hid s
  clear s
  by_cases hr : inB r = true
  · by_cases hc : inB c = true
    · have i1 : 1 ≤ r ∧ r ≤ 32 := of_decide_eq_true hr
      have i2 : 1 ≤ c ∧ c ≤ 32 := of_decide_eq_true hc
      have hn : ((n : Int) != r * c) = true := by rw [bne_iff_ne]; exact fun e => h ⟨i1, i2, e⟩
      have e1 : IntKind.i64.wrap (r * c) = r * c := by
        have h1 : 0 ≤ r * c := Int.mul_nonneg (by omega) (by omega)
        have h2 : r * c ≤ 32 * 32 := Int.mul_le_mul i1.2 i2.2 (by omega) (by omega)
        rw [IntKind.wrap_i64]; omega
      have HR := Lib.hid hr
      have HC := Lib.hid hc
      clear h hr hc
      go_enter Try.func71, Try.ntmps71
      go_wp2_with fail
      refine (in_calls r w).mono ?_
      rw [HR.out]
      rintro e w' ⟨rfl, rfl⟩
      go_wp2_with fail
      refine (in_calls c w).mono ?_
      rw [HC.out]
      rintro e w' ⟨rfl, rfl⟩
      go_wp2_with fail
      go_ret2
      exact ⟨rfl, S.out⟩
    · have HR := Lib.hid hr
      have HC := Lib.hid (show inB c = false by simpa using hc)
      clear h hr hc
      go_enter Try.func71, Try.ntmps71
      go_wp2_with fail
      refine (in_calls r w).mono ?_
      rw [HR.out]
      rintro e w' ⟨rfl, rfl⟩
      go_wp2_with fail
      refine (in_calls c w).mono ?_
      rw [HC.out]
      rintro e w' ⟨rfl, rfl⟩
      go_wp2_with fail
      go_ret2
      exact ⟨rfl, S.out⟩
  · have HR := Lib.hid (show inB r = false by simpa using hr)
    clear h hr
    go_enter Try.func71, Try.ntmps71
    go_wp2_with fail
    refine (in_calls r w).mono ?_
    rw [HR.out]
    rintro e w' ⟨rfl, rfl⟩
    go_wp2_with fail
    go_ret2
    exact ⟨rfl, S.out⟩
theorem new_nil (r c : Int) (v : Value) (w : World) (s : St B w0 w R) : Calls Try.prog 71 #[.pointer none, .int .i64 r, .int .i64 c, v] w (RetG B w0 R (.tuple #[.pointer none, .int .i64 1])) := by
  have S := Lib.hid s
  clear s
  go_enter Try.func71, Try.ntmps71
  go_wp2_with fail
  go_ret2
  exact ⟨rfl, S.out⟩
end
end Go.Proofs.Ytjnfhppjkadlpaa.Mt

namespace Go.Proofs.Ytjnfhppjkadlpaa.Mt
open Go Go.RowKit Go.Proofs.Ytjnfhppjkadlpaa Go.Proofs.Ytjnfhppjkadlpaa.Sp Go.Proofs.Ytjnfhppjkadlpaa.Reg Go.Proofs.Ytjnfhppjkadlpaa.Rd Go.Proofs.Ytjnfhppjkadlpaa.Gf
section
variable {B : Nat} {w0 : World} {R : HP}
/-- What a place needs, in the walk's words. -/
theorem spot {r c i j : Nat} (li : i < r) (lj : j < c) (hr : r * c ≤ 1000000) : IntKind.i64.wrap ((i : Int) * (c : Int)) = (i : Int) * (c : Int) ∧ IntKind.i64.wrap ((i : Int) * (c : Int) + (j : Int)) = (i : Int) * (c : Int) + (j : Int) ∧
    ((i : Int) * (c : Int) + (j : Int)).toNat = i * c + j ∧ (0 : Int) ≤ (i : Int) * (c : Int) + (j : Int) ∧ (i : Int) * (c : Int) + (j : Int) < (r : Int) * (c : Int) := by
  have hp := at_lt li lj
  obtain ⟨q1, q2, q3, q4⟩ := place (Nat.le_of_lt hp) hr
  refine ⟨q1, q2, q3, q4, ?_⟩
  have e : (i : Int) * (c : Int) = ((i * c : Nat) : Int) := by push_cast; rfl
  have e' : (r : Int) * (c : Int) = ((r * c : Nat) : Int) := by push_cast; rfl
  rw [e, e']
  omega
theorem wrapm {r c m : Nat} (h : r * c ≤ m) (hm : m ≤ 1000000) : IntKind.i64.wrap ((r : Int) * (c : Int)) = (r : Int) * (c : Int) := by
  have e : (r : Int) * (c : Int) = ((r * c : Nat) : Int) := by push_cast; rfl
  rw [e, IntKind.wrap_i64]
  omega
set_option maxHeartbeats 4000000 in
theorem unit_good (fb n : Nat) (hn : 1 ≤ n ∧ n ≤ 32) (w : World) (s : St B w0 w R) :
    Calls Try.prog 89 #[.pointer (some ⟨fb, 0, none⟩), .int .i64 (n : Int)] w fun e w' => ∃ b, e = .returned (.tuple #[.pointer (some ⟨b, 0, none⟩), .int .i64 0]) ∧ St B w0 w' (mt b fb n n unit * R) := by
  have hnn : n * n ≤ 32 * 32 := Nat.mul_le_mul hn.2 hn.2
  have i1 : inB (n : Int) = true := decide_eq_true (by omega)
  have e1 := wrapm hnn (by omega)
  have S := Lib.hid s
  clear s
  go_enter Try.func89, Try.ntmps89
  go_wp2_with fail
  refine (in_calls (n : Int) w).mono ?_
  rw [i1]
  rintro e w' ⟨rfl, rfl⟩
  go_wp2_with (at_make; go_must (refine wpl_make1 rfl _ _ rfl tB rfl S.out .i64 .i64 (n * n) (n * n) (by go_num) (by go_num) (Nat.le_refl _) (by unfold maxLen; omega) (by omega) ?_); intro g w2 s2; rw [bvs_zeros, ← cl_zero, ← pu_zero] at s2; clear S; have S := Lib.hid s2; clear s2)
  have s3 := S.out.alloc (.cells (mc g (n * n) fb n n) 141)
  have s4 : St B w0 _ (mo w2.heap.size g (n * n) fb n n (pu 0) * R) := s3.eq (by unfold mo; ac_rfl)
  clear S s3
  have S := Lib.hid s4
  clear s4
  generalize w2.heap.size = b at *
  go_loopw [25] (fun i wr => ∃ k : Nat, k ≤ n ∧ i = .int .i64 k ∧ St B w0 wr (mo b g (n * n) fb n n (pu k) * R)) (fun i _ => n - (intOf i).toNat)
  case atStart => exact ⟨0, Nat.zero_le _, rfl, S.out⟩
  case round =>
    obtain ⟨k, hk, rfl, s⟩ := hrel
    clear S
    by_cases hlt : k < n
    · obtain ⟨c0, c1, c2, c3⟩ := mo_cells s
      have c4 := mo_at s hlt hlt
      obtain ⟨f4, s4⟩ := mo_set s hlt hlt 1
      rw [pu_step] at s4
      obtain ⟨q1, q2, q3, q4, q5⟩ := spot hlt hlt (show n * n ≤ 1000000 by omega)
      generalize pu k k k = old at c4
      have S := Lib.hid s4
      clear s s4
      go_wp2_with fail
      go_roundw
      case rel => exact ⟨k + 1, by omega, by go_num, S.out⟩
      case measure => simp [intOf]; omega
    · obtain rfl : k = n := by omega
      have S := Lib.hid (mo_congr s (pu_end k))
      clear s
      go_wp2_with fail
      go_ret2
      exact ⟨b, rfl, mt_close S.out⟩
theorem unit_bad (fb : Nat) (n : Int) (hn : ¬ (1 ≤ n ∧ n ≤ 32)) (w : World) (s : St B w0 w R) :
    Calls Try.prog 89 #[.pointer (some ⟨fb, 0, none⟩), .int .i64 n] w (RetG B w0 R (.tuple #[.pointer none, .int .i64 1])) := by
  have i1 : inB n = false := decide_eq_false hn
  clear hn
  have S := Lib.hid s
  clear s
  go_enter Try.func89, Try.ntmps89
  go_wp2_with fail
  refine (in_calls n w).mono ?_
  rw [i1]
  rintro e w' ⟨rfl, rfl⟩
  go_wp2_with fail
  go_ret2
  exact ⟨rfl, S.out⟩
theorem unit_nil (n : Int) (w : World) (s : St B w0 w R) : Calls Try.prog 89 #[.pointer none, .int .i64 n] w (RetG B w0 R (.tuple #[.pointer none, .int .i64 1])) := by
  have S := Lib.hid s
  clear s
  go_enter Try.func89, Try.ntmps89
  go_wp2_with fail
  go_ret2
  exact ⟨rfl, S.out⟩
end
end Go.Proofs.Ytjnfhppjkadlpaa.Mt

namespace Go.Proofs.Ytjnfhppjkadlpaa.Mt
open Go Go.RowKit Go.Proofs.Ytjnfhppjkadlpaa Go.Proofs.Ytjnfhppjkadlpaa.Sp Go.Proofs.Ytjnfhppjkadlpaa.Reg Go.Proofs.Ytjnfhppjkadlpaa.Rd Go.Proofs.Ytjnfhppjkadlpaa.Gf
theorem exec_make1 {P : Program} {ρ : Operand → Value} {o : Oper} {w : World} {t e : TypeId} {l c : Operand} {bytes : Nat} {z : Value} (hop : o.op = .makeSlice t l c) (T : SlT P t e 1 bytes z) (n : Nat) (hl : ρ l = .int .i64 (n : Int)) (hc : ρ c = .int .i64 (n : Int))
    (h63 : n ≤ maxLen) (hb : bytes * n ≤ 281474976710656) : (execOp ρ o).run P w = .ok (.value (.slice (some ⟨w.heap.size, 0, none⟩) n n)) (w.alloc (.cells (madeCells z.cells (n * 1)) e)) := by
  obtain ⟨hrun, -⟩ := run_makeSlice_st (P := P) (w0 := w) T .i64 .i64 n n (Nat.le_refl _) h63 hb (St.init w)
  simp [execOp, hop, hl, hc, hrun, Result.andThen]
section
variable {B : Nat} {w0 : World} {R : HP}
/-- While the product's struct is made. -/
def MJ (B : Nat) (w0 : World) (H fb r c : Nat) (X : HP) (j : Nat) (w : World) : Prop := match j with
  | 0 => w.heap.size = H ∧ St B w0 w X
  | 1 => w.heap.size = H + 1 ∧ St B w0 w (row 5 1 (.slice (some ⟨H, 0, none⟩) (r * c) (r * c)) (r * c) (bvs (cl r c fun _ _ => 0)) * X)
  | _ => St B w0 w (mo (H + 1) H (r * c) fb r c (fun _ _ => 0) * X)
theorem MJ_x {H fb r c : Nat} {X : HP} {j : Nat} {w : World} (h : MJ B w0 H fb r c X j w) : ∃ Y, St B w0 w (X * Y) := by
  match j, h with
  | 0, h => exact ⟨emp, h.2.eq (sep_emp _).symm⟩
  | 1, h => exact ⟨_, h.2.eq (sep_comm _ _)⟩
  | _ + 2, h => exact ⟨_, St.eq (sep_comm _ _) h⟩
theorem via {g : FuncId} {args : Array Value} {v : Value} {w : World} {P Q : HP} (e : P = Q) (s : St B w0 w P) (hc : St B w0 w Q → Calls Try.prog g args w (RetG B w0 Q v)) : Calls Try.prog g args w (RetG B w0 P v) :=
  (hc (s.eq e)).mono fun _ _ ⟨h1, h2⟩ => ⟨h1, h2.eq e.symm⟩
theorem cells2 {b1 g1 k1 fb r n : Nat} {f : Mx} {b2 g2 k2 fb2 c : Nat} {h : Mx} {Z Y : HP} {w : World} (s : St B w0 w (fx fb * (mo b1 g1 k1 fb r n f * (mo b2 g2 k2 fb2 n c h * Z)) * Y)) :
    (∃ Y', St B w0 w (mo b1 g1 k1 fb r n f * Y')) ∧ ∃ Y', St B w0 w (mo b2 g2 k2 fb2 n c h * Y') :=
  ⟨⟨fx fb * (mo b2 g2 k2 fb2 n c h * Z) * Y, s.eq (by ac_rfl)⟩, ⟨fx fb * (mo b1 g1 k1 fb r n f * Z) * Y, s.eq (by ac_rfl)⟩⟩
end
end Go.Proofs.Ytjnfhppjkadlpaa.Mt

namespace Go.Proofs.Ytjnfhppjkadlpaa.Mt
open Go Go.RowKit Go.Proofs.Ytjnfhppjkadlpaa Go.Proofs.Ytjnfhppjkadlpaa.Sp Go.Proofs.Ytjnfhppjkadlpaa.Reg Go.Proofs.Ytjnfhppjkadlpaa.Rd Go.Proofs.Ytjnfhppjkadlpaa.Gf
section
variable {B : Nat} {w0 : World} {R : HP}
/-- A product with a column, under way. -/
def tl (r n : Nat) (f : Mx) (v : List UInt8) (i : Nat) : List UInt8 := (List.range r).map fun a => if a < i then gdot (mrow n f a) v else 0
theorem tl_len (r n : Nat) (f : Mx) (v : List UInt8) (i : Nat) : (tl r n f v i).length = r := by simp [tl]
theorem tl_zero (r n : Nat) (f : Mx) (v : List UInt8) : tl r n f v 0 = List.replicate r 0 := by
  refine List.eq_replicate_iff.2 ⟨tl_len _ _ _ _ _, fun b hb => ?_⟩
  obtain ⟨q, _, rfl⟩ := List.mem_map.1 hb
  simp
theorem tl_set (r n : Nat) (f : Mx) (v : List UInt8) (i : Nat) : (tl r n f v i).set i (gdot (mrow n f i) v) = tl r n f v (i + 1) := by
  apply List.ext_getElem
  · simp [tl]
  · intro q h1 h2
    rw [List.getElem_set]
    simp only [tl, List.getElem_map, List.getElem_range]
    split
    · rename_i e; subst e; rw [if_pos (by omega)]
    · rename_i e
      by_cases e2 : q < i
      · rw [if_pos e2, if_pos (by omega)]
      · rw [if_neg e2, if_neg (by omega)]
theorem tl_end (r n : Nat) (f : Mx) (v : List UInt8) : tl r n f v r = (List.range r).map fun a => gdot (mrow n f a) v := by
  refine List.map_congr_left fun a ha => if_pos (List.mem_range.1 ha)
end
end Go.Proofs.Ytjnfhppjkadlpaa.Mt

namespace Go.Proofs.Ytjnfhppjkadlpaa.Mt
open Go Go.RowKit Go.Proofs.Ytjnfhppjkadlpaa Go.Proofs.Ytjnfhppjkadlpaa.Sp Go.Proofs.Ytjnfhppjkadlpaa.Reg Go.Proofs.Ytjnfhppjkadlpaa.Rd Go.Proofs.Ytjnfhppjkadlpaa.Gf
/-- Row operations. -/
def rsc (f : Mx) (i : Nat) (t : UInt8) : Mx := fun a b => if a = i then gmul (f i b) t else f a b
def rad (f : Mx) (i k : Nat) (t : UInt8) : Mx := fun a b => if a = k then f k b ^^^ gmul (f i b) t else f a b
def sw (i k a : Nat) : Nat := if a = i then k else if a = k then i else a
def rsw (f : Mx) (i k : Nat) : Mx := fun a b => f (sw i k a) b
/-- A row turned up to a column. -/
def upto (f h : Mx) (k : Nat) : Mx := fun a b => if b < k then h a b else f a b
theorem upto_zero (f h : Mx) : upto f h 0 = f := by funext a b; simp [upto]
theorem upto_end (f h : Mx) (r c : Nat) : cl r c (upto f h c) = cl r c h := cl_congr fun _ _ _ hb => if_pos hb
theorem upto_sc (f : Mx) (i k : Nat) (t : UInt8) : upm (upto f (rsc f i t) k) i k (gmul (f i k) t) = upto f (rsc f i t) (k + 1) := by
  funext a b
  unfold upm upto
  by_cases h : a = i ∧ b = k
  · obtain ⟨rfl, rfl⟩ := h
    rw [if_pos ⟨rfl, rfl⟩, if_pos (by omega)]
    simp [rsc]
  · rw [if_neg h]
    by_cases h2 : b < k
    · rw [if_pos h2, if_pos (by omega)]
    · rw [if_neg h2]
      by_cases h3 : b = k
      · subst h3
        rw [if_pos (by omega)]
        simp only [rsc]
        rw [if_neg (fun e => h ⟨e, rfl⟩)]
      · rw [if_neg (by omega)]
theorem upto_ad (f : Mx) (i m k : Nat) (t : UInt8) : upm (upto f (rad f i m t) k) m k (f m k ^^^ gmul (f i k) t) = upto f (rad f i m t) (k + 1) := by
  funext a b
  unfold upm upto
  by_cases h : a = m ∧ b = k
  · obtain ⟨rfl, rfl⟩ := h
    rw [if_pos ⟨rfl, rfl⟩, if_pos (by omega)]
    simp [rad]
  · rw [if_neg h]
    by_cases h2 : b < k
    · rw [if_pos h2, if_pos (by omega)]
    · rw [if_neg h2]
      by_cases h3 : b = k
      · subst h3
        rw [if_pos (by omega)]
        simp only [rad]
        rw [if_neg (fun e => h ⟨e, rfl⟩)]
      · rw [if_neg (by omega)]
theorem upto_sw (f : Mx) (i m k : Nat) : upm (upm (upto f (rsw f i m) k) i k (f m k)) m k (f i k) = upto f (rsw f i m) (k + 1) := by
  funext a b
  unfold upm upto
  by_cases hb : b = k
  · subst hb
    simp only [Nat.lt_irrefl, if_false, and_true, Nat.lt_succ_self, if_true]
    unfold rsw sw
    by_cases h1 : a = m
    · subst h1
      by_cases h2 : a = i
      · subst h2; simp
      · simp [h2]
    · by_cases h2 : a = i
      · subst h2; simp [h1]
      · simp [h1, h2]
  · simp only [hb, and_false, if_false]
    by_cases h2 : b < k
    · rw [if_pos h2, if_pos (by omega)]
    · rw [if_neg h2, if_neg (by omega)]
section
variable {B : Nat} {w0 : World} {R : HP}
set_option maxRecDepth 100000 in
set_option maxHeartbeats 8000000 in
theorem scale_calls (b g cap fb r c : Nat) (f : Mx) (i : Nat) (t : UInt8) (li : i < r) (hr : r ≤ 32) (hc : 1 ≤ c ∧ c ≤ 32) (w : World) (s : St B w0 w (fx fb * (mo b g cap fb r c f * R))) :
    Calls Try.prog 91 #[.pointer (some ⟨b, 0, none⟩), .int .i64 (i : Int), bv t] w fun e w' => e = .returned (.tuple #[]) ∧ St B w0 w' (fx fb * (mo b g cap fb r c (rsc f i t) * R)) := by
  have hrc : r * c ≤ 32 * 32 := Nat.mul_le_mul hr hc.2
  have S := Lib.hid s
  clear s
  go_enter Try.func91, Try.ntmps91
  go_wp2_with fail
  refine (row_calls b g cap fb r c f i li (by omega) (by omega) w (S.out.eq (sep_left_comm _ _ _))).mono ?_
  rintro e w1 ⟨rfl, s⟩
  clear S
  have S := Lib.hid (s.eq (sep_left_comm _ _ _))
  clear s
  go_wp2_with fail
  go_loopw [12] (fun j wr => ∃ k : Nat, k ≤ c ∧ j = .int .i64 k ∧ St B w0 wr (fx fb * (mo b g cap fb r c (upto f (rsc f i t) k) * R))) (fun j _ => c - (intOf j).toNat)
  case atStart => exact ⟨0, Nat.zero_le _, rfl, by rw [upto_zero]; exact S.out⟩
  case round =>
    obtain ⟨k, hk, rfl, s⟩ := hrel
    clear S
    by_cases hlt : k < c
    · have c4 := mo_at (s.eq (sep_left_comm _ _ _)) li hlt
      rw [show upto f (rsc f i t) k i k = f i k from if_neg (Nat.lt_irrefl k)] at c4
      have S := Lib.hid s
      have HU := Lib.hid (upto_sc f i k t)
      clear s
      go_wp2_with fail
      refine wp_region_rx (fun p w' => St B w0 w' (fx fb * (mo b g cap fb r c (upto f (rsc f i t) (if p = 0 then k else k + 1)) * R))) [12] mixed (by kernel_rfl) (by kernel_rfl) S.out.drew ?_
      refine RXl.exact (.pointer (some ⟨b, 0, none⟩)) rfl rfl rfl rfl rfl (fun _ _ _ _ _ => rfl) ?_
      refine RXl.exact (.int .i64 (i : Int)) rfl rfl rfl rfl rfl (fun _ _ _ _ _ => rfl) ?_
      refine RXl.callr (.slice (some ⟨g, i * c, none⟩) c (cap - i * c)) _ [.pointer (some ⟨b, 0, none⟩), .int .i64 (i : Int)] [.tmp 17, .tmp 18] _ rfl rfl rfl rfl rfl rfl (fun _ => rfl) (fun j τ w' hj hJ => via (by ac_rfl) hJ (row_calls b g cap fb r c (upto f (rsc f i t) (if j = 0 then k else k + 1)) i li (by omega) (by omega) w' (R := fx fb * R))) ?_
      refine RXl.exact (.int .i64 (k : Int)) rfl rfl rfl rfl rfl (fun _ _ _ _ _ => rfl) ?_
      refine RXl.exact (.pointer (some ⟨b, 0, none⟩)) rfl rfl rfl rfl rfl (fun _ _ _ _ _ => rfl) ?_
      refine RXl.exact (.pointer (some ⟨b, 0, none⟩)) rfl rfl rfl rfl rfl (fun j τ w' hj hJ => by simp [rho, upd, Spec.val, execOp, go_sem]) ?_
      refine RXl.exact (.pointer (some ⟨b, 0, none⟩)) rfl rfl rfl rfl rfl (fun j τ w' hj hJ => by simp [rho, upd, Spec.val, execOp, go_sem]) ?_
      refine RXl.exact (.pointer (some ⟨fb, 0, none⟩)) rfl rfl rfl rfl rfl (fun j τ w' hj hJ => by have c := (mo_cells (St.eq (sep_left_comm _ _ _) hJ)).1; simp [rho, upd, Spec.val, execOp, go_sem, c]) ?_
      refine RXl.exact (bv (f i k)) rfl rfl rfl rfl rfl (fun _ _ _ _ _ => rfl) ?_
      refine RXl.exact (bv t) rfl rfl rfl rfl rfl (fun _ _ _ _ _ => rfl) ?_
      refine RXl.callr (bv (gmul (f i k) t)) _ [.pointer (some ⟨fb, 0, none⟩), bv (f i k), bv t] [.tmp 24, .tmp 25, .tmp 26] _ rfl rfl rfl rfl rfl rfl (fun _ => rfl) (fun j τ w' hj hJ => mulx fb (f i k) t w' hJ) ?_
      refine RXl.exact (.pointer (some ⟨g, i * c + k, none⟩)) rfl rfl rfl rfl rfl (fun j τ w' hj hJ => by have t1 : (k : Int) < (c : Int) := (by omega); simp [rho, upd, Spec.val, execOp, go_sem, t1]) ?_
      refine RXl.effj 0 rfl rfl rfl rfl rfl rfl (fun w' hJ => (let h := mo_set (St.eq (sep_left_comm _ _ _) hJ) li hlt (gmul (f i k) t); ⟨_, exec_store rfl rfl rfl rfl (by kernel_rfl) (mo_at (St.eq (sep_left_comm _ _ _) hJ) li hlt) h.1, by have q := h.2; rw [if_pos rfl, HU.out] at q; exact q.eq (sep_left_comm _ _ _)⟩)) ?_
      refine RXl.nilx _ (Agr.upd _ _ (Agr.upd _ _ (Agr.upd _ _ (Agr.upd _ _ (Agr.upd _ _ (Agr.upd _ _ (Agr.upd _ _ (Agr.upd _ _ (Agr.upd _ _ (Agr.upd _ _ (Agr.upd _ _ (Agr.upd _ _ (Agr.base _))))))))))))) fun w8 hJ => ?_
      obtain ⟨_, hJ⟩ := hJ
      simp only [Act.put, List.setIfInBounds_toArray, List.set_cons_succ, List.set_cons_zero]
      have S9 := Lib.hid (show St B w0 w8 (fx fb * (mo b g cap fb r c (upto f (rsc f i t) (k + 1)) * R)) from hJ)
      clear hJ S HU c4
      go_wp2_with fail
      go_roundw
      case rel => exact ⟨k + 1, by omega, by go_num, S9.out⟩
      case measure => simp [intOf]; omega
    · obtain rfl : k = c := by omega
      have S := Lib.hid ((mo_congr (s.eq (sep_left_comm _ _ _)) (upto_end f _ r k)).eq (sep_left_comm _ _ _))
      clear s
      go_wp2_with fail
      go_end0
      exact ⟨rfl, S.out⟩
set_option maxRecDepth 100000 in
set_option maxHeartbeats 8000000 in
theorem add_calls (b g cap fb r c : Nat) (f : Mx) (i m : Nat) (t : UInt8) (li : i < r) (lm : m < r) (hr : r ≤ 32) (hc : 1 ≤ c ∧ c ≤ 32) (w : World) (s : St B w0 w (fx fb * (mo b g cap fb r c f * R))) :
    Calls Try.prog 92 #[.pointer (some ⟨b, 0, none⟩), .int .i64 (i : Int), .int .i64 (m : Int), bv t] w fun e w' => e = .returned (.tuple #[]) ∧ St B w0 w' (fx fb * (mo b g cap fb r c (rad f i m t) * R)) := by
  have hrc : r * c ≤ 32 * 32 := Nat.mul_le_mul hr hc.2
  have S := Lib.hid s
  clear s
  go_enter Try.func92, Try.ntmps92
  go_wp2_with fail
  refine (row_calls b g cap fb r c f i li (by omega) (by omega) w (S.out.eq (sep_left_comm _ _ _))).mono ?_
  rintro e w1 ⟨rfl, s⟩
  clear S
  have S := Lib.hid (s.eq (sep_left_comm _ _ _))
  clear s
  go_wp2_with fail
  go_loopw [14] (fun j wr => ∃ k : Nat, k ≤ c ∧ j = .int .i64 k ∧ St B w0 wr (fx fb * (mo b g cap fb r c (upto f (rad f i m t) k) * R))) (fun j _ => c - (intOf j).toNat)
  case atStart => exact ⟨0, Nat.zero_le _, rfl, by rw [upto_zero]; exact S.out⟩
  case round =>
    obtain ⟨k, hk, rfl, s⟩ := hrel
    clear S
    by_cases hlt : k < c
    · have c4 := mo_at (s.eq (sep_left_comm _ _ _)) li hlt
      rw [show upto f (rad f i m t) k i k = f i k from if_neg (Nat.lt_irrefl k)] at c4
      have S := Lib.hid s
      have HU := Lib.hid (upto_ad f i m k t)
      have HX := Lib.hid (bits_xor_u8' (f m k) (gmul (f i k) t))
      clear s
      go_wp2_with fail
      refine wp_region_rx (fun p w' => St B w0 w' (fx fb * (mo b g cap fb r c (upto f (rad f i m t) (if p = 0 then k else k + 1)) * R))) [15] mixed (by kernel_rfl) (by kernel_rfl) S.out.drew ?_
      refine RXl.exact (.pointer (some ⟨b, 0, none⟩)) rfl rfl rfl rfl rfl (fun _ _ _ _ _ => rfl) ?_
      refine RXl.exact (.int .i64 (m : Int)) rfl rfl rfl rfl rfl (fun _ _ _ _ _ => rfl) ?_
      refine RXl.callr (.slice (some ⟨g, m * c, none⟩) c (cap - m * c)) _ [.pointer (some ⟨b, 0, none⟩), .int .i64 (m : Int)] [.tmp 19, .tmp 20] _ rfl rfl rfl rfl rfl rfl (fun _ => rfl) (fun j τ w' hj hJ => via (by ac_rfl) hJ (row_calls b g cap fb r c (upto f (rad f i m t) (if j = 0 then k else k + 1)) m lm (by omega) (by omega) w' (R := fx fb * R))) ?_
      refine RXl.exact (.int .i64 (k : Int)) rfl rfl rfl rfl rfl (fun _ _ _ _ _ => rfl) ?_
      refine RXl.exact (.pointer (some ⟨g, m * c + k, none⟩)) rfl rfl rfl rfl rfl (fun j τ w' hj hJ => by have t1 : (k : Int) < (c : Int) := (by omega); simp [rho, upd, Spec.val, execOp, go_sem, t1]) ?_
      refine RXl.exactB 0 15 rfl (by kernel_rfl) (bv (f m k)) rfl rfl rfl rfl rfl (fun j τ w' hj hJ => by obtain rfl : j = 0 := (by omega); have c := mo_at (St.eq (sep_left_comm _ _ _) hJ) lm hlt; rw [if_pos rfl, show upto f (rad f i m t) k m k = f m k from if_neg (Nat.lt_irrefl k)] at c; simp [rho, upd, Spec.val, execOp, go_sem, c]) ?_
      refine RXl.exact (.pointer (some ⟨b, 0, none⟩)) rfl rfl rfl rfl rfl (fun _ _ _ _ _ => rfl) ?_
      refine RXl.exact (.pointer (some ⟨b, 0, none⟩)) rfl rfl rfl rfl rfl (fun j τ w' hj hJ => by simp [rho, upd, Spec.val, execOp, go_sem]) ?_
      refine RXl.exact (.pointer (some ⟨b, 0, none⟩)) rfl rfl rfl rfl rfl (fun j τ w' hj hJ => by simp [rho, upd, Spec.val, execOp, go_sem]) ?_
      refine RXl.exactB 0 15 rfl (by kernel_rfl) (.pointer (some ⟨fb, 0, none⟩)) rfl rfl rfl rfl rfl (fun j τ w' hj hJ => by have c := (mo_cells (St.eq (sep_left_comm _ _ _) hJ)).1; simp [rho, upd, Spec.val, execOp, go_sem, c]) ?_
      refine RXl.exact (bv (f i k)) rfl rfl rfl rfl rfl (fun _ _ _ _ _ => rfl) ?_
      refine RXl.exact (bv t) rfl rfl rfl rfl rfl (fun _ _ _ _ _ => rfl) ?_
      refine RXl.callr (bv (gmul (f i k) t)) _ [.pointer (some ⟨fb, 0, none⟩), bv (f i k), bv t] [.tmp 28, .tmp 29, .tmp 30] _ rfl rfl rfl rfl rfl rfl (fun _ => rfl) (fun j τ w' hj hJ => mulx fb (f i k) t w' hJ) ?_
      refine RXl.exact (bv (f m k ^^^ gmul (f i k) t)) rfl rfl rfl rfl rfl (fun j τ w' hj hJ => by have c := HX.out; simp [rho, upd, Spec.val, execOp, go_sem, c]) ?_
      refine RXl.exact (.pointer (some ⟨g, m * c + k, none⟩)) rfl rfl rfl rfl rfl (fun j τ w' hj hJ => by have t1 : (k : Int) < (c : Int) := (by omega); simp [rho, upd, Spec.val, execOp, go_sem, t1]) ?_
      refine RXl.effj 0 rfl rfl rfl rfl rfl rfl (fun w' hJ => (let h := mo_set (St.eq (sep_left_comm _ _ _) hJ) lm hlt (f m k ^^^ gmul (f i k) t); ⟨_, exec_store rfl rfl rfl rfl (by kernel_rfl) (mo_at (St.eq (sep_left_comm _ _ _) hJ) lm hlt) h.1, by have q := h.2; rw [if_pos rfl, HU.out] at q; exact q.eq (sep_left_comm _ _ _)⟩)) ?_
      refine RXl.nilx _ (Agr.upd _ _ (Agr.upd _ _ (Agr.upd _ _ (Agr.upd _ _ (Agr.upd _ _ (Agr.upd _ _ (Agr.upd _ _ (Agr.upd _ _ (Agr.upd _ _ (Agr.upd _ _ (Agr.upd _ _ (Agr.upd _ _ (Agr.upd _ _ (Agr.upd _ _ (Agr.upd _ _ (Agr.base _)))))))))))))))) fun w8 hJ => ?_
      obtain ⟨_, hJ⟩ := hJ
      simp only [Act.put, List.setIfInBounds_toArray, List.set_cons_succ, List.set_cons_zero]
      have S9 := Lib.hid (show St B w0 w8 (fx fb * (mo b g cap fb r c (upto f (rad f i m t) (k + 1)) * R)) from hJ)
      clear hJ S HU HX c4
      go_wp2_with fail
      go_roundw
      case rel => exact ⟨k + 1, by omega, by go_num, S9.out⟩
      case measure => simp [intOf]; omega
    · obtain rfl : k = c := by omega
      have S := Lib.hid ((mo_congr (s.eq (sep_left_comm _ _ _)) (upto_end f _ r k)).eq (sep_left_comm _ _ _))
      clear s
      go_wp2_with fail
      go_end0
      exact ⟨rfl, S.out⟩
/-- While two cells are exchanged. -/
def sj (f : Mx) (i m k j : Nat) : Mx := match j with
  | 0 => upto f (rsw f i m) k
  | 1 => upm (upto f (rsw f i m) k) i k (f m k)
  | _ => upto f (rsw f i m) (k + 1)
set_option maxRecDepth 100000 in
set_option maxHeartbeats 8000000 in
theorem swap_calls (b g cap fb r c : Nat) (f : Mx) (i m : Nat) (li : i < r) (lm : m < r) (hr : r ≤ 32) (hc : 1 ≤ c ∧ c ≤ 32) (w : World) (s : St B w0 w (mo b g cap fb r c f * R)) :
    Calls Try.prog 90 #[.pointer (some ⟨b, 0, none⟩), .int .i64 (i : Int), .int .i64 (m : Int)] w fun e w' => e = .returned (.tuple #[]) ∧ St B w0 w' (mo b g cap fb r c (rsw f i m) * R) := by
  have hrc : r * c ≤ 32 * 32 := Nat.mul_le_mul hr hc.2
  have c2 := (mo_cells s).2.2.1
  have S := Lib.hid s
  clear s
  go_enter Try.func90, Try.ntmps90
  go_wp2_with fail
  clear c2
  go_loopw [11] (fun j wr => ∃ k : Nat, k ≤ c ∧ j = .int .i64 k ∧ St B w0 wr (mo b g cap fb r c (upto f (rsw f i m) k) * R)) (fun j _ => c - (intOf j).toNat)
  case atStart => exact ⟨0, Nat.zero_le _, rfl, by rw [upto_zero]; exact S.out⟩
  case round =>
    obtain ⟨k, hk, rfl, s⟩ := hrel
    clear S
    by_cases hlt : k < c
    · have S := Lib.hid s
      have HU := Lib.hid (upto_sw f i m k)
      have u1 : ∀ a, upto f (rsw f i m) k a k = f a k := fun a => if_neg (Nat.lt_irrefl k)
      have U1 := Lib.hid u1
      clear s u1
      go_wp2_with fail
      refine wp_region_rx (fun p w' => St B w0 w' (mo b g cap fb r c (sj f i m k p) * R)) [21, 23] mixed (by kernel_rfl) (by kernel_rfl) S.out.drew ?_
      refine RXl.exact (.pointer (some ⟨b, 0, none⟩)) rfl rfl rfl rfl rfl (fun _ _ _ _ _ => rfl) ?_
      refine RXl.exact (.int .i64 (i : Int)) rfl rfl rfl rfl rfl (fun _ _ _ _ _ => rfl) ?_
      refine RXl.callr (.slice (some ⟨g, i * c, none⟩) c (cap - i * c)) _ [.pointer (some ⟨b, 0, none⟩), .int .i64 (i : Int)] [.tmp 14, .tmp 15] _ rfl rfl rfl rfl rfl rfl (fun _ => rfl) (fun j τ w' hj hJ => row_calls b g cap fb r c (sj f i m k j) i li (by omega) (by omega) w' hJ) ?_
      refine RXl.exact (.int .i64 (k : Int)) rfl rfl rfl rfl rfl (fun _ _ _ _ _ => rfl) ?_
      refine RXl.exact (.pointer (some ⟨b, 0, none⟩)) rfl rfl rfl rfl rfl (fun _ _ _ _ _ => rfl) ?_
      refine RXl.exact (.int .i64 (m : Int)) rfl rfl rfl rfl rfl (fun _ _ _ _ _ => rfl) ?_
      refine RXl.callr (.slice (some ⟨g, m * c, none⟩) c (cap - m * c)) _ [.pointer (some ⟨b, 0, none⟩), .int .i64 (m : Int)] [.tmp 18, .tmp 19] _ rfl rfl rfl rfl rfl rfl (fun _ => rfl) (fun j τ w' hj hJ => row_calls b g cap fb r c (sj f i m k j) m lm (by omega) (by omega) w' hJ) ?_
      refine RXl.exact (.int .i64 (k : Int)) rfl rfl rfl rfl rfl (fun _ _ _ _ _ => rfl) ?_
      refine RXl.exact (.pointer (some ⟨b, 0, none⟩)) rfl rfl rfl rfl rfl (fun _ _ _ _ _ => rfl) ?_
      refine RXl.exact (.int .i64 (m : Int)) rfl rfl rfl rfl rfl (fun _ _ _ _ _ => rfl) ?_
      refine RXl.callr (.slice (some ⟨g, m * c, none⟩) c (cap - m * c)) _ [.pointer (some ⟨b, 0, none⟩), .int .i64 (m : Int)] [.tmp 22, .tmp 23] _ rfl rfl rfl rfl rfl rfl (fun _ => rfl) (fun j τ w' hj hJ => row_calls b g cap fb r c (sj f i m k j) m lm (by omega) (by omega) w' hJ) ?_
      refine RXl.exact (.int .i64 (k : Int)) rfl rfl rfl rfl rfl (fun _ _ _ _ _ => rfl) ?_
      refine RXl.exact (.pointer (some ⟨g, m * c + k, none⟩)) rfl rfl rfl rfl rfl (fun j τ w' hj hJ => by have t1 : (k : Int) < (c : Int) := (by omega); simp [rho, upd, Spec.val, execOp, go_sem, t1]) ?_
      refine RXl.exactB 0 21 rfl (by kernel_rfl) (bv (f m k)) rfl rfl rfl rfl rfl (fun j τ w' hj hJ => by obtain rfl : j = 0 := (by omega); have c := mo_at hJ lm hlt; rw [show sj f i m k 0 m k = f m k from U1.out m] at c; simp [rho, upd, Spec.val, execOp, go_sem, c]) ?_
      refine RXl.exact (.pointer (some ⟨b, 0, none⟩)) rfl rfl rfl rfl rfl (fun _ _ _ _ _ => rfl) ?_
      refine RXl.exact (.int .i64 (i : Int)) rfl rfl rfl rfl rfl (fun _ _ _ _ _ => rfl) ?_
      refine RXl.callr (.slice (some ⟨g, i * c, none⟩) c (cap - i * c)) _ [.pointer (some ⟨b, 0, none⟩), .int .i64 (i : Int)] [.tmp 28, .tmp 29] _ rfl rfl rfl rfl rfl rfl (fun _ => rfl) (fun j τ w' hj hJ => row_calls b g cap fb r c (sj f i m k j) i li (by omega) (by omega) w' hJ) ?_
      refine RXl.exact (.int .i64 (k : Int)) rfl rfl rfl rfl rfl (fun _ _ _ _ _ => rfl) ?_
      refine RXl.exact (.pointer (some ⟨g, i * c + k, none⟩)) rfl rfl rfl rfl rfl (fun j τ w' hj hJ => by have t1 : (k : Int) < (c : Int) := (by omega); simp [rho, upd, Spec.val, execOp, go_sem, t1]) ?_
      refine RXl.exactB 0 21 rfl (by kernel_rfl) (bv (f i k)) rfl rfl rfl rfl rfl (fun j τ w' hj hJ => by obtain rfl : j = 0 := (by omega); have c := mo_at hJ li hlt; rw [show sj f i m k 0 i k = f i k from U1.out i] at c; simp [rho, upd, Spec.val, execOp, go_sem, c]) ?_
      refine RXl.exact (.pointer (some ⟨g, i * c + k, none⟩)) rfl rfl rfl rfl rfl (fun j τ w' hj hJ => by have t1 : (k : Int) < (c : Int) := (by omega); simp [rho, upd, Spec.val, execOp, go_sem, t1]) ?_
      refine RXl.effj 0 rfl rfl rfl rfl rfl rfl (fun w' hJ => (let h := mo_set hJ li hlt (f m k); ⟨_, exec_store rfl rfl rfl rfl (by kernel_rfl) (mo_at hJ li hlt) h.1, h.2⟩)) ?_
      refine RXl.exact (.pointer (some ⟨g, m * c + k, none⟩)) rfl rfl rfl rfl rfl (fun j τ w' hj hJ => by have t1 : (k : Int) < (c : Int) := (by omega); simp [rho, upd, Spec.val, execOp, go_sem, t1]) ?_
      refine RXl.effj 1 rfl rfl rfl rfl rfl rfl (fun w' hJ => (let h := mo_set hJ lm hlt (f i k); ⟨_, exec_store rfl rfl rfl rfl (by kernel_rfl) (mo_at hJ lm hlt) h.1, by have q := h.2; rw [show upm (sj f i m k 1) m k (f i k) = sj f i m k 2 from HU.out] at q; exact q⟩)) ?_
      refine RXl.nilx _ (Agr.upd _ _ (Agr.upd _ _ (Agr.upd _ _ (Agr.upd _ _ (Agr.upd _ _ (Agr.upd _ _ (Agr.upd _ _ (Agr.upd _ _ (Agr.upd _ _ (Agr.upd _ _ (Agr.upd _ _ (Agr.upd _ _ (Agr.upd _ _ (Agr.upd _ _ (Agr.upd _ _ (Agr.upd _ _ (Agr.upd _ _ (Agr.upd _ _ (Agr.upd _ _ (Agr.upd _ _ (Agr.upd _ _ (Agr.upd _ _ (Agr.base _))))))))))))))))))))))) fun w8 hJ => ?_
      obtain ⟨_, hJ⟩ := hJ
      simp only [Act.put, List.setIfInBounds_toArray, List.set_cons_succ, List.set_cons_zero]
      have S9 := Lib.hid (show St B w0 w8 (mo b g cap fb r c (upto f (rsw f i m) (k + 1)) * R) from hJ)
      clear hJ S HU U1
      go_wp2_with fail
      go_roundw
      case rel => exact ⟨k + 1, by omega, by go_num, S9.out⟩
      case measure => simp [intOf]; omega
    · obtain rfl : k = c := by omega
      have S := Lib.hid (mo_congr s (upto_end f _ r k))
      clear s
      go_wp2_with fail
      go_end0
      exact ⟨rfl, S.out⟩
end
end Go.Proofs.Ytjnfhppjkadlpaa.Mt

namespace Go.Proofs.Ytjnfhppjkadlpaa.Mt
open Go Go.RowKit Go.Proofs.Ytjnfhppjkadlpaa Go.Proofs.Ytjnfhppjkadlpaa.Sp Go.Proofs.Ytjnfhppjkadlpaa.Reg Go.Proofs.Ytjnfhppjkadlpaa.Rd Go.Proofs.Ytjnfhppjkadlpaa.Gf
/-- The first row from c on whose cell is no nought. -/
def pvf (A : Mx) (c : Nat) : Nat → Nat → Nat
  | 0, p => p
  | m + 1, p => if A p c = 0 then pvf A c m (p + 1) else p
def pv (A : Mx) (n c : Nat) : Nat := pvf A c (n - c) c
theorem pvf_eq (A : Mx) (c : Nat) : ∀ (m p r : Nat), p ≤ r → r ≤ p + m → (∀ q, p ≤ q → q < r → A q c = 0) → (r < p + m → A r c ≠ 0) → pvf A c m p = r
  | 0, p, r, h1, h2, _, _ => by show p = r; omega
  | m + 1, p, r, h1, h2, h3, h4 => by
    show (if A p c = 0 then _ else _) = r
    by_cases e : p = r
    · subst e
      rw [if_neg (h4 (by omega))]
    · rw [if_pos (h3 p (Nat.le_refl _) (by omega))]
      exact pvf_eq A c m (p + 1) r (by omega) (by omega) (fun q hq => h3 q (by omega)) (fun h => h4 (by omega))
theorem pv_eq {A : Mx} {n c r : Nat} (h1 : c ≤ r) (h2 : r ≤ n) (h3 : ∀ q, c ≤ q → q < r → A q c = 0) (h4 : r < n → A r c ≠ 0) : pv A n c = r :=
  pvf_eq A c (n - c) c r h1 (by omega) h3 (fun h => h4 (by omega))
theorem pvf_spec (A : Mx) (c : Nat) : ∀ (m p : Nat), p ≤ pvf A c m p ∧ pvf A c m p ≤ p + m ∧ (∀ q, p ≤ q → q < pvf A c m p → A q c = 0) ∧ (pvf A c m p < p + m → A (pvf A c m p) c ≠ 0)
  | 0, p => ⟨Nat.le_refl _, Nat.le_refl _, fun q h1 h2 => absurd h2 (by show ¬ q < p; omega), fun h => absurd h (by show ¬ p < p + 0; omega)⟩
  | m + 1, p => by
    by_cases h : A p c = 0
    · rw [show pvf A c (m + 1) p = pvf A c m (p + 1) from if_pos h]
      obtain ⟨h1, h2, h3, h4⟩ := pvf_spec A c m (p + 1)
      refine ⟨by omega, by omega, fun q q1 q2 => ?_, fun hh => h4 (by omega)⟩
      by_cases e : q = p
      · rw [e]; exact h
      · exact h3 q (by omega) q2
    · rw [show pvf A c (m + 1) p = p from if_neg h]
      exact ⟨Nat.le_refl _, by omega, fun q h1 h2 => absurd h2 (by omega), fun _ => h⟩
/-- All other rows cleared, the first so many. -/
def elm (A D : Mx) (c k : Nat) : Mx := fun i j => if i < k ∧ i ≠ c then A i j ^^^ gmul (A c j) (D i c) else A i j
theorem elm_zero (A D : Mx) (c : Nat) : elm A D c 0 = A := by funext i j; exact if_neg (by omega)
theorem elm_at (D : Mx) (c i : Nat) : elm D D c i i c = D i c := if_neg (by omega)
theorem elm_step (A D : Mx) (c i : Nat) (h : i ≠ c) : rad (elm A D c i) c i (D i c) = elm A D c (i + 1) := by
  funext a b
  unfold rad elm
  by_cases e : a = i
  · subst e
    rw [if_pos rfl, if_neg (by omega), if_neg (by omega), if_pos ⟨by omega, h⟩]
  · rw [if_neg e]
    by_cases e2 : a < i ∧ a ≠ c
    · rw [if_pos e2, if_pos ⟨by omega, e2.2⟩]
    · rw [if_neg e2, if_neg (by omega)]
theorem elm_skip (A D : Mx) (c : Nat) : elm A D c c = elm A D c (c + 1) := by
  funext a b
  unfold elm
  by_cases e : a < c ∧ a ≠ c
  · rw [if_pos e, if_pos ⟨by omega, e.2⟩]
  · rw [if_neg e, if_neg (by omega)]
/-- Behind so many columns. -/
def gj (n : Nat) (f : Mx) : Nat → Option (Mx × Mx)
  | 0 => some (f, unit)
  | k + 1 => (gj n f k).bind fun x =>
    let p := pv x.1 n k
    if p = n then none
    else
      let A2 := rsc (rsw x.1 p k) k (ginv (x.1 p k))
      some (elm A2 A2 k n, elm (rsc (rsw x.2 p k) k (ginv (x.1 p k))) A2 k n)
theorem gj_none {n : Nat} {f : Mx} {k : Nat} (h : gj n f k = none) : ∀ m, gj n f (k + m) = none
  | 0 => h
  | m + 1 => by show (gj n f (k + m)).bind _ = none; rw [gj_none h m]; rfl
theorem gj_sing {n : Nat} {f A Bm : Mx} {k : Nat} (h : gj n f k = some (A, Bm)) (hp : pv A n k = n) : gj n f (k + 1) = none := by
  show (gj n f k).bind _ = none
  rw [h]
  show (if pv A n k = n then none else _) = none
  rw [if_pos hp]
theorem gj_next {n : Nat} {f A Bm : Mx} {k p : Nat} (h : gj n f k = some (A, Bm)) (hp : pv A n k = p) (hn : p ≠ n) :
    gj n f (k + 1) = some (elm (rsc (rsw A p k) k (ginv (A p k))) (rsc (rsw A p k) k (ginv (A p k))) k n, elm (rsc (rsw Bm p k) k (ginv (A p k))) (rsc (rsw A p k) k (ginv (A p k))) k n) := by
  subst hp
  show (gj n f k).bind _ = _
  rw [h]
  show (if pv A n k = n then none else _) = _
  rw [if_neg hn]
/-- What Invert hands back. -/
def InvP (B : Nat) (w0 : World) (fb n : Nat) (f : Mx) (Y : HP) (e : Ending) (w' : World) : Prop := match gj n f n with
  | some x => ∃ b, e = .returned (.tuple #[.pointer (some ⟨b, 0, none⟩), .int .i64 0]) ∧ St B w0 w' (mt b fb n n x.2 * Y)
  | none => e = .returned (.tuple #[.pointer none, .int .i64 2]) ∧ St B w0 w' Y
theorem InvP.some {B : Nat} {w0 : World} {fb n : Nat} {f A Bm : Mx} {Y : HP} {w' : World} {b : Nat} (h : gj n f n = some (A, Bm)) (s : St B w0 w' (mt b fb n n Bm * Y)) : InvP B w0 fb n f Y (.returned (.tuple #[.pointer (some ⟨b, 0, none⟩), .int .i64 0])) w' := by
  unfold InvP; rw [h]; exact ⟨b, rfl, s⟩
theorem InvP.none {B : Nat} {w0 : World} {fb n : Nat} {f : Mx} {Y : HP} {w' : World} (h : gj n f n = none) (s : St B w0 w' Y) : InvP B w0 fb n f Y (.returned (.tuple #[.pointer none, .int .i64 2])) w' := by
  unfold InvP; rw [h]; exact ⟨rfl, s⟩
section
variable {B : Nat} {w0 : World} {R : HP}
set_option maxRecDepth 100000 in
set_option maxHeartbeats 4000000 in
theorem inv_bad (b0 g0 k0 fb r c : Nat) (f : Mx) (hne : r ≠ c) (w : World) (s : St B w0 w (mo b0 g0 k0 fb r c f * R)) :
    Calls Try.prog 72 #[.pointer (some ⟨b0, 0, none⟩)] w (RetG B w0 (mo b0 g0 k0 fb r c f * R) (.tuple #[.pointer none, .int .i64 1])) := by
  have hn : ((r : Int) != (c : Int)) = true := by rw [bne_iff_ne]; omega
  clear hne
  have S := Lib.hid s
  clear s
  go_enter Try.func72, Try.ntmps72
  go_wp2_with fail
  refine wp_region_rx (fun _ w' => St B w0 w' (mo b0 g0 k0 fb r c f * R)) [] mixed (by kernel_rfl) (by kernel_rfl) S.out.drew ?_
  refine RXl.exact (.pointer (some ⟨b0, 0, none⟩)) rfl rfl rfl rfl rfl (fun _ _ _ _ _ => rfl) ?_
  refine RXl.exact (.pointer (some ⟨b0, 0, none⟩)) rfl rfl rfl rfl rfl (fun j τ w' hj hJ => by simp [rho, upd, Spec.val, execOp, go_sem]) ?_
  refine RXl.exact (.pointer (some ⟨b0, 1, none⟩)) rfl rfl rfl rfl rfl (fun j τ w' hj hJ => by simp [rho, upd, Spec.val, execOp, go_sem]) ?_
  refine RXl.exact (.int .i64 (r : Int)) rfl rfl rfl rfl rfl (fun j τ w' hj hJ => by have c := (mo_cells hJ).2.1; simp [rho, upd, Spec.val, execOp, go_sem, c]) ?_
  refine RXl.exact (.pointer (some ⟨b0, 0, none⟩)) rfl rfl rfl rfl rfl (fun _ _ _ _ _ => rfl) ?_
  refine RXl.exact (.pointer (some ⟨b0, 0, none⟩)) rfl rfl rfl rfl rfl (fun j τ w' hj hJ => by simp [rho, upd, Spec.val, execOp, go_sem]) ?_
  refine RXl.exact (.pointer (some ⟨b0, 2, none⟩)) rfl rfl rfl rfl rfl (fun j τ w' hj hJ => by simp [rho, upd, Spec.val, execOp, go_sem]) ?_
  refine RXl.exact (.int .i64 (c : Int)) rfl rfl rfl rfl rfl (fun j τ w' hj hJ => by have c := (mo_cells hJ).2.2.1; simp [rho, upd, Spec.val, execOp, go_sem, c]) ?_
  refine RXl.exact (.bool true) rfl rfl rfl rfl rfl (fun j τ w' hj hJ => by simp only [rho, upd, Spec.val, execOp]; simp [go_sem]; simpa using hn) ?_
  refine RXl.nilx _ (Agr.upd _ _ (Agr.upd _ _ (Agr.upd _ _ (Agr.upd _ _ (Agr.upd _ _ (Agr.upd _ _ (Agr.upd _ _ (Agr.upd _ _ (Agr.upd _ _ (Agr.base _)))))))))) fun w8 hJ => ?_
  obtain ⟨_, hJ⟩ := hJ
  simp only [Act.put, List.setIfInBounds_toArray, List.set_cons_succ, List.set_cons_zero]
  have S8 := Lib.hid (show St B w0 w8 (mo b0 g0 k0 fb r c f * R) from hJ)
  clear hJ S hn
  go_wp2_with fail
  go_ret2
  exact ⟨rfl, S8.out⟩
/-- The copy's struct, as it is made. -/
def LF (n fb : Nat) (k : Nat) (a : Nat × Nat × Nat) : Value := match k with
  | 0 => .slice (some ⟨a.1, 0, none⟩) (n * n) a.2.1
  | 1 => .agg #[.pointer (some ⟨fb, 0, none⟩), .int .i64 (n : Int), .int .i64 (n : Int), .slice (some ⟨a.1, 0, none⟩) (n * n) a.2.1]
  | _ => .pointer (some ⟨a.2.2, 0, none⟩)
def LH (n fb : Nat) (f : Mx) (Y : HP) (k : Nat) (a : Nat × Nat × Nat) : HP := match k with
  | 0 => row 5 1 (.slice (some ⟨a.1, 0, none⟩) (n * n) a.2.1) (n * n) (bvs (cl n n f)) * Y
  | 1 => row 5 1 (.slice (some ⟨a.1, 0, none⟩) (n * n) a.2.1) (n * n) (bvs (cl n n f)) * Y
  | _ => mo a.2.2 a.1 a.2.1 fb n n f * Y
theorem LH_y {n fb : Nat} {f : Mx} {Y : HP} (j : Nat) (a : Nat × Nat × Nat) : ∃ Z, LH n fb f Y j a = Y * Z := by
  match j with
  | 0 => exact ⟨_, sep_comm _ _⟩
  | 1 => exact ⟨_, sep_comm _ _⟩
  | _ + 2 => exact ⟨_, sep_comm _ _⟩
/-- The other one's call. -/
def UF (k : Nat) (b : Nat × Nat × Nat) : Value := match k with
  | 0 => .tuple #[.pointer (some ⟨b.1, 0, none⟩), .int .i64 0]
  | 1 => .tuple #[.pointer (some ⟨b.1, 0, none⟩), .int .i64 0]
  | _ => .pointer (some ⟨b.1, 0, none⟩)
set_option maxRecDepth 100000 in
set_option maxHeartbeats 16000000 in
theorem inv_calls (b0 g0 k0 fb n : Nat) (f : Mx) (hn : 1 ≤ n ∧ n ≤ 32) (w : World) (s : St B w0 w (fx fb * (mo b0 g0 k0 fb n n f * R))) :
    Calls Try.prog 72 #[.pointer (some ⟨b0, 0, none⟩)] w (InvP B w0 fb n f (fx fb * (mo b0 g0 k0 fb n n f * R))) := by
  have hnn : n * n ≤ 32 * 32 := Nat.mul_le_mul hn.2 hn.2
  have S := Lib.hid s
  clear s
  go_enter Try.func72, Try.ntmps72
  go_wp2_with fail
  refine wp_region_rx (fun _ w' => St B w0 w' (fx fb * (mo b0 g0 k0 fb n n f * R))) [] mixed (by kernel_rfl) (by kernel_rfl) S.out.drew ?_
  refine RXl.exact (.pointer (some ⟨b0, 0, none⟩)) rfl rfl rfl rfl rfl (fun _ _ _ _ _ => rfl) ?_
  refine RXl.exact (.pointer (some ⟨b0, 0, none⟩)) rfl rfl rfl rfl rfl (fun j τ w' hj hJ => by simp [rho, upd, Spec.val, execOp, go_sem]) ?_
  refine RXl.exact (.pointer (some ⟨b0, 1, none⟩)) rfl rfl rfl rfl rfl (fun j τ w' hj hJ => by simp [rho, upd, Spec.val, execOp, go_sem]) ?_
  refine RXl.exact (.int .i64 (n : Int)) rfl rfl rfl rfl rfl (fun j τ w' hj hJ => by have c := (mo_cells (St.eq (sep_left_comm _ _ _) hJ)).2.1; simp [rho, upd, Spec.val, execOp, go_sem, c]) ?_
  refine RXl.exact (.pointer (some ⟨b0, 0, none⟩)) rfl rfl rfl rfl rfl (fun _ _ _ _ _ => rfl) ?_
  refine RXl.exact (.pointer (some ⟨b0, 0, none⟩)) rfl rfl rfl rfl rfl (fun j τ w' hj hJ => by simp [rho, upd, Spec.val, execOp, go_sem]) ?_
  refine RXl.exact (.pointer (some ⟨b0, 2, none⟩)) rfl rfl rfl rfl rfl (fun j τ w' hj hJ => by simp [rho, upd, Spec.val, execOp, go_sem]) ?_
  refine RXl.exact (.int .i64 (n : Int)) rfl rfl rfl rfl rfl (fun j τ w' hj hJ => by have c := (mo_cells (St.eq (sep_left_comm _ _ _) hJ)).2.2.1; simp [rho, upd, Spec.val, execOp, go_sem, c]) ?_
  refine RXl.exact (.bool false) rfl rfl rfl rfl rfl (fun j τ w' hj hJ => by simp [rho, upd, Spec.val, execOp, go_sem]) ?_
  refine RXl.nilx _ (Agr.upd _ _ (Agr.upd _ _ (Agr.upd _ _ (Agr.upd _ _ (Agr.upd _ _ (Agr.upd _ _ (Agr.upd _ _ (Agr.upd _ _ (Agr.upd _ _ (Agr.base _)))))))))) fun w8 hJ => ?_
  obtain ⟨_, hJ⟩ := hJ
  simp only [Act.put, List.setIfInBounds_toArray, List.set_cons_succ, List.set_cons_zero]
  clear S
  have S := Lib.hid (show St B w0 w8 (mo b0 g0 k0 fb n n f * (fx fb * R)) from St.eq (sep_left_comm _ _ _) hJ)
  clear hJ
  go_wp2_with fail
  have LC := Lib.hid fun (j : Nat) (vs : Nat → Value) (w' : World) (h : PJ B w0 (mo b0 g0 k0 fb n n f * (fx fb * R)) (LF n fb) (LH n fb f (mo b0 g0 k0 fb n n f * (fx fb * R))) j vs w') =>
    show _ from by
      obtain ⟨Z, ⟨Z', rfl⟩, s⟩ := PJ.any (Y := fun Z => ∃ Z', Z = (mo b0 g0 k0 fb n n f * (fx fb * R)) * Z') ⟨emp, (sep_emp _).symm⟩ LH_y h
      exact mo_cells (s.eq (sep_assoc _ _ _))
  refine wp_region_rv [40, 41, 42, 4] (PJ B w0 (mo b0 g0 k0 fb n n f * (fx fb * R)) (LF n fb) (LH n fb f (mo b0 g0 k0 fb n n f * (fx fb * R)))) [16, 17, 18, 19] mixed (by kernel_rfl) (by kernel_rfl) (by kernel_rfl) (fun _ => S.out.drew) ?_
  refine RXl.exact (.pointer (some ⟨b0, 0, none⟩)) rfl rfl rfl rfl rfl (fun _ _ _ _ _ => rfl) ?_
  refine RXl.exact (.pointer (some ⟨b0, 0, none⟩)) rfl rfl rfl rfl rfl (fun j τ w' hj hJ => (by obtain ⟨vs, hv, hJ⟩ := hJ; exact (by simp [rho, upd, Spec.val, execOp, go_sem]))) ?_
  refine RXl.exact (.pointer (some ⟨b0, 0, none⟩)) rfl rfl rfl rfl rfl (fun j τ w' hj hJ => (by obtain ⟨vs, hv, hJ⟩ := hJ; exact (by simp [rho, upd, Spec.val, execOp, go_sem]))) ?_
  refine RXl.exact (.pointer (some ⟨fb, 0, none⟩)) rfl rfl rfl rfl rfl (fun j τ w' hj hJ => (by obtain ⟨vs, hv, hJ⟩ := hJ; exact (by have c := (LC.out _ _ _ hJ).1; simp [rho, upd, Spec.val, execOp, go_sem, c]))) ?_
  refine RXl.exact (.pointer (some ⟨b0, 0, none⟩)) rfl rfl rfl rfl rfl (fun _ _ _ _ _ => rfl) ?_
  refine RXl.exact (.pointer (some ⟨b0, 0, none⟩)) rfl rfl rfl rfl rfl (fun j τ w' hj hJ => (by obtain ⟨vs, hv, hJ⟩ := hJ; exact (by simp [rho, upd, Spec.val, execOp, go_sem]))) ?_
  refine RXl.exact (.pointer (some ⟨b0, 1, none⟩)) rfl rfl rfl rfl rfl (fun j τ w' hj hJ => (by obtain ⟨vs, hv, hJ⟩ := hJ; exact (by simp [rho, upd, Spec.val, execOp, go_sem]))) ?_
  refine RXl.exact (.int .i64 (n : Int)) rfl rfl rfl rfl rfl (fun j τ w' hj hJ => (by obtain ⟨vs, hv, hJ⟩ := hJ; exact (by have c := (LC.out _ _ _ hJ).2.1; simp [rho, upd, Spec.val, execOp, go_sem, c]))) ?_
  refine RXl.exact (.pointer (some ⟨b0, 0, none⟩)) rfl rfl rfl rfl rfl (fun _ _ _ _ _ => rfl) ?_
  refine RXl.exact (.pointer (some ⟨b0, 0, none⟩)) rfl rfl rfl rfl rfl (fun j τ w' hj hJ => (by obtain ⟨vs, hv, hJ⟩ := hJ; exact (by simp [rho, upd, Spec.val, execOp, go_sem]))) ?_
  refine RXl.exact (.pointer (some ⟨b0, 2, none⟩)) rfl rfl rfl rfl rfl (fun j τ w' hj hJ => (by obtain ⟨vs, hv, hJ⟩ := hJ; exact (by simp [rho, upd, Spec.val, execOp, go_sem]))) ?_
  refine RXl.exact (.int .i64 (n : Int)) rfl rfl rfl rfl rfl (fun j τ w' hj hJ => (by obtain ⟨vs, hv, hJ⟩ := hJ; exact (by have c := (LC.out _ _ _ hJ).2.2.1; simp [rho, upd, Spec.val, execOp, go_sem, c]))) ?_
  refine RXl.exact (.pointer (some ⟨b0, 0, none⟩)) rfl rfl rfl rfl rfl (fun _ _ _ _ _ => rfl) ?_
  refine RXl.exact (.pointer (some ⟨b0, 0, none⟩)) rfl rfl rfl rfl rfl (fun j τ w' hj hJ => (by obtain ⟨vs, hv, hJ⟩ := hJ; exact (by simp [rho, upd, Spec.val, execOp, go_sem]))) ?_
  refine RXl.exact (.pointer (some ⟨b0, 3, none⟩)) rfl rfl rfl rfl rfl (fun j τ w' hj hJ => (by obtain ⟨vs, hv, hJ⟩ := hJ; exact (by simp [rho, upd, Spec.val, execOp, go_sem]))) ?_
  refine RXl.exact (.slice (some ⟨g0, 0, none⟩) (n * n) k0) rfl rfl rfl rfl rfl (fun j τ w' hj hJ => (by obtain ⟨vs, hv, hJ⟩ := hJ; exact (by have c := (LC.out _ _ _ hJ).2.2.2; simp [rho, upd, Spec.val, execOp, go_sem, c]))) ?_
  refine RXl.callV 0 40 rfl rfl rfl (Nat.le_of_ble_eq_true rfl) _ [.tmp 39] _ rfl rfl rfl rfl rfl (PJ.first [.slice (some ⟨g0, 0, none⟩) (n * n) k0] (fun ρ w hag => by simp [hag.ex 39 _ rfl rfl rfl]) (fun _ => rfl) (fun w s => by refine (SlW.clone_callsN (some ⟨g0, 0, none⟩) (n * n) k0 (cl n n f) w (mo_bs s) (by omega) s).mono ?_; intro e w1 h; obtain ⟨g1, cap1, rfl, s1⟩ := newB_ret (by simp) h; rw [cl_len] at s1 ⊢; exact ⟨(g1, cap1, 0), rfl, s1⟩)) ?_
  refine RXl.effV 1 41 rfl rfl rfl (Nat.le_of_ble_eq_true rfl) rfl rfl rfl rfl (PJ.pass rfl (fun ρ a w h hag s => by have e := h 0 40 (by decide) rfl; have e1 := hag.ex 27 _ rfl rfl rfl; have e2 := hag.ex 31 _ rfl rfl rfl; have e3 := hag.ex 35 _ rfl rfl rfl; simp [execOp, go_sem, e, e1, e2, e3, LF])) ?_
  refine RXl.effV 2 42 rfl rfl rfl (Nat.le_of_ble_eq_true rfl) rfl rfl rfl rfl (PJ.eff (fun ρ a w h hag s => by have e := h 1 41 (by decide) rfl; refine ⟨(a.1, a.2.1, w.heap.size), w.alloc (.cells (mc a.1 a.2.1 fb n n) 141), by simp [execOp, go_sem, e, LF, mc], fun k hk => by match k, hk with | 0, _ => rfl | 1, _ => rfl, ?_⟩; exact (s.alloc _).eq (by show _ = mo _ _ _ _ _ _ _ * _; unfold mo; show _ * (row _ _ _ _ _ * _) = _; ac_rfl))) ?_
  refine RXl.effV 3 4 rfl rfl rfl (Nat.le_of_ble_eq_true rfl) rfl rfl rfl rfl (PJ.pass rfl (fun ρ a w h hag s => by have e := h 2 42 (by decide) rfl; exact (exec_assign rfl).trans (by rw [e]; rfl))) ?_
  refine RXl.nilV _ (AgrL.unk 4 _ rfl (AgrL.unk 42 _ rfl (AgrL.unk 41 _ rfl (AgrL.unk 40 _ rfl (AgrL.upd _ _ (AgrL.upd _ _ (AgrL.upd _ _ (AgrL.upd _ _ (AgrL.upd _ _ (AgrL.upd _ _ (AgrL.upd _ _ (AgrL.upd _ _ (AgrL.upd _ _ (AgrL.upd _ _ (AgrL.upd _ _ (AgrL.upd _ _ (AgrL.upd _ _ (AgrL.upd _ _ (AgrL.upd _ _ (AgrL.upd _ _ (AgrL.base _))))))))))))))))))))) (by decide) (by decide) fun vs w9 hJ => ?_
  simp only [puts, Act.put, List.setIfInBounds_toArray, List.set_cons_succ, List.set_cons_zero]
  obtain ⟨⟨gl, kl, bl⟩, hv, s9⟩ := hJ
  rw [show vs 0 = LF n fb 0 (gl, kl, bl) from hv 0 (by decide), show vs 1 = LF n fb 1 (gl, kl, bl) from hv 1 (by decide), show vs 2 = .pointer (some ⟨bl, 0, none⟩) from hv 2 (by decide), show vs 3 = .pointer (some ⟨bl, 0, none⟩) from hv 3 (by decide)]
  generalize LF n fb 0 (gl, kl, bl) = x40
  generalize LF n fb 1 (gl, kl, bl) = x41
  clear S LC hv
  have S := Lib.hid (show St B w0 w9 (mo bl gl kl fb n n f * (mo b0 g0 k0 fb n n f * (fx fb * R))) from s9)
  clear s9
  go_wp2_with fail
  refine wp_region_rv [52, 43, 53, 5] (PJ B w0 (mo bl gl kl fb n n f * (mo b0 g0 k0 fb n n f * (fx fb * R))) UF fun (_ : Nat) (b : Nat × Nat × Nat) => mo b.1 b.2.1 b.2.2 fb n n unit * (mo bl gl kl fb n n f * (mo b0 g0 k0 fb n n f * (fx fb * R)))) [8, 9, 10, 12] mixed (by kernel_rfl) (by kernel_rfl) (by kernel_rfl) (fun _ => S.out.drew) ?_
  have LC := Lib.hid fun (j : Nat) (vs : Nat → Value) (w' : World) (h : PJ B w0 (mo bl gl kl fb n n f * (mo b0 g0 k0 fb n n f * (fx fb * R))) UF (fun (_ : Nat) (b : Nat × Nat × Nat) => mo b.1 b.2.1 b.2.2 fb n n unit * (mo bl gl kl fb n n f * (mo b0 g0 k0 fb n n f * (fx fb * R)))) j vs w') =>
    show _ from by
      obtain ⟨Z, ⟨Z', rfl⟩, s⟩ := PJ.any (Y := fun Z => ∃ Z', Z = (mo bl gl kl fb n n f * (mo b0 g0 k0 fb n n f * (fx fb * R))) * Z') ⟨emp, (sep_emp _).symm⟩ (fun (_ : Nat) (b : Nat × Nat × Nat) => ⟨mo b.1 b.2.1 b.2.2 fb n n unit, sep_comm _ _⟩) h
      exact mo_cells (s.eq (Q := mo b0 g0 k0 fb n n f * (mo bl gl kl fb n n f * (fx fb * R) * Z')) (by ac_rfl))
  refine RXl.exact (.pointer (some ⟨b0, 0, none⟩)) rfl rfl rfl rfl rfl (fun _ _ _ _ _ => rfl) ?_
  refine RXl.exact (.pointer (some ⟨b0, 0, none⟩)) rfl rfl rfl rfl rfl (fun j τ w' hj hJ => (by obtain ⟨vs, hv, hJ⟩ := hJ; exact (by simp [rho, upd, Spec.val, execOp, go_sem]))) ?_
  refine RXl.exact (.pointer (some ⟨b0, 0, none⟩)) rfl rfl rfl rfl rfl (fun j τ w' hj hJ => (by obtain ⟨vs, hv, hJ⟩ := hJ; exact (by simp [rho, upd, Spec.val, execOp, go_sem]))) ?_
  refine RXl.exact (.pointer (some ⟨fb, 0, none⟩)) rfl rfl rfl rfl rfl (fun j τ w' hj hJ => (by obtain ⟨vs, hv, hJ⟩ := hJ; exact (by have c := (LC.out _ _ _ hJ).1; simp [rho, upd, Spec.val, execOp, go_sem, c]))) ?_
  refine RXl.exact (.pointer (some ⟨b0, 0, none⟩)) rfl rfl rfl rfl rfl (fun _ _ _ _ _ => rfl) ?_
  refine RXl.exact (.pointer (some ⟨b0, 0, none⟩)) rfl rfl rfl rfl rfl (fun j τ w' hj hJ => (by obtain ⟨vs, hv, hJ⟩ := hJ; exact (by simp [rho, upd, Spec.val, execOp, go_sem]))) ?_
  refine RXl.exact (.pointer (some ⟨b0, 1, none⟩)) rfl rfl rfl rfl rfl (fun j τ w' hj hJ => (by obtain ⟨vs, hv, hJ⟩ := hJ; exact (by simp [rho, upd, Spec.val, execOp, go_sem]))) ?_
  refine RXl.exact (.int .i64 (n : Int)) rfl rfl rfl rfl rfl (fun j τ w' hj hJ => (by obtain ⟨vs, hv, hJ⟩ := hJ; exact (by have c := (LC.out _ _ _ hJ).2.1; simp [rho, upd, Spec.val, execOp, go_sem, c]))) ?_
  refine RXl.callV 0 52 rfl rfl rfl (Nat.le_of_ble_eq_true rfl) _ [.tmp 47, .tmp 51] _ rfl rfl rfl rfl rfl (PJ.first [.pointer (some ⟨fb, 0, none⟩), .int .i64 (n : Int)] (fun ρ w hag => by simp [hag.ex 47 _ rfl rfl rfl, hag.ex 51 _ rfl rfl rfl]) (fun _ => rfl) (fun w s => by refine (unit_good fb n hn w s).mono ?_; rintro e w1 ⟨b1, rfl, s1⟩; obtain ⟨g1, k1, s1⟩ := mt_open s1; exact ⟨(b1, g1, k1), rfl, s1⟩)) ?_
  refine RXl.effV 1 43 rfl rfl rfl (Nat.le_of_ble_eq_true rfl) rfl rfl rfl rfl (PJ.pass rfl (fun ρ a w h hag s => by have e := h 0 52 (by decide) rfl; exact (exec_move rfl).trans (by rw [e]; rfl))) ?_
  refine RXl.effV 2 53 rfl rfl rfl (Nat.le_of_ble_eq_true rfl) rfl rfl rfl rfl (PJ.pass rfl (fun ρ a w h hag s => by have e := h 1 43 (by decide) rfl; exact exec_extract rfl e rfl)) ?_
  refine RXl.value (.ex (.int .i64 0)) (Free.ex _) rfl rfl rfl rfl (fun ρ w' j hj hI hag => ⟨_, (by obtain ⟨a, e⟩ := PJ.val (hag.so 43 _ rfl rfl rfl); exact exec_extract rfl e rfl), rfl⟩) ?_
  refine RXl.effV 3 5 rfl rfl rfl (Nat.le_of_ble_eq_true rfl) rfl rfl rfl rfl (PJ.pass rfl (fun ρ a w h hag s => by have e := h 2 53 (by decide) rfl; exact (exec_assign rfl).trans (by rw [e]; rfl))) ?_
  refine RXl.exact (.int .i64 0) rfl rfl rfl rfl rfl (fun _ _ _ _ _ => rfl) ?_
  refine RXl.nilV _ (AgrL.upd _ _ (AgrL.unk 5 _ rfl (AgrL.upd _ _ (AgrL.unk 53 _ rfl (AgrL.unk 43 _ rfl (AgrL.unk 52 _ rfl (AgrL.upd _ _ (AgrL.upd _ _ (AgrL.upd _ _ (AgrL.upd _ _ (AgrL.upd _ _ (AgrL.upd _ _ (AgrL.upd _ _ (AgrL.upd _ _ (AgrL.base _))))))))))))))) (by decide) (by decide) fun vs w10 hJ => ?_
  simp only [puts, Act.put, List.setIfInBounds_toArray, List.set_cons_succ, List.set_cons_zero]
  obtain ⟨⟨bo, go, ko⟩, hv, s9⟩ := hJ
  rw [show vs 0 = UF 0 (bo, go, ko) from hv 0 (by decide), show vs 1 = UF 1 (bo, go, ko) from hv 1 (by decide), show vs 2 = .pointer (some ⟨bo, 0, none⟩) from hv 2 (by decide), show vs 3 = .pointer (some ⟨bo, 0, none⟩) from hv 3 (by decide)]
  generalize UF 0 (bo, go, ko) = x52
  generalize UF 1 (bo, go, ko) = x43
  clear S LC hv
  have c1 := (mo_cells (St.eq (Q := mo b0 g0 k0 fb n n f * (mo bo go ko fb n n unit * (mo bl gl kl fb n n f * (fx fb * R)))) (by ac_rfl) s9)).2.2.1
  have S := Lib.hid (St.eq (Q := mo bl gl kl fb n n (f) * (mo bo go ko fb n n (unit) * (fx fb * (mo b0 g0 k0 fb n n f * R)))) (by ac_rfl) s9)
  clear s9
  go_wp2_with fail
  clear c1
  go_loopw [59] (fun i wr => ∃ (k : Nat) (A Bm : Mx), k ≤ n ∧ i = .int .i64 k ∧ gj n f k = some (A, Bm) ∧ St B w0 wr (mo bl gl kl fb n n (A) * (mo bo go ko fb n n (Bm) * (fx fb * (mo b0 g0 k0 fb n n f * R))))) (fun i _ => n - (intOf i).toNat)
  case atStart => exact ⟨0, f, unit, Nat.zero_le _, rfl, rfl, S.out⟩
  case round =>
    obtain ⟨k, A, Bm, hk, rfl, hg, s⟩ := hrel
    have HG := Lib.hid hg
    clear S hg
    have S := Lib.hid s
    clear s
    by_cases hlt : k < n
    · skip
      go_wp2_with fail
      go_loopw [8] (fun i wr => ∃ p : Nat, k ≤ p ∧ p ≤ n ∧ i = .int .i64 p ∧ (∀ q, k ≤ q → q < p → A q k = 0) ∧ St B w0 wr (mo bl gl kl fb n n (A) * (mo bo go ko fb n n (Bm) * (fx fb * (mo b0 g0 k0 fb n n f * R))))) (fun i _ => n - (intOf i).toNat)
      case atStart => exact ⟨k, Nat.le_refl _, by omega, rfl, fun q h1 h2 => absurd h2 (by omega), S.out⟩
      case round =>
        obtain ⟨p, hp1, hp2, rfl, hz, s⟩ := hrel
        have HZ := Lib.hid hz
        clear S hz
        have c1 := (mo_cells (St.eq (Q := mo b0 g0 k0 fb n n f * (mo bl gl kl fb n n (A) * (mo bo go ko fb n n (Bm) * (fx fb * R)))) (by ac_rfl) s)).2.1
        by_cases hpn : p < n
        · by_cases hap : A p k = 0
          · have S := Lib.hid s
            have HA := Lib.hid hap
            clear s hap
            go_wp2_with fail
            refine (at_in bl gl kl fb n n A p k hpn hlt (by omega) _ S.out).mono ?_
            rw [HA.out]
            rintro e wq ⟨rfl, sq⟩
            clear S c1
            have S := Lib.hid sq
            clear sq
            go_wp2_with fail
            go_roundw
            case rel => exact ⟨p + 1, by omega, by omega, by go_num, fun q h1 h2 => by by_cases e : q = p; (subst e; exact HA.out); exact HZ.out q h1 (by omega), S.out⟩
            case measure => simp [intOf]; omega
          · have HP := Lib.hid (gj_next HG.out (pv_eq hp1 hp2 HZ.out (fun _ => hap)) (by omega))
            have S := Lib.hid s
            have hx0 := u8_pos hap
            have HA := Lib.hid hap
            have hx1 : ((((A p k).toNat : Nat) : Int) == 0) = false := by simpa using hx0
            have hne : ((p : Int) == (n : Int)) = false := by rw [beq_eq_false_iff_ne]; omega
            clear s hap hx0 HZ HG
            go_wp2_with fail
            refine (at_in bl gl kl fb n n A p k hpn hlt (by omega) _ S.out).mono ?_
            rintro e wq ⟨rfl, sq⟩
            clear S c1
            have c1 := (mo_cells (St.eq (Q := mo b0 g0 k0 fb n n f * (mo bl gl kl fb n n (A) * (mo bo go ko fb n n (Bm) * (fx fb * R)))) (by ac_rfl) sq)).2.1
            have S := Lib.hid sq
            clear sq
            go_wp2_with fail
            clear c1 hx1
            refine wp_region_rx (fun _ w' => St B w0 w' (mo bl gl kl fb n n (A) * (mo bo go ko fb n n (Bm) * (fx fb * (mo b0 g0 k0 fb n n f * R))))) [] mixed (by kernel_rfl) (by kernel_rfl) S.out.drew ?_
            refine RXl.exact (.pointer (some ⟨b0, 0, none⟩)) rfl rfl rfl rfl rfl (fun _ _ _ _ _ => rfl) ?_
            refine RXl.exact (.pointer (some ⟨b0, 0, none⟩)) rfl rfl rfl rfl rfl (fun j τ w' hj hJ => by simp [rho, upd, Spec.val, execOp, go_sem]) ?_
            refine RXl.exact (.pointer (some ⟨b0, 0, none⟩)) rfl rfl rfl rfl rfl (fun j τ w' hj hJ => by simp [rho, upd, Spec.val, execOp, go_sem]) ?_
            refine RXl.exact (.pointer (some ⟨fb, 0, none⟩)) rfl rfl rfl rfl rfl (fun j τ w' hj hJ => by have c := (mo_cells (St.eq (P := mo bl gl kl fb n n (A) * (mo bo go ko fb n n (Bm) * (fx fb * (mo b0 g0 k0 fb n n f * R)))) (Q := mo b0 g0 k0 fb n n f * (mo bl gl kl fb n n (A) * (mo bo go ko fb n n (Bm) * (fx fb * R)))) (by ac_rfl) hJ)).1; simp [rho, upd, Spec.val, execOp, go_sem, c]) ?_
            refine RXl.exact (.pointer (some ⟨bl, 0, none⟩)) rfl rfl rfl rfl rfl (fun _ _ _ _ _ => rfl) ?_
            refine RXl.exact (.int .i64 (p : Int)) rfl rfl rfl rfl rfl (fun _ _ _ _ _ => rfl) ?_
            refine RXl.exact (.int .i64 (k : Int)) rfl rfl rfl rfl rfl (fun _ _ _ _ _ => rfl) ?_
            refine RXl.callr (bv (A p k)) _ [.pointer (some ⟨bl, 0, none⟩), .int .i64 (p : Int), .int .i64 (k : Int)] [.tmp 89, .tmp 90, .tmp 91] _ rfl rfl rfl rfl rfl rfl (fun _ => rfl) (fun j τ w' hj hJ => at_in bl gl kl fb n n A p k hpn hlt (by omega) w' hJ) ?_
            refine RXl.callr (.tuple #[bv (ginv (A p k)), .bool (gok (A p k))]) _ [.pointer (some ⟨fb, 0, none⟩), bv (A p k)] [.tmp 88, .tmp 92] _ rfl rfl rfl rfl rfl rfl (fun _ => rfl) (fun j τ w' hj hJ => via (by ac_rfl) hJ (invx fb (A p k) w' (R := mo bl gl kl fb n n A * (mo bo go ko fb n n Bm * (mo b0 g0 k0 fb n n f * R))))) ?_
            refine RXl.exact (.tuple #[bv (ginv (A p k)), .bool (gok (A p k))]) rfl rfl rfl rfl rfl (fun _ _ _ _ _ => rfl) ?_
            refine RXl.exact (bv (ginv (A p k))) rfl rfl rfl rfl rfl (fun j τ w' hj hJ => by simp [rho, upd, Spec.val, execOp, go_sem]) ?_
            refine RXl.exact (.bool (gok (A p k))) rfl rfl rfl rfl rfl (fun j τ w' hj hJ => by simp [rho, upd, Spec.val, execOp, go_sem]) ?_
            refine RXl.exact (bv (ginv (A p k))) rfl rfl rfl rfl rfl (fun _ _ _ _ _ => rfl) ?_
            refine RXl.exact (.bool (gok (A p k))) rfl rfl rfl rfl rfl (fun _ _ _ _ _ => rfl) ?_
            refine RXl.nilx _ (Agr.upd _ _ (Agr.upd _ _ (Agr.upd _ _ (Agr.upd _ _ (Agr.upd _ _ (Agr.upd _ _ (Agr.upd _ _ (Agr.upd _ _ (Agr.upd _ _ (Agr.upd _ _ (Agr.upd _ _ (Agr.upd _ _ (Agr.upd _ _ (Agr.upd _ _ (Agr.base _))))))))))))))) fun w11 hJ => ?_
            obtain ⟨_, hJ⟩ := hJ
            simp only [Act.put, List.setIfInBounds_toArray, List.set_cons_succ, List.set_cons_zero]
            clear S
            have S := Lib.hid (show St B w0 w11 (mo bl gl kl fb n n (A) * (mo bo go ko fb n n (Bm) * (fx fb * (mo b0 g0 k0 fb n n f * R)))) from hJ)
            clear hJ
            generalize gok (A p k) = gokA
            go_wp2_with fail
            have s2 := S.out.alloc (.cells #[.pointer (some ⟨bl, 0, none⟩), .pointer (some ⟨bo, 0, none⟩)] 124)
            generalize w11.heap.size = hp at *
            clear S
            have S := Lib.hid s2
            clear s2
            go_loopw [100] (fun i wr => (i = .int .i64 0 ∧ St B w0 wr (pts hp (.cells #[.pointer (some ⟨bl, 0, none⟩), .pointer (some ⟨bo, 0, none⟩)] 124) * (mo bl gl kl fb n n (A) * (mo bo go ko fb n n (Bm) * (fx fb * (mo b0 g0 k0 fb n n f * R)))))) ∨
              (i = .int .i64 1 ∧ St B w0 wr (pts hp (.cells #[.pointer (some ⟨bl, 0, none⟩), .pointer (some ⟨bo, 0, none⟩)] 124) * (mo bl gl kl fb n n (rsc (rsw A p k) k (ginv (A p k))) * (mo bo go ko fb n n (Bm) * (fx fb * (mo b0 g0 k0 fb n n f * R)))))) ∨
              (i = .int .i64 2 ∧ St B w0 wr (pts hp (.cells #[.pointer (some ⟨bl, 0, none⟩), .pointer (some ⟨bo, 0, none⟩)] 124) * (mo bl gl kl fb n n (rsc (rsw A p k) k (ginv (A p k))) * (mo bo go ko fb n n (rsc (rsw Bm p k) k (ginv (A p k))) * (fx fb * (mo b0 g0 k0 fb n n f * R))))))) (fun i _ => 2 - (intOf i).toNat)
            case atStart => exact .inl ⟨rfl, S.out⟩
            case round =>
              clear S
              rcases hrel with ⟨rfl, s⟩ | ⟨rfl, s⟩ | ⟨rfl, s⟩
              · have c0 := s.cell 0
                simp at c0
                have S := Lib.hid s
                clear s
                go_wp2_with fail
                refine (swap_calls bl gl kl fb n n A p k hpn hlt hn.2 hn _ (S.out.eq (Q := mo bl gl kl fb n n A * (pts hp (.cells #[.pointer (some ⟨bl, 0, none⟩), .pointer (some ⟨bo, 0, none⟩)] 124) * (mo bo go ko fb n n Bm * (fx fb * (mo b0 g0 k0 fb n n f * R))))) (by ac_rfl))).mono ?_
                rintro e wq ⟨rfl, sq⟩
                clear S c0
                have S := Lib.hid sq
                clear sq
                go_wp2_with fail
                refine (scale_calls bl gl kl fb n n (rsw A p k) k (ginv (A p k)) hlt hn.2 hn _ (S.out.eq (Q := fx fb * (mo bl gl kl fb n n (rsw A p k) * (pts hp (.cells #[.pointer (some ⟨bl, 0, none⟩), .pointer (some ⟨bo, 0, none⟩)] 124) * (mo bo go ko fb n n Bm * (mo b0 g0 k0 fb n n f * R))))) (by ac_rfl))).mono ?_
                rintro e wq ⟨rfl, sq⟩
                clear S
                have S := Lib.hid sq
                clear sq
                go_wp2_with fail
                go_roundw
                case rel => exact .inr (.inl ⟨rfl, S.out.eq (by ac_rfl)⟩)
                case measure => simp [intOf]
              · have c0 := s.cell 1
                simp at c0
                have S := Lib.hid s
                clear s
                go_wp2_with fail
                refine (swap_calls bo go ko fb n n Bm p k hpn hlt hn.2 hn _ (S.out.eq (Q := mo bo go ko fb n n Bm * (pts hp (.cells #[.pointer (some ⟨bl, 0, none⟩), .pointer (some ⟨bo, 0, none⟩)] 124) * (mo bl gl kl fb n n (rsc (rsw A p k) k (ginv (A p k))) * (fx fb * (mo b0 g0 k0 fb n n f * R))))) (by ac_rfl))).mono ?_
                rintro e wq ⟨rfl, sq⟩
                clear S c0
                have S := Lib.hid sq
                clear sq
                go_wp2_with fail
                refine (scale_calls bo go ko fb n n (rsw Bm p k) k (ginv (A p k)) hlt hn.2 hn _ (S.out.eq (Q := fx fb * (mo bo go ko fb n n (rsw Bm p k) * (pts hp (.cells #[.pointer (some ⟨bl, 0, none⟩), .pointer (some ⟨bo, 0, none⟩)] 124) * (mo bl gl kl fb n n (rsc (rsw A p k) k (ginv (A p k))) * (mo b0 g0 k0 fb n n f * R))))) (by ac_rfl))).mono ?_
                rintro e wq ⟨rfl, sq⟩
                clear S
                have S := Lib.hid sq
                clear sq
                go_wp2_with fail
                go_roundw
                case rel => exact .inr (.inr ⟨rfl, S.out.eq (by ac_rfl)⟩)
                case measure => simp [intOf]
              · have c1 := (mo_cells (St.eq (Q := mo b0 g0 k0 fb n n f * (mo bl gl kl fb n n (rsc (rsw A p k) k (ginv (A p k))) * (mo bo go ko fb n n (rsc (rsw Bm p k) k (ginv (A p k))) * (fx fb * R)))) (by ac_rfl) s.right)).2.1
                have S := Lib.hid s.right
                clear s
                generalize rsc (rsw A p k) k (ginv (A p k)) = A2 at S HP
                generalize rsc (rsw Bm p k) k (ginv (A p k)) = B2 at S HP
                go_wp2_with fail
                clear c1
                go_loopw [117] (fun i wr => ∃ q : Nat, q ≤ n ∧ i = .int .i64 q ∧ St B w0 wr (mo bl gl kl fb n n (elm A2 A2 k q) * (mo bo go ko fb n n (elm B2 A2 k q) * (fx fb * (mo b0 g0 k0 fb n n f * R))))) (fun i _ => n - (intOf i).toNat)
                case atStart => exact ⟨0, Nat.zero_le _, rfl, by rw [elm_zero, elm_zero]; exact S.out⟩
                case round =>
                  obtain ⟨q, hq, rfl, s⟩ := hrel
                  clear S
                  have S := Lib.hid s
                  clear s
                  by_cases hqn : q < n
                  · skip
                    go_wp2_with fail
                    refine (at_in bl gl kl fb n n (elm A2 A2 k q) q k hqn hlt (by omega) _ S.out).mono ?_
                    rw [elm_at]
                    rintro e wq ⟨rfl, sq⟩
                    clear S
                    have S := Lib.hid sq
                    clear sq
                    by_cases hqk : q = k
                    · have hqe : ((q : Int) != (k : Int)) = false := by rw [hqk]; simp
                      have HE1 := Lib.hid (show elm A2 A2 k q = elm A2 A2 k (q + 1) by rw [hqk]; exact elm_skip A2 A2 k)
                      have HE2 := Lib.hid (show elm B2 A2 k q = elm B2 A2 k (q + 1) by rw [hqk]; exact elm_skip B2 A2 k)
                      clear hqk
                      go_wp2_with fail
                      go_roundw
                      case rel => exact ⟨q + 1, by omega, by go_num, by rw [← HE1.out, ← HE2.out]; exact S.out⟩
                      case measure => simp [intOf]; omega
                    · have hqe : ((q : Int) != (k : Int)) = true := by rw [bne_iff_ne]; omega
                      have HE1 := Lib.hid (elm_step A2 A2 k q hqk)
                      have HE2 := Lib.hid (elm_step B2 A2 k q hqk)
                      clear hqk
                      go_wp2_with fail
                      refine (add_calls bl gl kl fb n n (elm A2 A2 k q) k q (A2 q k) hlt hqn hn.2 hn _ (S.out.eq (Q := fx fb * (mo bl gl kl fb n n (elm A2 A2 k q) * (mo bo go ko fb n n (elm B2 A2 k q) * (mo b0 g0 k0 fb n n f * R)))) (by ac_rfl))).mono ?_
                      rw [HE1.out]
                      rintro e wq ⟨rfl, sq⟩
                      clear S
                      have S := Lib.hid sq
                      clear sq
                      go_wp2_with fail
                      refine (add_calls bo go ko fb n n (elm B2 A2 k q) k q (A2 q k) hlt hqn hn.2 hn _ (S.out.eq (Q := fx fb * (mo bo go ko fb n n (elm B2 A2 k q) * (mo bl gl kl fb n n (elm A2 A2 k (q + 1)) * (mo b0 g0 k0 fb n n f * R)))) (by ac_rfl))).mono ?_
                      rw [HE2.out]
                      rintro e wq ⟨rfl, sq⟩
                      clear S
                      have S := Lib.hid sq
                      clear sq
                      go_wp2_with fail
                      go_roundw
                      case rel => exact ⟨q + 1, by omega, by go_num, S.out.eq (by ac_rfl)⟩
                      case measure => simp [intOf]; omega
                  · obtain rfl : q = n := by omega
                    go_wp2_with fail
                    go_roundw
                    case rel => exact ⟨k + 1, _, _, by omega, by go_num, HP.out, S.out⟩
                    case measure => simp [intOf]; omega
        · obtain rfl : p = n := by omega
          have HN := Lib.hid (gj_none (gj_sing HG.out (pv_eq hp1 hp2 HZ.out (fun h => absurd h hpn))) (p - (k + 1)))
          rw [show k + 1 + (p - (k + 1)) = p by omega] at HN
          have S := Lib.hid s
          clear s HZ HG
          go_wp2_with fail
          go_ret2
          exact InvP.none HN.out (S.out.right.right.eq (by ac_rfl))
    · obtain rfl : k = n := by omega
      go_wp2_with fail
      go_ret2
      exact InvP.some HG.out (mt_close (g := go) (cap := ko) ((S.out.eq (Q := mo bl gl kl fb k k A * (mo bo go ko fb k k Bm * (fx fb * (mo b0 g0 k0 fb k k f * R)))) rfl).right))
end
end Go.Proofs.Ytjnfhppjkadlpaa.Mt

namespace Go.Proofs.Ytjnfhppjkadlpaa.Mt
open Go Go.RowKit Go.Proofs.Ytjnfhppjkadlpaa Go.Proofs.Ytjnfhppjkadlpaa.Sp Go.Proofs.Ytjnfhppjkadlpaa.Gf
theorem xor_self8 (a : UInt8) : a ^^^ a = 0 := UInt8.xor_self
theorem gmul_xor_r (a b c : UInt8) : gmul (a ^^^ b) c = gmul a c ^^^ gmul b c := by rw [gmul_comm, gmul_xor, gmul_comm c a, gmul_comm c b]
theorem gmul_zero_iff {a b : UInt8} (h : gmul a b = 0) (hb : b ≠ 0) : a = 0 := by
  by_cases ha : a = 0
  · exact ha
  · exact absurd h (gmul_nz ha hb)
theorem xor_left_comm8 (a b c : UInt8) : a ^^^ (b ^^^ c) = b ^^^ (a ^^^ c) := by rw [← UInt8.xor_assoc, UInt8.xor_comm a b, UInt8.xor_assoc]
theorem sm_xor (n : Nat) (f g : Nat → UInt8) : sm n (fun k => f k ^^^ g k) = sm n f ^^^ sm n g := by
  induction n with
  | zero => exact (by decide : (0 : UInt8) = 0 ^^^ 0)
  | succ n ih =>
    show sm n _ ^^^ (f n ^^^ g n) = (sm n f ^^^ f n) ^^^ (sm n g ^^^ g n)
    rw [ih]
    simp only [UInt8.xor_assoc]
    rw [xor_left_comm8 (sm n g) (f n)]
theorem sm_mul_r (n : Nat) (f : Nat → UInt8) (t : UInt8) : gmul (sm n f) t = sm n fun k => gmul (f k) t := by
  induction n with
  | zero => exact zero_gmul t
  | succ n ih => show gmul (sm n f ^^^ f n) t = sm n _ ^^^ gmul (f n) t; rw [gmul_xor_r, ih]
theorem sm_mul_l (n : Nat) (f : Nat → UInt8) (t : UInt8) : gmul t (sm n f) = sm n fun k => gmul t (f k) := by
  rw [gmul_comm, sm_mul_r]
  exact sm_congr fun k _ => gmul_comm _ _
theorem sm_zero (n : Nat) : sm n (fun _ => 0) = 0 := by
  induction n with
  | zero => rfl
  | succ n ih => show sm n _ ^^^ 0 = 0; rw [ih]; rfl
theorem sm_swap (n m : Nat) (F : Nat → Nat → UInt8) : sm n (fun i => sm m (F i)) = sm m fun j => sm n fun i => F i j := by
  induction n with
  | zero => exact (sm_zero m).symm
  | succ n ih =>
    show sm n _ ^^^ sm m (F n) = _
    rw [ih, ← sm_xor]
    rfl
theorem sm_single {n i : Nat} (hi : i < n) (g : Nat → UInt8) (h : ∀ k, k < n → k ≠ i → g k = 0) : sm n g = g i := by
  induction n with
  | zero => omega
  | succ n ih =>
    show sm n g ^^^ g n = g i
    by_cases e : i = n
    · subst e
      rw [show sm i g = 0 from (sm_congr fun k hk => h k (by omega) (by omega)).trans (sm_zero i), UInt8.zero_xor]
    · rw [ih (by omega) (fun k hk => h k (by omega)), h n (by omega) (by omega), UInt8.xor_zero]
theorem mmul_assoc (n m : Nat) (a b c : Mx) : mmul n (mmul m a b) c = mmul m a (mmul n b c) := by
  funext i j
  show sm n (fun k => gmul (sm m fun z => gmul (a i z) (b z k)) (c k j)) = sm m fun z => gmul (a i z) (sm n fun k => gmul (b z k) (c k j))
  have e1 : (fun k => gmul (sm m fun z => gmul (a i z) (b z k)) (c k j)) = fun k => sm m fun z => gmul (gmul (a i z) (b z k)) (c k j) := by
    funext k; exact sm_mul_r _ _ _
  have e2 : (fun z => gmul (a i z) (sm n fun k => gmul (b z k) (c k j))) = fun z => sm n fun k => gmul (gmul (a i z) (b z k)) (c k j) := by
    funext z
    rw [sm_mul_l]
    exact sm_congr fun k _ => gmul_assoc _ _ _
  rw [e1, e2, sm_swap]
theorem mmul_congr {n : Nat} {a a' b b' : Mx} {i j : Nat} (h1 : ∀ k, k < n → a i k = a' i k) (h2 : ∀ k, k < n → b k j = b' k j) : mmul n a b i j = mmul n a' b' i j :=
  sm_congr fun k hk => by rw [h1 k hk, h2 k hk]
theorem mmul_unit {n : Nat} (a : Mx) {i j : Nat} (hj : j < n) : mmul n a unit i j = a i j := by
  show sm n (fun k => gmul (a i k) (unit k j)) = a i j
  rw [sm_single hj _ (fun k _ hk => by show gmul _ (if k = j then 1 else 0) = 0; rw [if_neg hk, gmul_zero])]
  show gmul _ (if j = j then 1 else 0) = _
  rw [if_pos rfl, gmul_one]
theorem unit_mmul {n : Nat} (a : Mx) {i j : Nat} (hi : i < n) : mmul n unit a i j = a i j := by
  show sm n (fun k => gmul (unit i k) (a k j)) = a i j
  rw [sm_single hi _ (fun k _ hk => by show gmul (if i = k then 1 else 0) _ = 0; rw [if_neg (fun e => hk e.symm), zero_gmul])]
  show gmul (if i = i then 1 else 0) _ = _
  rw [if_pos rfl, one_gmul]
/-- A matrix at a column. -/
def mv (n : Nat) (a : Mx) (v : Nat → UInt8) (i : Nat) : UInt8 := sm n fun k => gmul (a i k) (v k)
theorem mv_mmul (n m : Nat) (a b : Mx) (v : Nat → UInt8) (i : Nat) : mv n (mmul m a b) v i = mv m a (mv n b v) i := by
  have h := congrFun (congrFun (mmul_assoc n m a b fun k _ => v k) i) 0
  exact h
/-- What is sent to nought is nought. -/
def Inj (n : Nat) (a : Mx) : Prop := ∀ v : Nat → UInt8, (∀ i, i < n → mv n a v i = 0) → ∀ i, i < n → v i = 0
theorem inj_unit (n : Nat) : Inj n unit := by
  intro v h i hi
  have := h i hi
  have e : mv n unit v i = v i := unit_mmul (fun k _ => v k) (j := 0) hi
  rw [← e]; exact this
theorem inj_congr {n : Nat} {a b : Mx} (h : Inj n a) (e : ∀ i j, i < n → j < n → a i j = b i j) : Inj n b := by
  intro v hv
  refine h v fun i hi => ?_
  rw [← hv i hi]
  exact sm_congr fun k hk => by rw [e i k hi hk]
theorem sw_sw (p k i : Nat) : sw p k (sw p k i) = i := by
  unfold sw
  by_cases h1 : i = p
  · subst h1
    rw [if_pos rfl]
    by_cases h2 : k = i
    · rw [if_pos h2, h2]
    · rw [if_neg h2, if_pos rfl]
  · rw [if_neg h1]
    by_cases h2 : i = k
    · subst h2; rw [if_pos rfl, if_pos rfl]
    · rw [if_neg h2, if_neg h1, if_neg h2]
theorem sw_lt {p k i n : Nat} (hp : p < n) (hk : k < n) (hi : i < n) : sw p k i < n := by unfold sw; split; exact hk; split; exact hp; exact hi
theorem inj_rsw {n p k : Nat} {a : Mx} (h : Inj n a) (hp : p < n) (hk : k < n) : Inj n (rsw a p k) := by
  intro v hv
  refine h v fun i hi => ?_
  have := hv (sw p k i) (sw_lt hp hk hi)
  rw [← this]
  show mv n a v i = mv n a v (sw p k (sw p k i))
  rw [sw_sw]
theorem mv_rsc (n : Nat) (a : Mx) (k : Nat) (t : UInt8) (v : Nat → UInt8) (i : Nat) : mv n (rsc a k t) v i = if i = k then gmul (mv n a v k) t else mv n a v i := by
  unfold mv rsc
  split
  · rw [sm_mul_r]
    exact sm_congr fun z _ => by rw [← gmul_assoc, gmul_comm t, gmul_assoc]
  · rfl
theorem inj_rsc {n k : Nat} {a : Mx} {t : UInt8} (h : Inj n a) (ht : t ≠ 0) : Inj n (rsc a k t) := by
  intro v hv
  refine h v fun i hi => ?_
  have := hv i hi
  rw [mv_rsc] at this
  by_cases e : i = k
  · rw [if_pos e] at this
    rw [e]
    exact gmul_zero_iff this ht
  · rwa [if_neg e] at this
theorem mv_elm (n : Nat) (a d : Mx) (c m : Nat) (v : Nat → UInt8) (i : Nat) : mv n (elm a d c m) v i = if i < m ∧ i ≠ c then mv n a v i ^^^ gmul (mv n a v c) (d i c) else mv n a v i := by
  unfold mv elm
  split
  · rw [sm_mul_r, ← sm_xor]
    exact sm_congr fun z _ => by rw [gmul_xor_r, ← gmul_assoc, ← gmul_assoc, gmul_comm (d i c)]
  · rfl
theorem inj_elm {n c m : Nat} {a d : Mx} (h : Inj n a) (hc : c < n) : Inj n (elm a d c m) := by
  intro v hv
  have h0 : mv n a v c = 0 := by
    have := hv c hc
    rw [mv_elm, if_neg (fun q => q.2 rfl)] at this
    exact this
  refine h v fun i hi => ?_
  have := hv i hi
  rw [mv_elm] at this
  split at this
  · rw [h0, zero_gmul, UInt8.xor_zero] at this; exact this
  · exact this
/-- What holds behind so many columns. -/
structure GI (n : Nat) (f : Mx) (k : Nat) (A Bm : Mx) : Prop where
  prod : ∀ i j, i < n → j < n → A i j = mmul n Bm f i j
  inj : Inj n Bm
  cols : ∀ i j, i < n → j < k → A i j = unit i j
theorem mm_mv (n : Nat) (a f : Mx) (i j : Nat) : mmul n a f i j = mv n a (fun k => f k j) i := rfl
theorem gj_gi {n : Nat} {f : Mx} : ∀ {k : Nat} {A Bm : Mx}, k ≤ n → gj n f k = some (A, Bm) → GI n f k A Bm
  | 0, A, Bm, _, h => by
    obtain ⟨rfl, rfl⟩ : f = A ∧ unit = Bm := by simpa [gj] using h
    exact ⟨fun i j hi hj => (unit_mmul _ hi).symm, inj_unit n, fun i j _ hj => absurd hj (Nat.not_lt_zero _)⟩
  | k + 1, A, Bm, hk, h => by
    cases hg : gj n f k with
    | none =>
      have := gj_none hg 1
      rw [this] at h
      cases h
    | some x =>
      obtain ⟨A0, B0⟩ := x
      obtain ⟨h1, h2, h3⟩ := gj_gi (by omega) hg
      obtain ⟨s1, s2, s3, s4⟩ := pvf_spec A0 k (n - k) k
      have hpn : pv A0 n k ≠ n := by
        intro e
        rw [gj_sing hg e] at h
        cases h
      have hlt : pv A0 n k < n := by
        have : pv A0 n k ≤ k + (n - k) := s2
        omega
      have hkp : k ≤ pv A0 n k := s1
      have hne : A0 (pv A0 n k) k ≠ 0 := s4 (show pv A0 n k < k + (n - k) by omega)
      have hx := gj_next hg rfl hpn
      rw [hx] at h
      generalize pv A0 n k = p at *
      have hv := ginv_ginv hne
      have e1 := (Option.some.inj h)
      obtain ⟨rfl, rfl⟩ : _ = A ∧ _ = Bm := Prod.mk.inj e1
      have hkn : k < n := by omega
      generalize hA2 : rsc (rsw A0 p k) k (ginv (A0 p k)) = A2
      have a2 : ∀ i j, i < n → j < n → A2 i j = mmul n (rsc (rsw B0 p k) k (ginv (A0 p k))) f i j := by
        intro i j hi hj
        rw [mm_mv, mv_rsc, ← hA2]
        unfold rsc
        split
        · show gmul (A0 (sw p k k) j) _ = gmul (mv n B0 _ (sw p k k)) _
          rw [h1 _ j (sw_lt hlt hkn hkn) hj]; rfl
        · show A0 (sw p k i) j = mv n B0 _ (sw p k i)
          rw [h1 _ j (sw_lt hlt hkn hi) hj]; rfl
      have c2 : ∀ i j, i < n → j < k → A2 i j = unit i j := by
        intro i j hi hj
        have u0 : ∀ q, k ≤ q → unit q j = 0 := fun q hq => if_neg (by omega)
        have b : A0 (sw p k i) j = unit i j := by
          rw [h3 _ j (sw_lt hlt hkn hi) hj]
          unfold sw
          by_cases q1 : i = p
          · rw [if_pos q1, q1, u0 k (Nat.le_refl _), u0 p hkp]
          · rw [if_neg q1]
            by_cases q2 : i = k
            · rw [if_pos q2, q2, u0 p hkp, u0 k (Nat.le_refl _)]
            · rw [if_neg q2]
        rw [← hA2]
        unfold rsc
        by_cases e : i = k
        · subst e
          rw [if_pos rfl]
          show gmul (A0 (sw p i i) j) _ = _
          rw [b, u0 i (Nat.le_refl _), zero_gmul]
        · rw [if_neg e]; exact b
      have ck : A2 k k = 1 := by
        rw [← hA2]
        show (if k = k then gmul (A0 (sw p k k) k) _ else _) = (1 : UInt8)
        rw [if_pos rfl, show sw p k k = p by unfold sw; split; assumption; rw [if_pos rfl], gmul_inv hne]
      refine ⟨fun i j hi hj => ?_, inj_elm (inj_rsc (inj_rsw h2 hlt hkn) hv.1) hkn, fun i j hi hj => ?_⟩
      · rw [mm_mv, mv_elm]
        unfold elm
        split
        · rw [a2 i j hi hj, a2 k j hkn hj]; rfl
        · rw [a2 i j hi hj]; rfl
      · unfold elm
        by_cases e : i < n ∧ i ≠ k
        · rw [if_pos e]
          by_cases ej : j = k
          · subst ej
            rw [ck, one_gmul, xor_self8]
            exact (if_neg e.2).symm
          · rw [c2 i j hi (by omega), c2 k j hkn (by omega), show unit k j = 0 from if_neg (fun q => ej q.symm), zero_gmul, UInt8.xor_zero]
        · rw [if_neg e]
          obtain rfl : i = k := by
            by_cases q : i = k
            · exact q
            · exact absurd ⟨hi, q⟩ e
          by_cases ej : j = i
          · subst ej
            rw [ck]
            exact (if_pos rfl).symm
          · exact c2 i j hi (by omega)
/-- Found: both products are the unit. -/
theorem gj_some {n : Nat} {f A Bm : Mx} (h : gj n f n = some (A, Bm)) : (∀ i j, i < n → j < n → mmul n Bm f i j = unit i j) ∧ (∀ i j, i < n → j < n → mmul n f Bm i j = unit i j) ∧ Inj n Bm := by
  obtain ⟨h1, h2, h3⟩ := gj_gi (Nat.le_refl n) h
  have hl : ∀ i j, i < n → j < n → mmul n Bm f i j = unit i j := fun i j hi hj => by rw [← h1 i j hi hj, h3 i j hi hj]
  refine ⟨hl, fun i j hi hj => ?_, h2⟩
  have key := h2 (fun z => mmul n f Bm z j ^^^ unit z j) (fun z hz => by
    have e1 : mv n Bm (fun z => mmul n f Bm z j ^^^ unit z j) z = mmul n Bm (mmul n f Bm) z j ^^^ mmul n Bm unit z j := by
      show sm n (fun q => gmul (Bm z q) (mmul n f Bm q j ^^^ unit q j)) = sm n _ ^^^ sm n _
      rw [← sm_xor]
      exact sm_congr fun q _ => gmul_xor _ _ _
    rw [e1, ← mmul_assoc, mmul_unit _ hj, mmul_congr (a' := unit) (b' := Bm) (fun q hq => hl z q hz hq) (fun _ _ => rfl), unit_mmul _ hz, xor_self8]) i hi
  have := congrArg (· ^^^ unit i j) key
  simpa [UInt8.xor_assoc] using this
/-- Not found: it sends something to nought. -/
theorem gj_fail {n : Nat} {f : Mx} : ∀ k, k ≤ n → gj n f k = none → ¬ Inj n f
  | 0, _, h => by cases h
  | k + 1, hk, h => by
    cases hg : gj n f k with
    | none => exact gj_fail k (by omega) hg
    | some x =>
      obtain ⟨A, Bm⟩ := x
      obtain ⟨h1, h2, h3⟩ := gj_gi (by omega) hg
      obtain ⟨s1, s2, s3, s4⟩ := pvf_spec A k (n - k) k
      have hp : pv A n k = n := by
        by_cases e : pv A n k = n
        · exact e
        · rw [gj_next hg rfl e] at h; cases h
      have hz : ∀ q, k ≤ q → q < n → A q k = 0 := fun q q1 q2 => s3 q q1 (show q < pv A n k by omega)
      intro hi
      have hv := hi (fun z => if z < k then A z k else if z = k then 1 else 0) ?_ k (by omega)
      · simp at hv
      · refine h2 _ fun i hi' => ?_
        rw [← mv_mmul]
        have e1 : mv n (mmul n Bm f) (fun z => if z < k then A z k else if z = k then 1 else 0) i = sm n fun z => gmul (A i z) (if z < k then A z k else if z = k then 1 else 0) :=
          sm_congr fun z hz' => by rw [h1 i z hi' hz']
        rw [e1]
        have e2 : (sm n fun z => gmul (A i z) (if z < k then A z k else if z = k then 1 else 0)) = (sm n fun z => if z = i then (if i < k then A i k else 0) else 0) ^^^ sm n fun z => if z = k then A i k else 0 := by
          rw [← sm_xor]
          refine sm_congr fun z _ => ?_
          by_cases q : z < k
          · rw [if_pos q, h3 i z hi' q]
            unfold unit
            rw [if_neg (show ¬ z = k by omega), UInt8.xor_zero]
            by_cases e : i = z
            · subst e; rw [if_pos rfl, if_pos rfl, if_pos q, one_gmul]
            · rw [if_neg e, if_neg (fun y => e y.symm), zero_gmul]
          · rw [if_neg q]
            have e0 : (if z = i then (if i < k then A i k else 0) else 0) = (0 : UInt8) := by
              by_cases e : z = i
              · rw [if_pos e, if_neg (by omega)]
              · rw [if_neg e]
            rw [e0, UInt8.zero_xor]
            by_cases e : z = k
            · rw [if_pos e, if_pos e, e, gmul_one]
            · rw [if_neg e, if_neg e, gmul_zero]
        rw [e2, sm_single hi' _ (fun z _ q => if_neg q), sm_single (show k < n by omega) _ (fun z _ q => if_neg q)]
        simp only [if_true]
        by_cases q : i < k
        · rw [if_pos q, xor_self8]
        · rw [if_neg q, hz i (by omega) hi']; rfl
theorem gj_of_inj {n : Nat} {f : Mx} (h : Inj n f) : ∃ A Bm, gj n f n = some (A, Bm) := by
  cases hg : gj n f n with
  | none => exact absurd h (gj_fail n (Nat.le_refl _) hg)
  | some x => exact ⟨x.1, x.2, rfl⟩
/-- Inverted twice. -/
theorem gj_twice {n : Nat} {f A Bm : Mx} (h : gj n f n = some (A, Bm)) : ∃ A' B', gj n Bm n = some (A', B') ∧ ∀ i j, i < n → j < n → B' i j = f i j := by
  obtain ⟨h1, h2, h3⟩ := gj_some h
  obtain ⟨A', B', h4⟩ := gj_of_inj h3
  obtain ⟨h5, -, -⟩ := gj_some h4
  refine ⟨A', B', h4, fun i j hi hj => ?_⟩
  have e1 : mmul n B' (mmul n Bm f) i j = B' i j := by
    rw [mmul_congr (a' := B') (b' := unit) (fun _ _ => rfl) (fun q hq => h1 q j hq hj), mmul_unit _ hj]
  have e2 : mmul n (mmul n B' Bm) f i j = f i j := by
    rw [mmul_congr (a' := unit) (b' := f) (fun q hq => h5 i q hi hq) (fun _ _ => rfl), unit_mmul _ hi]
  rw [← e1, ← mmul_assoc, e2]
end Go.Proofs.Ytjnfhppjkadlpaa.Mt

namespace Go.Proofs.Ytjnfhppjkadlpaa.Mt
open Go Go.RowKit Go.Proofs.Ytjnfhppjkadlpaa Go.Proofs.Ytjnfhppjkadlpaa.Sp Go.Proofs.Ytjnfhppjkadlpaa.Gf
theorem xor_ne {a b : UInt8} (h : a ≠ b) : a ^^^ b ≠ 0 := by
  intro e
  apply h
  have := congrArg (· ^^^ b) e
  simpa [UInt8.xor_assoc] using this
theorem gmul_cancel {a b t : UInt8} (ht : t ≠ 0) (h : gmul a t = gmul b t) : a = b := by
  have h1 := gmul_div a ht
  have h2 := gmul_div b ht
  rw [← h1, h, h2]
theorem inv_nz {a : UInt8} (h : a ≠ 0) : ginv a ≠ 0 := (ginv_ginv h).1
/-- 1/(y+x) and 1/(z+x), the difference. -/
theorem inv_diff {y z x : UInt8} (hy : y ^^^ x ≠ 0) (hz : z ^^^ x ≠ 0) : ginv (y ^^^ x) ^^^ ginv (z ^^^ x) = gmul (y ^^^ z) (gmul (ginv (y ^^^ x)) (ginv (z ^^^ x))) := by
  refine gmul_cancel (t := gmul (y ^^^ x) (z ^^^ x)) (gmul_nz hy hz) ?_
  have e1 : gmul (ginv (y ^^^ x)) (gmul (y ^^^ x) (z ^^^ x)) = z ^^^ x := ginv_mul hy _
  have e2 : gmul (ginv (z ^^^ x)) (gmul (y ^^^ x) (z ^^^ x)) = y ^^^ x := by rw [gmul_comm (y ^^^ x)]; exact ginv_mul hz _
  have e3 : gmul (gmul (y ^^^ z) (gmul (ginv (y ^^^ x)) (ginv (z ^^^ x)))) (gmul (y ^^^ x) (z ^^^ x)) = y ^^^ z := by
    rw [← gmul_assoc, ← gmul_assoc (ginv (y ^^^ x)), e2, gmul_comm (ginv (y ^^^ x)), gmul_inv hy, gmul_one]
  rw [gmul_xor_r, e1, e2, e3]
  have : z ^^^ x ^^^ (y ^^^ x) = z ^^^ y ^^^ (x ^^^ x) := by
    simp only [UInt8.xor_assoc]
    rw [xor_left_comm8 x y x]
  rw [this, UInt8.xor_self, UInt8.xor_zero, UInt8.xor_comm]
/-- (y+t)/(y+x) = 1 + (t+x)/(y+x). -/
theorem inv_shift {y t x : UInt8} (hy : y ^^^ x ≠ 0) : gmul (y ^^^ t) (ginv (y ^^^ x)) = 1 ^^^ gmul (t ^^^ x) (ginv (y ^^^ x)) := by
  refine gmul_cancel hy ?_
  rw [← gmul_assoc, gmul_comm (ginv (y ^^^ x)), gmul_inv hy, gmul_one, gmul_xor_r, one_gmul, ← gmul_assoc, gmul_comm (ginv (y ^^^ x)), gmul_inv hy, gmul_one]
  have : y ^^^ x ^^^ (t ^^^ x) = y ^^^ t ^^^ (x ^^^ x) := by
    simp only [UInt8.xor_assoc]
    rw [xor_left_comm8 x t x]
  rw [this, UInt8.xor_self, UInt8.xor_zero]
/-- As many rows as columns. -/
theorem cauchy : ∀ (n : Nat) (x : Nat → UInt8) (v : Nat → UInt8) (ys : List UInt8), ys.Nodup → n ≤ ys.length → (∀ i j, i < n → j < n → x i = x j → i = j) → (∀ y ∈ ys, ∀ i, i < n → y ≠ x i) →
    (∀ y ∈ ys, sm n (fun i => gmul (ginv (y ^^^ x i)) (v i)) = 0) → ∀ i, i < n → v i = 0
  | 0, _, _, _, _, _, _, _, _, i, hi => absurd hi (Nat.not_lt_zero _)
  | n + 1, x, v, [], _, hl, _, _, _, _, _ => by simp at hl
  | n + 1, x, v, y0 :: ys, hnd, hl, hx, hd, hs, i, hi => by
    have hn0 := List.nodup_cons.1 hnd
    have dif : ∀ y ∈ y0 :: ys, ∀ i, i < n + 1 → y ^^^ x i ≠ 0 := fun y hy i hi => xor_ne (hd y hy i hi)
    -- times (y + x n)
    have h1 : ∀ y ∈ y0 :: ys, (sm n fun i => gmul (gmul (x n ^^^ x i) (ginv (y ^^^ x i))) (v i)) = sm (n + 1) v := by
      intro y hy
      have e := congrArg (fun z => gmul z (y ^^^ x n)) (hs y hy)
      rw [show gmul 0 (y ^^^ x n) = 0 from zero_gmul _] at e
      have e2 : gmul (sm (n + 1) fun i => gmul (ginv (y ^^^ x i)) (v i)) (y ^^^ x n) = (sm (n + 1) fun i => v i) ^^^ sm (n + 1) fun i => gmul (gmul (x n ^^^ x i) (ginv (y ^^^ x i))) (v i) := by
        rw [sm_mul_r, ← sm_xor]
        refine sm_congr fun i hi => ?_
        have := inv_shift (t := x n) (dif y hy i hi)
        calc gmul (gmul (ginv (y ^^^ x i)) (v i)) (y ^^^ x n) = gmul (gmul (y ^^^ x n) (ginv (y ^^^ x i))) (v i) := by rw [gmul_comm, gmul_assoc]
          _ = v i ^^^ gmul (gmul (x n ^^^ x i) (ginv (y ^^^ x i))) (v i) := by rw [this, gmul_xor_r, one_gmul]
      have e3 : (sm (n + 1) fun i => gmul (gmul (x n ^^^ x i) (ginv (y ^^^ x i))) (v i)) = sm n fun i => gmul (gmul (x n ^^^ x i) (ginv (y ^^^ x i))) (v i) := by
        show sm n _ ^^^ gmul (gmul (x n ^^^ x n) _) _ = _
        rw [xor_self8, zero_gmul, zero_gmul, UInt8.xor_zero]
      rw [e2, e3] at e
      have := congrArg (· ^^^ (sm n fun i => gmul (gmul (x n ^^^ x i) (ginv (y ^^^ x i))) (v i))) e
      simpa [UInt8.xor_assoc] using this.symm
    -- u i = v i (x n + x i) / (y0 + x i)
    have h2 := cauchy n x (fun i => gmul (gmul (x n ^^^ x i) (ginv (y0 ^^^ x i))) (v i)) ys hn0.2 (by simpa using hl) (fun i j hi hj e => hx i j (by omega) (by omega) e) (fun y hy i hi => hd y (List.mem_cons_of_mem _ hy) i (by omega)) (by
      intro y hy
      have hne : y ^^^ y0 ≠ 0 := xor_ne (fun e => hn0.1 (e ▸ hy))
      have a1 := h1 y (List.mem_cons_of_mem _ hy)
      have a0 := h1 y0 List.mem_cons_self
      have e : gmul (sm n fun i => gmul (ginv (y ^^^ x i)) (gmul (gmul (x n ^^^ x i) (ginv (y0 ^^^ x i))) (v i))) (y ^^^ y0) = 0 := by
        have : gmul (sm n fun i => gmul (ginv (y ^^^ x i)) (gmul (gmul (x n ^^^ x i) (ginv (y0 ^^^ x i))) (v i))) (y ^^^ y0) = (sm n fun i => gmul (gmul (x n ^^^ x i) (ginv (y ^^^ x i))) (v i)) ^^^ sm n fun i => gmul (gmul (x n ^^^ x i) (ginv (y0 ^^^ x i))) (v i) := by
          rw [sm_mul_r, ← sm_xor]
          refine sm_congr fun i hi => ?_
          have hy' := dif y (List.mem_cons_of_mem _ hy) i (by omega)
          have hy0 := dif y0 List.mem_cons_self i (by omega)
          have k := inv_diff hy' hy0
          rw [← gmul_xor_r, ← gmul_xor, k]
          simp only [gmul_assoc]
          rw [gmul_comm]
          simp only [gmul_assoc]
          congr 2
          rw [gmul_comm (gmul (y ^^^ y0) (ginv (y ^^^ x i))), gmul_assoc]
        rw [this, a1, a0, xor_self8]
      exact gmul_zero_iff e hne)
    -- all but the last
    have h3 : ∀ i, i < n → v i = 0 := by
      intro i hi
      have e := h2 i hi
      have hne : gmul (x n ^^^ x i) (ginv (y0 ^^^ x i)) ≠ 0 := gmul_nz (xor_ne (fun q => by have := hx n i (by omega) (by omega) q; omega)) (inv_nz (dif y0 List.mem_cons_self i (by omega)))
      rw [gmul_comm] at e
      exact gmul_zero_iff e hne
    by_cases hin : i < n
    · exact h3 i hin
    · obtain rfl : i = n := by omega
      have e := hs y0 List.mem_cons_self
      have e2 : (sm (i + 1) fun k => gmul (ginv (y0 ^^^ x k)) (v k)) = gmul (ginv (y0 ^^^ x i)) (v i) := by
        show sm i _ ^^^ _ = _
        rw [show (sm i fun k => gmul (ginv (y0 ^^^ x k)) (v k)) = 0 from (sm_congr fun k hk => by rw [h3 k hk, gmul_zero]).trans (sm_zero i), UInt8.zero_xor]
      rw [e2, gmul_comm] at e
      exact gmul_zero_iff e (inv_nz (dif y0 List.mem_cons_self i (by omega)))
/-- The square one. -/
def cau (x y : Nat → UInt8) : Mx := fun i j => ginv (y i ^^^ x j)
theorem cau_inj {n : Nat} {x y : Nat → UInt8} (hx : ∀ i j, i < n → j < n → x i = x j → i = j) (hy : ∀ i j, i < n → j < n → y i = y j → i = j) (hd : ∀ i j, i < n → j < n → y i ≠ x j) : Inj n (cau x y) := by
  intro v hv i hi
  refine cauchy n x v ((List.range n).map y) ?_ (by simp) hx ?_ ?_ i hi
  · refine List.pairwise_map.2 (List.pairwise_iff_getElem.2 fun a b ha hb hab e => ?_)
    have ha' : a < n := by simpa using ha
    have hb' : b < n := by simpa using hb
    simp only [List.getElem_range] at e
    have := hy a b ha' hb' e
    omega
  · intro z hz j hj
    obtain ⟨k, hk, rfl⟩ := List.mem_map.1 hz
    exact hd k j (List.mem_range.1 hk) hj
  · intro z hz
    obtain ⟨k, hk, rfl⟩ := List.mem_map.1 hz
    exact hv k (List.mem_range.1 hk)
end Go.Proofs.Ytjnfhppjkadlpaa.Mt
