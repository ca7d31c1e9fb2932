/- Matrices as functions, laid row by row in a list; sums. Program-free. -/
import Derived.Test.YtjnfhppjkadlpaaGfB
namespace Go.Proofs.Ytjnfhppjkadlpaa.Mt
open Go Go.RowKit Go.Proofs.Ytjnfhppjkadlpaa Go.Proofs.Ytjnfhppjkadlpaa.Sp Go.Proofs.Ytjnfhppjkadlpaa.Gf
abbrev Mx := Nat → Nat → UInt8
def cl (r c : Nat) (f : Mx) : List UInt8 := (List.range (r * c)).map fun q => f (q / c) (q % c)
theorem cl_len (r c : Nat) (f : Mx) : (cl r c f).length = r * c := by simp [cl]
theorem at_lt {r c i j : Nat} (hi : i < r) (hj : j < c) : i * c + j < r * c := by
  have h : (i + 1) * c ≤ r * c := Nat.mul_le_mul_right c hi
  rw [Nat.succ_mul] at h
  omega
theorem at_div {c i j : Nat} (hj : j < c) : (i * c + j) / c = i ∧ (i * c + j) % c = j := by
  constructor
  · rw [Nat.mul_comm, Nat.mul_add_div (by omega), Nat.div_eq_of_lt hj, Nat.add_zero]
  · rw [Nat.mul_comm, Nat.mul_add_mod, Nat.mod_eq_of_lt hj]
theorem div_at {r c q : Nat} (hq : q < r * c) : q / c < r ∧ q % c < c ∧ q = q / c * c + q % c := by
  have hc : 0 < c := by
    rcases Nat.eq_zero_or_pos c with h | h
    · subst h; simp at hq
    · exact h
  refine ⟨(Nat.div_lt_iff_lt_mul hc).2 hq, Nat.mod_lt _ hc, ?_⟩
  rw [Nat.mul_comm]; exact (Nat.div_add_mod q c).symm
theorem cl_get {r c i j : Nat} (f : Mx) (hi : i < r) (hj : j < c) : (cl r c f)[i * c + j]? = some (f i j) := by
  have h := at_lt hi hj
  simp only [cl, List.getElem?_map, List.getElem?_range h, Option.map_some]
  rw [(at_div hj).1, (at_div hj).2]
theorem cl_congr {r c : Nat} {f g : Mx} (h : ∀ i j, i < r → j < c → f i j = g i j) : cl r c f = cl r c g := by
  refine List.map_congr_left fun q hq => ?_
  have := div_at (List.mem_range.1 hq)
  exact h _ _ this.1 this.2.1
theorem cl_inj {r c : Nat} {f g : Mx} (h : cl r c f = cl r c g) {i j : Nat} (hi : i < r) (hj : j < c) : f i j = g i j := by
  have h1 := cl_get f hi hj
  rw [h, cl_get g hi hj] at h1
  exact (Option.some.inj h1).symm
/-- One cell turned. -/
def upm (f : Mx) (a b : Nat) (v : UInt8) : Mx := fun i j => if i = a ∧ j = b then v else f i j
theorem cl_set {r c i j : Nat} (f : Mx) (_hi : i < r) (hj : j < c) (v : UInt8) : (cl r c f).set (i * c + j) v = cl r c (upm f i j v) := by
  apply List.ext_getElem
  · simp [cl]
  · intro q h1 h2
    have hq : q < r * c := by simpa [cl] using h2
    have hd := div_at hq
    rw [List.getElem_set]
    simp only [cl, List.getElem_map, List.getElem_range, upm]
    by_cases h : i * c + j = q
    · subst h
      rw [if_pos rfl, (at_div hj).1, (at_div hj).2, if_pos ⟨rfl, rfl⟩]
    · rw [if_neg h, if_neg]
      rintro ⟨e1, e2⟩
      exact h (by rw [hd.2.2, e1, e2])
/-- Cells as a function. -/
def ofl (c : Nat) (xs : List UInt8) : Mx := fun i j => xs.getD (i * c + j) 0
theorem cl_ofl {r c : Nat} {xs : List UInt8} (h : xs.length = r * c) : cl r c (ofl c xs) = xs := by
  apply List.ext_getElem
  · rw [cl_len, h]
  · intro q h1 h2
    have hd := div_at (show q < r * c by omega)
    simp only [cl, List.getElem_map, List.getElem_range, ofl]
    rw [← hd.2.2, List.getD_eq_getElem?_getD, List.getElem?_eq_getElem h2]
    rfl
/-- One row. -/
def mrow (c : Nat) (f : Mx) (i : Nat) : List UInt8 := (List.range c).map (f i)
theorem mrow_len (c : Nat) (f : Mx) (i : Nat) : (mrow c f i).length = c := by simp [mrow]
theorem cl_row {r c i : Nat} (f : Mx) (hi : i < r) : ((cl r c f).drop (i * c)).take c = mrow c f i := by
  have hb : i * c + c ≤ r * c := by rw [← Nat.succ_mul]; exact Nat.mul_le_mul_right c hi
  apply List.ext_getElem
  · simp [cl_len, mrow]; omega
  · intro j h1 h2
    have hj : j < c := by simpa [mrow] using h2
    simp only [List.getElem_take, List.getElem_drop, cl, List.getElem_map, List.getElem_range, mrow]
    rw [(at_div hj).1, (at_div hj).2]
theorem cl_succ (r c : Nat) (f : Mx) : cl (r + 1) c f = cl r c f ++ mrow c f r := by
  apply List.ext_getElem
  · simp [cl_len, mrow_len, Nat.succ_mul]
  · intro q h1 h2
    have hq : q < (r + 1) * c := by simpa [cl] using h1
    have hd := div_at hq
    by_cases h : q < r * c
    · rw [List.getElem_append_left (by rw [cl_len]; exact h)]
      simp [cl]
    · rw [List.getElem_append_right (by rw [cl_len]; omega)]
      simp only [cl, mrow, List.getElem_map, List.getElem_range, List.length_map, List.length_range]
      have e1 : q / c = r := by
        have : r ≤ q / c := by rw [Nat.le_div_iff_mul_le (by omega)]; omega
        omega
      have e2 : q % c = q - r * c := by have := hd.2.2; rw [e1] at this; omega
      rw [e1, e2]
theorem cl_one (c : Nat) (f : Mx) : cl 0 c f = [] := by simp [cl]
/-- A sum. -/
def sm : Nat → (Nat → UInt8) → UInt8
  | 0, _ => 0
  | n + 1, g => sm n g ^^^ g n
theorem sm_congr {n : Nat} {f g : Nat → UInt8} (h : ∀ k, k < n → f k = g k) : sm n f = sm n g := by
  induction n with
  | zero => rfl
  | succ n ih => show sm n f ^^^ f n = sm n g ^^^ g n; rw [ih fun k hk => h k (by omega), h n (by omega)]
def mmul (n : Nat) (f g : Mx) : Mx := fun i j => sm n fun k => gmul (f i k) (g k j)
def unit : Mx := fun i j => if i = j then 1 else 0
theorem gdot_map (f g : Nat → UInt8) : ∀ n, gdot ((List.range n).map f) ((List.range n).map g) = sm n fun k => gmul (f k) (g k)
  | 0 => rfl
  | n + 1 => by
    rw [List.range_succ, List.map_append, List.map_append]
    show gdot (_ ++ [f n]) (_ ++ [g n]) = sm n _ ^^^ _
    rw [gdot_snoc _ _ _ _ (by simp), gdot_map f g n]
/-- A product, under way. -/
def pm (n : Nat) (f g : Mx) (i j k : Nat) : Mx := fun a b => if a < i ∨ (a = i ∧ b < j) then mmul n f g a b else if a = i ∧ b = j then sm k fun q => gmul (f i q) (g q j) else 0
theorem pm_zero (n : Nat) (f g : Mx) : pm n f g 0 0 0 = fun _ _ => 0 := by
  funext a b
  unfold pm
  rw [if_neg (by omega)]
  split <;> rfl
theorem pm_k (n : Nat) (f g : Mx) (i j k : Nat) : upm (pm n f g i j k) i j (pm n f g i j k i j ^^^ gmul (f i k) (g k j)) = pm n f g i j (k + 1) := by
  funext a b
  unfold upm
  by_cases h : a = i ∧ b = j
  · rw [if_pos h]
    obtain ⟨rfl, rfl⟩ := h
    unfold pm
    rw [if_neg (by omega), if_pos ⟨rfl, rfl⟩, if_neg (by omega), if_pos ⟨rfl, rfl⟩]
    rfl
  · rw [if_neg h]
    unfold pm
    rw [if_neg h, if_neg h]
theorem pm_j (n : Nat) (f g : Mx) (i j : Nat) : pm n f g i j n = pm n f g i (j + 1) 0 := by
  funext a b
  unfold pm
  by_cases h1 : a < i ∨ (a = i ∧ b < j)
  · rw [if_pos h1, if_pos (by omega)]
  · rw [if_neg h1]
    by_cases h2 : a = i ∧ b = j
    · obtain ⟨rfl, rfl⟩ := h2
      rw [if_pos ⟨rfl, rfl⟩, if_pos (by omega)]
      rfl
    · rw [if_neg h2, if_neg (by omega)]
      split <;> rfl
theorem pm_i (n : Nat) (f g : Mx) (i r c : Nat) : cl r c (pm n f g i c 0) = cl r c (pm n f g (i + 1) 0 0) := by
  refine cl_congr fun a b _ hb => ?_
  unfold pm
  by_cases h1 : a < i ∨ (a = i ∧ b < c)
  · rw [if_pos h1, if_pos (by omega)]
  · rw [if_neg h1, if_neg (by omega), if_neg (by omega)]
    split <;> rfl
theorem pm_end (n : Nat) (f g : Mx) (r c : Nat) : cl r c (pm n f g r 0 0) = cl r c (mmul n f g) := by
  refine cl_congr fun a b ha _ => ?_
  unfold pm
  rw [if_pos (by omega)]
theorem cl_zero (r c : Nat) : cl r c (fun _ _ => 0) = List.replicate (r * c) 0 := by
  refine List.eq_replicate_iff.2 ⟨cl_len _ _ _, fun b hb => ?_⟩
  obtain ⟨q, _, rfl⟩ := List.mem_map.1 hb
  rfl
/-- The unit, under way. -/
def pu (k : Nat) : Mx := fun i j => if i = j ∧ i < k then 1 else 0
theorem pu_zero : pu 0 = fun _ _ => 0 := by funext i j; unfold pu; rw [if_neg (by omega)]
theorem pu_step (k : Nat) : upm (pu k) k k 1 = pu (k + 1) := by
  funext i j
  unfold upm pu
  by_cases h : i = k ∧ j = k
  · rw [if_pos h, if_pos (by omega)]
  · rw [if_neg h]
    by_cases h2 : i = j ∧ i < k
    · rw [if_pos h2, if_pos (by omega)]
    · rw [if_neg h2, if_neg (by omega)]
theorem pu_end (n : Nat) : cl n n (pu n) = cl n n unit := by
  refine cl_congr fun a b ha _ => ?_
  unfold pu unit
  by_cases h : a = b
  · rw [if_pos ⟨h, ha⟩, if_pos h]
  · rw [if_neg (fun q => h q.1), if_neg h]
end Go.Proofs.Ytjnfhppjkadlpaa.Mt
