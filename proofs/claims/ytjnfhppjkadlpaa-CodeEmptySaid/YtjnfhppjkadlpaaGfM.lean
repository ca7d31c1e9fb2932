/- The field's tables, plain. Program-free. -/
import Derived.Test.YtjnfhppjkadlpaaGfO
namespace Go.Proofs.Ytjnfhppjkadlpaa.Gf
open Go Go.RowKit Go.Proofs.Ytjnfhppjkadlpaa Go.Proofs.Ytjnfhppjkadlpaa.Sp Go.Proofs.Ytjnfhppjkadlpaa.Reg
/-- Times 2. -/
def xt (x : Nat) : Nat := if 256 ≤ 2 * x then (2 * x) ^^^ 285 else 2 * x
def gexp : Nat → Nat
  | 0 => 1
  | k + 1 => xt (gexp k)
theorem xt_lt : ∀ x, x < 256 → xt x < 256 := by decide +kernel
theorem gexp_lt : ∀ k, gexp k < 256
  | 0 => by decide
  | k + 1 => xt_lt _ (gexp_lt k)
theorem gexp_255 : gexp 255 = 1 := by decide +kernel
theorem gexp_period (k : Nat) : gexp (k + 255) = gexp k := by
  induction k with
  | zero => exact gexp_255
  | succ k ih => show xt (gexp (k + 255)) = xt (gexp k); rw [ih]
theorem gexp_mod (k : Nat) : gexp (k % 255) = gexp k := by
  have : ∀ q r, gexp (r + 255 * q) = gexp r := fun q r => by
    induction q with
    | zero => rfl
    | succ q ih => rw [show r + 255 * (q + 1) = (r + 255 * q) + 255 by omega, gexp_period, ih]
  have q := this (k / 255) (k % 255)
  rw [Nat.mod_add_div] at q
  exact q.symm
def xtL (x : Nat) : Nat := xt x
/-- The first table behind so many rounds. -/
def expL (i : Nat) : List UInt8 := (List.range 510).map fun j => if j < i ∨ (255 ≤ j ∧ j < 255 + i) then UInt8.ofNat (gexp (j % 255)) else 0
theorem expL_len (i : Nat) : (expL i).length = 510 := by simp [expL]
theorem expL_zero : expL 0 = List.replicate 510 0 := by
  apply List.ext_getElem
  · rw [expL_len, List.length_replicate]
  · intro j h1 h2
    simp only [expL, List.getElem_map, List.getElem_range, List.getElem_replicate]
    rw [if_neg (by omega)]
theorem expL_step (i : Nat) (hi : i < 255) : ((expL i).set i (UInt8.ofNat (gexp i))).set (i + 255) (UInt8.ofNat (gexp i)) = expL (i + 1) := by
  apply List.ext_getElem
  · simp [expL]
  · intro j h1 h2
    have hj : j < 510 := by simpa [expL] using h2
    simp only [expL, List.getElem_set, List.getElem_map, List.getElem_range]
    by_cases e1 : i + 255 = j
    · rw [if_pos e1, if_pos (by omega), show j % 255 = i by omega]
    · rw [if_neg e1]
      by_cases e2 : i = j
      · rw [if_pos e2, if_pos (by omega), show j % 255 = i by omega]
      · rw [if_neg e2]
        by_cases e3 : j < i ∨ (255 ≤ j ∧ j < 255 + i)
        · rw [if_pos e3, if_pos (by omega)]
        · rw [if_neg e3, if_neg (by omega)]
theorem expL_get (j : Nat) (hj : j < 510) : (expL 255)[j]? = some (UInt8.ofNat (gexp j)) := by
  have h : j < (expL 255).length := by rw [expL_len]; exact hj
  rw [List.getElem?_eq_getElem h]
  simp only [expL, List.getElem_map, List.getElem_range]
  rw [if_pos (by omega), gexp_mod]
/-- The second table behind so many rounds. -/
def logL : Nat → List Nat
  | 0 => List.replicate 256 0
  | i + 1 => (logL i).set (gexp i) i
theorem logL_len : ∀ i, (logL i).length = 256
  | 0 => List.length_replicate
  | i + 1 => by simp [logL, logL_len i]
/-- A byte's logarithm. -/
def glog (a : Nat) : Nat := (logL 255).getD a 0
theorem glog_lt : ∀ a, a < 256 → glog a < 255 := by decide +kernel
theorem gexp_glog : ∀ a, a < 256 → a ≠ 0 → gexp (glog a) = a := by decide +kernel
theorem glog_gexp : ∀ k, k < 255 → glog (gexp k) = k := by decide +kernel
theorem gexp_ne (k : Nat) : gexp k ≠ 0 := by
  rw [← gexp_mod]
  have : ∀ k, k < 255 → gexp k ≠ 0 := by decide +kernel
  exact this _ (Nat.mod_lt _ (by decide))
theorem logL_get (a : Nat) (ha : a < 256) : (logL 255)[a]? = some (glog a) := by
  have h : a < (logL 255).length := by rw [logL_len]; exact ha
  rw [List.getElem?_eq_getElem h]
  simp [glog, List.getD_eq_getElem?_getD, h]
/-- What the struct's cells hold. -/
def fc (d st m : Int) (E : List UInt8) (L : List Nat) : Array Value := (([.int .u32 d, .int .i32 st, .int .u32 0, .int .i64 m] : List Value) ++ (bvs E ++ L.map fun n : Nat => Value.int .i64 (n : Int))).toArray
section
variable {d st m : Int} {E : List UInt8} {L : List Nat}
theorem fc_exp (j : Nat) (hj : j < E.length) : (fc d st m E L)[4 + j]? = some (bv E[j]) := by
  simp only [fc, List.getElem?_toArray]
  rw [List.getElem?_append_right (by simp), List.getElem?_append_left (by simp [bvs]; omega)]
  simp [bvs, hj]
theorem fc_log (j : Nat) (hE : E.length = 510) (hj : j < L.length) : (fc d st m E L)[514 + j]? = some (.int .i64 (L[j] : Nat)) := by
  simp only [fc, List.getElem?_toArray]
  rw [List.getElem?_append_right (by simp; omega), List.getElem?_append_right (by simp [bvs]; omega)]
  simp only [List.length_cons, List.length_nil, bvs, List.length_map, hE, List.getElem?_map]
  rw [show 514 + j - (0 + 1 + 1 + 1 + 1) - 510 = j by omega, List.getElem?_eq_getElem hj]
  rfl
theorem fc_setE (j : Nat) (x : UInt8) (hj : j < E.length) : (fc d st m E L).setIfInBounds (4 + j) (bv x) = fc d st m (E.set j x) L := by
  simp only [fc, List.setIfInBounds_toArray]
  rw [List.set_append_right _ _ (by simp), List.set_append_left _ _ (by simp [bvs]; omega)]
  simp [bvs, List.map_set]
theorem fc_setL (j n : Nat) (hE : E.length = 510) (_hj : j < L.length) : (fc d st m E L).setIfInBounds (514 + j) (.int .i64 (n : Int)) = fc d st m E (L.set j n) := by
  simp only [fc, List.setIfInBounds_toArray]
  rw [List.set_append_right _ _ (by simp; omega), List.set_append_right _ _ (by simp [bvs]; omega)]
  simp only [List.length_cons, List.length_nil, bvs, List.length_map, hE]
  rw [show 514 + j - (0 + 1 + 1 + 1 + 1) - 510 = j by omega, List.map_set]
theorem fc_set0 (x : Int) : (fc d st m E L).setIfInBounds 0 (.int .u32 x) = fc x st m E L := by simp [fc]
theorem fc_set1 (x : Int) : (fc d st m E L).setIfInBounds 1 (.int .i32 x) = fc d x m E L := by simp [fc]
theorem fc_set3 (x : Int) : (fc d st m E L).setIfInBounds 3 (.int .i64 x) = fc d st x E L := by simp [fc]
theorem fc_0 : (fc d st m E L)[0]? = some (.int .u32 d) := by simp [fc]
theorem fc_1 : (fc d st m E L)[1]? = some (.int .i32 st) := by simp [fc]
theorem fc_3 : (fc d st m E L)[3]? = some (.int .i64 m) := by simp [fc]
end
theorem bits_xor_i64 (a b : Nat) (ha : a < 2 ^ 63) (hb : b < 2 ^ 63) : bits .xor .i64 (a : Int) (b : Int) = ((a ^^^ b : Nat) : Int) := by
  have e1 : ∀ n : Nat, n < 2 ^ 63 → (BitVec.ofInt 64 (n : Int)).toNat = n := fun n h => by rw [BitVec.toNat_ofInt]; omega
  have hx : a ^^^ b < 2 ^ 63 := Nat.xor_lt_two_pow ha hb
  show IntKind.i64.wrap ((BitVec.ofInt 64 (a : Int) ^^^ BitVec.ofInt 64 (b : Int)).toNat : Nat) = _
  rw [BitVec.toNat_xor, e1 _ ha, e1 _ hb, IntKind.wrap_i64]
  omega
end Go.Proofs.Ytjnfhppjkadlpaa.Gf
