/- Cauchy, plain: inverses of sums of unlike bytes send nothing but nought to nought. Program-free. -/
import Derived.Test.YtjnfhppjkadlpaaMtA
namespace Go.Proofs.Ytjnfhppjkadlpaa.Mt
open Go Go.RowKit Go.Proofs.Ytjnfhppjkadlpaa Go.Proofs.Ytjnfhppjkadlpaa.Sp Go.Proofs.Ytjnfhppjkadlpaa.Gf
theorem xor_ne {a b : UInt8} (h : a ≠ b) : a ^^^ b ≠ 0 := by
  intro e
  apply h
  have := congrArg (· ^^^ b) e
  simpa [UInt8.xor_assoc] using this
theorem gmul_cancel {a b t : UInt8} (ht : t ≠ 0) (h : gmul a t = gmul b t) : a = b := by
  have h1 := gmul_div a ht
  have h2 := gmul_div b ht
  rw [← h1, h, h2]
theorem inv_nz {a : UInt8} (h : a ≠ 0) : ginv a ≠ 0 := (ginv_ginv h).1
/-- 1/(y+x) and 1/(z+x), the difference. -/
theorem inv_diff {y z x : UInt8} (hy : y ^^^ x ≠ 0) (hz : z ^^^ x ≠ 0) : ginv (y ^^^ x) ^^^ ginv (z ^^^ x) = gmul (y ^^^ z) (gmul (ginv (y ^^^ x)) (ginv (z ^^^ x))) := by
  refine gmul_cancel (t := gmul (y ^^^ x) (z ^^^ x)) (gmul_nz hy hz) ?_
  have e1 : gmul (ginv (y ^^^ x)) (gmul (y ^^^ x) (z ^^^ x)) = z ^^^ x := ginv_mul hy _
  have e2 : gmul (ginv (z ^^^ x)) (gmul (y ^^^ x) (z ^^^ x)) = y ^^^ x := by rw [gmul_comm (y ^^^ x)]; exact ginv_mul hz _
  have e3 : gmul (gmul (y ^^^ z) (gmul (ginv (y ^^^ x)) (ginv (z ^^^ x)))) (gmul (y ^^^ x) (z ^^^ x)) = y ^^^ z := by
    rw [← gmul_assoc, ← gmul_assoc (ginv (y ^^^ x)), e2, gmul_comm (ginv (y ^^^ x)), gmul_inv hy, gmul_one]
  rw [gmul_xor_r, e1, e2, e3]
  have : z ^^^ x ^^^ (y ^^^ x) = z ^^^ y ^^^ (x ^^^ x) := by
    simp only [UInt8.xor_assoc]
    rw [xor_left_comm8 x y x]
  rw [this, UInt8.xor_self, UInt8.xor_zero, UInt8.xor_comm]
/-- (y+t)/(y+x) = 1 + (t+x)/(y+x). -/
theorem inv_shift {y t x : UInt8} (hy : y ^^^ x ≠ 0) : gmul (y ^^^ t) (ginv (y ^^^ x)) = 1 ^^^ gmul (t ^^^ x) (ginv (y ^^^ x)) := by
  refine gmul_cancel hy ?_
  rw [← gmul_assoc, gmul_comm (ginv (y ^^^ x)), gmul_inv hy, gmul_one, gmul_xor_r, one_gmul, ← gmul_assoc, gmul_comm (ginv (y ^^^ x)), gmul_inv hy, gmul_one]
  have : y ^^^ x ^^^ (t ^^^ x) = y ^^^ t ^^^ (x ^^^ x) := by
    simp only [UInt8.xor_assoc]
    rw [xor_left_comm8 x t x]
  rw [this, UInt8.xor_self, UInt8.xor_zero]
/-- As many rows as columns. -/
theorem cauchy : ∀ (n : Nat) (x : Nat → UInt8) (v : Nat → UInt8) (ys : List UInt8), ys.Nodup → n ≤ ys.length → (∀ i j, i < n → j < n → x i = x j → i = j) → (∀ y ∈ ys, ∀ i, i < n → y ≠ x i) →
    (∀ y ∈ ys, sm n (fun i => gmul (ginv (y ^^^ x i)) (v i)) = 0) → ∀ i, i < n → v i = 0
  | 0, _, _, _, _, _, _, _, _, i, hi => absurd hi (Nat.not_lt_zero _)
  | n + 1, x, v, [], _, hl, _, _, _, _, _ => by simp at hl
  | n + 1, x, v, y0 :: ys, hnd, hl, hx, hd, hs, i, hi => by
    have hn0 := List.nodup_cons.1 hnd
    have dif : ∀ y ∈ y0 :: ys, ∀ i, i < n + 1 → y ^^^ x i ≠ 0 := fun y hy i hi => xor_ne (hd y hy i hi)
    -- times (y + x n)
    have h1 : ∀ y ∈ y0 :: ys, (sm n fun i => gmul (gmul (x n ^^^ x i) (ginv (y ^^^ x i))) (v i)) = sm (n + 1) v := by
      intro y hy
      have e := congrArg (fun z => gmul z (y ^^^ x n)) (hs y hy)
      rw [show gmul 0 (y ^^^ x n) = 0 from zero_gmul _] at e
      have e2 : gmul (sm (n + 1) fun i => gmul (ginv (y ^^^ x i)) (v i)) (y ^^^ x n) = (sm (n + 1) fun i => v i) ^^^ sm (n + 1) fun i => gmul (gmul (x n ^^^ x i) (ginv (y ^^^ x i))) (v i) := by
        rw [sm_mul_r, ← sm_xor]
        refine sm_congr fun i hi => ?_
        have := inv_shift (t := x n) (dif y hy i hi)
        calc gmul (gmul (ginv (y ^^^ x i)) (v i)) (y ^^^ x n) = gmul (gmul (y ^^^ x n) (ginv (y ^^^ x i))) (v i) := by rw [gmul_comm, gmul_assoc]
          _ = v i ^^^ gmul (gmul (x n ^^^ x i) (ginv (y ^^^ x i))) (v i) := by rw [this, gmul_xor_r, one_gmul]
      have e3 : (sm (n + 1) fun i => gmul (gmul (x n ^^^ x i) (ginv (y ^^^ x i))) (v i)) = sm n fun i => gmul (gmul (x n ^^^ x i) (ginv (y ^^^ x i))) (v i) := by
        show sm n _ ^^^ gmul (gmul (x n ^^^ x n) _) _ = _
        rw [xor_self8, zero_gmul, zero_gmul, UInt8.xor_zero]
      rw [e2, e3] at e
      have := congrArg (· ^^^ (sm n fun i => gmul (gmul (x n ^^^ x i) (ginv (y ^^^ x i))) (v i))) e
      simpa [UInt8.xor_assoc] using this.symm
    -- u i = v i (x n + x i) / (y0 + x i)
    have h2 := cauchy n x (fun i => gmul (gmul (x n ^^^ x i) (ginv (y0 ^^^ x i))) (v i)) ys hn0.2 (by simpa using hl) (fun i j hi hj e => hx i j (by omega) (by omega) e) (fun y hy i hi => hd y (List.mem_cons_of_mem _ hy) i (by omega)) (by
      intro y hy
      have hne : y ^^^ y0 ≠ 0 := xor_ne (fun e => hn0.1 (e ▸ hy))
      have a1 := h1 y (List.mem_cons_of_mem _ hy)
      have a0 := h1 y0 List.mem_cons_self
      have e : gmul (sm n fun i => gmul (ginv (y ^^^ x i)) (gmul (gmul (x n ^^^ x i) (ginv (y0 ^^^ x i))) (v i))) (y ^^^ y0) = 0 := by
        have : gmul (sm n fun i => gmul (ginv (y ^^^ x i)) (gmul (gmul (x n ^^^ x i) (ginv (y0 ^^^ x i))) (v i))) (y ^^^ y0) = (sm n fun i => gmul (gmul (x n ^^^ x i) (ginv (y ^^^ x i))) (v i)) ^^^ sm n fun i => gmul (gmul (x n ^^^ x i) (ginv (y0 ^^^ x i))) (v i) := by
          rw [sm_mul_r, ← sm_xor]
          refine sm_congr fun i hi => ?_
          have hy' := dif y (List.mem_cons_of_mem _ hy) i (by omega)
          have hy0 := dif y0 List.mem_cons_self i (by omega)
          have k := inv_diff hy' hy0
          rw [← gmul_xor_r, ← gmul_xor, k]
          simp only [gmul_assoc]
          rw [gmul_comm]
          simp only [gmul_assoc]
          congr 2
          rw [gmul_comm (gmul (y ^^^ y0) (ginv (y ^^^ x i))), gmul_assoc]
        rw [this, a1, a0, xor_self8]
      exact gmul_zero_iff e hne)
    -- all but the last
    have h3 : ∀ i, i < n → v i = 0 := by
      intro i hi
      have e := h2 i hi
      have hne : gmul (x n ^^^ x i) (ginv (y0 ^^^ x i)) ≠ 0 := gmul_nz (xor_ne (fun q => by have := hx n i (by omega) (by omega) q; omega)) (inv_nz (dif y0 List.mem_cons_self i (by omega)))
      rw [gmul_comm] at e
      exact gmul_zero_iff e hne
    by_cases hin : i < n
    · exact h3 i hin
    · obtain rfl : i = n := by omega
      have e := hs y0 List.mem_cons_self
      have e2 : (sm (i + 1) fun k => gmul (ginv (y0 ^^^ x k)) (v k)) = gmul (ginv (y0 ^^^ x i)) (v i) := by
        show sm i _ ^^^ _ = _
        rw [show (sm i fun k => gmul (ginv (y0 ^^^ x k)) (v k)) = 0 from (sm_congr fun k hk => by rw [h3 k hk, gmul_zero]).trans (sm_zero i), UInt8.zero_xor]
      rw [e2, gmul_comm] at e
      exact gmul_zero_iff e (inv_nz (dif y0 List.mem_cons_self i (by omega)))
/-- The square one. -/
def cau (x y : Nat → UInt8) : Mx := fun i j => ginv (y i ^^^ x j)
theorem cau_inj {n : Nat} {x y : Nat → UInt8} (hx : ∀ i j, i < n → j < n → x i = x j → i = j) (hy : ∀ i j, i < n → j < n → y i = y j → i = j) (hd : ∀ i j, i < n → j < n → y i ≠ x j) : Inj n (cau x y) := by
  intro v hv i hi
  refine cauchy n x v ((List.range n).map y) ?_ (by simp) hx ?_ ?_ i hi
  · refine List.pairwise_map.2 (List.pairwise_iff_getElem.2 fun a b ha hb hab e => ?_)
    have ha' : a < n := by simpa using ha
    have hb' : b < n := by simpa using hb
    simp only [List.getElem_range] at e
    have := hy a b ha' hb' e
    omega
  · intro z hz j hj
    obtain ⟨k, hk, rfl⟩ := List.mem_map.1 hz
    exact hd k j (List.mem_range.1 hk) hj
  · intro z hz
    obtain ⟨k, hk, rfl⟩ := List.mem_map.1 hz
    exact hv k (List.mem_range.1 hk)
end Go.Proofs.Ytjnfhppjkadlpaa.Mt
