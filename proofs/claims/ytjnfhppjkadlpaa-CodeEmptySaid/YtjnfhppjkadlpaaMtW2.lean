/- mat's Unit and Mul, walked. -/
import Derived.Test.YtjnfhppjkadlpaaMtW
namespace Go.Proofs.Ytjnfhppjkadlpaa.Mt
open Go Go.RowKit Go.Proofs.Ytjnfhppjkadlpaa Go.Proofs.Ytjnfhppjkadlpaa.Sp Go.Proofs.Ytjnfhppjkadlpaa.Reg Go.Proofs.Ytjnfhppjkadlpaa.Rd Go.Proofs.Ytjnfhppjkadlpaa.Gf
section
variable {B : Nat} {w0 : World} {R : HP}
/-- What a place needs, in the walk's words. -/
theorem spot {r c i j : Nat} (li : i < r) (lj : j < c) (hr : r * c ≤ 1000000) : IntKind.i64.wrap ((i : Int) * (c : Int)) = (i : Int) * (c : Int) ∧ IntKind.i64.wrap ((i : Int) * (c : Int) + (j : Int)) = (i : Int) * (c : Int) + (j : Int) ∧
    ((i : Int) * (c : Int) + (j : Int)).toNat = i * c + j ∧ (0 : Int) ≤ (i : Int) * (c : Int) + (j : Int) ∧ (i : Int) * (c : Int) + (j : Int) < (r : Int) * (c : Int) := by
  have hp := at_lt li lj
  obtain ⟨q1, q2, q3, q4⟩ := place (Nat.le_of_lt hp) hr
  refine ⟨q1, q2, q3, q4, ?_⟩
  have e : (i : Int) * (c : Int) = ((i * c : Nat) : Int) := by push_cast; rfl
  have e' : (r : Int) * (c : Int) = ((r * c : Nat) : Int) := by push_cast; rfl
  rw [e, e']
  omega
theorem wrapm {r c m : Nat} (h : r * c ≤ m) (hm : m ≤ 1000000) : IntKind.i64.wrap ((r : Int) * (c : Int)) = (r : Int) * (c : Int) := by
  have e : (r : Int) * (c : Int) = ((r * c : Nat) : Int) := by push_cast; rfl
  rw [e, IntKind.wrap_i64]
  omega
set_option maxHeartbeats 4000000 in
theorem unit_good (fb n : Nat) (hn : 1 ≤ n ∧ n ≤ 32) (w : World) (s : St B w0 w R) :
    Calls Try.prog 89 #[.pointer (some ⟨fb, 0, none⟩), .int .i64 (n : Int)] w fun e w' => ∃ b, e = .returned (.tuple #[.pointer (some ⟨b, 0, none⟩), .int .i64 0]) ∧ St B w0 w' (mt b fb n n unit * R) := by
  have hnn : n * n ≤ 32 * 32 := Nat.mul_le_mul hn.2 hn.2
  have i1 : inB (n : Int) = true := decide_eq_true (by omega)
  have e1 := wrapm hnn (by omega)
  have S := Lib.hid s
  clear s
  go_enter Try.func89, Try.ntmps89
  go_wp2_with fail
  refine (in_calls (n : Int) w).mono ?_
  rw [i1]
  rintro e w' ⟨rfl, rfl⟩
  go_wp2_with (at_make; go_must (refine wpl_make1 rfl _ _ rfl tB rfl S.out .i64 .i64 (n * n) (n * n) (by go_num) (by go_num) (Nat.le_refl _) (by unfold maxLen; omega) (by omega) ?_); intro g w2 s2; rw [bvs_zeros, ← cl_zero, ← pu_zero] at s2; clear S; have S := Lib.hid s2; clear s2)
  have s3 := S.out.alloc (.cells (mc g (n * n) fb n n) 141)
  have s4 : St B w0 _ (mo w2.heap.size g (n * n) fb n n (pu 0) * R) := s3.eq (by unfold mo; ac_rfl)
  clear S s3
  have S := Lib.hid s4
  clear s4
  generalize w2.heap.size = b at *
  go_loopw [25] (fun i wr => ∃ k : Nat, k ≤ n ∧ i = .int .i64 k ∧ St B w0 wr (mo b g (n * n) fb n n (pu k) * R)) (fun i _ => n - (intOf i).toNat)
  case atStart => exact ⟨0, Nat.zero_le _, rfl, S.out⟩
  case round =>
    obtain ⟨k, hk, rfl, s⟩ := hrel
    clear S
    by_cases hlt : k < n
    · obtain ⟨c0, c1, c2, c3⟩ := mo_cells s
      have c4 := mo_at s hlt hlt
      obtain ⟨f4, s4⟩ := mo_set s hlt hlt 1
      rw [pu_step] at s4
      obtain ⟨q1, q2, q3, q4, q5⟩ := spot hlt hlt (show n * n ≤ 1000000 by omega)
      generalize pu k k k = old at c4
      have S := Lib.hid s4
      clear s s4
      go_wp2_with fail
      go_roundw
      case rel => exact ⟨k + 1, by omega, by go_num, S.out⟩
      case measure => simp [intOf]; omega
    · obtain rfl : k = n := by omega
      have S := Lib.hid (mo_congr s (pu_end k))
      clear s
      go_wp2_with fail
      go_ret2
      exact ⟨b, rfl, mt_close S.out⟩
theorem unit_bad (fb : Nat) (n : Int) (hn : ¬ (1 ≤ n ∧ n ≤ 32)) (w : World) (s : St B w0 w R) :
    Calls Try.prog 89 #[.pointer (some ⟨fb, 0, none⟩), .int .i64 n] w (RetG B w0 R (.tuple #[.pointer none, .int .i64 1])) := by
  have i1 : inB n = false := decide_eq_false hn
  clear hn
  have S := Lib.hid s
  clear s
  go_enter Try.func89, Try.ntmps89
  go_wp2_with fail
  refine (in_calls n w).mono ?_
  rw [i1]
  rintro e w' ⟨rfl, rfl⟩
  go_wp2_with fail
  go_ret2
  exact ⟨rfl, S.out⟩
theorem unit_nil (n : Int) (w : World) (s : St B w0 w R) : Calls Try.prog 89 #[.pointer none, .int .i64 n] w (RetG B w0 R (.tuple #[.pointer none, .int .i64 1])) := by
  have S := Lib.hid s
  clear s
  go_enter Try.func89, Try.ntmps89
  go_wp2_with fail
  go_ret2
  exact ⟨rfl, S.out⟩
end
end Go.Proofs.Ytjnfhppjkadlpaa.Mt
