/- The document's field, walked. -/
import Derived.Test.YtjnfhppjkadlpaaGfB
namespace Go.Proofs.Ytjnfhppjkadlpaa.Gf
open Go Go.RowKit Go.Proofs.Ytjnfhppjkadlpaa Go.Proofs.Ytjnfhppjkadlpaa.Sp Go.Proofs.Ytjnfhppjkadlpaa.Reg
theorem rm_lt (a b : UInt8) (i : Nat) : rm a b i < 256 := UInt8.toNat_lt _
theorem bit_and (b : UInt8) (k : Nat) : bits .and .u8 ((b.toNat : Int) / 2 ^ k) 1 = ((b.toNat / 2 ^ k % 2 : Nat) : Int) := by
  have hb : b.toNat < 256 := b.toNat_lt
  have e : ((b.toNat : Int) / 2 ^ k) = ((b.toNat / 2 ^ k : Nat) : Int) := by push_cast; rfl
  rw [e]
  have hz : b.toNat / 2 ^ k < 256 := Nat.lt_of_le_of_lt (Nat.div_le_self _ _) hb
  generalize b.toNat / 2 ^ k = z at hz
  have e1 : (BitVec.ofInt 8 (z : Int)).toNat = z := by rw [BitVec.toNat_ofInt]; omega
  have h1 : (BitVec.ofInt 8 1).toNat = 2 ^ 1 - 1 := by decide
  show IntKind.u8.wrap ((BitVec.ofInt 8 (z : Int) &&& BitVec.ofInt 8 1).toNat : Nat) = _
  rw [BitVec.toNat_and, e1, h1, Nat.and_two_pow_sub_one_eq_mod, IntKind.wrap_u8]
  omega
theorem bit_true {b : UInt8} {k : Nat} (h : (bits .and .u8 ((b.toNat : Int) / 2 ^ k) 1 == 1) = true) : b.toNat / 2 ^ k % 2 = 1 := by
  rw [bit_and, beq_iff_eq] at h; omega
theorem bit_false {b : UInt8} {k : Nat} (h : (bits .and .u8 ((b.toNat : Int) / 2 ^ k) 1 == 1) = false) : ¬ b.toNat / 2 ^ k % 2 = 1 := by
  rw [bit_and, beq_eq_false_iff_ne] at h; omega
theorem xt_hi {x : Nat} (h : x < 256) (h2 : 255 < (x : Int) * 2) : bits .xor .i64 ((x : Int) * 2) 285 = (xt x : Nat) := by
  rw [show (x : Int) * 2 = ((2 * x : Nat) : Int) by omega, show (285 : Int) = ((285 : Nat) : Int) from rfl, bits_xor_i64 _ _ (by omega) (by decide)]
  unfold xt
  rw [if_pos (by omega)]
theorem xt_lo {x : Nat} (h2 : (x : Int) * 2 ≤ 255) : (x : Int) * 2 = (xt x : Nat) := by
  unfold xt
  rw [if_neg (by omega)]; omega
theorem xtn_s (k x : Nat) : xt (xtn k x) = xtn (k + 1) x := rfl
theorem rm_on {a b : UInt8} {k : Nat} (hk : k < 8) (h : (bits .and .u8 ((b.toNat : Int) / 2 ^ k) 1 == 1) = true) : bits .xor .i64 (rm a b k : Nat) (xtn k a.toNat : Nat) = (rm a b (k + 1) : Nat) := by
  have h1 := rm_lt a b k
  have h2 := xtn_lt k a.toNat a.toNat_lt
  rw [rm_succ a b hk, if_pos (bit_true h), bits_xor_i64 _ _ (by omega) (by omega)]
theorem rm_off {a b : UInt8} {k : Nat} (hk : k < 8) (h : (bits .and .u8 ((b.toNat : Int) / 2 ^ k) 1 == 1) = false) : rm a b k = rm a b (k + 1) := by
  rw [rm_succ a b hk, if_neg (bit_false h)]
theorem x_hi {x : Nat} (k : Nat) (h : xtn k x < 256) (h2 : 255 < (xtn k x : Int) * 2) : bits .xor .i64 ((xtn k x : Int) * 2) 285 = (xtn (k + 1) x : Nat) := xt_hi h h2
theorem x_lo {x : Nat} (k : Nat) (h2 : (xtn k x : Int) * 2 ≤ 255) : (xtn k x : Int) * 2 = (xtn (k + 1) x : Nat) := xt_lo h2
theorem vi64 {a b : Int} (h : a = b) : Value.int .i64 a = .int .i64 b := by rw [h]
set_option maxHeartbeats 1000000 in
theorem rmul_calls (a b : UInt8) (w : World) : Calls Try.prog 58 #[bv a, bv b] w fun e w' => e = .returned (bv (gmul a b)) ∧ w = w' := by
  have ha := a.toNat_lt
  have hb := b.toNat_lt
  go_enter Try.func58, Try.ntmps58
  go_wp2_with fail
  go_loop [5, 6, 7] (fun p x i => ∃ k : Nat, k ≤ 8 ∧ i = .int .i64 k ∧ p = .int .i64 (rm a b k : Nat) ∧ x = .int .i64 (xtn k a.toNat : Nat)) (fun _ _ i => 8 - (intOf i).toNat)
  case atStart =>
    refine ⟨0, by omega, rfl, ?_, rfl⟩
    rw [rm_zero]; rfl
  case round =>
    obtain ⟨k, hk, rfl, rfl, rfl⟩ := hrel
    have h1 := rm_lt a b k
    have h2 := xtn_lt k a.toNat ha
    by_cases hlt : k < 8
    · skip
      go_wp2_with fail
      all_goals rename_i hbit hov
      all_goals refine ⟨⟨k + 1, by omega, by go_num, ?_, ?_⟩, by simp [intOf]; omega⟩
      all_goals first
        | with_reducible exact vi64 (rm_on hlt hbit)
        | with_reducible exact vi64 (congrArg Nat.cast (rm_off hlt hbit))
        | with_reducible exact vi64 (x_hi k h2 hov)
        | with_reducible exact vi64 (x_lo k hov)
    · obtain rfl : k = 8 := by omega
      have h8 := Lib.hid (rm_8 a b)
      go_wp2_with fail
      go_ret
      refine ⟨?_, rfl⟩
      show Ending.returned (.int .u8 _) = Ending.returned (.int .u8 _)
      rw [h8.out]
set_option maxHeartbeats 1000000 in
theorem rinv_calls (a : UInt8) (w : World) : Calls Try.prog 57 #[bv a] w fun e w' => e = .returned (bv (ginv a)) ∧ w = w' := by
  go_enter Try.func57, Try.ntmps57
  go_wp2_with fail
  go_loop [0, 3, 4] (fun x p n => ∃ (k : Nat) (y q : UInt8), k ≤ 254 ∧ x = bv y ∧ p = bv q ∧ n = .int .i64 (k : Int) ∧ gmul q (gp y k) = ginv a) (fun _ _ n => (intOf n).toNat)
  case atStart => exact ⟨254, a, 1, by omega, rfl, rfl, rfl, by rw [one_gmul, gp_254]⟩
  case round =>
    obtain ⟨k, y, q, hk, rfl, rfl, rfl, hg⟩ := hrel
    have HG := Lib.hid hg
    clear hg
    by_cases hlt : 0 < k
    · by_cases hodd : (k : Int) % 2 = 1
      · have ho : ((k : Int) % 2 == 1) = true := by simpa using hodd
        have HO := Lib.hid hodd
        clear hodd
        go_wp2_with fail
        refine (rmul_calls q y _).mono ?_
        rintro e w1 ⟨rfl, rfl⟩
        go_wp2_with fail
        refine (rmul_calls y y _).mono ?_
        rintro e w1 ⟨rfl, rfl⟩
        go_wp2_with fail
        go_round
        case rel =>
          refine ⟨k / 2, gmul y y, gmul q y, by omega, rfl, rfl, by go_num, ?_⟩
          have h := HG.out
          have ho := HO.out
          rw [gp_sq, ← gmul_assoc, ← h]
          congr 1
          rw [show gp y k = gp y (1 + 2 * (k / 2)) by congr 1; omega, gp_add]
          show _ = gmul (gmul 1 y) _
          rw [one_gmul]
        case measure => simp [intOf]; omega
      · have ho : ((k : Int) % 2 == 1) = false := by simpa using hodd
        have HO := Lib.hid hodd
        clear hodd
        go_wp2_with fail
        refine (rmul_calls y y _).mono ?_
        rintro e w1 ⟨rfl, rfl⟩
        go_wp2_with fail
        go_round
        case rel =>
          refine ⟨k / 2, gmul y y, q, by omega, rfl, rfl, by go_num, ?_⟩
          have h := HG.out
          have ho := HO.out
          rw [gp_sq, ← h]
          congr 2
          omega
        case measure => simp [intOf]; omega
    · obtain rfl : k = 0 := by omega
      have HQ := Lib.hid (show q = ginv a by rw [← HG.out]; exact (gmul_one q).symm)
      clear HG
      go_wp2_with fail
      go_ret
      exact ⟨by rw [HQ.out]; rfl, rfl⟩
end Go.Proofs.Ytjnfhppjkadlpaa.Gf
