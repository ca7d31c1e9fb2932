/- The law CrcBits, walked. -/
import Derived.Test.YtgpeckaimkbmoaaCrcW
namespace Go.Proofs.Ytgpeckaimkbmoaa.CrcL3
open Go Go.RowKit Go.Proofs.Ytgpeckaimkbmoaa Go.Proofs.Ytgpeckaimkbmoaa.Sp Go.Proofs.Ytgpeckaimkbmoaa.CrcM Go.Proofs.Ytgpeckaimkbmoaa.Reg Go.Proofs.Ytgpeckaimkbmoaa.CrcW

set_option maxHeartbeats 800000 in
set_option maxRecDepth 100000 in
theorem walkRow (a : Option Addr) (c : Nat) (bs : List UInt8) (i0 k0 : Int) (w : World) (h : BS w (.slice a bs.length c) bs) (_y : bs.length * 1 ≤ 140737488351232) (_wi : (Lit.int .i64 i0).wf = true) (_wk : (Lit.int .i64 k0).wf = true) :
    Calls Try.prog 5 #[.slice a bs.length c, .int .i64 i0, .int .i64 k0] w fun e w' => e = .returned (.bool true) ∧ Below w.heap.size w w' := by
  have HB := Lib.hid h
  clear h
  by_cases hlen : bs.length = 0 ∨ 80 < bs.length
  · rcases hlen with h0 | h80
    · have hz : ((bs.length : Int) == 0) = true := by rw [h0]; rfl
      go_enter Try.func5, Try.ntmps5
      go_wp2_with fail
      refine (awake_calls _).mono ?_
      rintro e w1 ⟨rfl, h1⟩
      go_wp2_with fail
      go_ret
      exact ⟨rfl, h1⟩
    · have hz : ((bs.length : Int) == 0) = false := by rw [beq_eq_false_iff_ne]; omega
      go_enter Try.func5, Try.ntmps5
      go_wp2_with fail
      refine (awake_calls _).mono ?_
      rintro e w1 ⟨rfl, h1⟩
      go_wp2_with fail
      go_ret
      exact ⟨rfl, h1⟩
  · have hz : ((bs.length : Int) == 0) = false := by rw [beq_eq_false_iff_ne]; omega
    have hpos : 0 < bs.length := by omega
    have h80 : bs.length ≤ 80 := by omega
    clear hlen
    have m16 := and_m16 i0
    have m16' := and_m16 k0
    have mod : ∀ x : Int, ∃ i : Nat, x % 65536 % (8 * (bs.length : Int)) = (i : Int) ∧ i < 8 * bs.length := by
      intro x
      have h1 := Int.emod_nonneg (x % 65536) (show (8 * (bs.length : Int)) ≠ 0 by omega)
      have h2 := Int.emod_lt_of_pos (x % 65536) (show (0 : Int) < 8 * (bs.length : Int) by omega)
      exact ⟨(x % 65536 % (8 * bs.length)).toNat, by omega, by omega⟩
    obtain ⟨i, hi, hil⟩ := mod i0
    obtain ⟨k, hk, hkl⟩ := mod k0
    clear mod
    go_enter Try.func5, Try.ntmps5
    go_wp2_with fail
    go_region
    simp only [hi, hk]
    clear m16 m16' hi hk
    have s0 := Lib.hid ((St.init w).drew.alloc (.cells #[] 5))
    go_wp2_with (at_builtin; go_must (refine wpl_append rfl _ _ rfl tB (s0.out.rowMk (n := 0) (cap := 0) (xs := []) (Nat.le_refl _) (Nat.zero_le _) rfl rfl) a bs.length c (bvs bs) rfl rfl (HB.out.st rfl s0.out).rd.2.2.2.2 HB.out.rd.2.2.2.1 (by simp) (bvs_one _) (by unfold maxLen; omega) (by omega) ?_); intro v2 w2 s2 hv2; have S2 := Lib.hid s2; have V2 := Lib.hid hv2; clear s2 hv2 s0)
    obtain ⟨_, g, cap, rfl, hcap, _, hg, hcell, hfree, hbs, hset⟩ := S2.out.rowB (l := bs) (fun e => by have := (V2.out.1 e).2; omega)
    clear S2 V2
    have hi8 : i / 8 < bs.length := by omega
    have hc1 := hcell (i / 8) hi8
    have hf1 := hfree (i / 8)
    clear hcell hfree
    go_region
    have hx : (Value.int .u8 (bits .xor .u8 (bs[i / 8].toNat : Int) (2 ^ (i % 8) % 256))) = bv (bs[i / 8] ^^^ UInt8.ofNat (2 ^ (i % 8))) := congrArg (Value.int .u8) (bit_int _ i)
    rw [hx]
    have s3 := (hset (i / 8) (bs[i / 8] ^^^ UInt8.ofNat (2 ^ (i % 8))) hi8).drew
    clear hx hset hc1 hf1 hbs
    generalize (w2.setCell ⟨g, i / 8, none⟩ (bv (bs[i / 8] ^^^ UInt8.ofNat (2 ^ (i % 8))))).drew = w3 at s3 ⊢
    rw [set_turn _ _ hi8] at s3
    have hone : (xorL bs (bitAt bs.length i)).length = bs.length := by simp [xorL, bitAt]
    generalize hO : xorL bs (bitAt bs.length i) = one at s3 hone
    have HO := Lib.hid hO
    clear hO
    have hkl' : k / 8 < one.length := by omega
    have s4 := Lib.hid (s3.alloc (.cells #[] 5))
    go_wp2_with (at_builtin; go_must (refine wpl_append rfl _ _ rfl tB (s4.out.rowMk (n := 0) (cap := 0) (xs := []) (Nat.le_refl _) (Nat.zero_le _) rfl rfl) (some ⟨g, 0, none⟩) bs.length cap (bvs one) rfl rfl s4.out.right.rowRd (fun e => by cases e) (by simp [hone]) (bvs_one _) (by unfold maxLen; omega) (by omega) ?_); intro v5 w5 s5 hv5; have S5 := Lib.hid s5; have V5 := Lib.hid hv5; clear s5 hv5 s4)
    obtain ⟨_, g2, cap2, rfl, hcap2, _, hg2, hcell, hfree, hbs, hset⟩ := S5.out.rowB (l := one) (fun e => by have := (V5.out.1 e).2; omega)
    clear V5
    have hc1 := hcell (k / 8) hkl'
    have hf1 := hfree (k / 8)
    rw [hone] at hset ⊢
    clear hcell hfree hcap2
    go_region
    have hx : (Value.int .u8 (bits .xor .u8 (one[k / 8].toNat : Int) (2 ^ (k % 8) % 256))) = bv (one[k / 8] ^^^ UInt8.ofNat (2 ^ (k % 8))) := congrArg (Value.int .u8) (bit_int _ k)
    rw [hx]
    have s6 := (hset (k / 8) (one[k / 8] ^^^ UInt8.ofNat (2 ^ (k % 8))) (by omega)).drew
    clear hx hset hc1 hf1 hbs S5
    generalize (w5.setCell ⟨g2, k / 8, none⟩ (bv (one[k / 8] ^^^ UInt8.ofNat (2 ^ (k % 8))))).drew = w6 at s6 ⊢
    rw [set_turn _ _ (by omega)] at s6
    have htwo : (xorL one (bitAt one.length k)).length = bs.length := by simp [xorL, bitAt, hone]
    have h1 := turn_one bs i hil
    have h2 := turn_two bs i k h80 hil hkl
    rw [HO.out] at h1 h2
    rw [hone] at s6 htwo
    generalize hT : xorL one (bitAt bs.length k) = two at s6 htwo h2
    clear hT HO
    have hb0 := HB.out.st rfl s6
    have hb1 : BS w6 (.slice (some ⟨g, 0, none⟩) bs.length cap) one := s6.right.bs
    have hb2 : BS w6 (.slice (some ⟨g2, 0, none⟩) bs.length cap2) two := s6.bs
    have hw6 : Add w w6 := s6.below
    have HH := Lib.hid (And.intro hb0 (And.intro hb1 (And.intro hb2 hw6)))
    have hneq : (((sum one).toNat : Int) != ((sum bs).toNat : Int)) = true := by
      rw [bne_iff_ne]
      intro e
      exact h1 (BitVec.eq_of_toNat_eq (Int.ofNat.inj e))
    have heq : (((sum two).toNat : Int) == ((sum bs).toNat : Int)) = decide (i = k) := by
      rw [Bool.eq_iff_iff, beq_iff_eq, decide_eq_true_eq, ← h2]
      exact ⟨fun e => BitVec.eq_of_toNat_eq (Int.ofNat.inj e), fun e => by rw [e]⟩
    have hik : ((i : Int) == (k : Int)) = decide (i = k) := by
      rw [Bool.eq_iff_iff, beq_iff_eq, decide_eq_true_eq]; omega
    clear hb0 hb1 hb2 hw6 h1 h2 s6 hone htwo s3
    go_wp2_with fail
    refine (sum_callsB HH.out.1).mono ?_
    rintro e w7 ⟨rfl, h7⟩
    have H7 := Lib.hid h7
    clear h7
    go_wp2_with fail
    refine (sum_callsB (HH.out.2.1.below H7.out)).mono ?_
    rintro e w8 ⟨rfl, h8⟩
    have H8 := Lib.hid (H7.out.trans h8)
    clear h8 H7
    go_wp2_with fail
    refine (sum_callsB (HH.out.2.2.1.below H8.out)).mono ?_
    rintro e w9 ⟨rfl, h9⟩
    have H9 := Lib.hid (H8.out.trans h9)
    clear h9 H8
    go_wp2_with fail
    refine (awake_calls _).mono ?_
    rintro e w10 ⟨rfl, h10⟩
    have H10 := Lib.hid ((HH.out.2.2.2.trans H9.out).trans h10)
    clear h10 H9
    go_wp2_with fail
    go_ret
    exact ⟨rfl, H10.out⟩
end Go.Proofs.Ytgpeckaimkbmoaa.CrcL3
