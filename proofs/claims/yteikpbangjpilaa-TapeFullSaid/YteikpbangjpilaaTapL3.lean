/- TapeFull, walked. -/
import Derived.Test.YteikpbangjpilaaTapL1
namespace Go.Proofs.Yteikpbangjpilaa.TapL
open Go Go.RowKit Go.Proofs.Yteikpbangjpilaa Go.Proofs.Yteikpbangjpilaa.Sp Go.Proofs.Yteikpbangjpilaa.Reg Go.Proofs.Yteikpbangjpilaa.SlW Go.Proofs.Yteikpbangjpilaa.Fus Go.Proofs.Yteikpbangjpilaa.TapW

set_option maxRecDepth 100000 in
set_option maxHeartbeats 4000000 in
theorem full_walk (n : Int) (w : World) (_wn : (Lit.int .i64 n).wf = true) :
    Calls Try.prog 5 #[.int .i64 n] w fun e w' => e = .returned (.bool true) ∧ Below w.heap.size w w' := by
  have k1 := and_m4 n
  obtain ⟨x, hx, hx2⟩ : ∃ x : Nat, n % 16 = (x : Int) ∧ x < 16 := ⟨(n % 16).toNat, by omega, by omega⟩
  rw [hx] at k1
  obtain ⟨N, hN, hN1, hN2⟩ : ∃ N : Nat, (x : Int) + 65530 = (N : Int) ∧ 65530 ≤ N ∧ N ≤ 65545 := ⟨x + 65530, by omega, by omega, by omega⟩
  have Hx := Lib.hid hx
  clear hx
  by_cases hle : N ≤ 65536
  · have hd : decide ((N : Int) ≤ 65536) = true := by simp; omega
    obtain ⟨k, hk, hk2⟩ : ∃ k : Nat, (65536 : Int) - N = (k : Int) ∧ N + k = 65536 := ⟨65536 - N, by omega, by omega⟩
    go_enter Try.func5, Try.ntmps5
    go_wp2_with fail
    refine (new_calls none _ (St.init w)).mono ?_
    rintro e w1 ⟨p, rfl, s1⟩
    obtain ⟨bk, v, rfl, -, -⟩ := tp_open s1
    have S1 := Lib.hid s1
    clear s1
    go_wp2_with (at_make; go_must (refine wpl_make1 rfl _ _ rfl tB rfl S1.out .i64 .i64 N N (by go_num) (by go_num) (Nat.le_refl _) (by unfold maxLen; omega) (by omega) ?_); intro g0 w0 s0; rw [bvs_zeros] at s0; have S0 := Lib.hid s0; clear s0)
    have s2 := S0.out.eq (Q := tp (.pointer (some ⟨bk, 0, none⟩)) (.pointer none) Tp.new * (row 5 1 (.slice (some ⟨g0, 0, none⟩) N N) N (bvs (List.replicate N 0)) * emp)) (by ac_rfl)
    have hzl : (List.replicate N (0 : UInt8)).length = N := List.length_replicate
    generalize List.replicate N (0 : UInt8) = Z1 at s2 hzl
    have t1 : tApp none Tp.new Z1 = (0, none, ⟨Z1, N, false⟩) := by simp [tApp, Tp.new, fdead, fspend, hzl]; omega
    have T1 := Lib.hid t1
    have hz1 := Lib.hid hzl
    have S2 := Lib.hid s2
    clear s2 hzl t1 S0 S1
    refine (append0 Tp.new Z1 _ (some ⟨g0, 0, none⟩) N N w0 (reads_right _ reads_row) (by omega) S2.out).mono ?_
    rw [T1.out]
    rintro e w1b ⟨rfl, s3⟩
    have s4 : St _ _ _ (tp (.pointer (some ⟨bk, 0, none⟩)) (.pointer none) ⟨Z1, N, false⟩ * emp) := (s3.eq (Q := row 5 1 (.slice (some ⟨g0, 0, none⟩) N N) N (bvs Z1) * (tp (.pointer (some ⟨bk, 0, none⟩)) (.pointer none) ⟨Z1, N, false⟩ * emp)) (by ac_rfl)).right
    obtain ⟨L1, hL1⟩ : ∃ L1, L1 = N := ⟨N, rfl⟩
    rw [show (⟨Z1, N, false⟩ : Tp) = ⟨Z1, L1, false⟩ by rw [hL1]] at s4
    have S4 := Lib.hid s4
    clear s3 s4 S2 T1 hL1
    go_wp2_with (at_make; go_must (refine wpl_make1 rfl _ _ rfl tB rfl S4.out .i64 .i64 k k (by go_num) (by go_num) (Nat.le_refl _) (by unfold maxLen; omega) (by omega) ?_); intro g0 w0 s0; rw [bvs_zeros] at s0; have S0 := Lib.hid s0; clear s0)
    have hzl : (List.replicate k (0 : UInt8)).length = k := List.length_replicate
    have s1 := S0.out.eq (Q := tp (.pointer (some ⟨bk, 0, none⟩)) (.pointer none) ⟨Z1, L1, false⟩ * (row 5 1 (.slice (some ⟨g0, 0, none⟩) k k) k (bvs (List.replicate k 0)) * emp)) (by ac_rfl)
    generalize List.replicate k (0 : UInt8) = Y at s1 hzl
    have t2 : tApp none ⟨Z1, L1, false⟩ Y = (0, none, ⟨Z1 ++ Y, L1 + Y.length, false⟩) := by simp [tApp, fdead, fspend, hz1.out, hzl] <;> omega
    have hz2 : (Z1 ++ Y).length = 65536 := by rw [List.length_append, hz1.out, hzl] <;> omega
    generalize L1 + Y.length = L2 at t2
    generalize Z1 ++ Y = Z2 at t2 hz2
    have T2 := Lib.hid t2
    have HZ2 := Lib.hid hz2
    have S1 := Lib.hid s1
    clear t2 hz2 hzl s1 S4 S0
    refine (append0 ⟨Z1, L1, false⟩ Y _ (some ⟨g0, 0, none⟩) k k w0 (reads_right _ reads_row) (by omega) S1.out).mono ?_
    rw [T2.out]
    rintro e w2 ⟨rfl, s2⟩
    have S2 := Lib.hid s2
    clear s2
    clear S1 T2
    go_wp2_with fail
    have t3 : tApp none ⟨Z2, L2, false⟩ [1] = (7, none, ⟨Z2, L2, false⟩) := by simp [tApp, HZ2.out]
    have T3 := Lib.hid t3
    clear t3
    refine (append0 ⟨Z2, L2, false⟩ [1] _ (some ⟨w2.heap.size, 0, none⟩) 1 1 _ (reads_left _ (reads_lit rfl rfl (by simp [maxLen]))) (by omega) (R := (row 5 1 (.slice (some ⟨g0, 0, none⟩) k k) k (bvs Y) * emp) * pts w2.heap.size (.cells #[.int .u8 1] 5)) ((S2.out.alloc (.cells #[.int .u8 1] 5)).eq (by ac_rfl))).mono ?_
    rw [T3.out]
    rintro e w3 ⟨rfl, s3⟩
    have S3 := Lib.hid s3
    clear s3
    clear S2 T3
    go_wp2_with fail
    refine (bytes_calls _ _ _ w3 S3.out).mono ?_
    rintro e w4 ⟨a4, c4, he, s4⟩
    have he : e = .returned (.tuple #[.slice a4 Z2.length c4, .int .i64 0]) := he
    rw [HZ2.out] at he
    subst he
    have s5 := s4.right
    have S5 := Lib.hid s5
    clear s5
    clear s4 S3
    go_wp2_with fail
    have t4 : tCut none ⟨Z2, L2, false⟩ 65537 = (1, none, ⟨Z2, L2, false⟩) := by simp [tCut, HZ2.out]
    have T4 := Lib.hid t4
    clear t4
    refine (cut0 ⟨Z2, L2, false⟩ 65537 _ w4 S5.out).mono ?_
    rw [T4.out]
    rintro e w5 ⟨rfl, s6⟩
    have S6 := Lib.hid s6
    clear s6
    clear S5 T4
    go_wp2_with fail
    have t5 : tCut none ⟨Z2, L2, false⟩ 5 = (0, none, ⟨Z2.take 5, 0, false⟩) := by simp [tCut, HZ2.out, fdead, fspend]
    have T5 := Lib.hid t5
    clear t5
    refine (cut0 ⟨Z2, L2, false⟩ 5 _ w5 S6.out).mono ?_
    rw [T5.out]
    rintro e w6 ⟨rfl, s7⟩
    have HA := Lib.hid s7.below
    clear S6 T5 s7
    go_wp2_with fail
    refine (awake_calls _).mono ?_
    rintro e w7 ⟨rfl, h7⟩
    have HB := Lib.hid (HA.out.trans (h7.mono HA.out.size))
    clear h7 HA
    go_wp2_with fail
    go_ret
    exact ⟨rfl, HB.out⟩
  · have hd : decide ((N : Int) ≤ 65536) = false := by simp; omega
    have hlt : (65536 : Int) < N := by omega
    go_enter Try.func5, Try.ntmps5
    go_wp2_with fail
    refine (new_calls none _ (St.init w)).mono ?_
    rintro e w1 ⟨p, rfl, s1⟩
    obtain ⟨bk, v, rfl, -, -⟩ := tp_open s1
    have S1 := Lib.hid s1
    clear s1
    go_wp2_with (at_make; go_must (refine wpl_make1 rfl _ _ rfl tB rfl S1.out .i64 .i64 N N (by go_num) (by go_num) (Nat.le_refl _) (by unfold maxLen; omega) (by omega) ?_); intro g0 w0 s0; rw [bvs_zeros] at s0; have S0 := Lib.hid s0; clear s0)
    have s2 := S0.out.eq (Q := tp (.pointer (some ⟨bk, 0, none⟩)) (.pointer none) Tp.new * (row 5 1 (.slice (some ⟨g0, 0, none⟩) N N) N (bvs (List.replicate N 0)) * emp)) (by ac_rfl)
    have hzl : (List.replicate N (0 : UInt8)).length = N := List.length_replicate
    generalize List.replicate N (0 : UInt8) = Z1 at s2 hzl
    have t1 : tApp none Tp.new Z1 = (7, none, Tp.new) := by simp [tApp, Tp.new, fdead, fspend, hzl]; omega
    have T1 := Lib.hid t1
    have S2 := Lib.hid s2
    clear s2 hzl t1 S0 S1
    refine (append0 Tp.new Z1 _ (some ⟨g0, 0, none⟩) N N w0 (reads_right _ reads_row) (by omega) S2.out).mono ?_
    rw [T1.out]
    rintro e w1b ⟨rfl, s3⟩
    have s4 : St _ _ _ (tp (.pointer (some ⟨bk, 0, none⟩)) (.pointer none) Tp.new * emp) := (s3.eq (Q := row 5 1 (.slice (some ⟨g0, 0, none⟩) N N) N (bvs Z1) * (tp (.pointer (some ⟨bk, 0, none⟩)) (.pointer none) Tp.new * emp)) (by ac_rfl)).right
    clear Z1 T1 S2 s3
    obtain ⟨Z1, L1, hT, hZ⟩ : ∃ Z1 L1, Tp.new = ⟨Z1, L1, false⟩ ∧ Z1.length = 0 := ⟨[], 0, rfl, rfl⟩
    rw [hT] at s4
    have hz1 := Lib.hid hZ
    have S4 := Lib.hid s4
    clear s4 hT hZ
    go_wp2_with (at_make; go_must (refine wpl_make1 rfl _ _ rfl tB rfl S4.out .i64 .i64 65536 65536 rfl rfl (Nat.le_refl _) (by unfold maxLen; omega) (by omega) ?_); intro g0 w0 s0; rw [bvs_zeros] at s0; have S0 := Lib.hid s0; clear s0)
    have hzl : (List.replicate 65536 (0 : UInt8)).length = 65536 := List.length_replicate
    have s1 := S0.out.eq (Q := tp (.pointer (some ⟨bk, 0, none⟩)) (.pointer none) ⟨Z1, L1, false⟩ * (row 5 1 (.slice (some ⟨g0, 0, none⟩) 65536 65536) 65536 (bvs (List.replicate 65536 0)) * emp)) (by ac_rfl)
    generalize List.replicate 65536 (0 : UInt8) = Y at s1 hzl
    have t2 : tApp none ⟨Z1, L1, false⟩ Y = (0, none, ⟨Z1 ++ Y, L1 + Y.length, false⟩) := by simp [tApp, fdead, fspend, hz1.out, hzl] <;> omega
    have hz2 : (Z1 ++ Y).length = 65536 := by rw [List.length_append, hz1.out, hzl] <;> omega
    generalize L1 + Y.length = L2 at t2
    generalize Z1 ++ Y = Z2 at t2 hz2
    have T2 := Lib.hid t2
    have HZ2 := Lib.hid hz2
    have S1 := Lib.hid s1
    clear t2 hz2 hzl s1 S4 S0
    refine (append0 ⟨Z1, L1, false⟩ Y _ (some ⟨g0, 0, none⟩) 65536 65536 w0 (reads_right _ reads_row) (by omega) S1.out).mono ?_
    rw [T2.out]
    rintro e w2 ⟨rfl, s2⟩
    have S2 := Lib.hid s2
    clear s2
    clear S1 T2
    go_wp2_with fail
    have t3 : tApp none ⟨Z2, L2, false⟩ [1] = (7, none, ⟨Z2, L2, false⟩) := by simp [tApp, HZ2.out]
    have T3 := Lib.hid t3
    clear t3
    refine (append0 ⟨Z2, L2, false⟩ [1] _ (some ⟨w2.heap.size, 0, none⟩) 1 1 _ (reads_left _ (reads_lit rfl rfl (by simp [maxLen]))) (by omega) (R := (row 5 1 (.slice (some ⟨g0, 0, none⟩) 65536 65536) 65536 (bvs Y) * emp) * pts w2.heap.size (.cells #[.int .u8 1] 5)) ((S2.out.alloc (.cells #[.int .u8 1] 5)).eq (by ac_rfl))).mono ?_
    rw [T3.out]
    rintro e w3 ⟨rfl, s3⟩
    have S3 := Lib.hid s3
    clear s3
    clear S2 T3
    go_wp2_with fail
    refine (bytes_calls _ _ _ w3 S3.out).mono ?_
    rintro e w4 ⟨a4, c4, he, s4⟩
    have he : e = .returned (.tuple #[.slice a4 Z2.length c4, .int .i64 0]) := he
    rw [HZ2.out] at he
    subst he
    have s5 := s4.right
    have S5 := Lib.hid s5
    clear s5
    clear s4 S3
    go_wp2_with fail
    have t4 : tCut none ⟨Z2, L2, false⟩ 65537 = (1, none, ⟨Z2, L2, false⟩) := by simp [tCut, HZ2.out]
    have T4 := Lib.hid t4
    clear t4
    refine (cut0 ⟨Z2, L2, false⟩ 65537 _ w4 S5.out).mono ?_
    rw [T4.out]
    rintro e w5 ⟨rfl, s6⟩
    have S6 := Lib.hid s6
    clear s6
    clear S5 T4
    go_wp2_with fail
    have t5 : tCut none ⟨Z2, L2, false⟩ 5 = (0, none, ⟨Z2.take 5, 0, false⟩) := by simp [tCut, HZ2.out, fdead, fspend]
    have T5 := Lib.hid t5
    clear t5
    refine (cut0 ⟨Z2, L2, false⟩ 5 _ w5 S6.out).mono ?_
    rw [T5.out]
    rintro e w6 ⟨rfl, s7⟩
    have HA := Lib.hid s7.below
    clear S6 T5 s7
    go_wp2_with fail
    refine (awake_calls _).mono ?_
    rintro e w7 ⟨rfl, h7⟩
    have HB := Lib.hid (HA.out.trans (h7.mono HA.out.size))
    clear h7 HA
    go_wp2_with fail
    go_ret
    exact ⟨rfl, HB.out⟩
end Go.Proofs.Yteikpbangjpilaa.TapL
