/- Package conv: Narrow and Wide; the law ConvParts and its awake. No condition. -/
import Derived.Test.YtjnfhppjkadlpaaCdB
set_option linter.unusedSimpArgs false
set_option linter.unusedVariables false
namespace Go.Proofs.Ytjnfhppjkadlpaa.Cv
open Go Go.RowKit Go.Proofs.Ytjnfhppjkadlpaa Go.Proofs.Ytjnfhppjkadlpaa.Sp Go.Proofs.Ytjnfhppjkadlpaa.Reg Go.Proofs.Ytjnfhppjkadlpaa.Rd Go.Proofs.Ytjnfhppjkadlpaa.Obr Go.Proofs.Ytjnfhppjkadlpaa.Gf Go.Proofs.Ytjnfhppjkadlpaa.Cd
abbrev nx (t : Nat) : List UInt8 := rg (4 * t) 4
abbrev ny : List UInt8 := rg 14 2
abbrev wx : List UInt8 := rg 0 14
abbrev wy : List UInt8 := rg 14 4
theorem good_n : ∀ t, t < 3 → Cd.Good (nx t) ny := by
  intro t ht
  have : (nx t ++ ny).Nodup := by
    match t, ht with
    | 0, _ => decide
    | 1, _ => decide
    | 2, _ => decide
  exact ⟨by simp [rg], by simp [rg], by simp [rg], by simp [rg], this⟩
theorem good_w : Cd.Good wx wy := ⟨by simp [rg], by simp [rg], by simp [rg], by simp [rg], by decide⟩
section
variable {B : Nat} {w0 : World} {R : HP}
set_option maxRecDepth 100000 in
set_option maxHeartbeats 8000000 in
theorem narrow_calls (fb t : Nat) (ht : t < 3) (w : World) (s : St B w0 w R) :
    Calls Try.prog 13 #[pp fb, .int .i64 (t : Int)] w fun e w' => ∃ p, e = .returned (.tuple #[pp p, .int .i64 0]) ∧ St B w0 w' (cd p fb (nx t) ny * R) := by
  have S := Lib.hid s
  clear s
  have h4 : ((4 * t : Nat) : Int) = 4 * (t : Int) := by omega
  go_enter Try.func13, Try.ntmps13
  go_wp2_with fail
  have c1 := crow_calls (4 * t) 4 (by omega) w S.out
  rw [h4] at c1
  refine c1.mono ?_
  rintro e w1 ⟨v1, rfl, s1⟩
  clear S c1
  have S1 := Lib.hid s1
  clear s1
  go_wp2_with fail
  refine (crow_calls 14 2 (by omega) w1 S1.out).mono ?_
  rintro e w2 ⟨v2, rfl, s2⟩
  clear S1
  obtain ⟨a2, c2, rfl, -⟩ := s2.rowSlice
  obtain ⟨a1, c1, rfl, -⟩ := s2.right.rowSlice
  have S2 := Lib.hid s2
  clear s2
  go_wp2_with fail
  refine (new_good fb a1 a2 c1 c2 (nx t) ny (good_n t ht) w2 (R := row 5 1 (.slice a2 2 c2) 2 (bvs ny) * (row 5 1 (.slice a1 4 c1) 4 (bvs (nx t)) * R)) ?_ ?_ S2.out).mono ?_
  · intro w' H s
    exact (s.eq (Q := row 5 1 (.slice a1 4 c1) 4 (bvs (nx t)) * (H * (row 5 1 (.slice a2 2 c2) 2 (bvs ny) * R))) (by ac_rfl)).bs
  · intro w' H s
    exact (s.eq (Q := row 5 1 (.slice a2 2 c2) 2 (bvs ny) * (H * (row 5 1 (.slice a1 4 c1) 4 (bvs (nx t)) * R))) (by ac_rfl)).bs
  rintro e w3 ⟨p, rfl, s3⟩
  have S3 := Lib.hid (s3.eq (Q := (row 5 1 (.slice a2 2 c2) 2 (bvs ny) * row 5 1 (.slice a1 4 c1) 4 (bvs (nx t))) * (cd p fb (nx t) ny * R)) (by ac_rfl)).right
  clear S2 s3
  go_wp2_with fail
  go_ret2
  exact ⟨p, rfl, S3.out⟩
set_option maxRecDepth 100000 in
set_option maxHeartbeats 8000000 in
theorem narrow_bad (fb : Nat) (t : Int) (ht : t < 0 ∨ 3 ≤ t) (w : World) (s : St B w0 w R) :
    Calls Try.prog 13 #[pp fb, .int .i64 t] w (RetG B w0 R (.tuple #[.pointer none, .int .i64 1])) := by
  have S := Lib.hid s
  clear s
  by_cases h1 : t < 0
  · clear ht
    go_enter Try.func13, Try.ntmps13
    go_wp2_with fail
    go_ret2
    exact ⟨rfl, S.out⟩
  · have h2 : 3 ≤ t := by omega
    clear ht
    go_enter Try.func13, Try.ntmps13
    go_wp2_with fail
    go_ret2
    exact ⟨rfl, S.out⟩
set_option maxRecDepth 100000 in
set_option maxHeartbeats 8000000 in
theorem wide_calls (fb : Nat) (w : World) (s : St B w0 w R) :
    Calls Try.prog 14 #[pp fb] w fun e w' => ∃ p, e = .returned (.tuple #[pp p, .int .i64 0]) ∧ St B w0 w' (cd p fb wx wy * R) := by
  have S := Lib.hid s
  clear s
  go_enter Try.func14, Try.ntmps14
  go_wp2_with fail
  refine (crow_calls 0 14 (by omega) w S.out).mono ?_
  rintro e w1 ⟨v1, rfl, s1⟩
  clear S
  have S1 := Lib.hid s1
  clear s1
  go_wp2_with fail
  refine (crow_calls 14 4 (by omega) w1 S1.out).mono ?_
  rintro e w2 ⟨v2, rfl, s2⟩
  clear S1
  obtain ⟨a2, c2, rfl, -⟩ := s2.rowSlice
  obtain ⟨a1, c1, rfl, -⟩ := s2.right.rowSlice
  have S2 := Lib.hid s2
  clear s2
  go_wp2_with fail
  refine (new_good fb a1 a2 c1 c2 wx wy good_w w2 (R := row 5 1 (.slice a2 4 c2) 4 (bvs wy) * (row 5 1 (.slice a1 14 c1) 14 (bvs wx) * R)) ?_ ?_ S2.out).mono ?_
  · intro w' H s
    exact (s.eq (Q := row 5 1 (.slice a1 14 c1) 14 (bvs wx) * (H * (row 5 1 (.slice a2 4 c2) 4 (bvs wy) * R))) (by ac_rfl)).bs
  · intro w' H s
    exact (s.eq (Q := row 5 1 (.slice a2 4 c2) 4 (bvs wy) * (H * (row 5 1 (.slice a1 14 c1) 14 (bvs wx) * R))) (by ac_rfl)).bs
  rintro e w3 ⟨p, rfl, s3⟩
  have S3 := Lib.hid (s3.eq (Q := (row 5 1 (.slice a2 4 c2) 4 (bvs wy) * row 5 1 (.slice a1 14 c1) 14 (bvs wx)) * (cd p fb wx wy * R)) (by ac_rfl)).right
  clear S2 s3
  go_wp2_with fail
  go_ret2
  exact ⟨p, rfl, S3.out⟩
/-- The two codes beside each other, and their field. -/
theorem size1 {w : World} {p q b : Nat} {x1 y1 x2 y2 : List UInt8} (s : St B w0 w (fx b * (cd p b x1 y1 * (cd q b x2 y2 * R)))) :
    Calls Try.prog 31 #[pp p] w (RetG B w0 (fx b * (cd p b x1 y1 * (cd q b x2 y2 * R))) (.tuple #[.int .i64 x1.length, .int .i64 y1.length])) :=
  (size_calls p b x1 y1 w (s.eq (sep_left_comm _ _ _))).mono fun _ _ h => ⟨h.1, h.2.eq (sep_left_comm _ _ _)⟩
theorem size2 {w : World} {p q b : Nat} {x1 y1 x2 y2 : List UInt8} (s : St B w0 w (fx b * (cd p b x1 y1 * (cd q b x2 y2 * R)))) :
    Calls Try.prog 31 #[pp q] w (RetG B w0 (fx b * (cd p b x1 y1 * (cd q b x2 y2 * R))) (.tuple #[.int .i64 x2.length, .int .i64 y2.length])) :=
  (size_calls q b x2 y2 w (s.eq (Q := cd q b x2 y2 * (fx b * (cd p b x1 y1 * R))) (by ac_rfl))).mono fun _ _ h => ⟨h.1, h.2.eq (by ac_rfl)⟩
theorem coef1 {w : World} {p q b : Nat} {x1 y1 x2 y2 : List UInt8} (k i : Nat) (hk : k < y1.length) (hi : i < x1.length) (s : St B w0 w (fx b * (cd p b x1 y1 * (cd q b x2 y2 * R)))) :
    Calls Try.prog 15 #[pp p, .int .i64 (k : Int), .int .i64 (i : Int)] w (RetG B w0 (fx b * (cd p b x1 y1 * (cd q b x2 y2 * R))) (bv (cf x1 y1 k i))) := coef_in p b x1 y1 k i hk hi w s
theorem coef2 {w : World} {p q b : Nat} {x1 y1 x2 y2 : List UInt8} (k i : Nat) (hk : k < y2.length) (hi : i < x2.length) (s : St B w0 w (fx b * (cd p b x1 y1 * (cd q b x2 y2 * R)))) :
    Calls Try.prog 15 #[pp q, .int .i64 (k : Int), .int .i64 (i : Int)] w (RetG B w0 (fx b * (cd p b x1 y1 * (cd q b x2 y2 * R))) (bv (cf x2 y2 k i))) :=
  (coef_in q b x2 y2 k i hk hi w (s.eq (Q := fx b * (cd q b x2 y2 * (cd p b x1 y1 * R))) (by ac_rfl))).mono fun _ _ h => ⟨h.1, h.2.eq (by ac_rfl)⟩
theorem coef1o {w : World} {p q b : Nat} {x1 y1 x2 y2 : List UInt8} (k i : Int) (h : k < 0 ∨ (y1.length : Int) ≤ k ∨ i < 0 ∨ (x1.length : Int) ≤ i) (s : St B w0 w (fx b * (cd p b x1 y1 * (cd q b x2 y2 * R)))) :
    Calls Try.prog 15 #[pp p, .int .i64 k, .int .i64 i] w (RetG B w0 (fx b * (cd p b x1 y1 * (cd q b x2 y2 * R))) (bv 0)) :=
  (coef_out p b x1 y1 k i h w (s.eq (sep_left_comm _ _ _))).mono fun _ _ h => ⟨h.1, h.2.eq (sep_left_comm _ _ _)⟩
set_option maxRecDepth 100000 in
set_option maxHeartbeats 8000000 in
theorem awake_calls (w : World) (s : St B w0 w R) : Calls Try.prog 16 #[] w (RetG B w0 R (.bool true)) := by
  have S := Lib.hid s
  clear s
  have HC := Lib.hid (show cf (nx 1) ny 0 0 = cf wx wy 0 4 from by decide +kernel)
  go_enter Try.func16, Try.ntmps16
  go_wp2_with fail
  refine (newx w S.out).mono ?_
  rintro e w1 ⟨b, rfl, s1⟩
  clear S
  have S1 := Lib.hid s1
  clear s1
  go_wp2_with fail
  refine (narrow_calls b 1 (by omega) w1 S1.out).mono ?_
  rintro e w2 ⟨p, rfl, s2⟩
  clear S1
  have S2 := Lib.hid s2
  clear s2
  go_wp2_with fail
  refine (wide_calls b w2 S2.out).mono ?_
  rintro e w3 ⟨q, rfl, s3⟩
  clear S2
  have S3 := Lib.hid (s3.eq (Q := fx b * (cd p b (nx 1) ny * (cd q b wx wy * R))) (by ac_rfl))
  clear s3
  go_wp2_with fail
  refine (narrow_bad b 3 (by omega) w3 S3.out).mono ?_
  rintro e w4 ⟨rfl, s4⟩
  clear S3
  have S4 := Lib.hid s4
  clear s4
  go_wp2_with fail
  refine (size1 S4.out).mono ?_
  rintro e w5 ⟨rfl, s5⟩
  clear S4
  have S5 := Lib.hid s5
  clear s5
  rw [rg_len, rg_len]
  go_wp2_with fail
  refine (size2 S5.out).mono ?_
  rintro e w6 ⟨rfl, s6⟩
  clear S5
  have S6 := Lib.hid s6
  clear s6
  rw [rg_len, rg_len]
  go_wp2_with fail
  refine (coef1 0 0 (by simp [rg]) (by simp [rg]) S6.out).mono ?_
  rintro e w7 ⟨rfl, s7⟩
  clear S6
  have S7 := Lib.hid s7
  clear s7
  go_wp2_with fail
  refine (coef2 0 4 (by simp [rg]) (by simp [rg]) S7.out).mono ?_
  rintro e w8 ⟨rfl, s8⟩
  clear S7
  have S8 := Lib.hid s8
  clear s8
  rw [HC.out]
  generalize cf wx wy 0 4 = z at *
  go_wp2_with fail
  go_ret
  exact ⟨rfl, (S8.out.eq (Q := (fx b * (cd p b (nx 1) ny * cd q b wx wy)) * R) (by ac_rfl)).right⟩
theorem parts : ∀ t, t < 3 → ∀ i, i < 4 → ∀ j, j < 2 → ∀ a, a < 14 → (cf wx wy j a = cf (nx t) ny j i ↔ a = 4 * t + i) := by decide +kernel
theorem wide_last : cf wx wy 3 13 ≠ 0 := by decide +kernel
set_option maxRecDepth 100000 in
set_option maxHeartbeats 8000000 in
theorem parts_in (a0 a1 a2 : Int) (t i j : Nat) (ht : t < 3) (hi : i < 4) (hj : j < 2) (e0 : (bits .and .i64 a0 255).tmod 3 = (t : Int)) (e1 : bits .and .i64 a1 3 = (i : Int)) (e2 : bits .and .i64 a2 1 = (j : Int)) (w0 : World) :
    Calls Try.prog 3 #[.int .i64 a0, .int .i64 a1, .int .i64 a2] w0 fun e w' => e = .returned (.bool true) ∧ Below w0.heap.size w0 w' := by
  go_enter Try.func3, Try.ntmps3
  go_wp2_with fail
  refine (newx w0 (St.init w0)).mono ?_
  rintro e w1 ⟨b, rfl, s1⟩
  have S1 := Lib.hid s1
  clear s1
  go_wp2_with fail
  refine (narrow_calls b t ht w1 S1.out).mono ?_
  rintro e w2 ⟨p, rfl, s2⟩
  clear S1
  have S2 := Lib.hid s2
  clear s2
  go_wp2_with fail
  refine (wide_calls b w2 S2.out).mono ?_
  rintro e w3 ⟨q, rfl, s3⟩
  clear S2
  have S3 := Lib.hid (s3.eq (Q := fx b * (cd p b (nx t) ny * (cd q b wx wy * emp))) (by ac_rfl))
  clear s3 e0 e1 e2
  go_wp2_with fail
  go_loopw [12] (fun v wr => ∃ a : Nat, a ≤ 14 ∧ v = .int .i64 (a : Int) ∧ St w0.heap.size w0 wr (fx b * (cd p b (nx t) ny * (cd q b wx wy * emp)))) (fun v _ => 14 - (intOf v).toNat)
  case atStart => exact ⟨0, Nat.zero_le _, rfl, S3.out⟩
  case round =>
    obtain ⟨a, ha, rfl, s4⟩ := hrel
    clear S3
    by_cases hlt : a < 14
    · have hlI : (a : Int) < 14 := by omega
      have HP := Lib.hid (parts t ht i hi j hj a hlt)
      have S4 := Lib.hid s4
      clear s4
      go_wp2_with fail
      refine (coef2 j a (by simp [rg]; omega) (by simp [rg]; omega) S4.out).mono ?_
      rintro e w5 ⟨rfl, s5⟩
      clear S4
      have S5 := Lib.hid s5
      clear s5
      go_wp2_with fail
      refine (coef1 j i (by simp [rg]; omega) (by simp [rg]; omega) S5.out).mono ?_
      rintro e w6 ⟨rfl, s6⟩
      clear S5
      have S6 := Lib.hid s6
      clear s6
      generalize cf wx wy j a = x at *
      generalize cf (nx t) ny j i = y at *
      by_cases hq : a = 4 * t + i
      · have hxy := HP.out.2 hq
        subst hxy
        have hqI : (a : Int) = 4 * (t : Int) + (i : Int) := by omega
        go_wp2_with fail
        go_roundw
        case rel => exact ⟨a + 1, by omega, by go_num, S6.out⟩
        case measure => simp [intOf]; omega
      · have hxy : ¬ x = y := fun h => hq (HP.out.1 h)
        have hxI : ((x.toNat : Int) == (y.toNat : Int)) = false := by
          simp only [beq_eq_false_iff_ne]
          exact fun h => hxy (UInt8.toNat_inj.1 (by exact_mod_cast h))
        have hqI : ((a : Int) == 4 * (t : Int) + (i : Int)) = false := by
          simp only [beq_eq_false_iff_ne]
          omega
        clear hxy hq HP
        go_wp2_with fail
        go_roundw
        case rel => exact ⟨a + 1, by omega, by go_num, S6.out⟩
        case measure => simp [intOf]; omega
    · have hlI : ¬ (a : Int) < 14 := by omega
      have S4 := Lib.hid s4
      clear s4
      have HW := Lib.hid wide_last
      go_wp2_with fail
      refine (coef1o 2 0 (by simp [rg]) S4.out).mono ?_
      rintro e w5 ⟨rfl, s5⟩
      clear S4
      have S5 := Lib.hid s5
      clear s5
      go_wp2_with fail
      refine (coef1o 0 4 (by simp [rg]) S5.out).mono ?_
      rintro e w6 ⟨rfl, s6⟩
      clear S5
      have S6 := Lib.hid s6
      clear s6
      go_wp2_with fail
      refine (coef2 3 13 (by simp [rg]) (by simp [rg]) S6.out).mono ?_
      rintro e w7 ⟨rfl, s7⟩
      clear S6
      have S7 := Lib.hid s7
      clear s7
      generalize cf wx wy 3 13 = z at *
      have hz : ((z.toNat : Int) != 0) = true := by simpa using u8_pos HW.out
      go_wp2_with fail
      refine (awake_calls w7 S7.out).mono ?_
      rintro e w8 ⟨rfl, s8⟩
      clear S7
      have S8 := Lib.hid s8
      clear s8
      go_wp2_with fail
      go_ret
      exact ⟨rfl, S8.out.below⟩
theorem parts_walk (a0 a1 a2 : Int) (w0 : World) (_h0 : (Lit.int .i64 a0).wf = true) (_h1 : (Lit.int .i64 a1).wf = true) (_h2 : (Lit.int .i64 a2).wf = true) :
    Calls Try.prog 3 #[.int .i64 a0, .int .i64 a1, .int .i64 a2] w0 fun e w' => e = .returned (.bool true) ∧ Below w0.heap.size w0 w' := by
  have h8 := and_m8 a0
  have h2 := and_m2 a1
  have h1 := and_m1 a2
  have ht : (bits .and .i64 a0 255).tmod 3 = a0 % 256 % 3 := by rw [h8]; exact Int.tmod_eq_emod_of_nonneg (by omega)
  exact parts_in a0 a1 a2 (a0 % 256 % 3).toNat (a1 % 4).toNat (a2 % 2).toNat (by omega) (by omega) (by omega) (by rw [ht]; omega) (by rw [h2]; omega) (by rw [h1]; omega) w0
end
end Go.Proofs.Ytjnfhppjkadlpaa.Cv
