/- DiskLost, walked. -/
import Derived.Test.YteikpbangjpilaaDskL1
namespace Go.Proofs.Yteikpbangjpilaa.DskL
open Go Go.RowKit Go.Proofs.Yteikpbangjpilaa Go.Proofs.Yteikpbangjpilaa.Sp Go.Proofs.Yteikpbangjpilaa.Reg Go.Proofs.Yteikpbangjpilaa.SlW Go.Proofs.Yteikpbangjpilaa.Fus Go.Proofs.Yteikpbangjpilaa.DskN Go.Proofs.Yteikpbangjpilaa.Rd Go.Proofs.Yteikpbangjpilaa.DskW
theorem st_only {B : Nat} {w0 w : World} {P Q : HP} (s : St B w0 w (P * Q)) : St B w0 w (P * emp) := (s.left.addEmp).eq (sep_comm _ _)

theorem reads_left' {B : Nat} {w0 : World} {e : TypeId} {v : Value} {n : Nat} {bs : List UInt8} {X : HP} (h : Reads B w0 (row e 1 v n (bvs bs)) v bs) : Reads B w0 (row e 1 v n (bvs bs) * X) v bs := reads_right X h
set_option maxRecDepth 100000 in
set_option maxHeartbeats 8000000 in
theorem lost_walk (a : Option Addr) (ca : Nat) (l : List UInt8) (w0 : World) (hl : BS w0 (.slice a l.length ca) l) (_y : l.length * 1 ≤ 140737488351232) :
    Calls Try.prog 11 #[.slice a l.length ca] w0 fun e w' => e = .returned (.bool true) ∧ Below w0.heap.size w0 w' := by
  have Hl := Lib.hid hl
  clear hl
  go_enter Try.func11, Try.ntmps11
  go_wp2_with fail
  refine (new_calls 5 none _ (St.init w0)).mono ?_
  rintro e w1 ⟨p, rfl, s1⟩
  obtain ⟨db, _, _, _, _, rfl, -⟩ := dk_open s1
  have S1 := Lib.hid s1
  clear s1
  go_wp2_with fail
  go_loopw [4] (fun i wr => ∃ (k : Nat) (D : Dk), k ≤ l.length ∧ k ≤ 20 ∧ i = .int .i64 k ∧ (D.lasts.length = 5 ∧ D.gone = false ∧ D.pend.length ≤ k) ∧ St w0.heap.size w0 wr (dk (.pointer (some ⟨db, 0, none⟩)) (.pointer none) D * emp)) (fun i _ => 20 - (intOf i).toNat)
  case atStart => exact ⟨0, Dk.new 5, Nat.zero_le _, Nat.zero_le _, rfl, ⟨rfl, rfl, Nat.le_refl _⟩, S1.out⟩
  case round =>
    obtain ⟨k, D, hk1, hk2, rfl, hD, s5⟩ := hrel
    have HD := Lib.hid hD
    have S6 := Lib.hid s5
    clear hD S1
    by_cases hlt : k < l.length ∧ k < 20
    · obtain ⟨hlt1, hlt2⟩ := hlt
      obtain ⟨_, _, _, _, hr⟩ := (Hl.out.st rfl s5).rd
      obtain ⟨b, off, rfl, hc⟩ := hr.at (by intro h; simp at h; simp [h] at hlt1)
      have hcell := hc k _ (bvs_get hlt1)
      generalize l[k] = x at hcell
      have hmod : (k : Int) % 5 = ((k % 5 : Nat) : Int) := by omega
      have h5 : k % 5 < 5 := by omega
      generalize k % 5 = q at hmod h5
      clear s5 hc hr
      go_wp2_with fail
      refine (full_calls x _ S6.out).mono ?_
      rintro e w2 ⟨g, rfl, s⟩
      have S7 := Lib.hid (s.eq (sep_left_comm _ _ _))
      clear s S6
      go_wp2_with fail
      refine (write0 D (q : Int) (full x) _ _ 96 96 w2 (by have := HD.out.2.2; omega) (reads_right _ reads_row) (by omega) S7.out).mono ?_
      rw [dWrite_ok (D := D) (i := q) (by rw [HD.out.1]; exact h5) (full_len x) HD.out.2.1]
      rintro e w3 ⟨rfl, s⟩
      have S8 := Lib.hid (st_only s)
      clear s S7 hcell
      go_wp2_with fail
      go_roundw
      case rel => exact ⟨k + 1, ⟨D.lasts, D.pend ++ [(q, full x)], D.gone⟩, by omega, by omega, by go_num, ⟨HD.out.1, HD.out.2.1, by have := HD.out.2.2; simp; omega⟩, S8.out⟩
      case measure => simp [intOf]; omega
    · have hend : l.length ≤ k ∨ k < l.length ∧ 20 ≤ k := by omega
      clear hlt s5
      rcases hend with hend | ⟨hend, hend2⟩
      · skip
        go_wp2_with fail
        refine (sync0 D _ _ S6.out).mono ?_
        obtain ⟨L, hLs, hL5⟩ : ∃ L : List (List UInt8), dSync none D = (0, ⟨L, [], false⟩) ∧ L.length = 5 := by
          obtain ⟨L0, pend, gone⟩ := D
          have hg : gone = false := HD.out.2.1
          subst hg
          exact ⟨_, rfl, (lastK_len _ _ _ _ _).trans HD.out.1⟩
        rw [hLs]
        have HL5 := Lib.hid hL5
        clear hLs hL5
        rintro e w2 ⟨rfl, s⟩
        have S7 := Lib.hid s
        clear s S6
        go_wp2_with fail
        refine (fail_calls _ _ _ _ S7.out).mono ?_
        rintro e w3 ⟨rfl, s⟩
        have S8 := Lib.hid s
        clear s S7
        go_wp2_with fail
        refine (read_calls ⟨L, [], true⟩ _ _ 0 _ S8.out).mono ?_
        rintro e w4 ⟨a4, c4, he, s⟩
        have e1 : dErr ⟨L, [], true⟩ 0 = 5 := by unfold dErr; rw [if_pos ⟨by omega, by have := HL5.out; simp; omega⟩]; rfl
        have e2 : dRead ⟨L, [], true⟩ 0 = [] := by unfold dRead; rw [if_neg (fun h => by cases h.2)]
        rw [e1, e2] at he
        rw [e2] at s
        obtain rfl : e = .returned (.tuple #[.slice a4 0 c4, .int .i64 5]) := he
        have S9 := Lib.hid (st_only (s.eq (sep_left_comm _ _ _)))
        clear s S8 e1 e2
        go_wp2_with fail
        refine (full_calls 1 _ S9.out).mono ?_
        rintro e w5 ⟨g5, rfl, s⟩
        have S10 := Lib.hid (s.eq (sep_left_comm _ _ _))
        clear s S9
        go_wp2_with fail
        refine (write0 ⟨L, [], true⟩ 0 (full 1) _ _ 96 96 w5 (by simp) (reads_left' (reads_row)) (by omega) S10.out).mono ?_
        rw [show dWrite none ⟨L, [], true⟩ 0 (full 1) = (5, none, ⟨L, [], true⟩) from by unfold dWrite; rw [if_neg (by simp only [Classical.not_not]; exact ⟨⟨Int.le_refl 0, by show (0 : Int) < (L.length : Int); have := HL5.out; omega⟩, full_len 1⟩), if_pos rfl]]
        rintro e w6 ⟨rfl, s⟩
        have S11 := Lib.hid (st_only s)
        clear s S10
        go_wp2_with fail
        refine (sync0 ⟨L, [], true⟩ _ _ S11.out).mono ?_
        rw [show dSync none ⟨L, [], true⟩ = (5, ⟨L, [], true⟩) from rfl]
        rintro e w7 ⟨rfl, s⟩
        have S12 := Lib.hid s
        clear s S11
        go_wp2_with fail
        refine (rot_calls ⟨L, [], true⟩ _ _ 0 0 1 _ S12.out).mono ?_
        rw [dRot_no (fun h => by cases h.2.2.2)]
        rintro e w8 ⟨rfl, s⟩
        have S13 := Lib.hid s
        clear s S12
        go_wp2_with fail
        refine (live_calls ⟨L, [], true⟩ _ _ _ S13.out).mono ?_
        rintro e w9 ⟨he, s⟩
        obtain rfl : e = .returned (.bool false) := he
        have S14 := Lib.hid s
        clear s S13
        go_wp2_with fail
        refine (replace_calls ⟨L, [], true⟩ _ none _ S14.out).mono ?_
        rw [show (⟨L, [], true⟩ : Dk).lasts.length = 5 from HL5.out]
        rintro e w10 ⟨rfl, s⟩
        have S15 := Lib.hid s
        clear s S14 HL5 HD
        go_wp2_with fail
        go_loopw [7] (fun i wr => ∃ k : Nat, k ≤ 5 ∧ i = .int .i64 k ∧ St w0.heap.size w0 wr (dk (.pointer (some ⟨db, 0, none⟩)) (.pointer none) ⟨List.replicate 5 blk0, [], false⟩ * emp)) (fun i _ => 5 - (intOf i).toNat)
        case atStart => exact ⟨0, Nat.zero_le _, rfl, S15.out⟩
        case round =>
          obtain ⟨j, hj, rfl, s⟩ := hrel
          clear S15
          have S16 := Lib.hid s
          clear s
          by_cases hj5 : j < 5
          · have e1 : dErr ⟨List.replicate 5 blk0, [], false⟩ j = 0 := by unfold dErr; rw [if_pos ⟨by omega, by simp; omega⟩]; rfl
            have e2 : dRead ⟨List.replicate 5 blk0, [], false⟩ j = blk0 := by
              unfold dRead
              rw [if_pos ⟨⟨by omega, by simp; omega⟩, rfl⟩]
              show (List.replicate 5 blk0).getD j [] = blk0
              rw [List.getD_eq_getElem?_getD, List.getElem?_replicate, if_pos hj5]
              rfl
            have HE := Lib.hid (And.intro e1 e2)
            clear e1 e2
            go_wp2_with fail
            refine (read_calls ⟨List.replicate 5 blk0, [], false⟩ _ _ j _ S16.out).mono ?_
            rintro e w11 ⟨a11, c11, he, s⟩
            rw [HE.out.1, HE.out.2] at he
            rw [HE.out.2] at s
            rw [blk0_len] at he s
            subst he
            have S17 := Lib.hid s
            clear s S16
            go_wp2_with fail
            refine wp_region_rx (fun _ w' => St w0.heap.size w0 w' (row 5 1 (.slice a11 96 c11) 96 (bvs blk0) * (dk (.pointer (some ⟨db, 0, none⟩)) (.pointer none) ⟨List.replicate 5 blk0, [], false⟩ * emp))) [] mixed (by kernel_rfl) (by kernel_rfl) S17.out.drew ?_
            refine RXl.exact (.int .i64 0) rfl rfl rfl rfl rfl (fun _ _ _ _ _ => rfl) ?_
            refine RXl.exact (.bool false) rfl rfl rfl rfl rfl (fun j τ w' hj hJ => by simp [rho, upd, Spec.val, execOp, go_sem]) ?_
            refine RXl.exact (.bool false) rfl rfl rfl rfl rfl (fun _ _ _ _ _ => rfl) ?_
            refine RXl.exact (.slice a11 96 c11) rfl rfl rfl rfl rfl (fun _ _ _ _ _ => rfl) ?_
            refine RXl.exact (str blk0) rfl rfl rfl rfl rfl (fun j τ w' hj hJ => exec_convert rfl (run_str Try.underlying25 Try.underlying5 Try.underlying9 (St.bs hJ))) ?_
            refine RXl.callr (str blk0) _ [] [] _ rfl rfl rfl rfl rfl rfl (fun _ => rfl) (fun j τ w' hj hJ => (blank_calls w').mono fun _ _ ⟨h1, h2⟩ => ⟨h1, St.keep hJ h2⟩) ?_
            refine RXl.exact (.bool false) rfl rfl rfl rfl rfl (fun j τ w' hj hJ => by simp [rho, upd, Spec.val, execOp, go_sem]) ?_
            refine RXl.exact (.bool false) rfl rfl rfl rfl rfl (fun _ _ _ _ _ => rfl) ?_
            refine RXl.nilx _ (Agr.upd _ _ (Agr.upd _ _ (Agr.upd _ _ (Agr.upd _ _ (Agr.upd _ _ (Agr.upd _ _ (Agr.upd _ _ (Agr.upd _ _ (Agr.base _))))))))) fun w12 hJ => ?_
            obtain ⟨_, hJ⟩ := hJ
            simp only [Act.put, List.setIfInBounds_toArray, List.set_cons_succ, List.set_cons_zero]
            have S18 := Lib.hid (St.right hJ)
            clear hJ S17
            go_wp2_with fail
            go_roundw
            case rel => exact ⟨j + 1, by omega, by go_num, S18.out⟩
            case measure => simp [intOf]; omega
          · obtain rfl : j = 5 := by omega
            go_wp2_with fail
            refine (live_calls ⟨List.replicate 5 blk0, [], false⟩ _ _ _ S16.out).mono ?_
            rintro e w12 ⟨he, s⟩
            obtain rfl : e = .returned (.bool true) := he
            have S19 := Lib.hid s
            clear s S16
            go_wp2_with fail
            refine (awake_calls _).mono ?_
            rintro e w13 ⟨rfl, h13⟩
            have HB := Lib.hid (S19.out.keep h13).below
            clear h13 S19
            go_wp2_with fail
            go_ret
            exact ⟨rfl, HB.out⟩
      · skip
        go_wp2_with fail
        refine (sync0 D _ _ S6.out).mono ?_
        obtain ⟨L, hLs, hL5⟩ : ∃ L : List (List UInt8), dSync none D = (0, ⟨L, [], false⟩) ∧ L.length = 5 := by
          obtain ⟨L0, pend, gone⟩ := D
          have hg : gone = false := HD.out.2.1
          subst hg
          exact ⟨_, rfl, (lastK_len _ _ _ _ _).trans HD.out.1⟩
        rw [hLs]
        have HL5 := Lib.hid hL5
        clear hLs hL5
        rintro e w2 ⟨rfl, s⟩
        have S7 := Lib.hid s
        clear s S6
        go_wp2_with fail
        refine (fail_calls _ _ _ _ S7.out).mono ?_
        rintro e w3 ⟨rfl, s⟩
        have S8 := Lib.hid s
        clear s S7
        go_wp2_with fail
        refine (read_calls ⟨L, [], true⟩ _ _ 0 _ S8.out).mono ?_
        rintro e w4 ⟨a4, c4, he, s⟩
        have e1 : dErr ⟨L, [], true⟩ 0 = 5 := by unfold dErr; rw [if_pos ⟨by omega, by have := HL5.out; simp; omega⟩]; rfl
        have e2 : dRead ⟨L, [], true⟩ 0 = [] := by unfold dRead; rw [if_neg (fun h => by cases h.2)]
        rw [e1, e2] at he
        rw [e2] at s
        obtain rfl : e = .returned (.tuple #[.slice a4 0 c4, .int .i64 5]) := he
        have S9 := Lib.hid (st_only (s.eq (sep_left_comm _ _ _)))
        clear s S8 e1 e2
        go_wp2_with fail
        refine (full_calls 1 _ S9.out).mono ?_
        rintro e w5 ⟨g5, rfl, s⟩
        have S10 := Lib.hid (s.eq (sep_left_comm _ _ _))
        clear s S9
        go_wp2_with fail
        refine (write0 ⟨L, [], true⟩ 0 (full 1) _ _ 96 96 w5 (by simp) (reads_left' (reads_row)) (by omega) S10.out).mono ?_
        rw [show dWrite none ⟨L, [], true⟩ 0 (full 1) = (5, none, ⟨L, [], true⟩) from by unfold dWrite; rw [if_neg (by simp only [Classical.not_not]; exact ⟨⟨Int.le_refl 0, by show (0 : Int) < (L.length : Int); have := HL5.out; omega⟩, full_len 1⟩), if_pos rfl]]
        rintro e w6 ⟨rfl, s⟩
        have S11 := Lib.hid (st_only s)
        clear s S10
        go_wp2_with fail
        refine (sync0 ⟨L, [], true⟩ _ _ S11.out).mono ?_
        rw [show dSync none ⟨L, [], true⟩ = (5, ⟨L, [], true⟩) from rfl]
        rintro e w7 ⟨rfl, s⟩
        have S12 := Lib.hid s
        clear s S11
        go_wp2_with fail
        refine (rot_calls ⟨L, [], true⟩ _ _ 0 0 1 _ S12.out).mono ?_
        rw [dRot_no (fun h => by cases h.2.2.2)]
        rintro e w8 ⟨rfl, s⟩
        have S13 := Lib.hid s
        clear s S12
        go_wp2_with fail
        refine (live_calls ⟨L, [], true⟩ _ _ _ S13.out).mono ?_
        rintro e w9 ⟨he, s⟩
        obtain rfl : e = .returned (.bool false) := he
        have S14 := Lib.hid s
        clear s S13
        go_wp2_with fail
        refine (replace_calls ⟨L, [], true⟩ _ none _ S14.out).mono ?_
        rw [show (⟨L, [], true⟩ : Dk).lasts.length = 5 from HL5.out]
        rintro e w10 ⟨rfl, s⟩
        have S15 := Lib.hid s
        clear s S14 HL5 HD
        go_wp2_with fail
        go_loopw [7] (fun i wr => ∃ k : Nat, k ≤ 5 ∧ i = .int .i64 k ∧ St w0.heap.size w0 wr (dk (.pointer (some ⟨db, 0, none⟩)) (.pointer none) ⟨List.replicate 5 blk0, [], false⟩ * emp)) (fun i _ => 5 - (intOf i).toNat)
        case atStart => exact ⟨0, Nat.zero_le _, rfl, S15.out⟩
        case round =>
          obtain ⟨j, hj, rfl, s⟩ := hrel
          clear S15
          have S16 := Lib.hid s
          clear s
          by_cases hj5 : j < 5
          · have e1 : dErr ⟨List.replicate 5 blk0, [], false⟩ j = 0 := by unfold dErr; rw [if_pos ⟨by omega, by simp; omega⟩]; rfl
            have e2 : dRead ⟨List.replicate 5 blk0, [], false⟩ j = blk0 := by
              unfold dRead
              rw [if_pos ⟨⟨by omega, by simp; omega⟩, rfl⟩]
              show (List.replicate 5 blk0).getD j [] = blk0
              rw [List.getD_eq_getElem?_getD, List.getElem?_replicate, if_pos hj5]
              rfl
            have HE := Lib.hid (And.intro e1 e2)
            clear e1 e2
            go_wp2_with fail
            refine (read_calls ⟨List.replicate 5 blk0, [], false⟩ _ _ j _ S16.out).mono ?_
            rintro e w11 ⟨a11, c11, he, s⟩
            rw [HE.out.1, HE.out.2] at he
            rw [HE.out.2] at s
            rw [blk0_len] at he s
            subst he
            have S17 := Lib.hid s
            clear s S16
            go_wp2_with fail
            refine wp_region_rx (fun _ w' => St w0.heap.size w0 w' (row 5 1 (.slice a11 96 c11) 96 (bvs blk0) * (dk (.pointer (some ⟨db, 0, none⟩)) (.pointer none) ⟨List.replicate 5 blk0, [], false⟩ * emp))) [] mixed (by kernel_rfl) (by kernel_rfl) S17.out.drew ?_
            refine RXl.exact (.int .i64 0) rfl rfl rfl rfl rfl (fun _ _ _ _ _ => rfl) ?_
            refine RXl.exact (.bool false) rfl rfl rfl rfl rfl (fun j τ w' hj hJ => by simp [rho, upd, Spec.val, execOp, go_sem]) ?_
            refine RXl.exact (.bool false) rfl rfl rfl rfl rfl (fun _ _ _ _ _ => rfl) ?_
            refine RXl.exact (.slice a11 96 c11) rfl rfl rfl rfl rfl (fun _ _ _ _ _ => rfl) ?_
            refine RXl.exact (str blk0) rfl rfl rfl rfl rfl (fun j τ w' hj hJ => exec_convert rfl (run_str Try.underlying25 Try.underlying5 Try.underlying9 (St.bs hJ))) ?_
            refine RXl.callr (str blk0) _ [] [] _ rfl rfl rfl rfl rfl rfl (fun _ => rfl) (fun j τ w' hj hJ => (blank_calls w').mono fun _ _ ⟨h1, h2⟩ => ⟨h1, St.keep hJ h2⟩) ?_
            refine RXl.exact (.bool false) rfl rfl rfl rfl rfl (fun j τ w' hj hJ => by simp [rho, upd, Spec.val, execOp, go_sem]) ?_
            refine RXl.exact (.bool false) rfl rfl rfl rfl rfl (fun _ _ _ _ _ => rfl) ?_
            refine RXl.nilx _ (Agr.upd _ _ (Agr.upd _ _ (Agr.upd _ _ (Agr.upd _ _ (Agr.upd _ _ (Agr.upd _ _ (Agr.upd _ _ (Agr.upd _ _ (Agr.base _))))))))) fun w12 hJ => ?_
            obtain ⟨_, hJ⟩ := hJ
            simp only [Act.put, List.setIfInBounds_toArray, List.set_cons_succ, List.set_cons_zero]
            have S18 := Lib.hid (St.right hJ)
            clear hJ S17
            go_wp2_with fail
            go_roundw
            case rel => exact ⟨j + 1, by omega, by go_num, S18.out⟩
            case measure => simp [intOf]; omega
          · obtain rfl : j = 5 := by omega
            go_wp2_with fail
            refine (live_calls ⟨List.replicate 5 blk0, [], false⟩ _ _ _ S16.out).mono ?_
            rintro e w12 ⟨he, s⟩
            obtain rfl : e = .returned (.bool true) := he
            have S19 := Lib.hid s
            clear s S16
            go_wp2_with fail
            refine (awake_calls _).mono ?_
            rintro e w13 ⟨rfl, h13⟩
            have HB := Lib.hid (S19.out.keep h13).below
            clear h13 S19
            go_wp2_with fail
            go_ret
            exact ⟨rfl, HB.out⟩
end Go.Proofs.Yteikpbangjpilaa.DskL
