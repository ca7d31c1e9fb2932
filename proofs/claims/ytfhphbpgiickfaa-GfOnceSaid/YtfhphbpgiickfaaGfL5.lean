/- GfOnce, walked. -/
import Derived.Test.YtfhphbpgiickfaaGfL4
namespace Go.Proofs.Ytfhphbpgiickfaa.Gf
open Go Go.RowKit Go.Proofs.Ytfhphbpgiickfaa Go.Proofs.Ytfhphbpgiickfaa.Sp Go.Proofs.Ytfhphbpgiickfaa.Reg Go.Proofs.Ytfhphbpgiickfaa.Rd
theorem mulx2 {B : Nat} {w0 : World} {R : HP} (b c : Nat) (x y : UInt8) (w : World) (s : St B w0 w (fx b * (fx c * R))) : Calls Try.prog 16 #[.pointer (some ⟨c, 0, none⟩), bv x, bv y] w (RetG B w0 (fx b * (fx c * R)) (bv (gmul x y))) :=
  (mulx c x y w (s.eq (sep_left_comm _ _ _))).mono fun _ _ ⟨h1, h2⟩ => ⟨h1, h2.eq (sep_left_comm _ _ _)⟩
set_option maxRecDepth 100000 in
set_option maxHeartbeats 8000000 in
theorem once_walk (a : Option Addr) (ca : Nat) (la : List UInt8) (w0 : World) (ha : BS w0 (.slice a la.length ca) la) (hsa : la.length * 1 ≤ 140737488351232) :
    Calls Try.prog 8 #[.slice a la.length ca] w0 fun e w' => e = .returned (.bool true) ∧ Below w0.heap.size w0 w' := by
  have HA := Lib.hid ha
  clear ha
  go_enter Try.func8, Try.ntmps8
  go_wp2_with fail
  refine (new_calls _ (St.init w0)).mono ?_
  rintro e w1 ⟨b, rfl, s⟩
  have S := Lib.hid s
  clear s
  go_wp2_with fail
  refine (newx _ S.out).mono ?_
  rintro e w2 ⟨d, rfl, s⟩
  clear S
  have S := Lib.hid (s.eq (Q := fo b false * (fx d * emp)) (by ac_rfl))
  clear s
  go_wp2_with fail
  refine (made_calls b false _ S.out).mono ?_
  rintro e wq ⟨he, sq⟩
  obtain rfl : e = .returned (.int .i64 0) := he
  clear S
  have S := Lib.hid (show St w0.heap.size w0 wq (fx b * (fx d * emp)) from St.ex.2 ⟨false, sq⟩)
  clear sq
  go_wp2_with fail
  go_loopw [5] (fun i wr => ∃ k : Nat, k ≤ la.length ∧ k ≤ 40 ∧ i = .int .i64 k ∧ St w0.heap.size w0 wr (fx b * (fx d * emp))) (fun i _ => 40 - (intOf i).toNat)
  case atStart => exact ⟨0, Nat.zero_le _, Nat.zero_le _, rfl, S.out⟩
  case round =>
    obtain ⟨k, hk1, hk2, rfl, s⟩ := hrel
    clear S
    have S := Lib.hid s
    clear s
    by_cases hlt : k + 1 < la.length ∧ k < 40
    · obtain ⟨k1, k2⟩ := hlt
      have i1 : (1 : Int) < (la.length : Int) - (k : Int) := by omega
      have r1 := fun (w' : World) (s' : St w0.heap.size w0 w' (fx b * (fx d * emp))) => HA.out.st rfl s'
      obtain ⟨b1, o1, rfl⟩ := (r1 _ S.out).head (by omega)
      have R1 := Lib.hid fun (w' : World) (s' : St w0.heap.size w0 w' (fx b * (fx d * emp))) => (r1 w' s').cellAt k (by omega)
      have R2 := Lib.hid fun (w' : World) (s' : St w0.heap.size w0 w' (fx b * (fx d * emp))) => (r1 w' s').cellAt (k + 1) k1
      clear r1
      generalize la[k] = x at R1
      generalize la[k + 1] = y at R2
      go_wp2_with fail
      refine wp_region_rx (fun _ w' => St w0.heap.size w0 w' (fx b * (fx d * emp))) [] mixed (by kernel_rfl) (by kernel_rfl) S.out.drew ?_
      refine RXl.exact (.pointer (some ⟨b, 0, none⟩)) rfl rfl rfl rfl rfl (fun _ _ _ _ _ => rfl) ?_
      refine RXl.exact (.slice (some ⟨b1, o1, none⟩) la.length ca) rfl rfl rfl rfl rfl (fun _ _ _ _ _ => rfl) ?_
      refine RXl.exact (.int .i64 (k : Int)) rfl rfl rfl rfl rfl (fun _ _ _ _ _ => rfl) ?_
      refine RXl.exact (.pointer (some ⟨b1, o1 + k, none⟩)) rfl rfl rfl rfl rfl (fun j τ w' hj hJ => by have t1 : (k : Int) < (la.length : Int) := (by omega); simp [rho, upd, Spec.val, execOp, go_sem, t1]) ?_
      refine RXl.exact (bv x) rfl rfl rfl rfl rfl (fun j τ w' hj hJ => by have c := R1.out w' hJ; simp [rho, upd, Spec.val, execOp, go_sem, c]) ?_
      refine RXl.exact (.slice (some ⟨b1, o1, none⟩) la.length ca) rfl rfl rfl rfl rfl (fun _ _ _ _ _ => rfl) ?_
      refine RXl.exact (.int .i64 (k : Int)) rfl rfl rfl rfl rfl (fun _ _ _ _ _ => rfl) ?_
      refine RXl.exact (.int .i64 ((k + 1 : Nat) : Int)) rfl rfl rfl rfl rfl (fun j τ w' hj hJ => by simp [rho, upd, Spec.val, execOp, go_sem]; rw [IntKind.wrap_i64]; omega) ?_
      refine RXl.exact (.pointer (some ⟨b1, o1 + (k + 1), none⟩)) rfl rfl rfl rfl rfl (fun j τ w' hj hJ => by have t1 : (k : Int) + 1 < (la.length : Int) := (by omega); have t2 : (0 : Int) ≤ (k : Int) + 1 := (by omega); have t3 : ((k : Int) + 1).toNat = k + 1 := (by omega); simp [rho, upd, Spec.val, execOp, go_sem, t1, t2, t3]) ?_
      refine RXl.exact (bv y) rfl rfl rfl rfl rfl (fun j τ w' hj hJ => by have c := R2.out w' hJ; simp [rho, upd, Spec.val, execOp, go_sem, c]) ?_
      refine RXl.callr (bv (gmul x y)) _ [.pointer (some ⟨b, 0, none⟩), bv x, bv y] [.tmp 30, .tmp 34, .tmp 39] _ rfl rfl rfl rfl rfl rfl (fun _ => rfl) (fun j τ w' hj hJ => mulx b x y w' hJ) ?_
      refine RXl.exact (.pointer (some ⟨d, 0, none⟩)) rfl rfl rfl rfl rfl (fun _ _ _ _ _ => rfl) ?_
      refine RXl.exact (.slice (some ⟨b1, o1, none⟩) la.length ca) rfl rfl rfl rfl rfl (fun _ _ _ _ _ => rfl) ?_
      refine RXl.exact (.int .i64 (k : Int)) rfl rfl rfl rfl rfl (fun _ _ _ _ _ => rfl) ?_
      refine RXl.exact (.pointer (some ⟨b1, o1 + k, none⟩)) rfl rfl rfl rfl rfl (fun j τ w' hj hJ => by have t1 : (k : Int) < (la.length : Int) := (by omega); simp [rho, upd, Spec.val, execOp, go_sem, t1]) ?_
      refine RXl.exact (bv x) rfl rfl rfl rfl rfl (fun j τ w' hj hJ => by have c := R1.out w' hJ; simp [rho, upd, Spec.val, execOp, go_sem, c]) ?_
      refine RXl.exact (.slice (some ⟨b1, o1, none⟩) la.length ca) rfl rfl rfl rfl rfl (fun _ _ _ _ _ => rfl) ?_
      refine RXl.exact (.int .i64 (k : Int)) rfl rfl rfl rfl rfl (fun _ _ _ _ _ => rfl) ?_
      refine RXl.exact (.int .i64 ((k + 1 : Nat) : Int)) rfl rfl rfl rfl rfl (fun j τ w' hj hJ => by simp [rho, upd, Spec.val, execOp, go_sem]; rw [IntKind.wrap_i64]; omega) ?_
      refine RXl.exact (.pointer (some ⟨b1, o1 + (k + 1), none⟩)) rfl rfl rfl rfl rfl (fun j τ w' hj hJ => by have t1 : (k : Int) + 1 < (la.length : Int) := (by omega); have t2 : (0 : Int) ≤ (k : Int) + 1 := (by omega); have t3 : ((k : Int) + 1).toNat = k + 1 := (by omega); simp [rho, upd, Spec.val, execOp, go_sem, t1, t2, t3]) ?_
      refine RXl.exact (bv y) rfl rfl rfl rfl rfl (fun j τ w' hj hJ => by have c := R2.out w' hJ; simp [rho, upd, Spec.val, execOp, go_sem, c]) ?_
      refine RXl.callr (bv (gmul x y)) _ [.pointer (some ⟨d, 0, none⟩), bv x, bv y] [.tmp 41, .tmp 45, .tmp 50] _ rfl rfl rfl rfl rfl rfl (fun _ => rfl) (fun j τ w' hj hJ => mulx2 b d x y w' hJ) ?_
      refine RXl.exact (.bool false) rfl rfl rfl rfl rfl (fun j τ w' hj hJ => by simp [rho, upd, Spec.val, execOp, go_sem]) ?_
      refine RXl.nilx _ (Agr.upd _ _ (Agr.upd _ _ (Agr.upd _ _ (Agr.upd _ _ (Agr.upd _ _ (Agr.upd _ _ (Agr.upd _ _ (Agr.upd _ _ (Agr.upd _ _ (Agr.upd _ _ (Agr.upd _ _ (Agr.upd _ _ (Agr.upd _ _ (Agr.upd _ _ (Agr.upd _ _ (Agr.upd _ _ (Agr.upd _ _ (Agr.upd _ _ (Agr.upd _ _ (Agr.upd _ _ (Agr.upd _ _ (Agr.upd _ _ (Agr.upd _ _ (Agr.base _)))))))))))))))))))))))) fun w8 hJ => ?_
      obtain ⟨_, hJ⟩ := hJ
      simp only [Act.put, List.setIfInBounds_toArray, List.set_cons_succ, List.set_cons_zero]
      have S8 := Lib.hid (show St w0.heap.size w0 w8 (fx b * (fx d * emp)) from hJ)
      clear hJ S R1 R2
      go_wp2_with fail
      go_roundw
      case rel => exact ⟨k + 1, by omega, by omega, by go_num, S8.out⟩
      case measure => simp [intOf]; omega
    · have fin : (decide ((1 : Int) < (la.length : Int) - (k : Int)) = false) ∨ (decide ((1 : Int) < (la.length : Int) - (k : Int)) = true ∧ decide ((k : Int) < 40) = false) := by
        simp only [decide_eq_true_eq, decide_eq_false_iff_not]
        omega
      clear hlt
      rcases fin with f1 | ⟨f1, f2⟩
      all_goals
        go_wp2_with fail
        refine (powx b 3 5 _ (by omega) S.out).mono ?_
        rintro e wq ⟨rfl, sq⟩
        clear S
        have S := Lib.hid sq
        clear sq
        go_wp2_with fail
        refine (dotx b la la a la.length ca a la.length ca _ (reads_arg _ HA.out) (reads_arg _ HA.out) (by omega) (by omega) S.out).mono ?_
        rintro e wq ⟨rfl, sq⟩
        clear S
        obtain ⟨m, sq⟩ := St.ex.1 sq
        have S := Lib.hid sq
        clear sq
        cases m
        all_goals
          go_wp2_with fail
          refine (made_calls b _ _ S.out).mono ?_
          simp only [if_true, Bool.false_eq_true, if_false]
          rintro e wq ⟨rfl, sq⟩
          clear S
          have S := Lib.hid sq
          clear sq
          go_wp2_with fail
          refine (made_calls b _ _ S.out).mono ?_
          simp only [if_true, Bool.false_eq_true, if_false]
          rintro e wq ⟨rfl, sq⟩
          clear S
          have S := Lib.hid sq
          clear sq
          go_wp2_with fail
          refine (awakex _ S.out).mono ?_
          rintro e wq ⟨rfl, sq⟩
          clear S
          have S := Lib.hid sq
          clear sq
          go_wp2_with fail
          go_ret
          exact ⟨rfl, S.out.below⟩
end Go.Proofs.Ytfhphbpgiickfaa.Gf
