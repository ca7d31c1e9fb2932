/- The document's trio, walked: common. -/
import Derived.Test.YtkkkncchinejmaaStr
import Derived.Test.YtkkkncchinejmaaTapR
import Derived.Test.YtkkkncchinejmaaTrK2
namespace Go.Proofs.Ytkkkncchinejmaa.TrV
open Go Go.RowKit Go.Proofs.Ytkkkncchinejmaa Go.Proofs.Ytkkkncchinejmaa.Sp Go.Proofs.Ytkkkncchinejmaa.Reg Go.Proofs.Ytkkkncchinejmaa.SlW Go.Proofs.Ytkkkncchinejmaa.Fus Go.Proofs.Ytkkkncchinejmaa.TrM Go.Proofs.Ytkkkncchinejmaa.TapW Go.Proofs.Ytkkkncchinejmaa.TrW Go.Proofs.Ytkkkncchinejmaa.Str
set_option maxRecDepth 100000 in
set_option maxHeartbeats 4000000 in
/-- The first records that two rows have alike. -/
theorem rcommon_calls (A1 A2 : Option Addr) (c1 c2 : Nat) (l1 l2 : List (List UInt8)) (w : World) (h1 : SL w (.slice A1 l1.length c1) l1) (h2 : SL w (.slice A2 l2.length c2) l2) :
    Calls Try.prog 56 #[.slice A1 l1.length c1, .slice A2 l2.length c2] w fun e w' => e = .returned (.slice A1 (al l1 l2) c1) ∧ Add w w' := by
  obtain ⟨_, _, e, hq1, hq2, hq3, -⟩ := id h1
  cases e
  obtain ⟨_, _, e, hr1, hr2, hr3, -⟩ := id h2
  cases e
  unfold maxLen at hq2 hr2
  have H1 := Lib.hid h1
  have H2 := Lib.hid h2
  clear h1 h2
  go_enter Try.func56, Try.ntmps56
  go_wp2_with fail
  go_loopw [5] (fun i wr => ∃ n : Nat, n ≤ al l1 l2 ∧ i = .int .i64 n ∧ Add w wr) (fun i _ => l1.length - (intOf i).toNat)
  case atStart => exact ⟨0, Nat.zero_le _, rfl, Add.refl w⟩
  case round =>
    obtain ⟨n, hn, rfl, hadd⟩ := hrel
    have hal := al_le l1 l2
    by_cases hlt : n < l1.length ∧ n < l2.length
    · obtain ⟨hl1, hl2⟩ := hlt
      obtain ⟨b1, o1, rfl, -⟩ := H1.out.at n hl1
      obtain ⟨b2, o2, rfl, -⟩ := H2.out.at n hl2
      have hc1 : ∀ w', Add w w' → w'.cell? ⟨b1, o1 + n, none⟩ = some (str l1[n]) := fun w' h => by
        obtain ⟨_, _, e, hc⟩ := H1.out.at n hl1
        cases e
        exact h.cell hc
      have hc2 : ∀ w', Add w w' → w'.cell? ⟨b2, o2 + n, none⟩ = some (str l2[n]) := fun w' h => by
        obtain ⟨_, _, e, hc⟩ := H2.out.at n hl2
        cases e
        exact h.cell hc
      have t1 : (n : Int) < (l1.length : Int) := by omega
      have t2 : (n : Int) < (l2.length : Int) := by omega
      by_cases he : l1[n] = l2[n]
      · have hst := al_step hn hl1 hl2 he
        rw [← he] at hc2
        generalize l1[n] = x at *
        have Hc1 := Lib.hid hc1
        have Hc2 := Lib.hid hc2
        have Hadd := Lib.hid hadd
        have Hst := Lib.hid hst
        have Hn := Lib.hid hn
        have Hal := Lib.hid hal
        clear hc1 hc2 hadd hst hn hal
        clear he
        go_wp2_with fail
        refine wp_region_rx (fun _ w' => Add w w') [] mixed (by kernel_rfl) (by kernel_rfl) (Hadd.out.trans (Add.drew _)) ?_
        refine RXl.exact (.int .i64 n) rfl rfl rfl rfl rfl (fun _ _ _ _ _ => rfl) ?_
        refine RXl.exact (.slice (some ⟨b1, o1, none⟩) l1.length c1) rfl rfl rfl rfl rfl (fun _ _ _ _ _ => rfl) ?_
        refine RXl.exact (.int .i64 l1.length) rfl rfl rfl rfl rfl (fun j τ w' hj hJ => by simp [rho, upd, Spec.val, execOp, go_sem, resolve, invoke, builtin]) ?_
        refine RXl.exact (.bool true) rfl rfl rfl rfl rfl (fun j τ w' hj hJ => by simp [rho, upd, Spec.val, execOp, go_sem, t1]) ?_
        refine RXl.exact (.bool true) rfl rfl rfl rfl rfl (fun _ _ _ _ _ => rfl) ?_
        refine RXl.exact (.int .i64 n) rfl rfl rfl rfl rfl (fun _ _ _ _ _ => rfl) ?_
        refine RXl.exact (.slice (some ⟨b2, o2, none⟩) l2.length c2) rfl rfl rfl rfl rfl (fun _ _ _ _ _ => rfl) ?_
        refine RXl.exact (.int .i64 l2.length) rfl rfl rfl rfl rfl (fun j τ w' hj hJ => by simp [rho, upd, Spec.val, execOp, go_sem, resolve, invoke, builtin]) ?_
        refine RXl.exact (.bool true) rfl rfl rfl rfl rfl (fun j τ w' hj hJ => by simp [rho, upd, Spec.val, execOp, go_sem, t2]) ?_
        refine RXl.exact (.bool true) rfl rfl rfl rfl rfl (fun _ _ _ _ _ => rfl) ?_
        refine RXl.exact (.bool true) rfl rfl rfl rfl rfl (fun _ _ _ _ _ => rfl) ?_
        refine RXl.exact (.slice (some ⟨b1, o1, none⟩) l1.length c1) rfl rfl rfl rfl rfl (fun _ _ _ _ _ => rfl) ?_
        refine RXl.exact (.int .i64 n) rfl rfl rfl rfl rfl (fun _ _ _ _ _ => rfl) ?_
        refine RXl.exact (.pointer (some ⟨b1, o1 + n, none⟩)) rfl rfl rfl rfl rfl (fun j τ w' hj hJ => by simp [rho, upd, Spec.val, execOp, go_sem, t1]) ?_
        refine RXl.exact (str x) rfl rfl rfl rfl rfl (fun j τ w' hj hJ => by have c := Hc1.out _ hJ; simp [rho, upd, Spec.val, execOp, go_sem, c]) ?_
        refine RXl.exact (.slice (some ⟨b2, o2, none⟩) l2.length c2) rfl rfl rfl rfl rfl (fun _ _ _ _ _ => rfl) ?_
        refine RXl.exact (.int .i64 n) rfl rfl rfl rfl rfl (fun _ _ _ _ _ => rfl) ?_
        refine RXl.exact (.pointer (some ⟨b2, o2 + n, none⟩)) rfl rfl rfl rfl rfl (fun j τ w' hj hJ => by simp [rho, upd, Spec.val, execOp, go_sem, t2]) ?_
        refine RXl.exact (str x) rfl rfl rfl rfl rfl (fun j τ w' hj hJ => by have c := Hc2.out _ hJ; simp [rho, upd, Spec.val, execOp, go_sem, c]) ?_
        refine RXl.exact (.bool true) rfl rfl rfl rfl rfl (fun j τ w' hj hJ => by simp [rho, upd, Spec.val, execOp, go_sem]) ?_
        refine RXl.exact (.bool true) rfl rfl rfl rfl rfl (fun _ _ _ _ _ => rfl) ?_
        refine RXl.nilx _ (Agr.upd _ _ (Agr.upd _ _ (Agr.upd _ _ (Agr.upd _ _ (Agr.upd _ _ (Agr.upd _ _ (Agr.upd _ _ (Agr.upd _ _ (Agr.upd _ _ (Agr.upd _ _ (Agr.upd _ _ (Agr.upd _ _ (Agr.upd _ _ (Agr.upd _ _ (Agr.upd _ _ (Agr.upd _ _ (Agr.upd _ _ (Agr.upd _ _ (Agr.upd _ _ (Agr.upd _ _ (Agr.upd _ _ (Agr.base _)))))))))))))))))))))) fun w3 hJ => ?_
        obtain ⟨_, hJ⟩ := hJ
        simp only [Act.put, List.setIfInBounds_toArray, List.set_cons_succ, List.set_cons_zero]
        have HJ := Lib.hid hJ
        clear hJ
        go_wp2_with fail
        go_roundw
        case rel => exact ⟨n + 1, Hst.out, by go_num, HJ.out⟩
        case measure => simp [intOf]; omega
      · have hst : al l1 l2 = n := al_stop hn fun _ _ => he
        rw [hst]
        have hxy : ∀ x y : List UInt8, x ≠ y → (decide (x.toArray = y.toArray)) = false := fun x y h => decide_eq_false fun e => h (by simpa using e)
        have hxy := hxy _ _ he
        generalize l1[n] = x at *
        generalize l2[n] = y at *
        have Hc1 := Lib.hid hc1
        have Hc2 := Lib.hid hc2
        have Hadd := Lib.hid hadd
        have Hst := Lib.hid hst
        have Hn := Lib.hid hn
        have Hal := Lib.hid hal
        have Hxy := Lib.hid hxy
        clear hc1 hc2 hadd hst hn hal hxy
        go_wp2_with fail
        refine wp_region_rx (fun _ w' => Add w w') [] mixed (by kernel_rfl) (by kernel_rfl) (Hadd.out.trans (Add.drew _)) ?_
        refine RXl.exact (.int .i64 n) rfl rfl rfl rfl rfl (fun _ _ _ _ _ => rfl) ?_
        refine RXl.exact (.slice (some ⟨b1, o1, none⟩) l1.length c1) rfl rfl rfl rfl rfl (fun _ _ _ _ _ => rfl) ?_
        refine RXl.exact (.int .i64 l1.length) rfl rfl rfl rfl rfl (fun j τ w' hj hJ => by simp [rho, upd, Spec.val, execOp, go_sem, resolve, invoke, builtin]) ?_
        refine RXl.exact (.bool true) rfl rfl rfl rfl rfl (fun j τ w' hj hJ => by simp [rho, upd, Spec.val, execOp, go_sem, t1]) ?_
        refine RXl.exact (.bool true) rfl rfl rfl rfl rfl (fun _ _ _ _ _ => rfl) ?_
        refine RXl.exact (.int .i64 n) rfl rfl rfl rfl rfl (fun _ _ _ _ _ => rfl) ?_
        refine RXl.exact (.slice (some ⟨b2, o2, none⟩) l2.length c2) rfl rfl rfl rfl rfl (fun _ _ _ _ _ => rfl) ?_
        refine RXl.exact (.int .i64 l2.length) rfl rfl rfl rfl rfl (fun j τ w' hj hJ => by simp [rho, upd, Spec.val, execOp, go_sem, resolve, invoke, builtin]) ?_
        refine RXl.exact (.bool true) rfl rfl rfl rfl rfl (fun j τ w' hj hJ => by simp [rho, upd, Spec.val, execOp, go_sem, t2]) ?_
        refine RXl.exact (.bool true) rfl rfl rfl rfl rfl (fun _ _ _ _ _ => rfl) ?_
        refine RXl.exact (.bool true) rfl rfl rfl rfl rfl (fun _ _ _ _ _ => rfl) ?_
        refine RXl.exact (.slice (some ⟨b1, o1, none⟩) l1.length c1) rfl rfl rfl rfl rfl (fun _ _ _ _ _ => rfl) ?_
        refine RXl.exact (.int .i64 n) rfl rfl rfl rfl rfl (fun _ _ _ _ _ => rfl) ?_
        refine RXl.exact (.pointer (some ⟨b1, o1 + n, none⟩)) rfl rfl rfl rfl rfl (fun j τ w' hj hJ => by simp [rho, upd, Spec.val, execOp, go_sem, t1]) ?_
        refine RXl.exact (str x) rfl rfl rfl rfl rfl (fun j τ w' hj hJ => by have c := Hc1.out _ hJ; simp [rho, upd, Spec.val, execOp, go_sem, c]) ?_
        refine RXl.exact (.slice (some ⟨b2, o2, none⟩) l2.length c2) rfl rfl rfl rfl rfl (fun _ _ _ _ _ => rfl) ?_
        refine RXl.exact (.int .i64 n) rfl rfl rfl rfl rfl (fun _ _ _ _ _ => rfl) ?_
        refine RXl.exact (.pointer (some ⟨b2, o2 + n, none⟩)) rfl rfl rfl rfl rfl (fun j τ w' hj hJ => by simp [rho, upd, Spec.val, execOp, go_sem, t2]) ?_
        refine RXl.exact (str y) rfl rfl rfl rfl rfl (fun j τ w' hj hJ => by have c := Hc2.out _ hJ; simp [rho, upd, Spec.val, execOp, go_sem, c]) ?_
        refine RXl.exact (.bool false) rfl rfl rfl rfl rfl (fun j τ w' hj hJ => by have c := Hxy.out; simp [rho, upd, Spec.val, execOp, go_sem]; simpa using c) ?_
        refine RXl.exact (.bool false) rfl rfl rfl rfl rfl (fun _ _ _ _ _ => rfl) ?_
        refine RXl.nilx _ (Agr.upd _ _ (Agr.upd _ _ (Agr.upd _ _ (Agr.upd _ _ (Agr.upd _ _ (Agr.upd _ _ (Agr.upd _ _ (Agr.upd _ _ (Agr.upd _ _ (Agr.upd _ _ (Agr.upd _ _ (Agr.upd _ _ (Agr.upd _ _ (Agr.upd _ _ (Agr.upd _ _ (Agr.upd _ _ (Agr.upd _ _ (Agr.upd _ _ (Agr.upd _ _ (Agr.upd _ _ (Agr.upd _ _ (Agr.base _)))))))))))))))))))))) fun w3 hJ => ?_
        obtain ⟨_, hJ⟩ := hJ
        simp only [Act.put, List.setIfInBounds_toArray, List.set_cons_succ, List.set_cons_zero]
        have HJ := Lib.hid hJ
        have t3 : (n : Int) ≤ (c1 : Int) := by omega
        clear hJ
        go_wp2_with fail
        go_ret
        exact ⟨by rw [Hst.out]; rfl, HJ.out⟩
    · have hst : al l1 l2 = n := al_stop hn fun h1 h2 => absurd ⟨h1, h2⟩ hlt
      have hz : ¬ n < l1.length ∨ n < l1.length ∧ ¬ n < l2.length := by omega
      have t3 : (n : Int) ≤ (c1 : Int) := by omega
      have t0 : n ≤ c1 := by omega
      clear hlt hal hn
      have Hadd := Lib.hid hadd
      have Hst := Lib.hid hst
      clear hadd hst
      rcases hz with hz | ⟨hz, hz2⟩
      · have t1 : ¬ (n : Int) < (l1.length : Int) := by omega
        go_wp2_with fail
        refine wp_region_rx (fun _ w' => Add w w') [] mixed (by kernel_rfl) (by kernel_rfl) (Hadd.out.trans (Add.drew _)) ?_
        refine RXl.exact (.int .i64 n) rfl rfl rfl rfl rfl (fun _ _ _ _ _ => rfl) ?_
        refine RXl.exact (.slice A1 l1.length c1) rfl rfl rfl rfl rfl (fun _ _ _ _ _ => rfl) ?_
        refine RXl.exact (.int .i64 l1.length) rfl rfl rfl rfl rfl (fun j τ w' hj hJ => by simp [rho, upd, Spec.val, execOp, go_sem, resolve, invoke, builtin]) ?_
        refine RXl.exact (.bool false) rfl rfl rfl rfl rfl (fun j τ w' hj hJ => by simp [rho, upd, Spec.val, execOp, go_sem]; omega) ?_
        refine RXl.exact (.bool false) rfl rfl rfl rfl rfl (fun _ _ _ _ _ => rfl) ?_
        refine RXl.skip rfl rfl rfl rfl ?_
        refine RXl.skip rfl rfl rfl rfl ?_
        refine RXl.skip rfl rfl rfl rfl ?_
        refine RXl.skip rfl rfl rfl rfl ?_
        refine RXl.exact (.bool false) rfl rfl rfl rfl rfl (fun _ _ _ _ _ => rfl) ?_
        refine RXl.exact (.bool false) rfl rfl rfl rfl rfl (fun _ _ _ _ _ => rfl) ?_
        refine RXl.skip rfl rfl rfl rfl ?_
        refine RXl.skip rfl rfl rfl rfl ?_
        refine RXl.skip rfl rfl rfl rfl ?_
        refine RXl.skip rfl rfl rfl rfl ?_
        refine RXl.skip rfl rfl rfl rfl ?_
        refine RXl.skip rfl rfl rfl rfl ?_
        refine RXl.skip rfl rfl rfl rfl ?_
        refine RXl.skip rfl rfl rfl rfl ?_
        refine RXl.skip rfl rfl rfl rfl ?_
        refine RXl.exact (.bool false) rfl rfl rfl rfl rfl (fun _ _ _ _ _ => rfl) ?_
        refine RXl.nilx _ (Agr.upd _ _ (Agr.upd _ _ (Agr.upd _ _ (Agr.upd _ _ (Agr.upd _ _ (Agr.upd _ _ (Agr.upd _ _ (Agr.upd _ _ (Agr.upd _ _ (Agr.upd _ _ (Agr.upd _ _ (Agr.upd _ _ (Agr.upd _ _ (Agr.upd _ _ (Agr.upd _ _ (Agr.upd _ _ (Agr.upd _ _ (Agr.upd _ _ (Agr.upd _ _ (Agr.upd _ _ (Agr.upd _ _ (Agr.base _)))))))))))))))))))))) fun w3 hJ => ?_
        obtain ⟨_, hJ⟩ := hJ
        simp only [Act.put, List.setIfInBounds_toArray, List.set_cons_succ, List.set_cons_zero]
        have HJ := Lib.hid hJ
        clear hJ
        go_wp2_with fail
        go_ret
        exact ⟨by rw [Hst.out]; rfl, HJ.out⟩
      · have t1 : (n : Int) < (l1.length : Int) := by omega
        go_wp2_with fail
        refine wp_region_rx (fun _ w' => Add w w') [] mixed (by kernel_rfl) (by kernel_rfl) (Hadd.out.trans (Add.drew _)) ?_
        refine RXl.exact (.int .i64 n) rfl rfl rfl rfl rfl (fun _ _ _ _ _ => rfl) ?_
        refine RXl.exact (.slice A1 l1.length c1) rfl rfl rfl rfl rfl (fun _ _ _ _ _ => rfl) ?_
        refine RXl.exact (.int .i64 l1.length) rfl rfl rfl rfl rfl (fun j τ w' hj hJ => by simp [rho, upd, Spec.val, execOp, go_sem, resolve, invoke, builtin]) ?_
        refine RXl.exact (.bool true) rfl rfl rfl rfl rfl (fun j τ w' hj hJ => by simp [rho, upd, Spec.val, execOp, go_sem, t1]) ?_
        refine RXl.exact (.bool true) rfl rfl rfl rfl rfl (fun _ _ _ _ _ => rfl) ?_
        refine RXl.exact (.int .i64 n) rfl rfl rfl rfl rfl (fun _ _ _ _ _ => rfl) ?_
        refine RXl.exact (.slice A2 l2.length c2) rfl rfl rfl rfl rfl (fun _ _ _ _ _ => rfl) ?_
        refine RXl.exact (.int .i64 l2.length) rfl rfl rfl rfl rfl (fun j τ w' hj hJ => by simp [rho, upd, Spec.val, execOp, go_sem, resolve, invoke, builtin]) ?_
        refine RXl.exact (.bool false) rfl rfl rfl rfl rfl (fun j τ w' hj hJ => by simp [rho, upd, Spec.val, execOp, go_sem]; omega) ?_
        refine RXl.exact (.bool false) rfl rfl rfl rfl rfl (fun _ _ _ _ _ => rfl) ?_
        refine RXl.exact (.bool false) rfl rfl rfl rfl rfl (fun _ _ _ _ _ => rfl) ?_
        refine RXl.skip rfl rfl rfl rfl ?_
        refine RXl.skip rfl rfl rfl rfl ?_
        refine RXl.skip rfl rfl rfl rfl ?_
        refine RXl.skip rfl rfl rfl rfl ?_
        refine RXl.skip rfl rfl rfl rfl ?_
        refine RXl.skip rfl rfl rfl rfl ?_
        refine RXl.skip rfl rfl rfl rfl ?_
        refine RXl.skip rfl rfl rfl rfl ?_
        refine RXl.skip rfl rfl rfl rfl ?_
        refine RXl.exact (.bool false) rfl rfl rfl rfl rfl (fun _ _ _ _ _ => rfl) ?_
        refine RXl.nilx _ (Agr.upd _ _ (Agr.upd _ _ (Agr.upd _ _ (Agr.upd _ _ (Agr.upd _ _ (Agr.upd _ _ (Agr.upd _ _ (Agr.upd _ _ (Agr.upd _ _ (Agr.upd _ _ (Agr.upd _ _ (Agr.upd _ _ (Agr.upd _ _ (Agr.upd _ _ (Agr.upd _ _ (Agr.upd _ _ (Agr.upd _ _ (Agr.upd _ _ (Agr.upd _ _ (Agr.upd _ _ (Agr.upd _ _ (Agr.base _)))))))))))))))))))))) fun w3 hJ => ?_
        obtain ⟨_, hJ⟩ := hJ
        simp only [Act.put, List.setIfInBounds_toArray, List.set_cons_succ, List.set_cons_zero]
        have HJ := Lib.hid hJ
        clear hJ
        go_wp2_with fail
        go_ret
        exact ⟨by rw [Hst.out]; rfl, HJ.out⟩
end Go.Proofs.Ytkkkncchinejmaa.TrV
