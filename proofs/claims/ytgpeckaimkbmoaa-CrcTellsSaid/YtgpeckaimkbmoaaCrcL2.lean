/- The law CrcTells, walked. -/
import Derived.Test.YtgpeckaimkbmoaaCrcW
namespace Go.Proofs.Ytgpeckaimkbmoaa.CrcL2
open Go Go.RowKit Go.Proofs.Ytgpeckaimkbmoaa Go.Proofs.Ytgpeckaimkbmoaa.Sp Go.Proofs.Ytgpeckaimkbmoaa.CrcM Go.Proofs.Ytgpeckaimkbmoaa.Reg Go.Proofs.Ytgpeckaimkbmoaa.CrcW


set_option maxHeartbeats 800000 in
set_option maxRecDepth 100000 in
theorem walkRow (a : Option Addr) (c : Nat) (bs : List UInt8) (n r x : Int) (w : World) (h : BS w (.slice a bs.length c) bs) (_y : bs.length * 1 ≤ 140737488351232) (_wn : (Lit.int .i64 n).wf = true)
    (wr : (Lit.int .u32 r).wf = true) (wx : (Lit.int .u8 x).wf = true) :
    Calls Try.prog 4 #[.slice a bs.length c, .int .i64 n, .int .u32 r, .int .u8 x] w fun e w' => e = .returned (.bool true) ∧ Below w.heap.size w w' := by
  obtain ⟨R, rfl⟩ : ∃ R : BitVec 32, r = (R.toNat : Int) := by
    have : 0 ≤ r ∧ r ≤ 4294967295 := by simpa [Lit.wf, IntKind.min, IntKind.max, IntKind.signed, IntKind.bits] using wr
    exact ⟨BitVec.ofNat 32 r.toNat, by rw [BitVec.toNat_ofNat, Nat.mod_eq_of_lt (by omega)]; omega⟩
  obtain ⟨X, rfl⟩ : ∃ X : UInt8, x = (X.toNat : Int) := by
    have : 0 ≤ x ∧ x ≤ 255 := by simpa [Lit.wf, IntKind.min, IntKind.max, IntKind.signed, IntKind.bits] using wx
    exact ⟨UInt8.ofNat x.toNat, by rw [UInt8.toNat_ofNat', Nat.mod_eq_of_lt (by omega)]; omega⟩
  have HB := Lib.hid h
  clear h wr wx
  by_cases hlen : 1000 < bs.length
  · go_enter Try.func4, Try.ntmps4
    go_wp2_with fail
    refine (awake_calls _).mono ?_
    rintro e w1 ⟨rfl, h1⟩
    go_wp2_with fail
    go_ret
    exact ⟨rfl, h1⟩
  · obtain ⟨k, hk, hk2⟩ : ∃ k : Nat, n % 65536 % ((bs.length : Int) + 1) = (k : Int) ∧ k ≤ bs.length := by
      have h1 := Int.emod_nonneg (n % 65536) (show ((bs.length : Int) + 1) ≠ 0 by omega)
      have h2 := Int.emod_lt_of_pos (n % 65536) (show (0 : Int) < (bs.length : Int) + 1 by omega)
      exact ⟨(n % 65536 % (bs.length + 1)).toNat, by omega, by omega⟩
    have m16 := and_m16 n
    have hs : (convert 22 9 (.slice a bs.length c)).run Try.prog w = .ok (str bs) w := run_str Try.underlying22 Try.underlying5 Try.underlying9 HB.out
    have hl2 : bs.length ≤ maxLen := by unfold maxLen; omega
    go_enter Try.func4, Try.ntmps4
    go_wp2_with (go_at_call 18; refine (refSum_callsL bs _ hl2).mono ?_; rintro e w1 ⟨rfl, h1⟩; have H1 := Lib.hid h1; clear h1)
    clear m16 hs
    have hb : ∀ w', Add w1 w' → BS w' (.slice a bs.length c) bs := fun w' ha => (HB.out.below H1.out).below ha
    refine wp_region_rs mixed (by kernel_rfl) ?_
    refine RSl.exact (.slice a bs.length c) rfl rfl rfl rfl (fun _ _ => rfl) ?_
    refine RSl.callx (rv (sum bs)) _ [.slice a bs.length c] [.tmp 24] _ rfl rfl rfl rfl rfl (fun _ => rfl) (fun w' ha => sum_callsB (hb w' ha)) ?_
    refine RSl.exact (rv (sum bs)) rfl rfl rfl rfl (fun _ _ => rfl) ?_
    refine RSl.exact (.bool true) rfl rfl rfl rfl (fun w' ha => by simp [rho, upd, Spec.val, execOp, go_sem]) ?_
    refine RSl.exact (.bool true) rfl rfl rfl rfl (fun _ _ => rfl) ?_
    refine RSl.exact (.slice a bs.length c) rfl rfl rfl rfl (fun _ _ => rfl) ?_
    refine RSl.exact (.int .i64 ↑k) rfl rfl rfl rfl (fun _ _ => rfl) ?_
    refine RSl.value (.so (fun v w => BS w v (bs.take k))) (Stab.bs _) rfl rfl rfl (fun ρ w' ha hag => slice_bs (ρ := ρ) (x := .tmp 29) (lo := none) (hi := some (.tmp 30)) tB rfl (by rw [hag.ex 29 (.slice a bs.length c) rfl rfl rfl]; exact hb w' ha) 0 k (.inl ⟨rfl, rfl⟩) (.inr ⟨_, congrArg some (hag.ex 30 (.int .i64 ↑k) rfl rfl rfl)⟩) (Nat.zero_le _) hk2 _ (by simp)) ?_
    refine RSl.exact (.slice a bs.length c) rfl rfl rfl rfl (fun _ _ => rfl) ?_
    refine RSl.exact (.int .i64 ↑k) rfl rfl rfl rfl (fun _ _ => rfl) ?_
    refine RSl.value (.so (fun v w => BS w v (bs.drop k))) (Stab.bs _) rfl rfl rfl (fun ρ w' ha hag => slice_bs (ρ := ρ) (x := .tmp 32) (lo := some (.tmp 33)) (hi := none) tB rfl (by rw [hag.ex 32 (.slice a bs.length c) rfl rfl rfl]; exact hb w' ha) k bs.length (.inr ⟨_, congrArg some (hag.ex 33 (.int .i64 ↑k) rfl rfl rfl)⟩) (.inl ⟨rfl, rfl⟩) hk2 (Nat.le_refl _) _ (by rw [List.take_of_length_le (by simp)])) ?_
    refine RSl.value (.so (fun v w => BSS w v [bs.take k, bs.drop k])) (Stab.bss _) rfl rfl rfl (fun ρ w' ha hag => build_bss (e := 22) rfl [ρ (.tmp 31), ρ (.tmp 34)] [bs.take k, bs.drop k] rfl (fun w => by obtain ⟨x1, x2, e1, _⟩ := hag.so 31 _ rfl rfl rfl; obtain ⟨x3, x4, e2, _⟩ := hag.so 34 _ rfl rfl rfl; simp [e1, e2, go_sem]) (fun i hi => match i, hi with | 0, _ => ⟨_, rfl, hag.so 31 _ rfl rfl rfl⟩ | 1, _ => ⟨_, rfl, hag.so 34 _ rfl rfl rfl⟩) (by simp [maxLen])) ?_
    refine RSl.callS (.ex (rv (sum bs))) (Stab.ex _) _ rfl rfl rfl (fun ρ w' ha hag => ⟨_, exec_go hag.2.2.2 _ [.tmp 35] _ rfl _ rfl rfl, exOf (by have := many_callsB (hag.so 35 _ rfl rfl rfl); simpa using this)⟩) ?_
    refine RSl.exact (rv (sum bs)) rfl rfl rfl rfl (fun _ _ => rfl) ?_
    refine RSl.exact (.bool true) rfl rfl rfl rfl (fun w' ha => by simp [rho, upd, Spec.val, execOp, go_sem]) ?_
    refine RSl.exact (.bool true) rfl rfl rfl rfl (fun _ _ => rfl) ?_
    refine RSl.exact (.bool true) rfl rfl rfl rfl (fun _ _ => rfl) ?_
    refine RSl.exact (rv R) rfl rfl rfl rfl (fun _ _ => rfl) ?_
    refine RSl.exact (bv X) rfl rfl rfl rfl (fun _ _ => rfl) ?_
    refine RSl.callx (rv (stepB R X)) _ [rv R, bv X] [.tmp 41, .tmp 42] _ rfl rfl rfl rfl rfl (fun _ => rfl) (fun w' ha => add_of_eq (step_calls R X w')) ?_
    refine RSl.exact (rv R) rfl rfl rfl rfl (fun _ _ => rfl) ?_
    refine RSl.exact (bv X) rfl rfl rfl rfl (fun _ _ => rfl) ?_
    refine RSl.callx (rv (stepB R X)) _ [rv R, bv X] [.tmp 44, .tmp 45] _ rfl rfl rfl rfl rfl (fun _ => rfl) (fun w' ha => add_of_eq (refStep_calls R X w')) ?_
    refine RSl.exact (.bool true) rfl rfl rfl rfl (fun w' ha => by simp [rho, upd, Spec.val, execOp, go_sem]) ?_
    refine RSl.exact (.bool true) rfl rfl rfl rfl (fun _ _ => rfl) ?_
    refine RSl.exact (.bool true) rfl rfl rfl rfl (fun _ _ => rfl) ?_
    refine RSl.callx (.bool true) _ [] [] _ rfl rfl rfl rfl rfl (fun _ => rfl) (fun w' ha => awake_calls w') ?_
    refine RSl.exact (.bool true) rfl rfl rfl rfl (fun _ _ => rfl) ?_
    refine RSl.exact (.bool true) rfl rfl rfl rfl (fun _ _ => rfl) ?_
    refine RSl.nil fun a' w' ha hd hs hh => ?_
    obtain ⟨tm, df⟩ := a'
    have hd : df = [] := hd
    subst hd
    have h4 : tm.getD 8 undef = .bool true := hh 8 (by simp)
    clear hh
    go_wp2_with fail
    refine bodyPost_ret (results_tmp rfl _ _ _) rfl ?_
    rw [h4]
    exact ⟨rfl, Add.trans H1.out ha⟩
end Go.Proofs.Ytgpeckaimkbmoaa.CrcL2
