/- The law CrcSteps, walked. -/
import Derived.Test.YtgpeckaimkbmoaaCrcW
namespace Go.Proofs.Ytgpeckaimkbmoaa.CrcL1
open Go Go.RowKit Go.Proofs.Ytgpeckaimkbmoaa Go.Proofs.Ytgpeckaimkbmoaa.Sp Go.Proofs.Ytgpeckaimkbmoaa.CrcM Go.Proofs.Ytgpeckaimkbmoaa.Reg Go.Proofs.Ytgpeckaimkbmoaa.CrcW

theorem tB : SlT Try.prog 22 5 1 1 (.int .u8 0) := ⟨Try.underlying22, info_parts (by kernel_rfl), rfl, by decide⟩
theorem mixed : Try.prog.follows .mixedOrders = true := by kernel_rfl

set_option maxHeartbeats 800000 in
set_option maxRecDepth 100000 in
theorem walk (a : Option Addr) (c : Nat) (bs : List UInt8) (n : Int) (w : World) (h : BS w (.slice a bs.length c) bs) :
    Calls Try.prog 3 #[.slice a bs.length c, .int .i64 n] w fun e w' => e = .returned (.bool true) ∧ Add w w' := by
  have HB := Lib.hid h
  clear h
  by_cases hlen : 200 < bs.length
  · go_enter Try.func3, Try.ntmps3
    go_wp2_with fail
    refine (awake_calls _).mono ?_
    rintro e w1 ⟨rfl, h1⟩
    go_wp2_with fail
    go_ret
    exact ⟨rfl, h1⟩
  · go_enter Try.func3, Try.ntmps3
    go_wp2_with fail
    go_loop [5, 6] (fun v i => ∃ k : Nat, k ≤ bs.length ∧ i = .int .i64 k ∧ v = rv (fold ones (bs.take k))) (fun _ i => bs.length - (intOf i).toNat)
    case atStart => exact ⟨0, by omega, rfl, rfl⟩
    case round =>
      obtain ⟨k, hk, rfl, rfl⟩ := hrel
      by_cases hlt : k < bs.length
      · obtain ⟨_, _, _, _, hr⟩ := HB.out.rd
        obtain ⟨b, off, rfl, hc⟩ := hr.at (by intro h; simp at h; simp [h] at hlt)
        have hcell := hc k _ (bvs_get hlt)
        have H := Lib.hid (fold_take_succ ones bs k hlt)
        clear hc hr
        go_wp2_with (go_at_call 16; refine (step_calls _ _ _).mono ?_; rintro e w' ⟨rfl, rfl⟩)
        go_round
        case rel => exact ⟨k + 1, by omega, by go_num, by rw [H.out]⟩
        case measure => simp [intOf]; omega
      · obtain rfl : k = bs.length := by omega
        rw [List.take_length]
        clear hlt hk
        obtain ⟨m, hm, hm32⟩ : ∃ m : Nat, bits .and .i64 n 31 = (m : Int) ∧ m < 32 := ⟨(n % 32).toNat, by rw [and_m5]; omega, by omega⟩
        go_wp2_with (first | (at_make; go_must (refine wpl_make1 rfl _ _ rfl tB rfl (St.init w) .i64 .i64 (m + 1) (m + 1) (by go_num) (by go_num) (Nat.le_refl _) (by unfold maxLen; omega) (by omega) ?_); intro g w1 s1; have s1' := Lib.hid s1; clear s1) | (at_builtin; go_must (refine wpl_append rfl _ _ rfl tB s1'.out a bs.length c (bvs bs) rfl rfl (HB.out.st rfl s1'.out).rd.2.2.2.2 HB.out.rd.2.2.2.1 (by simp) (bvs_one _) (by unfold maxLen; omega) (by omega) ?_); intro v2 w2 s2 hv2; have S2 := Lib.hid s2; have V2 := Lib.hid hv2; clear s2 hv2 s1'))
        have hnil : v2 ≠ .slice none 0 0 := fun e => by have := (V2.out.1 e).1; cases this
        obtain ⟨_, za, cz, hz, hzc, sz⟩ := S2.out.rowBS (List.replicate (m + 1) 0 ++ bs) (by rw [bvs_zeros]; simp [bvs])
        have hzl : (List.replicate (m + 1) (0 : UInt8) ++ bs).length = m + 1 + bs.length := by simp
        rw [hzl] at hz sz
        subst hz
        have S2' := Lib.hid S2.out
        have hb : ∀ w', Add w2 w' → BS w' (.slice a bs.length c) bs := fun w' ha => (HB.out.st rfl S2'.out).below ha
        have hz : ∀ w', Add w2 w' → BS w' (.slice za (m + 1 + bs.length) cz) (List.replicate (m + 1) 0 ++ bs) := fun w' ha => sz.below ha
        have hadd : Add w w2 := S2'.out.below
        clear S2 S2' sz V2 hnil hzc
        refine wp_region_rs mixed (by kernel_rfl) ?_
        refine RSl.exact (.slice a bs.length c) rfl rfl rfl rfl (fun _ _ => rfl) ?_
        refine RSl.callx (rv (sum bs)) _ [.slice a bs.length c] [.tmp 31] _ rfl rfl rfl rfl rfl (fun _ => rfl) (fun w' ha => sum_callsB (hb w' ha)) ?_
        refine RSl.exact (rv (fold ones bs)) rfl rfl rfl rfl (fun _ _ => rfl) ?_
        refine RSl.exact (rv (sum bs)) rfl rfl rfl rfl (fun w' ha => by simp [rho, upd, Spec.val, execOp, go_sem]; exact compl_int _) ?_
        refine RSl.exact (.bool true) rfl rfl rfl rfl (fun w' ha => by simp [rho, upd, Spec.val, execOp, go_sem]) ?_
        refine RSl.exact (.bool true) rfl rfl rfl rfl (fun _ _ => rfl) ?_
        refine RSl.exact (.slice za (m + 1 + bs.length) cz) rfl rfl rfl rfl (fun _ _ => rfl) ?_
        refine RSl.callx (rv (sum (List.replicate (m + 1) 0 ++ bs))) _ [.slice za (m + 1 + bs.length) cz] [.tmp 37] _ rfl rfl rfl rfl rfl (fun _ => rfl) (fun w' ha => sum_callsB (hz w' ha)) ?_
        refine RSl.exact (.slice za (m + 1 + bs.length) cz) rfl rfl rfl rfl (fun _ _ => rfl) ?_
        refine RSl.exact (str (List.replicate (m + 1) 0 ++ bs)) rfl rfl rfl rfl (fun w' ha => exec_convert rfl (run_str Try.underlying22 Try.underlying5 Try.underlying9 (hz w' ha))) ?_
        refine RSl.callx (rv (sum (List.replicate (m + 1) 0 ++ bs))) _ [str (List.replicate (m + 1) 0 ++ bs)] [.tmp 40] _ rfl rfl rfl rfl rfl (fun _ => rfl) (fun w' ha => refSum_callsL _ w' (by rw [hzl]; unfold maxLen; omega)) ?_
        refine RSl.exact (.bool true) rfl rfl rfl rfl (fun w' ha => by simp [rho, upd, Spec.val, execOp, go_sem]) ?_
        refine RSl.exact (.bool true) rfl rfl rfl rfl (fun _ _ => rfl) ?_
        refine RSl.exact (.bool true) rfl rfl rfl rfl (fun _ _ => rfl) ?_
        refine RSl.exact (.int .i64 (↑m + 1)) rfl rfl rfl rfl (fun _ _ => rfl) ?_
        refine RSl.value (.so (fun v w => BS w v (List.replicate (m + 1) 0))) (Stab.bs _) rfl rfl rfl (fun ρ w' _ hag => make_bs tB rfl .i64 .i64 (m + 1) (hag.ex 45 (.int .i64 (↑m + 1)) rfl rfl rfl) (hag.ex 45 (.int .i64 (↑m + 1)) rfl rfl rfl) (by omega)) ?_
        refine RSl.exact (.slice a bs.length c) rfl rfl rfl rfl (fun _ _ => rfl) ?_
        refine RSl.value (.so (fun v w => BSS w v [List.replicate (m + 1) 0, bs])) (Stab.bss _) rfl rfl rfl (fun ρ w' ha hag => build_bss (e := 22) rfl [ρ (.tmp 46), .slice a bs.length c] [List.replicate (m + 1) 0, bs] rfl (fun w => by have e47 := hag.ex 47 (.slice a bs.length c) rfl rfl rfl; obtain ⟨x1, x2, e46, _⟩ := hag.so 46 _ rfl rfl rfl; simp [e46, e47, go_sem]) (fun i hi => match i, hi with | 0, _ => ⟨_, rfl, hag.so 46 _ rfl rfl rfl⟩ | 1, _ => ⟨_, rfl, hb w' ha⟩) (by simp [maxLen])) ?_
        refine RSl.callS (.ex (rv (sum (List.replicate (m + 1) 0 ++ bs)))) (Stab.ex _) _ rfl rfl rfl (fun ρ w' ha hag => ⟨_, exec_go hag.2.2.2 _ [.tmp 48] _ rfl _ rfl rfl, exOf (by have := many_callsB (hag.so 48 _ rfl rfl rfl); simpa using this)⟩) ?_
        refine RSl.exact (.slice za (m + 1 + bs.length) cz) rfl rfl rfl rfl (fun _ _ => rfl) ?_
        refine RSl.callx (rv (sum (List.replicate (m + 1) 0 ++ bs))) _ [.slice za (m + 1 + bs.length) cz] [.tmp 50] _ rfl rfl rfl rfl rfl (fun _ => rfl) (fun w' ha => sum_callsB (hz w' ha)) ?_
        refine RSl.exact (.bool true) rfl rfl rfl rfl (fun w' ha => by simp [rho, upd, Spec.val, execOp, go_sem]) ?_
        refine RSl.exact (.bool true) rfl rfl rfl rfl (fun _ _ => rfl) ?_
        refine RSl.exact (.bool true) rfl rfl rfl rfl (fun _ _ => rfl) ?_
        refine RSl.exact (.int .i64 (↑m + 1)) rfl rfl rfl rfl (fun _ _ => rfl) ?_
        refine RSl.value (.so (fun v w => BS w v (List.replicate (m + 1) 0))) (Stab.bs _) rfl rfl rfl (fun ρ w' _ hag => make_bs tB rfl .i64 .i64 (m + 1) (hag.ex 55 (.int .i64 (↑m + 1)) rfl rfl rfl) (hag.ex 55 (.int .i64 (↑m + 1)) rfl rfl rfl) (by omega)) ?_
        refine RSl.callS (.ex (rv (sum (List.replicate (m + 1) 0)))) (Stab.ex _) _ rfl rfl rfl (fun ρ w' ha hag => ⟨_, exec_go hag.2.2.2 _ [.tmp 56] _ rfl _ rfl rfl, exOf (sum_callsB (hag.so 56 _ rfl rfl rfl))⟩) ?_
        refine RSl.exact (.int .i64 (↑m + 1)) rfl rfl rfl rfl (fun _ _ => rfl) ?_
        refine RSl.exact (.int .i64 (↑m + 1 + 1)) rfl rfl rfl rfl (fun w' ha => by simp [rho, upd, Spec.val, execOp, go_sem]; rw [IntKind.wrap_i64]; omega) ?_
        refine RSl.value (.so (fun v w => BS w v (List.replicate (m + 1 + 1) 0))) (Stab.bs _) rfl rfl rfl (fun ρ w' _ hag => make_bs tB rfl .i64 .i64 (m + 1 + 1) (hag.ex 59 (.int .i64 (↑m + 1 + 1)) rfl rfl rfl) (hag.ex 59 (.int .i64 (↑m + 1 + 1)) rfl rfl rfl) (by omega)) ?_
        refine RSl.callS (.ex (rv (sum (List.replicate (m + 1 + 1) 0)))) (Stab.ex _) _ rfl rfl rfl (fun ρ w' ha hag => ⟨_, exec_go hag.2.2.2 _ [.tmp 60] _ rfl _ rfl rfl, exOf (sum_callsB (hag.so 60 _ rfl rfl rfl))⟩) ?_
        refine RSl.exact (.bool true) rfl rfl rfl rfl (fun w' ha => by have hne := zeros_unlike ⟨m + 1, by omega⟩ (by simp); simp [rho, upd, Spec.val, execOp, go_sem]; intro e; exact hne (BitVec.eq_of_toNat_eq (Int.ofNat.inj e))) ?_
        refine RSl.exact (.bool true) rfl rfl rfl rfl (fun _ _ => rfl) ?_
        refine RSl.exact (.bool true) rfl rfl rfl rfl (fun _ _ => rfl) ?_
        refine RSl.callx (.bool true) _ [] [] _ rfl rfl rfl rfl rfl (fun _ => rfl) (fun w' ha => awake_calls w') ?_
        refine RSl.exact (.bool true) rfl rfl rfl rfl (fun _ _ => rfl) ?_
        refine RSl.exact (.bool true) rfl rfl rfl rfl (fun _ _ => rfl) ?_
        refine RSl.nil fun a' w' ha hd hs hh => ?_
        obtain ⟨tm, df⟩ := a'
        have hd : df = [] := hd
        subst hd
        have h4 : tm.getD 4 undef = .bool true := hh 4 (by simp)
        clear hh
        go_wp2_with fail
        refine bodyPost_ret (results_tmp rfl _ _ _) rfl ?_
        rw [h4]
        exact ⟨rfl, hadd.trans ha⟩
end Go.Proofs.Ytgpeckaimkbmoaa.CrcL1
namespace Go.Proofs.Ytgpeckaimkbmoaa.CrcL1
open Go Go.RowKit Go.Proofs.Ytgpeckaimkbmoaa Go.Proofs.Ytgpeckaimkbmoaa.Sp
theorem walkRow (a : Option Addr) (c : Nat) (bs : List UInt8) (n : Int) (w : World) (h : BS w (.slice a bs.length c) bs) (_y : bs.length * 1 ≤ 140737488351232) (_wn : (Lit.int .i64 n).wf = true) :
    Calls Try.prog 3 #[.slice a bs.length c, .int .i64 n] w fun e w' => e = .returned (.bool true) ∧ Below w.heap.size w w' :=
  walk a c bs n w h
end Go.Proofs.Ytgpeckaimkbmoaa.CrcL1
