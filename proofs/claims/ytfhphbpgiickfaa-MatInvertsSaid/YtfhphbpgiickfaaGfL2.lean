/- GfTells, GfDots, walked. -/
import Derived.Test.YtfhphbpgiickfaaGfL1
import Derived.Test.YtfhphbpgiickfaaGfS
namespace Go.Proofs.Ytfhphbpgiickfaa.Gf
open Go Go.RowKit Go.Proofs.Ytfhphbpgiickfaa Go.Proofs.Ytfhphbpgiickfaa.Sp Go.Proofs.Ytfhphbpgiickfaa.Reg Go.Proofs.Ytfhphbpgiickfaa.Rd
theorem i64_wf {n : Int} (h : (Lit.int .i64 n).wf = true) : -9223372036854775808 ≤ n ∧ n ≤ 9223372036854775807 := by
  simpa [Lit.wf, IntKind.min, IntKind.max, IntKind.signed, IntKind.bits] using h
theorem gok_int (a : UInt8) : ((a.toNat : Int) != 0) = gok a := by
  unfold gok
  by_cases h : a = 0
  · subst h; rfl
  · have := u8_pos h
    simp [h]
    omega
theorem awakex {B : Nat} {w0 : World} {H : HP} (w : World) (s : St B w0 w H) : Calls Try.prog 19 #[] w (RetG B w0 H (.bool true)) :=
  (awake_calls w).mono fun _ _ ⟨h1, h2⟩ => ⟨h1, s.keep h2⟩
set_option maxRecDepth 100000 in
set_option maxHeartbeats 8000000 in
theorem tells_walk (x y : UInt8) (n : Int) (w0 : World) (wn : (Lit.int .i64 n).wf = true) : Calls Try.prog 5 #[bv x, bv y, .int .i64 n] w0 fun e w' => e = .returned (.bool true) ∧ Below w0.heap.size w0 w' := by
  have hn := i64_wf wn
  have g1 := gok_int x
  have g2 := gok_int y
  clear wn
  go_enter Try.func5, Try.ntmps5
  go_wp2_with fail
  refine (newx _ (St.init w0)).mono ?_
  rintro e w1 ⟨b, rfl, s⟩
  have S := Lib.hid s
  clear s
  go_wp2_with fail
  refine (invx b x _ S.out).mono ?_
  rintro e wq ⟨rfl, sq⟩
  clear S
  have S := Lib.hid sq
  clear sq
  go_wp2_with fail
  refine (divx b x y _ S.out).mono ?_
  rintro e wq ⟨rfl, sq⟩
  clear S
  have S := Lib.hid sq
  clear sq
  go_wp2_with fail
  refine (mulx b x y _ S.out).mono ?_
  rintro e wq ⟨rfl, sq⟩
  clear S
  have S := Lib.hid sq
  clear sq
  go_wp2_with fail
  refine (rmul_calls x y _).mono ?_
  rintro e wq ⟨rfl, rfl⟩
  go_wp2_with fail
  refine (rinv_calls x _).mono ?_
  rintro e wq ⟨rfl, rfl⟩
  go_wp2_with fail
  refine (rinv_calls y _).mono ?_
  rintro e wq ⟨rfl, rfl⟩
  go_wp2_with fail
  refine (rmul_calls x (ginv y) _).mono ?_
  rintro e wq ⟨rfl, rfl⟩
  go_wp2_with fail
  refine (powx b x n _ hn S.out).mono ?_
  rintro e wq ⟨rfl, sq⟩
  clear S
  have S := Lib.hid sq
  clear sq
  go_wp2_with fail
  refine (rpow_calls x n _ hn).mono ?_
  rintro e wq ⟨rfl, rfl⟩
  go_wp2_with fail
  refine (awakex _ S.out).mono ?_
  rintro e wq ⟨rfl, sq⟩
  clear S
  have S := Lib.hid sq
  clear sq
  go_wp2_with fail
  go_ret
  exact ⟨rfl, S.out.below⟩
set_option maxRecDepth 100000 in
set_option maxHeartbeats 8000000 in
theorem dots_walk (a : Option Addr) (ca : Nat) (la : List UInt8) (a2 : Option Addr) (cb : Nat) (lb : List UInt8) (w0 : World) (ha : BS w0 (.slice a la.length ca) la) (hsa : la.length * 1 ≤ 140737488351232)
    (hb : BS w0 (.slice a2 lb.length cb) lb) (hsb : lb.length * 1 ≤ 140737488351232) :
    Calls Try.prog 7 #[.slice a la.length ca, .slice a2 lb.length cb] w0 fun e w' => e = .returned (.bool true) ∧ Below w0.heap.size w0 w' := by
  have HA := Lib.hid ha
  have HB := Lib.hid hb
  clear ha hb
  by_cases h1 : 200 < la.length
  · have k1 : (200 : Int) < (la.length : Int) := by omega
    clear h1
    go_enter Try.func7, Try.ntmps7
    go_wp2_with fail
    refine (newx _ (St.init w0)).mono ?_
    rintro e w1 ⟨b, rfl, s⟩
    have S := Lib.hid s
    clear s
    go_wp2_with fail
    refine (awakex _ S.out).mono ?_
    rintro e wq ⟨rfl, sq⟩
    clear S
    have S := Lib.hid sq
    clear sq
    go_wp2_with fail
    go_ret
    exact ⟨rfl, S.out.below⟩
  · have k1 : (la.length : Int) ≤ 200 := by omega
    clear h1
    by_cases h2 : 200 < lb.length
    · have k2 : (200 : Int) < (lb.length : Int) := by omega
      clear h2
      go_enter Try.func7, Try.ntmps7
      go_wp2_with fail
      refine (newx _ (St.init w0)).mono ?_
      rintro e w1 ⟨b, rfl, s⟩
      have S := Lib.hid s
      clear s
      go_wp2_with fail
      refine (awakex _ S.out).mono ?_
      rintro e wq ⟨rfl, sq⟩
      clear S
      have S := Lib.hid sq
      clear sq
      go_wp2_with fail
      go_ret
      exact ⟨rfl, S.out.below⟩
    · have k2 : (lb.length : Int) ≤ 200 := by omega
      clear h2
      go_enter Try.func7, Try.ntmps7
      go_wp2_with fail
      refine (newx _ (St.init w0)).mono ?_
      rintro e w1 ⟨b, rfl, s⟩
      have S := Lib.hid s
      clear s
      go_wp2_with fail
      have hg := gdot_comm lb la
      have HG := Lib.hid hg
      clear hg
      refine wp_region_rx (fun _ w' => St w0.heap.size w0 w' (fx b * emp)) [] mixed (by kernel_rfl) (by kernel_rfl) S.out.drew ?_
      refine RXl.exact (.pointer (some ⟨b, 0, none⟩)) rfl rfl rfl rfl rfl (fun _ _ _ _ _ => rfl) ?_
      refine RXl.exact (.slice a la.length ca) rfl rfl rfl rfl rfl (fun _ _ _ _ _ => rfl) ?_
      refine RXl.exact (.slice a2 lb.length cb) rfl rfl rfl rfl rfl (fun _ _ _ _ _ => rfl) ?_
      refine RXl.callr (bv (gdot la lb)) _ [.pointer (some ⟨b, 0, none⟩), .slice a la.length ca, .slice a2 lb.length cb] [.tmp 24, .tmp 25, .tmp 26] _ rfl rfl rfl rfl rfl rfl (fun _ => rfl) (fun j τ w' hj hJ => dotx b la lb a la.length ca a2 lb.length cb w' (reads_arg _ HA.out) (reads_arg _ HB.out) (by omega) (by omega) hJ) ?_
      refine RXl.exact (.slice a la.length ca) rfl rfl rfl rfl rfl (fun _ _ _ _ _ => rfl) ?_
      refine RXl.exact (str la) rfl rfl rfl rfl rfl (fun j τ w' hj hJ => exec_convert rfl (run_str Try.underlying36 Try.underlying5 Try.underlying9 (HA.out.st rfl hJ))) ?_
      refine RXl.exact (.slice a2 lb.length cb) rfl rfl rfl rfl rfl (fun _ _ _ _ _ => rfl) ?_
      refine RXl.exact (str lb) rfl rfl rfl rfl rfl (fun j τ w' hj hJ => exec_convert rfl (run_str Try.underlying36 Try.underlying5 Try.underlying9 (HB.out.st rfl hJ))) ?_
      refine RXl.callr (bv (gdot la lb)) _ [str la, str lb] [.tmp 29, .tmp 31] _ rfl rfl rfl rfl rfl rfl (fun _ => rfl) (fun j τ w' hj hJ => rdotx la lb w' (by omega) (by omega) hJ) ?_
      refine RXl.exact (.bool true) rfl rfl rfl rfl rfl (fun j τ w' hj hJ => by simp [rho, upd, Spec.val, execOp, go_sem]) ?_
      refine RXl.exact (.bool true) rfl rfl rfl rfl rfl (fun _ _ _ _ _ => rfl) ?_
      refine RXl.exact (.pointer (some ⟨b, 0, none⟩)) rfl rfl rfl rfl rfl (fun _ _ _ _ _ => rfl) ?_
      refine RXl.exact (.slice a2 lb.length cb) rfl rfl rfl rfl rfl (fun _ _ _ _ _ => rfl) ?_
      refine RXl.exact (.slice a la.length ca) rfl rfl rfl rfl rfl (fun _ _ _ _ _ => rfl) ?_
      refine RXl.callr (bv (gdot la lb)) _ [.pointer (some ⟨b, 0, none⟩), .slice a2 lb.length cb, .slice a la.length ca] [.tmp 35, .tmp 36, .tmp 37] _ rfl rfl rfl rfl rfl rfl (fun _ => rfl) (fun j τ w' hj hJ => by rw [← HG.out]; exact dotx b lb la a2 lb.length cb a la.length ca w' (reads_arg _ HB.out) (reads_arg _ HA.out) (by omega) (by omega) hJ) ?_
      refine RXl.exact (.pointer (some ⟨b, 0, none⟩)) rfl rfl rfl rfl rfl (fun _ _ _ _ _ => rfl) ?_
      refine RXl.exact (.slice a la.length ca) rfl rfl rfl rfl rfl (fun _ _ _ _ _ => rfl) ?_
      refine RXl.exact (.slice a2 lb.length cb) rfl rfl rfl rfl rfl (fun _ _ _ _ _ => rfl) ?_
      refine RXl.callr (bv (gdot la lb)) _ [.pointer (some ⟨b, 0, none⟩), .slice a la.length ca, .slice a2 lb.length cb] [.tmp 39, .tmp 40, .tmp 41] _ rfl rfl rfl rfl rfl rfl (fun _ => rfl) (fun j τ w' hj hJ => dotx b la lb a la.length ca a2 lb.length cb w' (reads_arg _ HA.out) (reads_arg _ HB.out) (by omega) (by omega) hJ) ?_
      refine RXl.exact (.bool true) rfl rfl rfl rfl rfl (fun j τ w' hj hJ => by simp [rho, upd, Spec.val, execOp, go_sem]) ?_
      refine RXl.exact (.bool true) rfl rfl rfl rfl rfl (fun _ _ _ _ _ => rfl) ?_
      refine RXl.exact (.bool true) rfl rfl rfl rfl rfl (fun _ _ _ _ _ => rfl) ?_
      refine RXl.exact (.pointer (some ⟨b, 0, none⟩)) rfl rfl rfl rfl rfl (fun _ _ _ _ _ => rfl) ?_
      refine RXl.exact (.slice a la.length ca) rfl rfl rfl rfl rfl (fun _ _ _ _ _ => rfl) ?_
      refine RXl.callr (bv 0) _ [.pointer (some ⟨b, 0, none⟩), .slice a la.length ca, (Value.slice none 0 0)] [.tmp 46, .tmp 47, .const (Value.slice none 0 0)] _ rfl rfl rfl rfl rfl rfl (fun _ => rfl) (fun j τ w' hj hJ => by rw [← gdot_nil la]; exact dotx b la [] a la.length ca none 0 0 w' (reads_arg _ HA.out) (fun w H _ => BS.nil w) (by omega) (by simp) hJ) ?_
      refine RXl.exact (.bool true) rfl rfl rfl rfl rfl (fun j τ w' hj hJ => by simp [rho, upd, Spec.val, execOp, go_sem]) ?_
      refine RXl.exact (.bool true) rfl rfl rfl rfl rfl (fun _ _ _ _ _ => rfl) ?_
      refine RXl.exact (.bool true) rfl rfl rfl rfl rfl (fun _ _ _ _ _ => rfl) ?_
      refine RXl.callr (.bool true) _ [] [] _ rfl rfl rfl rfl rfl rfl (fun _ => rfl) (fun j τ w' hj hJ => awakex w' hJ) ?_
      refine RXl.exact (.bool true) rfl rfl rfl rfl rfl (fun _ _ _ _ _ => rfl) ?_
      refine RXl.exact (.bool true) rfl rfl rfl rfl rfl (fun _ _ _ _ _ => rfl) ?_
      refine RXl.nilx _ (Agr.upd _ _ (Agr.upd _ _ (Agr.upd _ _ (Agr.upd _ _ (Agr.upd _ _ (Agr.upd _ _ (Agr.upd _ _ (Agr.upd _ _ (Agr.upd _ _ (Agr.upd _ _ (Agr.upd _ _ (Agr.upd _ _ (Agr.upd _ _ (Agr.upd _ _ (Agr.upd _ _ (Agr.upd _ _ (Agr.upd _ _ (Agr.upd _ _ (Agr.upd _ _ (Agr.upd _ _ (Agr.upd _ _ (Agr.upd _ _ (Agr.upd _ _ (Agr.upd _ _ (Agr.upd _ _ (Agr.upd _ _ (Agr.upd _ _ (Agr.upd _ _ (Agr.upd _ _ (Agr.upd _ _ (Agr.upd _ _ (Agr.base _)))))))))))))))))))))))))))))))) fun w8 hJ => ?_
      obtain ⟨_, hJ⟩ := hJ
      simp only [Act.put, List.setIfInBounds_toArray, List.set_cons_succ, List.set_cons_zero]
      have S8 := Lib.hid (show St w0.heap.size w0 w8 (fx b * emp) from hJ)
      clear hJ S HA HB
      go_wp2_with fail
      go_ret
      exact ⟨rfl, S8.out.below⟩
end Go.Proofs.Ytfhphbpgiickfaa.Gf
