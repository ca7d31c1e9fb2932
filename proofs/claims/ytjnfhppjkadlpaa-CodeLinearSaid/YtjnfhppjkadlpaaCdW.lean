/- CodeLinear, walked. No condition. -/
import Derived.Test.YtjnfhppjkadlpaaCdV
set_option linter.unusedSimpArgs false
set_option linter.unusedVariables false
namespace Go.Proofs.Ytjnfhppjkadlpaa.Cd
open Go Go.RowKit Go.Proofs.Ytjnfhppjkadlpaa Go.Proofs.Ytjnfhppjkadlpaa.Sp Go.Proofs.Ytjnfhppjkadlpaa.Reg Go.Proofs.Ytjnfhppjkadlpaa.Rd Go.Proofs.Ytjnfhppjkadlpaa.Obr Go.Proofs.Ytjnfhppjkadlpaa.Gf Go.Proofs.Ytjnfhppjkadlpaa.Mt
set_option maxRecDepth 100000 in
set_option maxHeartbeats 32000000 in
theorem linear_in (a0 a1 at_ : Int) (K r : Nat) (hK : 1 ≤ K ∧ K ≤ 14) (hr : 1 ≤ r ∧ r ≤ 4) (e0 : (bits .and .i64 a0 255).tmod 14 = (K : Int) - 1) (e1 : bits .and .i64 a1 3 = (r : Int) - 1)
    (aa : Option Addr) (ca : Nat) (la : List UInt8) (ab : Option Addr) (cb_ : Nat) (lb : List UInt8) (i : Int) (by_ : UInt8) (w0 : World) (HA : Hid (BS w0 (.slice aa la.length ca) la)) (HB : Hid (BS w0 (.slice ab lb.length cb_) lb)) (la1 : (la.length : Int) ≤ 300) (lb1 : (lb.length : Int) ≤ 300) :
    Calls Try.prog 8 #[.int .i64 a0, .int .i64 a1, .int .i64 at_, .slice aa la.length ca, .slice ab lb.length cb_, .int .i64 i, bv by_] w0 fun e w' => e = .returned (.bool true) ∧ Below w0.heap.size w0 w' := by
  go_enter Try.func8, Try.ntmps8
  go_wp2_with fail
  refine (made_calls a0 a1 at_ K r hK hr e0 e1 w0 (St.init w0)).mono ?_
  rintro e w1 ⟨v1, v2, rfl, s1⟩
  obtain ⟨ax, cx, rfl, -⟩ := s1.rowSlice
  obtain ⟨ay, cy, rfl, -⟩ := s1.right.rowSlice
  have HG := Lib.hid (good_m at_ hK hr)
  clear e0 e1
  have l1 := ms_len at_ 0 K
  have l2 := ms_len at_ K r
  generalize ms at_ K r = ys at *
  generalize ms at_ 0 K = xs at *
  subst l1
  subst l2
  go_wp2_with fail
  have s2 := (s1.alloc (.cells #[.slice ax xs.length cx, .slice ay ys.length cy] 51)).eq (Q := mc w1.heap.size ax cx ay cy xs ys) (by unfold mc; rw [sep_emp])
  generalize w1.alloc (.cells #[.slice ax xs.length cx, .slice ay ys.length cy] 51) = w2 at *
  generalize w1.heap.size = bw at *
  clear s1
  have S := Lib.hid s2
  clear s2
  refine wp_region_rv [47, 52, 46, 53, 16] (PJ w0.heap.size w0 (mc bw ax cx ay cy xs ys) CF (CH xs ys (mc bw ax cx ay cy xs ys))) [0, 5, 6, 7, 9] Gf.mixed (by kernel_rfl) (by kernel_rfl) (by kernel_rfl) (fun _ => S.out.drew) ?_
  refine RXl.callV 0 47 rfl rfl rfl (Nat.le_of_ble_eq_true rfl) _ [] _ rfl rfl rfl rfl rfl (PJ.first [] (fun ρ w hag => rfl) (fun _ => rfl) (fun w s => (newx w s).mono fun e w1 ⟨fb, h1, s1⟩ => ⟨(fb, 0), h1, s1⟩)) ?_
  refine RXl.exact (.pointer (some ⟨bw, 0, none⟩)) rfl rfl rfl rfl rfl (fun j τ w' hj hJ => (by obtain ⟨vs, hv, hJ⟩ := hJ; exact (by simp [rho, upd, Spec.val, execOp, go_sem]))) ?_
  refine RXl.exact (.slice ax xs.length cx) rfl rfl rfl rfl rfl (fun j τ w' hj hJ => (by obtain ⟨vs, hv, hJ⟩ := hJ; exact (by obtain ⟨Z, q⟩ := CJ_x hJ; have c := (mc_cells q).1; simp [rho, upd, Spec.val, execOp, go_sem, c]))) ?_
  refine RXl.exact (.pointer (some ⟨bw, 1, none⟩)) rfl rfl rfl rfl rfl (fun j τ w' hj hJ => (by obtain ⟨vs, hv, hJ⟩ := hJ; exact (by simp [rho, upd, Spec.val, execOp, go_sem]))) ?_
  refine RXl.exact (.slice ay ys.length cy) rfl rfl rfl rfl rfl (fun j τ w' hj hJ => (by obtain ⟨vs, hv, hJ⟩ := hJ; exact (by obtain ⟨Z, q⟩ := CJ_x hJ; have c := (mc_cells q).2; simp [rho, upd, Spec.val, execOp, go_sem, c]))) ?_
  refine RXl.callV 1 52 rfl rfl rfl (Nat.le_of_ble_eq_true rfl) _ [.tmp 47, .tmp 49, .tmp 51] _ rfl rfl rfl rfl rfl (CJ_new ax ay cx cy HG.out mc_x mc_y (fun ρ a w h hag => by simp [h 0 47 (by decide) rfl, hag.ex 49 _ rfl rfl rfl, hag.ex 51 _ rfl rfl rfl, CF])) ?_
  refine RXl.effV 2 46 rfl rfl rfl (Nat.le_of_ble_eq_true rfl) rfl rfl rfl rfl (PJ.pass rfl (fun ρ a w h hag s => by have e := h 1 52 (by decide) rfl; exact (exec_move rfl).trans (by rw [e]; rfl))) ?_
  refine RXl.effV 3 53 rfl rfl rfl (Nat.le_of_ble_eq_true rfl) rfl rfl rfl rfl (PJ.pass rfl (fun ρ a w h hag s => by have e := h 2 46 (by decide) rfl; exact exec_extract rfl e rfl)) ?_
  refine RXl.value (.ex (.int .i64 0)) (Free.ex _) rfl rfl rfl rfl (fun ρ w' j hj hI hag => ⟨_, (by obtain ⟨a, e⟩ := PJ.val (hag.so 46 _ rfl rfl rfl); exact exec_extract rfl e rfl), rfl⟩) ?_
  refine RXl.effV 4 16 rfl rfl rfl (Nat.le_of_ble_eq_true rfl) rfl rfl rfl rfl (PJ.pass rfl (fun ρ a w h hag s => by have e := h 3 53 (by decide) rfl; exact (exec_assign rfl).trans (by rw [e]; rfl))) ?_
  refine RXl.exact (.int .i64 0) rfl rfl rfl rfl rfl (fun _ _ _ _ _ => rfl) ?_
  refine RXl.nilV _ (AgrL.upd _ _ (AgrL.unk 16 _ rfl (AgrL.upd _ _ (AgrL.unk 53 _ rfl (AgrL.unk 46 _ rfl (AgrL.unk 52 _ rfl (AgrL.upd _ _ (AgrL.upd _ _ (AgrL.upd _ _ (AgrL.upd _ _ (AgrL.unk 47 _ rfl (AgrL.base _)))))))))))) (by decide) (by decide) fun vs w8 hJ => ?_
  simp only [puts, Act.put, List.setIfInBounds_toArray, List.set_cons_succ, List.set_cons_zero]
  obtain ⟨⟨fb, p⟩, hv, s9⟩ := hJ
  rw [show vs 0 = CF 0 (fb, p) from hv 0 (by decide), show vs 1 = CF 1 (fb, p) from hv 1 (by decide), show vs 2 = CF 2 (fb, p) from hv 2 (by decide), show vs 3 = pp p from hv 3 (by decide), show vs 4 = pp p from hv 4 (by decide)]
  generalize CF 0 (fb, p) = y0
  generalize CF 1 (fb, p) = y1
  generalize CF 2 (fb, p) = y2
  clear S hv vs
  have S := Lib.hid (show St w0.heap.size w0 w8 (fx fb * (cd p fb xs ys * mc bw ax cx ay cy xs ys)) from s9.eq (sep_left_comm _ _ _))
  clear s9
  obtain ⟨hK1, hK2⟩ := hK
  obtain ⟨hr1, hr2⟩ := hr
  have la2 : la.length ≤ 1000000 := by omega
  have lb2 : lb.length ≤ 1000000 := by omega
  go_wp2_with fail
  refine wp_region_rv [65, 70, 18, 19] (PJ w0.heap.size w0 (fx fb * (cd p fb xs ys * mc bw ax cx ay cy xs ys)) DF (DH (dl la 8 xs.length) (dl lb 8 xs.length) (fx fb * (cd p fb xs ys * mc bw ax cx ay cy xs ys)))) [4, 9, 10, 11] Gf.mixed (by kernel_rfl) (by kernel_rfl) (by kernel_rfl) (fun _ => S.out.drew) ?_
  refine RXl.exact (.pointer (some ⟨bw, 0, none⟩)) rfl rfl rfl rfl rfl (fun j τ w' hj hJ => (by obtain ⟨vs, hv, hJ⟩ := hJ; exact (by simp [rho, upd, Spec.val, execOp, go_sem]))) ?_
  refine RXl.exact (.slice ax xs.length cx) rfl rfl rfl rfl rfl (fun j τ w' hj hJ => (by obtain ⟨vs, hv, hJ⟩ := hJ; exact (by obtain ⟨Z, q⟩ := DJ_x hJ; have c := (mc_cells (q.eq (Q := mc bw ax cx ay cy xs ys * (fx fb * (cd p fb xs ys * Z))) (by ac_rfl))).1; simp [rho, upd, Spec.val, execOp, go_sem, c]))) ?_
  refine RXl.exact (.int .i64 (xs.length : Int)) rfl rfl rfl rfl rfl (fun j τ w' hj hJ => (by obtain ⟨vs, hv, hJ⟩ := hJ; exact (by simp [rho, upd, Spec.val, execOp, go_sem]))) ?_
  refine RXl.exact (.slice aa la.length ca) rfl rfl rfl rfl rfl (fun _ _ _ _ _ => rfl) ?_
  refine RXl.callV 0 65 rfl rfl rfl (Nat.le_of_ble_eq_true rfl) _ [.tmp 63, .const (.int .i64 8), .tmp 64] _ rfl rfl rfl rfl rfl (PJ.first [.int .i64 (xs.length : Int), .int .i64 8, .slice aa la.length ca] (fun ρ w hag => by simp [hag.ex 63 _ rfl rfl rfl, hag.ex 64 _ rfl rfl rfl, hag.2.1]) (fun _ => rfl) (fun w s => (dat_x xs.length 8 (by omega) (by omega) aa la.length ca la rfl la2 (reads_arg _ HA.out) s).mono fun e w1 ⟨v, h1, s1⟩ => ⟨(v, v), h1, s1⟩)) ?_
  refine RXl.exact (.pointer (some ⟨bw, 0, none⟩)) rfl rfl rfl rfl rfl (fun j τ w' hj hJ => (by obtain ⟨vs, hv, hJ⟩ := hJ; exact (by simp [rho, upd, Spec.val, execOp, go_sem]))) ?_
  refine RXl.exact (.slice ax xs.length cx) rfl rfl rfl rfl rfl (fun j τ w' hj hJ => (by obtain ⟨vs, hv, hJ⟩ := hJ; exact (by obtain ⟨Z, q⟩ := DJ_x hJ; have c := (mc_cells (q.eq (Q := mc bw ax cx ay cy xs ys * (fx fb * (cd p fb xs ys * Z))) (by ac_rfl))).1; simp [rho, upd, Spec.val, execOp, go_sem, c]))) ?_
  refine RXl.exact (.int .i64 (xs.length : Int)) rfl rfl rfl rfl rfl (fun j τ w' hj hJ => (by obtain ⟨vs, hv, hJ⟩ := hJ; exact (by simp [rho, upd, Spec.val, execOp, go_sem]))) ?_
  refine RXl.exact (.slice ab lb.length cb_) rfl rfl rfl rfl rfl (fun _ _ _ _ _ => rfl) ?_
  refine RXl.callV 1 70 rfl rfl rfl (Nat.le_of_ble_eq_true rfl) _ [.tmp 68, .const (.int .i64 8), .tmp 69] _ rfl rfl rfl rfl rfl (PJ.call (fun a' => [.int .i64 (xs.length : Int), .int .i64 8, .slice ab lb.length cb_]) (fun ρ a' w h hag => by simp [hag.ex 68 _ rfl rfl rfl, hag.ex 69 _ rfl rfl rfl, hag.2.1]) (fun _ _ => rfl) (fun a' w s => (dat_x xs.length 8 (by omega) (by omega) ab lb.length cb_ lb rfl lb2 (reads_arg _ HB.out) (show St w0.heap.size w0 w (obx a'.1 (dl la 8 xs.length) * (fx fb * (cd p fb xs ys * mc bw ax cx ay cy xs ys))) from s)).mono fun e w1 ⟨v, h1, s1⟩ => ⟨(a'.1, v), h1, fun k hk => (by match k, hk with | 0, _ => rfl), s1⟩)) ?_
  refine RXl.effV 2 18 rfl rfl rfl (Nat.le_of_ble_eq_true rfl) rfl rfl rfl rfl (PJ.pass rfl (fun ρ a w h hag s => by have e := h 0 65 (by decide) rfl; exact (exec_assign rfl).trans (by rw [e]; rfl))) ?_
  refine RXl.effV 3 19 rfl rfl rfl (Nat.le_of_ble_eq_true rfl) rfl rfl rfl rfl (PJ.pass rfl (fun ρ a w h hag s => by have e := h 1 70 (by decide) rfl; exact (exec_assign rfl).trans (by rw [e]; rfl))) ?_
  refine RXl.nilV _ (AgrL.unk 19 _ rfl (AgrL.unk 18 _ rfl (AgrL.unk 70 _ rfl (AgrL.upd _ _ (AgrL.upd _ _ (AgrL.upd _ _ (AgrL.upd _ _ (AgrL.unk 65 _ rfl (AgrL.upd _ _ (AgrL.upd _ _ (AgrL.upd _ _ (AgrL.upd _ _ (AgrL.base _))))))))))))) (by decide) (by decide) fun vs w9 hJ => ?_
  simp only [puts, Act.put, List.setIfInBounds_toArray, List.set_cons_succ, List.set_cons_zero]
  obtain ⟨⟨vx, vy⟩, hv, s9⟩ := hJ
  rw [show vs 0 = vx from hv 0 (by decide), show vs 1 = vy from hv 1 (by decide), show vs (0 + 1 + 1) = vx from hv 2 (by decide), show vs (0 + 1 + 1 + 1) = vy from hv 3 (by decide)]
  have s9 : St w0.heap.size w0 w9 (obx vy (dl lb 8 xs.length) * (obx vx (dl la 8 xs.length) * (fx fb * (cd p fb xs ys * mc bw ax cx ay cy xs ys)))) := s9
  clear S hv vs
  obtain ⟨k5, k6⟩ := mc_cells (s9.eq (Q := mc bw ax cx ay cy xs ys * (obx vy (dl lb 8 xs.length) * (obx vx (dl la 8 xs.length) * (fx fb * cd p fb xs ys)))) (by ac_rfl))
  have S := Lib.hid s9
  clear s9
  go_wp2_with fail
  refine (dat_x xs.length 8 (by omega) (by omega) aa la.length ca la rfl la2 (reads_arg _ HA.out) S.out).mono ?_
  rintro e w10 ⟨vz, rfl, s10⟩
  have HX1 := Lib.hid (dl_each la 8 xs.length)
  have HY1 := Lib.hid (dl_each lb 8 xs.length)
  have HX2 := Lib.hid (dl_len la 8 xs.length)
  have HY2 := Lib.hid (dl_len lb 8 xs.length)
  generalize dl la 8 xs.length = X at *
  generalize dl lb 8 xs.length = Y at *
  clear S k5 k6
  obtain ⟨az, cz, rfl⟩ := obx_slice s10
  obtain ⟨ay2, cy2, rfl⟩ := obx_slice s10.right
  obtain ⟨ax2, cx2, rfl⟩ := obx_slice s10.right.right
  rw [HX2.out, HY2.out] at s10
  rw [HX2.out, HY2.out]
  have S := Lib.hid s10
  clear s10
  go_wp2_with fail
  go_loopw [21] (fun qi wr => ∃ q : Nat, q ≤ xs.length ∧ qi = .int .i64 (q : Int) ∧ St w0.heap.size w0 wr (obx (.slice az xs.length cz) (Zr X Y q) * (obx (.slice ay2 xs.length cy2) Y * (obx (.slice ax2 xs.length cx2) X * (fx fb * (cd p fb xs ys * mc bw ax cx ay cy xs ys)))))) (fun qi _ => xs.length - (intOf qi).toNat)
  case atStart => exact ⟨0, Nat.zero_le _, rfl, by rw [Zr_zero]; exact S.out⟩
  case round =>
    obtain ⟨q, hq, rfl, s11⟩ := hrel
    clear S
    by_cases hlt : q < xs.length
    · have hltI : (q : Int) < (xs.length : Int) := by omega
      have hqx : q < X.length := by rw [HX2.out]; exact hlt
      have hqy : q < Y.length := by rw [HY2.out]; exact hlt
      obtain ⟨vsz, hz1, hz2, s12⟩ := obx_open s11
      obtain ⟨vsy, hy1, hy2, s13⟩ := obx_open (s12.eq (Q := obx (.slice ay2 xs.length cy2) Y * (ob (.slice az xs.length cz) vsz (Zr X Y q) * (obx (.slice ax2 xs.length cx2) X * (fx fb * (cd p fb xs ys * mc bw ax cx ay cy xs ys))))) (by ac_rfl))
      have s14 := s13.eq (Q := ob (.slice az xs.length cz) vsz (Zr X Y q) * (ob (.slice ay2 xs.length cy2) vsy Y * (obx (.slice ax2 xs.length cx2) X * (fx fb * (cd p fb xs ys * mc bw ax cx ay cy xs ys))))) (by ac_rfl)
      obtain ⟨gz, cz', guz, cuz, ez, huz, hrz⟩ := ob_head hz1 hz2 q (by rw [Zr_len]; exact hqx) s14
      obtain ⟨gy, cy', guy, cuy, ey, huy, hry⟩ := ob_head hy1 hy2 q hqy s13
      have hXq : X[q].length = 8 := HX1.out _ (List.getElem_mem _)
      have hYq : Y[q].length = 8 := HY1.out _ (List.getElem_mem _)
      have hZq := Zr_at X Y q hqx
      rw [hZq, hXq] at huz
      rw [hYq] at huy hry
      obtain rfl : az = some ⟨gz, 0, none⟩ := by simp at ez; exact ez.1
      obtain rfl : ay2 = some ⟨gy, 0, none⟩ := by simp at ey; exact ey.1
      clear ez ey hrz
      have s15 := (ob_rows s14).rowsAt hz1 huz (List.getElem?_eq_getElem (by rw [Zr_len]; exact hqx))
      rw [hZq, hXq, Zr_len, HX2.out] at s15
      have HZS := Lib.hid (Zr_set X Y q hqx hqy)
      have HZ1 := Lib.hid hz1
      have HUZ := Lib.hid huz
      have HNZ := Lib.hid hz2
      have HNY := Lib.hid (And.intro hy1 (And.intro hy2 huy))
      have HRY := Lib.hid hry
      obtain ⟨Xq, hXe⟩ : ∃ Xq, X[q] = Xq := ⟨_, rfl⟩
      obtain ⟨Yq, hYe⟩ : ∃ Yq, Y[q] = Yq := ⟨_, rfl⟩
      rw [hXe] at s15 hXq HZS
      rw [hYe] at hYq HZS HRY
      have HXq := Lib.hid hXq
      have HYq := Lib.hid hYq
      clear s11 s12 s13 s14 hz1 hz2 hy1 hy2 huz huy hry hXe hYe hZq hXq hYq hqx hqy
      rw [← zk_zero Xq Yq] at s15
      have S := Lib.hid s15
      clear s15
      go_wp2_with fail
      go_loopw [22] (fun ji wr => ∃ jj : Nat, jj ≤ 8 ∧ ji = .int .i64 (jj : Int) ∧ St w0.heap.size w0 wr (row 5 1 (.slice (some ⟨guz, 0, none⟩) 8 cuz) 8 (bvs (zk Xq Yq jj)) * (row 32 1 (.slice (some ⟨gz, 0, none⟩) xs.length cz) xs.length vsz * (rows 5 (vsz.eraseIdx q) ((Zr X Y q).eraseIdx q) * (ob (.slice (some ⟨gy, 0, none⟩) xs.length cy2) vsy Y * (obx (.slice ax2 xs.length cx2) X * (fx fb * (cd p fb xs ys * mc bw ax cx ay cy xs ys)))))))) (fun ji _ => 8 - (intOf ji).toNat)
      case atStart => exact ⟨0, Nat.zero_le _, rfl, S.out.eq (by ac_rfl)⟩
      case round =>
        obtain ⟨jj, hjj, rfl, s16⟩ := hrel
        clear S
        by_cases hj8 : jj < 8
        · have hj8I : (jj : Int) < 8 := by omega
          have hjx : jj < Xq.length := by rw [HXq.out]; exact hj8
          have hjy : jj < Yq.length := by rw [HYq.out]; exact hj8
          have HXX := Lib.hid (bits_xor_u8' Xq[jj] Yq[jj])
          have HZK := Lib.hid (zk_set Xq Yq jj hjx)
          have HDD := Lib.hid (show Xq.getD jj 0 = Xq[jj] ∧ Yq.getD jj 0 = Yq[jj] from by simp [List.getD, hjx, hjy])
          have HCZ := Lib.hid (show ∀ w' F, St w0.heap.size w0 w' (F * (row 32 1 (.slice (some ⟨gz, 0, none⟩) xs.length cz) xs.length vsz * (rows 5 (vsz.eraseIdx q) ((Zr X Y q).eraseIdx q) * (ob (.slice (some ⟨gy, 0, none⟩) xs.length cy2) vsy Y * (obx (.slice ax2 xs.length cx2) X * (fx fb * (cd p fb xs ys * mc bw ax cx ay cy xs ys))))))) → w'.cell? ⟨gz, q, none⟩ = some (.slice (some ⟨guz, 0, none⟩) 8 cuz) from fun w' F s => by
            have h := (s.eq (Q := row 32 1 (.slice (some ⟨gz, 0, none⟩) xs.length cz) xs.length vsz * (F * (rows 5 (vsz.eraseIdx q) ((Zr X Y q).eraseIdx q) * (ob (.slice (some ⟨gy, 0, none⟩) xs.length cy2) vsy Y * (obx (.slice ax2 xs.length cx2) X * (fx fb * (cd p fb xs ys * mc bw ax cx ay cy xs ys))))))) (by ac_rfl)).row1.2.2.2.2.1 q hlt
            rw [h]; exact HUZ.out)
          have HCY := Lib.hid (show ∀ w' F, St w0.heap.size w0 w' (F * (row 32 1 (.slice (some ⟨gz, 0, none⟩) xs.length cz) xs.length vsz * (rows 5 (vsz.eraseIdx q) ((Zr X Y q).eraseIdx q) * (ob (.slice (some ⟨gy, 0, none⟩) xs.length cy2) vsy Y * (obx (.slice ax2 xs.length cx2) X * (fx fb * (cd p fb xs ys * mc bw ax cx ay cy xs ys))))))) → w'.cell? ⟨gy, q, none⟩ = some (.slice (some ⟨guy, 0, none⟩) 8 cuy) ∧ w'.cell? ⟨guy, jj, none⟩ = some (bv Yq[jj]) from fun w' F s => by
            have s2 := s.eq (Q := ob (.slice (some ⟨gy, 0, none⟩) xs.length cy2) vsy Y * (row 32 1 (.slice (some ⟨gz, 0, none⟩) xs.length cz) xs.length vsz * (F * (rows 5 (vsz.eraseIdx q) ((Zr X Y q).eraseIdx q) * (obx (.slice ax2 xs.length cx2) X * (fx fb * (cd p fb xs ys * mc bw ax cx ay cy xs ys))))))) (by ac_rfl)
            refine ⟨ob_cell s2 (by rw [HY2.out]; exact hlt) HNY.out.2.2, ?_⟩
            have hb := HRY.out w' (row 32 1 (.slice (some ⟨gz, 0, none⟩) xs.length cz) xs.length vsz * (F * (rows 5 (vsz.eraseIdx q) ((Zr X Y q).eraseIdx q) * (obx (.slice ax2 xs.length cx2) X * (fx fb * (cd p fb xs ys * mc bw ax cx ay cy xs ys)))))) (s2.eq (sep_comm _ _))
            have := hb.cellAt jj hjy
            rw [Nat.zero_add] at this
            exact this)
          have S16 := Lib.hid s16
          clear s16
          go_wp2_with fail
          refine wp_region_rx (fun pp_ w' => St w0.heap.size w0 w' (row 5 1 (.slice (some ⟨guz, 0, none⟩) 8 cuz) 8 (bvs (zk Xq Yq (if pp_ = 0 then jj else jj + 1))) * (row 32 1 (.slice (some ⟨gz, 0, none⟩) xs.length cz) xs.length vsz * (rows 5 (vsz.eraseIdx q) ((Zr X Y q).eraseIdx q) * (ob (.slice (some ⟨gy, 0, none⟩) xs.length cy2) vsy Y * (obx (.slice ax2 xs.length cx2) X * (fx fb * (cd p fb xs ys * mc bw ax cx ay cy xs ys)))))))) [16] Gf.mixed (by kernel_rfl) (by kernel_rfl) S16.out.drew ?_
          refine RXl.exact (.slice (some ⟨gz, 0, none⟩) xs.length cz) rfl rfl rfl rfl rfl (fun _ _ _ _ _ => rfl) ?_
          refine RXl.exact (.int .i64 (q : Int)) rfl rfl rfl rfl rfl (fun _ _ _ _ _ => rfl) ?_
          refine RXl.exact (.pointer (some ⟨gz, q, none⟩)) rfl rfl rfl rfl rfl (fun j τ w' hj hJ => by have t1 : (q : Int) < (xs.length : Int) := (by omega); simp [rho, upd, Spec.val, execOp, go_sem, t1]) ?_
          refine RXl.exactB 0 16 rfl (by kernel_rfl) (.slice (some ⟨guz, 0, none⟩) 8 cuz) rfl rfl rfl rfl rfl (fun j τ w' hj hJ => by have c := HCZ.out _ _ hJ; simp [rho, upd, Spec.val, execOp, go_sem, c]) ?_
          refine RXl.exact (.int .i64 (jj : Int)) rfl rfl rfl rfl rfl (fun _ _ _ _ _ => rfl) ?_
          refine RXl.exact (.pointer (some ⟨guz, jj, none⟩)) rfl rfl rfl rfl rfl (fun j τ w' hj hJ => by have t1 : (jj : Int) < (8 : Int) := (by omega); simp [rho, upd, Spec.val, execOp, go_sem, t1]) ?_
          refine RXl.exactB 0 16 rfl (by kernel_rfl) (bv Xq[jj]) rfl rfl rfl rfl rfl (fun j τ w' hj hJ => by obtain rfl : j = 0 := (by omega); obtain ⟨-, -, -, -, -, c, -⟩ := St.rowB' hJ; have c := c jj (by rw [zk_len]; exact hjx); simp only [if_pos] at c; rw [zk_at Xq Yq jj hjx] at c; simp [rho, upd, Spec.val, execOp, go_sem, c]) ?_
          refine RXl.exact (.slice (some ⟨gy, 0, none⟩) xs.length cy2) rfl rfl rfl rfl rfl (fun _ _ _ _ _ => rfl) ?_
          refine RXl.exact (.int .i64 (q : Int)) rfl rfl rfl rfl rfl (fun _ _ _ _ _ => rfl) ?_
          refine RXl.exact (.pointer (some ⟨gy, q, none⟩)) rfl rfl rfl rfl rfl (fun j τ w' hj hJ => by have t1 : (q : Int) < (xs.length : Int) := (by omega); simp [rho, upd, Spec.val, execOp, go_sem, t1]) ?_
          refine RXl.exactB 0 16 rfl (by kernel_rfl) (.slice (some ⟨guy, 0, none⟩) 8 cuy) rfl rfl rfl rfl rfl (fun j τ w' hj hJ => by have c := (HCY.out _ _ hJ).1; simp [rho, upd, Spec.val, execOp, go_sem, c]) ?_
          refine RXl.exact (.int .i64 (jj : Int)) rfl rfl rfl rfl rfl (fun _ _ _ _ _ => rfl) ?_
          refine RXl.exact (.pointer (some ⟨guy, jj, none⟩)) rfl rfl rfl rfl rfl (fun j τ w' hj hJ => by have t1 : (jj : Int) < (8 : Int) := (by omega); simp [rho, upd, Spec.val, execOp, go_sem, t1]) ?_
          refine RXl.exactB 0 16 rfl (by kernel_rfl) (bv Yq[jj]) rfl rfl rfl rfl rfl (fun j τ w' hj hJ => by have c := (HCY.out _ _ hJ).2; simp [rho, upd, Spec.val, execOp, go_sem, c]) ?_
          refine RXl.exact (bv (Xq[jj] ^^^ Yq[jj])) rfl rfl rfl rfl rfl (fun j τ w' hj hJ => by have c := HXX.out; simp [rho, upd, Spec.val, execOp, go_sem, c]) ?_
          refine RXl.exact (.pointer (some ⟨guz, jj, none⟩)) rfl rfl rfl rfl rfl (fun j τ w' hj hJ => by have t1 : (jj : Int) < (8 : Int) := (by omega); simp [rho, upd, Spec.val, execOp, go_sem, t1]) ?_
          refine RXl.effj 0 rfl rfl rfl rfl rfl rfl (fun w' hJ => (let h := St.rowB' hJ; ⟨_, exec_store rfl rfl rfl rfl (by kernel_rfl) (h.2.2.2.2.2.1 jj (by rw [zk_len]; exact hjx)) (h.2.2.2.2.2.2.1 jj), by have q2 := h.2.2.2.2.2.2.2.2 jj (Xq[jj] ^^^ Yq[jj]) (by rw [zk_len]; exact hjx); rw [if_pos rfl, ← HDD.out.1, ← HDD.out.2, HZK.out] at q2; rw [if_neg (by omega), ← HDD.out.1, ← HDD.out.2]; exact q2⟩)) ?_
          refine RXl.nilx _ (Agr.upd _ _ (Agr.upd _ _ (Agr.upd _ _ (Agr.upd _ _ (Agr.upd _ _ (Agr.upd _ _ (Agr.upd _ _ (Agr.upd _ _ (Agr.upd _ _ (Agr.upd _ _ (Agr.upd _ _ (Agr.upd _ _ (Agr.upd _ _ (Agr.upd _ _ (Agr.upd _ _ (Agr.upd _ _ (Agr.base _))))))))))))))))) fun w12 hJ => ?_
          obtain ⟨_, hJ⟩ := hJ
          simp only [Act.put, List.setIfInBounds_toArray, List.set_cons_succ, List.set_cons_zero]
          have S17 := Lib.hid (show St w0.heap.size w0 w12 (row 5 1 (.slice (some ⟨guz, 0, none⟩) 8 cuz) 8 (bvs (zk Xq Yq (jj + 1))) * (row 32 1 (.slice (some ⟨gz, 0, none⟩) xs.length cz) xs.length vsz * (rows 5 (vsz.eraseIdx q) ((Zr X Y q).eraseIdx q) * (ob (.slice (some ⟨gy, 0, none⟩) xs.length cy2) vsy Y * (obx (.slice ax2 xs.length cx2) X * (fx fb * (cd p fb xs ys * mc bw ax cx ay cy xs ys))))))) from hJ)
          clear hJ S16 HXX HZK HDD HCZ HCY
          go_wp2_with fail
          go_roundw
          case rel => exact ⟨jj + 1, by omega, by go_num, S17.out⟩
          case measure => simp [intOf]; omega
        · obtain rfl : jj = 8 := by omega
          have hzx : zk Xq Yq 8 = zx Xq Yq := by rw [← HXq.out]; exact zk_end Xq Yq
          have hzl : (zx Xq Yq).length = 8 := by rw [zx_len]; exact HXq.out
          rw [hzx] at s16
          have s17 : St w0.heap.size w0 _ (rows 5 vsz ((Zr X Y q).set q (zx Xq Yq)) * (row 32 1 (.slice (some ⟨gz, 0, none⟩) xs.length cz) xs.length vsz * (ob (.slice (some ⟨gy, 0, none⟩) xs.length cy2) vsy Y * (obx (.slice ax2 xs.length cx2) X * (fx fb * (cd p fb xs ys * mc bw ax cx ay cy xs ys)))))) := St.rowsSet HZ1.out HUZ.out (s16.eq (by rw [hzl]; ac_rfl))
          rw [HZS.out] at s17
          have s18 := obx_mk (v := .slice (some ⟨gz, 0, none⟩) xs.length cz) (vs := vsz) (d := Zr X Y (q + 1)) (by rw [Zr_len]; have h := HZ1.out; rw [Zr_len] at h; exact h) HNZ.out (s17.eq (Q := ob (.slice (some ⟨gz, 0, none⟩) xs.length cz) vsz (Zr X Y (q + 1)) * (ob (.slice (some ⟨gy, 0, none⟩) xs.length cy2) vsy Y * (obx (.slice ax2 xs.length cx2) X * (fx fb * (cd p fb xs ys * mc bw ax cx ay cy xs ys))))) (by unfold ob; rw [Zr_len, HX2.out, HY2.out]; ac_rfl))
          have s19 := obx_mk HNY.out.1 HNY.out.2.1 (s18.eq (Q := ob (.slice (some ⟨gy, 0, none⟩) xs.length cy2) vsy Y * (obx (.slice (some ⟨gz, 0, none⟩) xs.length cz) (Zr X Y (q + 1)) * (obx (.slice ax2 xs.length cx2) X * (fx fb * (cd p fb xs ys * mc bw ax cx ay cy xs ys))))) (by ac_rfl))
          have S20 := Lib.hid (s19.eq (Q := obx (.slice (some ⟨gz, 0, none⟩) xs.length cz) (Zr X Y (q + 1)) * (obx (.slice (some ⟨gy, 0, none⟩) xs.length cy2) Y * (obx (.slice ax2 xs.length cx2) X * (fx fb * (cd p fb xs ys * mc bw ax cx ay cy xs ys))))) (by ac_rfl))
          clear s16 s17 s18 s19 hzx hzl
          go_wp2_with fail
          go_roundw
          case rel => exact ⟨q + 1, by omega, by go_num, S20.out⟩
          case measure => simp [intOf]; omega
    · obtain rfl : q = xs.length := by omega
      have HZE := Lib.hid (show ∀ i q, ((Zr X Y xs.length).getD i []).getD q 0 = (X.getD i []).getD q 0 ^^^ (Y.getD i []).getD q 0 from fun i q => by
        have h := Zr_end X Y HX1.out HY1.out (by rw [HX2.out, HY2.out]) i q
        rw [HX2.out] at h
        exact h)
      have HZ1 := Lib.hid (Zr_each X Y HX1.out xs.length)
      have HZ2 := Lib.hid (show (Zr X Y xs.length).length = xs.length from by rw [Zr_len, HX2.out])
      generalize Zr X Y xs.length = Z at *
      have S := Lib.hid (s11.eq (Q := fx fb * (cd p fb xs ys * (obx (.slice ax2 xs.length cx2) X * (obx (.slice ay2 xs.length cy2) Y * (obx (.slice az xs.length cz) Z * mc bw ax cx ay cy xs ys))))) (by ac_rfl))
      clear s11
      go_wp2_with fail
      refine (encode_x p fb xs ys 8 (.slice ax2 xs.length cx2) X HG.out HX2.out (by omega) HX1.out S.out).mono ?_
      rintro e w13 ⟨vp, rfl, s13⟩
      clear S
      obtain ⟨ap, cp, rfl⟩ := obx_slice s13
      rw [enc_len] at s13 ⊢
      have S := Lib.hid (s13.eq (Q := fx fb * (cd p fb xs ys * (obx (.slice ay2 xs.length cy2) Y * (obx (.slice ap ys.length cp) (enc xs ys 8 X) * (obx (.slice ax2 xs.length cx2) X * (obx (.slice az xs.length cz) Z * mc bw ax cx ay cy xs ys)))))) (by ac_rfl))
      clear s13
      go_wp2_with fail
      refine (encode_x p fb xs ys 8 (.slice ay2 xs.length cy2) Y HG.out HY2.out (by omega) HY1.out S.out).mono ?_
      rintro e w14 ⟨vq, rfl, s14⟩
      clear S
      obtain ⟨aq, cq, rfl⟩ := obx_slice s14
      rw [enc_len] at s14 ⊢
      have S := Lib.hid (s14.eq (Q := fx fb * (cd p fb xs ys * (obx (.slice az xs.length cz) Z * (obx (.slice ap ys.length cp) (enc xs ys 8 X) * (obx (.slice aq ys.length cq) (enc xs ys 8 Y) * (obx (.slice ax2 xs.length cx2) X * (obx (.slice ay2 xs.length cy2) Y * mc bw ax cx ay cy xs ys))))))) (by ac_rfl))
      clear s14
      go_wp2_with fail
      refine (encode_x p fb xs ys 8 (.slice az xs.length cz) Z HG.out HZ2.out (by omega) HZ1.out S.out).mono ?_
      rintro e w15 ⟨vs, rfl, s15⟩
      clear S
      obtain ⟨as_, cs, rfl⟩ := obx_slice s15
      rw [enc_len] at s15 ⊢
      obtain ⟨k5, k6⟩ := mc_cells (s15.eq (Q := mc bw ax cx ay cy xs ys * (obx (.slice as_ ys.length cs) (enc xs ys 8 Z) * (fx fb * (cd p fb xs ys * (obx (.slice az xs.length cz) Z * (obx (.slice ap ys.length cp) (enc xs ys 8 X) * (obx (.slice aq ys.length cq) (enc xs ys 8 Y) * (obx (.slice ax2 xs.length cx2) X * obx (.slice ay2 xs.length cy2) Y)))))))) (by ac_rfl))
      obtain ⟨vsp, hp1, hp2, s16⟩ := obx_open (s15.eq (Q := obx (.slice ap ys.length cp) (enc xs ys 8 X) * (obx (.slice aq ys.length cq) (enc xs ys 8 Y) * (obx (.slice as_ ys.length cs) (enc xs ys 8 Z) * (fx fb * (cd p fb xs ys * (obx (.slice ax2 xs.length cx2) X * (obx (.slice ay2 xs.length cy2) Y * (obx (.slice az xs.length cz) Z * mc bw ax cx ay cy xs ys)))))))) (by ac_rfl))
      obtain ⟨vsq, hq1, hq2, s17⟩ := obx_open (s16.eq (sep_left_comm _ _ _))
      obtain ⟨vss, hs1, hs2, s18⟩ := obx_open (s17.eq (Q := obx (.slice as_ ys.length cs) (enc xs ys 8 Z) * (ob (.slice aq ys.length cq) vsq (enc xs ys 8 Y) * (ob (.slice ap ys.length cp) vsp (enc xs ys 8 X) * (fx fb * (cd p fb xs ys * (obx (.slice ax2 xs.length cx2) X * (obx (.slice ay2 xs.length cy2) Y * (obx (.slice az xs.length cz) Z * mc bw ax cx ay cy xs ys)))))))) (by ac_rfl))
      have HPP := Lib.hid (And.intro hp1 hp2)
      have HQ := Lib.hid (And.intro hq1 hq2)
      have HS := Lib.hid (And.intro hs1 hs2)
      generalize hREST : (fx fb * (cd p fb xs ys * (obx (.slice ax2 xs.length cx2) X * (obx (.slice ay2 xs.length cy2) Y * (obx (.slice az xs.length cz) Z * mc bw ax cx ay cy xs ys)))) : HP) = REST at s18
      have HREST := Lib.hid hREST
      have HEX := Lib.hid (show (enc xs ys 8 X).length = ys.length ∧ ∀ b ∈ enc xs ys 8 X, b.length = 8 from ⟨enc_len _ _ _ _, fun b hb => all_each (xs := xs) HX2.out HX1.out b (List.mem_append_right _ hb)⟩)
      have HEY := Lib.hid (show (enc xs ys 8 Y).length = ys.length ∧ ∀ b ∈ enc xs ys 8 Y, b.length = 8 from ⟨enc_len _ _ _ _, fun b hb => all_each (xs := xs) HY2.out HY1.out b (List.mem_append_right _ hb)⟩)
      have HEZ := Lib.hid (show (enc xs ys 8 Z).length = ys.length ∧ ∀ b ∈ enc xs ys 8 Z, b.length = 8 from ⟨enc_len _ _ _ _, fun b hb => all_each (xs := xs) HZ2.out HZ1.out b (List.mem_append_right _ hb)⟩)
      have HEE := Lib.hid (show ∀ j (h : j < (enc xs ys 8 X).length) (h2 : j < (enc xs ys 8 Y).length) (h3 : j < (enc xs ys 8 Z).length), (enc xs ys 8 Z)[j] = zx (enc xs ys 8 X)[j] (enc xs ys 8 Y)[j] from fun j h h2 h3 => by
        simp only [enc, List.getElem_map, List.getElem_range]
        exact par_zx HZE.out j)
      clear hREST s15 s16 s17 hp1 hp2 hq1 hq2 hs1 hs2
      generalize hEX : enc xs ys 8 X = EX at *
      have HXE := Lib.hid hEX
      clear hEX
      generalize enc xs ys 8 Y = EY at *
      generalize enc xs ys 8 Z = EZ at *
      have S := Lib.hid s18
      clear s18
      obtain ⟨gp, cp', -, -, ep, -, -⟩ := ob_head HPP.out.1 HPP.out.2 0 (by rw [HEX.out.1]; omega) (S.out.eq (Q := ob (.slice ap ys.length cp) vsp EX * (ob (.slice as_ ys.length cs) vss EZ * (ob (.slice aq ys.length cq) vsq EY * REST))) (by ac_rfl))
      obtain ⟨gq, cq', -, -, eq_, -, -⟩ := ob_head HQ.out.1 HQ.out.2 0 (by rw [HEY.out.1]; omega) (S.out.eq (Q := ob (.slice aq ys.length cq) vsq EY * (ob (.slice as_ ys.length cs) vss EZ * (ob (.slice ap ys.length cp) vsp EX * REST))) (by ac_rfl))
      obtain ⟨gs, cs', -, -, es, -, -⟩ := ob_head HS.out.1 HS.out.2 0 (by rw [HEZ.out.1]; omega) S.out
      obtain rfl : ap = some ⟨gp, 0, none⟩ := by simp at ep; exact ep.1
      obtain rfl : aq = some ⟨gq, 0, none⟩ := by simp at eq_; exact eq_.1
      obtain rfl : as_ = some ⟨gs, 0, none⟩ := by simp at es; exact es.1
      clear ep eq_ es
      go_wp2_with fail
      clear k5 k6
      go_loopw [29] (fun ji wr => ∃ jj : Nat, jj ≤ ys.length ∧ ji = .int .i64 (jj : Int) ∧ St w0.heap.size w0 wr (ob (.slice (some ⟨gs, 0, none⟩) ys.length cs) vss EZ * (ob (.slice (some ⟨gq, 0, none⟩) ys.length cq) vsq EY * (ob (.slice (some ⟨gp, 0, none⟩) ys.length cp) vsp EX * REST)))) (fun ji _ => ys.length - (intOf ji).toNat)
      case atStart => exact ⟨0, Nat.zero_le _, rfl, S.out⟩
      case round =>
        obtain ⟨jj, hjj, rfl, s19⟩ := hrel
        clear S
        by_cases hjr : jj < ys.length
        · have hjI : (jj : Int) < (ys.length : Int) := by omega
          have j1 : jj < EX.length := by rw [HEX.out.1]; exact hjr
          have j2 : jj < EY.length := by rw [HEY.out.1]; exact hjr
          have j3 : jj < EZ.length := by rw [HEZ.out.1]; exact hjr
          obtain ⟨_, _, gup, cup, -, hup, hrp⟩ := ob_head HPP.out.1 HPP.out.2 jj j1 (s19.eq (Q := ob (.slice (some ⟨gp, 0, none⟩) ys.length cp) vsp EX * (ob (.slice (some ⟨gs, 0, none⟩) ys.length cs) vss EZ * (ob (.slice (some ⟨gq, 0, none⟩) ys.length cq) vsq EY * REST))) (by ac_rfl))
          obtain ⟨_, _, guq, cuq, -, huq, hrq⟩ := ob_head HQ.out.1 HQ.out.2 jj j2 (s19.eq (Q := ob (.slice (some ⟨gq, 0, none⟩) ys.length cq) vsq EY * (ob (.slice (some ⟨gs, 0, none⟩) ys.length cs) vss EZ * (ob (.slice (some ⟨gp, 0, none⟩) ys.length cp) vsp EX * REST))) (by ac_rfl))
          obtain ⟨_, _, gus, cus, -, hus, hrs⟩ := ob_head HS.out.1 HS.out.2 jj j3 s19
          have l1 := HEX.out.2 _ (List.getElem_mem j1)
          have l2 := HEY.out.2 _ (List.getElem_mem j2)
          have l3 := HEZ.out.2 _ (List.getElem_mem j3)
          have he := HEE.out jj j1 j2 j3
          have HXO := Lib.hid (show ∀ w' : World, St w0.heap.size w0 w' (ob (.slice (some ⟨gs, 0, none⟩) ys.length cs) vss EZ * (ob (.slice (some ⟨gq, 0, none⟩) ys.length cq) vsq EY * (ob (.slice (some ⟨gp, 0, none⟩) ys.length cp) vsp EX * REST))) → Calls Try.prog 35 #[str EX[jj], str EY[jj]] w' (RetG w0.heap.size w0 (ob (.slice (some ⟨gs, 0, none⟩) ys.length cs) vss EZ * (ob (.slice (some ⟨gq, 0, none⟩) ys.length cq) vsq EY * (ob (.slice (some ⟨gp, 0, none⟩) ys.length cp) vsp EX * REST))) (str (zx EX[jj] EY[jj]))) from fun w' s => xor_calls EX[jj] EY[jj] (by rw [l1, l2]) (by omega) s)
          rw [l1] at hup hrp
          rw [l2] at huq hrq
          rw [l3] at hus hrs
          rw [he] at hrs
          have HC1 := Lib.hid (show ∀ w' : World, St w0.heap.size w0 w' (ob (.slice (some ⟨gs, 0, none⟩) ys.length cs) vss EZ * (ob (.slice (some ⟨gq, 0, none⟩) ys.length cq) vsq EY * (ob (.slice (some ⟨gp, 0, none⟩) ys.length cp) vsp EX * REST))) → w'.cell? ⟨gp, jj, none⟩ = some (.slice (some ⟨gup, 0, none⟩) 8 cup) ∧ BS w' (.slice (some ⟨gup, 0, none⟩) 8 cup) EX[jj] from fun w' s => by
            have s2 := s.eq (Q := ob (.slice (some ⟨gp, 0, none⟩) ys.length cp) vsp EX * (ob (.slice (some ⟨gs, 0, none⟩) ys.length cs) vss EZ * (ob (.slice (some ⟨gq, 0, none⟩) ys.length cq) vsq EY * REST))) (by ac_rfl)
            exact ⟨ob_cell s2 j1 hup, hrp w' _ (s2.eq (sep_comm _ _))⟩)
          have HC2 := Lib.hid (show ∀ w' : World, St w0.heap.size w0 w' (ob (.slice (some ⟨gs, 0, none⟩) ys.length cs) vss EZ * (ob (.slice (some ⟨gq, 0, none⟩) ys.length cq) vsq EY * (ob (.slice (some ⟨gp, 0, none⟩) ys.length cp) vsp EX * REST))) → w'.cell? ⟨gq, jj, none⟩ = some (.slice (some ⟨guq, 0, none⟩) 8 cuq) ∧ BS w' (.slice (some ⟨guq, 0, none⟩) 8 cuq) EY[jj] from fun w' s => by
            have s2 := s.eq (Q := ob (.slice (some ⟨gq, 0, none⟩) ys.length cq) vsq EY * (ob (.slice (some ⟨gs, 0, none⟩) ys.length cs) vss EZ * (ob (.slice (some ⟨gp, 0, none⟩) ys.length cp) vsp EX * REST))) (by ac_rfl)
            exact ⟨ob_cell s2 j2 huq, hrq w' _ (s2.eq (sep_comm _ _))⟩)
          have HC3 := Lib.hid (show ∀ w' : World, St w0.heap.size w0 w' (ob (.slice (some ⟨gs, 0, none⟩) ys.length cs) vss EZ * (ob (.slice (some ⟨gq, 0, none⟩) ys.length cq) vsq EY * (ob (.slice (some ⟨gp, 0, none⟩) ys.length cp) vsp EX * REST))) → w'.cell? ⟨gs, jj, none⟩ = some (.slice (some ⟨gus, 0, none⟩) 8 cus) ∧ BS w' (.slice (some ⟨gus, 0, none⟩) 8 cus) (zx EX[jj] EY[jj]) from fun w' s =>
            ⟨ob_cell s j3 hus, hrs w' _ (s.eq (sep_comm _ _))⟩)
          have S19 := Lib.hid s19
          clear s19
          clear hup huq hus hrp hrq hrs l1 l2 l3 he
          go_wp2_with fail
          refine wp_region_rx (fun _ w' => St w0.heap.size w0 w' (ob (.slice (some ⟨gs, 0, none⟩) ys.length cs) vss EZ * (ob (.slice (some ⟨gq, 0, none⟩) ys.length cq) vsq EY * (ob (.slice (some ⟨gp, 0, none⟩) ys.length cp) vsp EX * REST)))) [] Gf.mixed (by kernel_rfl) (by kernel_rfl) S19.out.drew ?_
          refine RXl.exact (.slice (some ⟨gp, 0, none⟩) ys.length cp) rfl rfl rfl rfl rfl (fun _ _ _ _ _ => rfl) ?_
          refine RXl.exact (.int .i64 (jj : Int)) rfl rfl rfl rfl rfl (fun _ _ _ _ _ => rfl) ?_
          refine RXl.exact (.pointer (some ⟨gp, jj, none⟩)) rfl rfl rfl rfl rfl (fun j τ w' hj hJ => by have t1 : (jj : Int) < (ys.length : Int) := (by omega); simp [rho, upd, Spec.val, execOp, go_sem, t1]) ?_
          refine RXl.exact (.slice (some ⟨gup, 0, none⟩) 8 cup) rfl rfl rfl rfl rfl (fun j τ w' hj hJ => by have c := (HC1.out _ hJ).1; simp [rho, upd, Spec.val, execOp, go_sem, c]) ?_
          refine RXl.exact (str EX[jj]) rfl rfl rfl rfl rfl (fun j τ w' hj hJ => exec_convert rfl (run_str Try.underlying32 Try.underlying5 Try.underlying9 (HC1.out _ hJ).2)) ?_
          refine RXl.exact (.slice (some ⟨gq, 0, none⟩) ys.length cq) rfl rfl rfl rfl rfl (fun _ _ _ _ _ => rfl) ?_
          refine RXl.exact (.int .i64 (jj : Int)) rfl rfl rfl rfl rfl (fun _ _ _ _ _ => rfl) ?_
          refine RXl.exact (.pointer (some ⟨gq, jj, none⟩)) rfl rfl rfl rfl rfl (fun j τ w' hj hJ => by have t1 : (jj : Int) < (ys.length : Int) := (by omega); simp [rho, upd, Spec.val, execOp, go_sem, t1]) ?_
          refine RXl.exact (.slice (some ⟨guq, 0, none⟩) 8 cuq) rfl rfl rfl rfl rfl (fun j τ w' hj hJ => by have c := (HC2.out _ hJ).1; simp [rho, upd, Spec.val, execOp, go_sem, c]) ?_
          refine RXl.exact (str EY[jj]) rfl rfl rfl rfl rfl (fun j τ w' hj hJ => exec_convert rfl (run_str Try.underlying32 Try.underlying5 Try.underlying9 (HC2.out _ hJ).2)) ?_
          refine RXl.callr (str (zx EX[jj] EY[jj])) _ [str EX[jj], str EY[jj]] [.tmp 162, .tmp 167] _ rfl rfl rfl rfl rfl rfl (fun _ => rfl) (fun j τ w' hj hJ => HXO.out w' hJ) ?_
          refine RXl.exact (.slice (some ⟨gs, 0, none⟩) ys.length cs) rfl rfl rfl rfl rfl (fun _ _ _ _ _ => rfl) ?_
          refine RXl.exact (.int .i64 (jj : Int)) rfl rfl rfl rfl rfl (fun _ _ _ _ _ => rfl) ?_
          refine RXl.exact (.pointer (some ⟨gs, jj, none⟩)) rfl rfl rfl rfl rfl (fun j τ w' hj hJ => by have t1 : (jj : Int) < (ys.length : Int) := (by omega); simp [rho, upd, Spec.val, execOp, go_sem, t1]) ?_
          refine RXl.exact (.slice (some ⟨gus, 0, none⟩) 8 cus) rfl rfl rfl rfl rfl (fun j τ w' hj hJ => by have c := (HC3.out _ hJ).1; simp [rho, upd, Spec.val, execOp, go_sem, c]) ?_
          refine RXl.exact (str (zx EX[jj] EY[jj])) rfl rfl rfl rfl rfl (fun j τ w' hj hJ => exec_convert rfl (run_str Try.underlying32 Try.underlying5 Try.underlying9 (HC3.out _ hJ).2)) ?_
          refine RXl.exact (.bool false) rfl rfl rfl rfl rfl (fun j τ w' hj hJ => by simp [rho, upd, Spec.val, execOp, go_sem]) ?_
          refine RXl.nilx _ (Agr.upd _ _ (Agr.upd _ _ (Agr.upd _ _ (Agr.upd _ _ (Agr.upd _ _ (Agr.upd _ _ (Agr.upd _ _ (Agr.upd _ _ (Agr.upd _ _ (Agr.upd _ _ (Agr.upd _ _ (Agr.upd _ _ (Agr.upd _ _ (Agr.upd _ _ (Agr.upd _ _ (Agr.upd _ _ (Agr.upd _ _ (Agr.base _)))))))))))))))))) fun w16 hJ => ?_
          obtain ⟨_, hJ⟩ := hJ
          simp only [Act.put, List.setIfInBounds_toArray, List.set_cons_succ, List.set_cons_zero]
          have S20 := Lib.hid (show St w0.heap.size w0 w16 (ob (.slice (some ⟨gs, 0, none⟩) ys.length cs) vss EZ * (ob (.slice (some ⟨gq, 0, none⟩) ys.length cq) vsq EY * (ob (.slice (some ⟨gp, 0, none⟩) ys.length cp) vsp EX * REST))) from hJ)
          clear hJ S19 HC1 HC2 HC3 HXO
          go_wp2_with fail
          go_roundw
          case rel => exact ⟨jj + 1, by omega, by go_num, S20.out⟩
          case measure => simp [intOf]; omega
        · obtain rfl : jj = ys.length := by omega
          rw [← HREST.out] at s19
          have s20 := (s19.eq (Q := (ob (.slice (some ⟨gs, 0, none⟩) ys.length cs) vss EZ * (ob (.slice (some ⟨gq, 0, none⟩) ys.length cq) vsq EY * (obx (.slice ay2 xs.length cy2) Y * obx (.slice az xs.length cz) Z))) * (obx (.slice ax2 xs.length cx2) X * (ob (.slice (some ⟨gp, 0, none⟩) ys.length cp) vsp EX * (fx fb * (cd p fb xs ys * mc bw ax cx ay cy xs ys))))) (by ac_rfl)).right
          obtain ⟨vsx, hx1, hx2, s21⟩ := obx_open s20
          obtain ⟨i0, hi0, e5⟩ : ∃ i0 : Nat, i0 < xs.length ∧ (bits .and .i64 i 65535).tmod (xs.length : Int) = (i0 : Int) := by
            refine ⟨(i % 65536 % (xs.length : Int)).toNat, ?_, ?_⟩
            · have := Int.emod_lt_of_pos (i % 65536) (show (0 : Int) < (xs.length : Int) by omega)
              have := Int.emod_nonneg (i % 65536) (show (xs.length : Int) ≠ 0 by omega)
              omega
            · rw [and_m16, Int.tmod_eq_emod_of_nonneg (by omega)]
              have := Int.emod_nonneg (i % 65536) (show (xs.length : Int) ≠ 0 by omega)
              omega
          obtain ⟨q0, hq0, e6⟩ : ∃ q0 : Nat, q0 < 8 ∧ bits .and .i64 (i / 65536) 7 = (q0 : Int) := ⟨(i / 65536 % 8).toNat, by omega, by rw [and_m3]; omega⟩
          have hi0x : i0 < X.length := by rw [HX2.out]; exact hi0
          obtain ⟨gx, _, gux, cux, ex, hux, hrx⟩ := ob_head hx1 hx2 i0 hi0x s21
          obtain rfl : ax2 = some ⟨gx, 0, none⟩ := by simp at ex; exact ex.1
          clear ex
          have hXi : X[i0].length = 8 := HX1.out _ (List.getElem_mem _)
          have cX0 := ob_cell s21 hi0x hux
          have s22 := (ob_rows s21).rowsAt hx1 hux (List.getElem?_eq_getElem hi0x)
          rw [hXi] at s22 hux cX0
          obtain ⟨-, -, -, -, -, hcx, hfx, -, hsx⟩ := s22.rowB'
          have cX1 := hcx q0 (by omega)
          have fX1 := hfx q0
          have hiI : (i0 : Int) < (xs.length : Int) := by omega
          have hqI : (q0 : Int) < 8 := by omega
          have hkp : ¬ (xs.length : Int) = 0 := by omega
          by_cases hb0 : by_ = 0
          · have hbI : ((by_.toNat : Int) == 0) = true := by rw [hb0]; rfl
            subst hb0
            have hbne : (1 : UInt8) ≠ 0 := by decide
            generalize hx0 : X[i0][q0]'(by omega) = x0 at cX1
            have hxv := bits_xor_u8' x0 1
            generalize hv0 : x0 ^^^ (1) = xv at hxv
            have hxv1 : bits .xor .u8 (x0.toNat : Int) 1 = (xv.toNat : Int) := hxv
            have S23 := Lib.hid (hsx q0 xv (by omega))
            have HX0 := Lib.hid hx0
            have HV0 := Lib.hid hv0
            have HUX := Lib.hid hux
            have HX12 := Lib.hid (And.intro hx1 hx2)
            have HI0 := Lib.hid (And.intro hi0x hXi)
            have HBN := Lib.hid hbne
            clear hx0 hv0 hux hx1 hx2 hcx hfx hsx s19 s20 s21 s22 hrx hbne
            go_wp2_with fail
            have s24 := (S23.out.eq (Q := row 5 1 (.slice (some ⟨gux, 0, none⟩) 8 cux) 8 (bvs (X[i0].set q0 xv)) * (rows 5 (vsx.eraseIdx i0) (X.eraseIdx i0) * (row 32 1 (.slice (some ⟨gx, 0, none⟩) xs.length cx2) X.length vsx * (ob (.slice (some ⟨gp, 0, none⟩) ys.length cp) vsp EX * (fx fb * (cd p fb xs ys * mc bw ax cx ay cy xs ys)))))) (by ac_rfl))
            have hl8 : (X[i0].set q0 xv).length = 8 := by rw [List.length_set]; exact HI0.out.2
            have s25 := St.rowsSet (b := X[i0].set q0 xv) HX12.out.1 HUX.out (by rw [hl8]; exact s24)
            have HX3 := Lib.hid (show (X.set i0 (X[i0].set q0 xv)).length = xs.length ∧ ∀ b ∈ X.set i0 (X[i0].set q0 xv), b.length = 8 from ⟨by rw [List.length_set]; exact HX2.out, fun b hb => by
              rcases List.mem_or_eq_of_mem_set hb with h | h
              · exact HX1.out b h
              · rw [h]; exact hl8⟩)
            have HTN := Lib.hid (show ∀ j, j < ys.length → par xs ys j 8 (X.set i0 (X[i0].set q0 xv)) ≠ par xs ys j 8 X from fun j hj => by
              refine par_turn HG.out (i := i0) (q := q0) (by_ := 1) hi0 hq0 HBN.out (fun i' => ?_) hj
              have hx : i0 < X.length := HI0.out.1
              have hl := HI0.out.2
              by_cases e : i' = i0
              · subst e
                rw [if_pos rfl]
                have e1 : (X.set i' (X[i'].set q0 xv)).getD i' [] = X[i'].set q0 xv := by simp [List.getD, hx]
                have e2 : X.getD i' [] = X[i'] := by simp [List.getD, hx]
                rw [e1, e2]
                have e3 : (X[i'].set q0 xv).getD q0 0 = xv := by simp [List.getD, List.getElem?_set_self (show q0 < X[i'].length by omega)]
                have e4 : X[i'].getD q0 0 = x0 := by rw [← HX0.out]; simp [List.getD, show q0 < X[i'].length by omega]
                rw [e3, e4]
                exact HV0.out.symm
              · rw [if_neg e]
                have e1 : (X.set i0 (X[i0].set q0 xv)).getD i' [] = X.getD i' [] := by simp [List.getD, List.getElem?_set_ne (Ne.symm e)]
                rw [e1])
            have s26 := obx_mk (v := .slice (some ⟨gx, 0, none⟩) xs.length cx2) (vs := vsx) (d := X.set i0 (X[i0].set q0 xv)) (by rw [List.length_set]; exact HX12.out.1) HX12.out.2 (s25.eq (Q := ob (.slice (some ⟨gx, 0, none⟩) xs.length cx2) vsx (X.set i0 (X[i0].set q0 xv)) * (ob (.slice (some ⟨gp, 0, none⟩) ys.length cp) vsp EX * (fx fb * (cd p fb xs ys * mc bw ax cx ay cy xs ys)))) (by unfold ob; rw [List.length_set]; ac_rfl))
            generalize wr.setCell ⟨gux, q0, none⟩ _ = w20 at s26 ⊢
            generalize X.set i0 (X[i0].set q0 xv) = X9 at *
            clear s24 s25 hl8 S23
            refine (encode_x p fb xs ys 8 (.slice (some ⟨gx, 0, none⟩) xs.length cx2) X9 HG.out HX3.out.1 (by omega) HX3.out.2 (R := ob (.slice (some ⟨gp, 0, none⟩) ys.length cp) vsp EX * mc bw ax cx ay cy xs ys) (s26.eq (by ac_rfl))).mono ?_
            rintro e w21 ⟨vt, rfl, s27⟩
            clear s26
            obtain ⟨at2, ct, rfl⟩ := obx_slice s27
            rw [enc_len] at s27 ⊢
            obtain ⟨vst, ht1, ht2, s28⟩ := obx_open s27
            have HET := Lib.hid (show (enc xs ys 8 X9).length = ys.length ∧ ∀ b ∈ enc xs ys 8 X9, b.length = 8 from ⟨enc_len _ _ _ _, fun b hb => all_each (xs := xs) HX3.out.1 HX3.out.2 b (List.mem_append_right _ hb)⟩)
            have HTD := Lib.hid (show ∀ j (h : j < (enc xs ys 8 X9).length) (h2 : j < EX.length), ¬ (enc xs ys 8 X9)[j] = EX[j] from fun j h h2 => by
              have e : EX[j] = par xs ys j 8 X := by
                have h3 := HXE.out
                subst h3
                simp [enc]
              rw [e]
              simp only [enc, List.getElem_map, List.getElem_range]
              exact HTN.out j (by rw [enc_len] at h; exact h))
            generalize enc xs ys 8 X9 = ET at *
            obtain ⟨gt, _, _, _, et, -, -⟩ := ob_head ht1 ht2 0 (by rw [HET.out.1]; omega) s28
            obtain rfl : at2 = some ⟨gt, 0, none⟩ := by simp at et; exact et.1
            clear et
            have HT12 := Lib.hid (And.intro ht1 ht2)
            generalize hR2 : (fx fb * (cd p fb xs ys * (obx (.slice (some ⟨gx, 0, none⟩) xs.length cx2) X9 * mc bw ax cx ay cy xs ys)) : Sp.HP) = REST2
            have S := Lib.hid (s28.eq (Q := ob (.slice (some ⟨gt, 0, none⟩) ys.length ct) vst ET * (ob (.slice (some ⟨gp, 0, none⟩) ys.length cp) vsp EX * REST2)) (by rw [← hR2]; ac_rfl))
            clear s27 s28 ht1 ht2 hR2
            go_wp2_with fail
            go_loopw [32] (fun ji wr => ∃ jj : Nat, jj ≤ ys.length ∧ ji = .int .i64 (jj : Int) ∧ St w0.heap.size w0 wr (ob (.slice (some ⟨gt, 0, none⟩) ys.length ct) vst ET * (ob (.slice (some ⟨gp, 0, none⟩) ys.length cp) vsp EX * REST2))) (fun ji _ => ys.length - (intOf ji).toNat)
            case atStart => exact ⟨0, Nat.zero_le _, rfl, S.out⟩
            case round =>
              obtain ⟨jj, hjj, rfl, s29⟩ := hrel
              clear S
              by_cases hjr : jj < ys.length
              · have hjI : (jj : Int) < (ys.length : Int) := by omega
                have j1 : jj < EX.length := by rw [HEX.out.1]; exact hjr
                have j2 : jj < ET.length := by rw [HET.out.1]; exact hjr
                obtain ⟨_, _, gup, cup, -, hup, hrp⟩ := ob_head HPP.out.1 HPP.out.2 jj j1 (s29.eq (sep_left_comm _ _ _))
                obtain ⟨_, _, gut, cut, -, hut, hrt⟩ := ob_head HT12.out.1 HT12.out.2 jj j2 s29
                have l1 := HEX.out.2 _ (List.getElem_mem j1)
                have l2 := HET.out.2 _ (List.getElem_mem j2)
                have HNE := Lib.hid (HTD.out jj j2 j1)
                rw [l1] at hup hrp
                rw [l2] at hut hrt
                have HC1 := Lib.hid (show ∀ w' : World, St w0.heap.size w0 w' (ob (.slice (some ⟨gt, 0, none⟩) ys.length ct) vst ET * (ob (.slice (some ⟨gp, 0, none⟩) ys.length cp) vsp EX * REST2)) → w'.cell? ⟨gp, jj, none⟩ = some (.slice (some ⟨gup, 0, none⟩) 8 cup) ∧ BS w' (.slice (some ⟨gup, 0, none⟩) 8 cup) EX[jj] from fun w' s => by
                  have s2 := s.eq (sep_left_comm _ _ _)
                  exact ⟨ob_cell s2 j1 hup, hrp w' _ (s2.eq (sep_comm _ _))⟩)
                have HC2 := Lib.hid (show ∀ w' : World, St w0.heap.size w0 w' (ob (.slice (some ⟨gt, 0, none⟩) ys.length ct) vst ET * (ob (.slice (some ⟨gp, 0, none⟩) ys.length cp) vsp EX * REST2)) → w'.cell? ⟨gt, jj, none⟩ = some (.slice (some ⟨gut, 0, none⟩) 8 cut) ∧ BS w' (.slice (some ⟨gut, 0, none⟩) 8 cut) ET[jj] from fun w' s =>
                  ⟨ob_cell s j2 hut, hrt w' _ (s.eq (sep_comm _ _))⟩)
                have S29 := Lib.hid s29
                clear s29
                clear hup hut hrp hrt l1 l2
                go_wp2_with fail
                refine wp_region_rx (fun _ w' => St w0.heap.size w0 w' (ob (.slice (some ⟨gt, 0, none⟩) ys.length ct) vst ET * (ob (.slice (some ⟨gp, 0, none⟩) ys.length cp) vsp EX * REST2))) [] Gf.mixed (by kernel_rfl) (by kernel_rfl) S29.out.drew ?_
                refine RXl.exact (.slice (some ⟨gt, 0, none⟩) ys.length ct) rfl rfl rfl rfl rfl (fun _ _ _ _ _ => rfl) ?_
                refine RXl.exact (.int .i64 (jj : Int)) rfl rfl rfl rfl rfl (fun _ _ _ _ _ => rfl) ?_
                refine RXl.exact (.pointer (some ⟨gt, jj, none⟩)) rfl rfl rfl rfl rfl (fun j τ w' hj hJ => by have t1 : (jj : Int) < (ys.length : Int) := (by omega); simp [rho, upd, Spec.val, execOp, go_sem, t1]) ?_
                refine RXl.exact (.slice (some ⟨gut, 0, none⟩) 8 cut) rfl rfl rfl rfl rfl (fun j τ w' hj hJ => by have c := (HC2.out _ hJ).1; simp [rho, upd, Spec.val, execOp, go_sem, c]) ?_
                refine RXl.exact (str ET[jj]) rfl rfl rfl rfl rfl (fun j τ w' hj hJ => exec_convert rfl (run_str Try.underlying32 Try.underlying5 Try.underlying9 (HC2.out _ hJ).2)) ?_
                refine RXl.exact (.slice (some ⟨gp, 0, none⟩) ys.length cp) rfl rfl rfl rfl rfl (fun _ _ _ _ _ => rfl) ?_
                refine RXl.exact (.int .i64 (jj : Int)) rfl rfl rfl rfl rfl (fun _ _ _ _ _ => rfl) ?_
                refine RXl.exact (.pointer (some ⟨gp, jj, none⟩)) rfl rfl rfl rfl rfl (fun j τ w' hj hJ => by have t1 : (jj : Int) < (ys.length : Int) := (by omega); simp [rho, upd, Spec.val, execOp, go_sem, t1]) ?_
                refine RXl.exact (.slice (some ⟨gup, 0, none⟩) 8 cup) rfl rfl rfl rfl rfl (fun j τ w' hj hJ => by have c := (HC1.out _ hJ).1; simp [rho, upd, Spec.val, execOp, go_sem, c]) ?_
                refine RXl.exact (str EX[jj]) rfl rfl rfl rfl rfl (fun j τ w' hj hJ => exec_convert rfl (run_str Try.underlying32 Try.underlying5 Try.underlying9 (HC1.out _ hJ).2)) ?_
                refine RXl.exact (.bool false) rfl rfl rfl rfl rfl (fun j τ w' hj hJ => by have c := HNE.out; simp [rho, upd, Spec.val, execOp, go_sem, str, c]) ?_
                refine RXl.nilx _ (Agr.upd _ _ (Agr.upd _ _ (Agr.upd _ _ (Agr.upd _ _ (Agr.upd _ _ (Agr.upd _ _ (Agr.upd _ _ (Agr.upd _ _ (Agr.upd _ _ (Agr.upd _ _ (Agr.upd _ _ (Agr.base _)))))))))))) fun w22 hJ => ?_
                obtain ⟨_, hJ⟩ := hJ
                simp only [Act.put, List.setIfInBounds_toArray, List.set_cons_succ, List.set_cons_zero]
                have S30 := Lib.hid (show St w0.heap.size w0 w22 (ob (.slice (some ⟨gt, 0, none⟩) ys.length ct) vst ET * (ob (.slice (some ⟨gp, 0, none⟩) ys.length cp) vsp EX * REST2)) from hJ)
                clear hJ S29 HC1 HC2 HNE
                go_wp2_with fail
                go_roundw
                case rel => exact ⟨jj + 1, by omega, by go_num, S30.out⟩
                case measure => simp [intOf]; omega
              · obtain rfl : jj = ys.length := by omega
                have S29 := Lib.hid s29
                clear s29
                go_wp2_with fail
                refine (awake4_calls _ S29.out).mono ?_
                rintro e w23 ⟨rfl, s30⟩
                clear S29
                have S30 := Lib.hid s30
                clear s30
                go_wp2_with fail
                go_ret
                exact ⟨rfl, S30.out.below⟩
          · have hbI := u8_pos hb0
            have hbne : (by_ : UInt8) ≠ 0 := hb0
            generalize hx0 : X[i0][q0]'(by omega) = x0 at cX1
            have hxv := bits_xor_u8' x0 by_
            generalize hv0 : x0 ^^^ (by_) = xv at hxv
            skip
            have S23 := Lib.hid (hsx q0 xv (by omega))
            have HX0 := Lib.hid hx0
            have HV0 := Lib.hid hv0
            have HUX := Lib.hid hux
            have HX12 := Lib.hid (And.intro hx1 hx2)
            have HI0 := Lib.hid (And.intro hi0x hXi)
            have HBN := Lib.hid hbne
            clear hx0 hv0 hux hx1 hx2 hcx hfx hsx s19 s20 s21 s22 hrx hbne
            go_wp2_with fail
            have s24 := (S23.out.eq (Q := row 5 1 (.slice (some ⟨gux, 0, none⟩) 8 cux) 8 (bvs (X[i0].set q0 xv)) * (rows 5 (vsx.eraseIdx i0) (X.eraseIdx i0) * (row 32 1 (.slice (some ⟨gx, 0, none⟩) xs.length cx2) X.length vsx * (ob (.slice (some ⟨gp, 0, none⟩) ys.length cp) vsp EX * (fx fb * (cd p fb xs ys * mc bw ax cx ay cy xs ys)))))) (by ac_rfl))
            have hl8 : (X[i0].set q0 xv).length = 8 := by rw [List.length_set]; exact HI0.out.2
            have s25 := St.rowsSet (b := X[i0].set q0 xv) HX12.out.1 HUX.out (by rw [hl8]; exact s24)
            have HX3 := Lib.hid (show (X.set i0 (X[i0].set q0 xv)).length = xs.length ∧ ∀ b ∈ X.set i0 (X[i0].set q0 xv), b.length = 8 from ⟨by rw [List.length_set]; exact HX2.out, fun b hb => by
              rcases List.mem_or_eq_of_mem_set hb with h | h
              · exact HX1.out b h
              · rw [h]; exact hl8⟩)
            have HTN := Lib.hid (show ∀ j, j < ys.length → par xs ys j 8 (X.set i0 (X[i0].set q0 xv)) ≠ par xs ys j 8 X from fun j hj => by
              refine par_turn HG.out (i := i0) (q := q0) (by_ := by_) hi0 hq0 HBN.out (fun i' => ?_) hj
              have hx : i0 < X.length := HI0.out.1
              have hl := HI0.out.2
              by_cases e : i' = i0
              · subst e
                rw [if_pos rfl]
                have e1 : (X.set i' (X[i'].set q0 xv)).getD i' [] = X[i'].set q0 xv := by simp [List.getD, hx]
                have e2 : X.getD i' [] = X[i'] := by simp [List.getD, hx]
                rw [e1, e2]
                have e3 : (X[i'].set q0 xv).getD q0 0 = xv := by simp [List.getD, List.getElem?_set_self (show q0 < X[i'].length by omega)]
                have e4 : X[i'].getD q0 0 = x0 := by rw [← HX0.out]; simp [List.getD, show q0 < X[i'].length by omega]
                rw [e3, e4]
                exact HV0.out.symm
              · rw [if_neg e]
                have e1 : (X.set i0 (X[i0].set q0 xv)).getD i' [] = X.getD i' [] := by simp [List.getD, List.getElem?_set_ne (Ne.symm e)]
                rw [e1])
            have s26 := obx_mk (v := .slice (some ⟨gx, 0, none⟩) xs.length cx2) (vs := vsx) (d := X.set i0 (X[i0].set q0 xv)) (by rw [List.length_set]; exact HX12.out.1) HX12.out.2 (s25.eq (Q := ob (.slice (some ⟨gx, 0, none⟩) xs.length cx2) vsx (X.set i0 (X[i0].set q0 xv)) * (ob (.slice (some ⟨gp, 0, none⟩) ys.length cp) vsp EX * (fx fb * (cd p fb xs ys * mc bw ax cx ay cy xs ys)))) (by unfold ob; rw [List.length_set]; ac_rfl))
            generalize wr.setCell ⟨gux, q0, none⟩ _ = w20 at s26 ⊢
            generalize X.set i0 (X[i0].set q0 xv) = X9 at *
            clear s24 s25 hl8 S23
            refine (encode_x p fb xs ys 8 (.slice (some ⟨gx, 0, none⟩) xs.length cx2) X9 HG.out HX3.out.1 (by omega) HX3.out.2 (R := ob (.slice (some ⟨gp, 0, none⟩) ys.length cp) vsp EX * mc bw ax cx ay cy xs ys) (s26.eq (by ac_rfl))).mono ?_
            rintro e w21 ⟨vt, rfl, s27⟩
            clear s26
            obtain ⟨at2, ct, rfl⟩ := obx_slice s27
            rw [enc_len] at s27 ⊢
            obtain ⟨vst, ht1, ht2, s28⟩ := obx_open s27
            have HET := Lib.hid (show (enc xs ys 8 X9).length = ys.length ∧ ∀ b ∈ enc xs ys 8 X9, b.length = 8 from ⟨enc_len _ _ _ _, fun b hb => all_each (xs := xs) HX3.out.1 HX3.out.2 b (List.mem_append_right _ hb)⟩)
            have HTD := Lib.hid (show ∀ j (h : j < (enc xs ys 8 X9).length) (h2 : j < EX.length), ¬ (enc xs ys 8 X9)[j] = EX[j] from fun j h h2 => by
              have e : EX[j] = par xs ys j 8 X := by
                have h3 := HXE.out
                subst h3
                simp [enc]
              rw [e]
              simp only [enc, List.getElem_map, List.getElem_range]
              exact HTN.out j (by rw [enc_len] at h; exact h))
            generalize enc xs ys 8 X9 = ET at *
            obtain ⟨gt, _, _, _, et, -, -⟩ := ob_head ht1 ht2 0 (by rw [HET.out.1]; omega) s28
            obtain rfl : at2 = some ⟨gt, 0, none⟩ := by simp at et; exact et.1
            clear et
            have HT12 := Lib.hid (And.intro ht1 ht2)
            generalize hR2 : (fx fb * (cd p fb xs ys * (obx (.slice (some ⟨gx, 0, none⟩) xs.length cx2) X9 * mc bw ax cx ay cy xs ys)) : Sp.HP) = REST2
            have S := Lib.hid (s28.eq (Q := ob (.slice (some ⟨gt, 0, none⟩) ys.length ct) vst ET * (ob (.slice (some ⟨gp, 0, none⟩) ys.length cp) vsp EX * REST2)) (by rw [← hR2]; ac_rfl))
            clear s27 s28 ht1 ht2 hR2
            go_wp2_with fail
            go_loopw [32] (fun ji wr => ∃ jj : Nat, jj ≤ ys.length ∧ ji = .int .i64 (jj : Int) ∧ St w0.heap.size w0 wr (ob (.slice (some ⟨gt, 0, none⟩) ys.length ct) vst ET * (ob (.slice (some ⟨gp, 0, none⟩) ys.length cp) vsp EX * REST2))) (fun ji _ => ys.length - (intOf ji).toNat)
            case atStart => exact ⟨0, Nat.zero_le _, rfl, S.out⟩
            case round =>
              obtain ⟨jj, hjj, rfl, s29⟩ := hrel
              clear S
              by_cases hjr : jj < ys.length
              · have hjI : (jj : Int) < (ys.length : Int) := by omega
                have j1 : jj < EX.length := by rw [HEX.out.1]; exact hjr
                have j2 : jj < ET.length := by rw [HET.out.1]; exact hjr
                obtain ⟨_, _, gup, cup, -, hup, hrp⟩ := ob_head HPP.out.1 HPP.out.2 jj j1 (s29.eq (sep_left_comm _ _ _))
                obtain ⟨_, _, gut, cut, -, hut, hrt⟩ := ob_head HT12.out.1 HT12.out.2 jj j2 s29
                have l1 := HEX.out.2 _ (List.getElem_mem j1)
                have l2 := HET.out.2 _ (List.getElem_mem j2)
                have HNE := Lib.hid (HTD.out jj j2 j1)
                rw [l1] at hup hrp
                rw [l2] at hut hrt
                have HC1 := Lib.hid (show ∀ w' : World, St w0.heap.size w0 w' (ob (.slice (some ⟨gt, 0, none⟩) ys.length ct) vst ET * (ob (.slice (some ⟨gp, 0, none⟩) ys.length cp) vsp EX * REST2)) → w'.cell? ⟨gp, jj, none⟩ = some (.slice (some ⟨gup, 0, none⟩) 8 cup) ∧ BS w' (.slice (some ⟨gup, 0, none⟩) 8 cup) EX[jj] from fun w' s => by
                  have s2 := s.eq (sep_left_comm _ _ _)
                  exact ⟨ob_cell s2 j1 hup, hrp w' _ (s2.eq (sep_comm _ _))⟩)
                have HC2 := Lib.hid (show ∀ w' : World, St w0.heap.size w0 w' (ob (.slice (some ⟨gt, 0, none⟩) ys.length ct) vst ET * (ob (.slice (some ⟨gp, 0, none⟩) ys.length cp) vsp EX * REST2)) → w'.cell? ⟨gt, jj, none⟩ = some (.slice (some ⟨gut, 0, none⟩) 8 cut) ∧ BS w' (.slice (some ⟨gut, 0, none⟩) 8 cut) ET[jj] from fun w' s =>
                  ⟨ob_cell s j2 hut, hrt w' _ (s.eq (sep_comm _ _))⟩)
                have S29 := Lib.hid s29
                clear s29
                clear hup hut hrp hrt l1 l2
                go_wp2_with fail
                refine wp_region_rx (fun _ w' => St w0.heap.size w0 w' (ob (.slice (some ⟨gt, 0, none⟩) ys.length ct) vst ET * (ob (.slice (some ⟨gp, 0, none⟩) ys.length cp) vsp EX * REST2))) [] Gf.mixed (by kernel_rfl) (by kernel_rfl) S29.out.drew ?_
                refine RXl.exact (.slice (some ⟨gt, 0, none⟩) ys.length ct) rfl rfl rfl rfl rfl (fun _ _ _ _ _ => rfl) ?_
                refine RXl.exact (.int .i64 (jj : Int)) rfl rfl rfl rfl rfl (fun _ _ _ _ _ => rfl) ?_
                refine RXl.exact (.pointer (some ⟨gt, jj, none⟩)) rfl rfl rfl rfl rfl (fun j τ w' hj hJ => by have t1 : (jj : Int) < (ys.length : Int) := (by omega); simp [rho, upd, Spec.val, execOp, go_sem, t1]) ?_
                refine RXl.exact (.slice (some ⟨gut, 0, none⟩) 8 cut) rfl rfl rfl rfl rfl (fun j τ w' hj hJ => by have c := (HC2.out _ hJ).1; simp [rho, upd, Spec.val, execOp, go_sem, c]) ?_
                refine RXl.exact (str ET[jj]) rfl rfl rfl rfl rfl (fun j τ w' hj hJ => exec_convert rfl (run_str Try.underlying32 Try.underlying5 Try.underlying9 (HC2.out _ hJ).2)) ?_
                refine RXl.exact (.slice (some ⟨gp, 0, none⟩) ys.length cp) rfl rfl rfl rfl rfl (fun _ _ _ _ _ => rfl) ?_
                refine RXl.exact (.int .i64 (jj : Int)) rfl rfl rfl rfl rfl (fun _ _ _ _ _ => rfl) ?_
                refine RXl.exact (.pointer (some ⟨gp, jj, none⟩)) rfl rfl rfl rfl rfl (fun j τ w' hj hJ => by have t1 : (jj : Int) < (ys.length : Int) := (by omega); simp [rho, upd, Spec.val, execOp, go_sem, t1]) ?_
                refine RXl.exact (.slice (some ⟨gup, 0, none⟩) 8 cup) rfl rfl rfl rfl rfl (fun j τ w' hj hJ => by have c := (HC1.out _ hJ).1; simp [rho, upd, Spec.val, execOp, go_sem, c]) ?_
                refine RXl.exact (str EX[jj]) rfl rfl rfl rfl rfl (fun j τ w' hj hJ => exec_convert rfl (run_str Try.underlying32 Try.underlying5 Try.underlying9 (HC1.out _ hJ).2)) ?_
                refine RXl.exact (.bool false) rfl rfl rfl rfl rfl (fun j τ w' hj hJ => by have c := HNE.out; simp [rho, upd, Spec.val, execOp, go_sem, str, c]) ?_
                refine RXl.nilx _ (Agr.upd _ _ (Agr.upd _ _ (Agr.upd _ _ (Agr.upd _ _ (Agr.upd _ _ (Agr.upd _ _ (Agr.upd _ _ (Agr.upd _ _ (Agr.upd _ _ (Agr.upd _ _ (Agr.upd _ _ (Agr.base _)))))))))))) fun w22 hJ => ?_
                obtain ⟨_, hJ⟩ := hJ
                simp only [Act.put, List.setIfInBounds_toArray, List.set_cons_succ, List.set_cons_zero]
                have S30 := Lib.hid (show St w0.heap.size w0 w22 (ob (.slice (some ⟨gt, 0, none⟩) ys.length ct) vst ET * (ob (.slice (some ⟨gp, 0, none⟩) ys.length cp) vsp EX * REST2)) from hJ)
                clear hJ S29 HC1 HC2 HNE
                go_wp2_with fail
                go_roundw
                case rel => exact ⟨jj + 1, by omega, by go_num, S30.out⟩
                case measure => simp [intOf]; omega
              · obtain rfl : jj = ys.length := by omega
                have S29 := Lib.hid s29
                clear s29
                go_wp2_with fail
                refine (awake4_calls _ S29.out).mono ?_
                rintro e w23 ⟨rfl, s30⟩
                clear S29
                have S30 := Lib.hid s30
                clear s30
                go_wp2_with fail
                go_ret
                exact ⟨rfl, S30.out.below⟩
set_option maxRecDepth 100000 in
set_option maxHeartbeats 8000000 in
theorem linear_walk (a0 a1 at_ : Int) (aa : Option Addr) (ca : Nat) (la : List UInt8) (ab : Option Addr) (cb_ : Nat) (lb : List UInt8) (i : Int) (by_ : UInt8) (w0 : World) (_h0 : (Lit.int .i64 a0).wf = true) (_h1 : (Lit.int .i64 a1).wf = true) (_h2 : (Lit.int .i64 at_).wf = true)
    (hA : BS w0 (.slice aa la.length ca) la) (_hA2 : la.length * 1 ≤ 140737488351232) (hB : BS w0 (.slice ab lb.length cb_) lb) (_hB2 : lb.length * 1 ≤ 140737488351232) (_h5 : (Lit.int .i64 i).wf = true) :
    Calls Try.prog 8 #[.int .i64 a0, .int .i64 a1, .int .i64 at_, .slice aa la.length ca, .slice ab lb.length cb_, .int .i64 i, bv by_] w0 fun e w' => e = .returned (.bool true) ∧ Below w0.heap.size w0 w' := by
  by_cases h1 : (la.length : Int) ≤ 300
  · by_cases h2 : (lb.length : Int) ≤ 300
    · obtain ⟨K, hK, e0⟩ := k_of a0
      obtain ⟨r, hr, e1⟩ := r_of a1
      exact linear_in a0 a1 at_ K r hK hr e0 e1 aa ca la ab cb_ lb i by_ w0 (Lib.hid hA) (Lib.hid hB) h1 h2
    · have h2' : (300 : Int) < (lb.length : Int) := by omega
      clear hA hB h2
      go_enter Try.func8, Try.ntmps8
      go_wp2_with fail
      refine (awake4_calls w0 (St.init w0)).mono ?_
      rintro e w1 ⟨rfl, s1⟩
      have S1 := Lib.hid s1
      clear s1
      go_wp2_with fail
      go_ret
      exact ⟨rfl, S1.out.below⟩
  · have h1' : (300 : Int) < (la.length : Int) := by omega
    clear hA hB h1
    go_enter Try.func8, Try.ntmps8
    go_wp2_with fail
    refine (awake4_calls w0 (St.init w0)).mono ?_
    rintro e w1 ⟨rfl, s1⟩
    have S1 := Lib.hid s1
    clear s1
    go_wp2_with fail
    go_ret
    exact ⟨rfl, S1.out.below⟩
end Go.Proofs.Ytjnfhppjkadlpaa.Cd
