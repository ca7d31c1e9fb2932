/- CodeAny, walked. No condition. -/
import Derived.Test.YtjnfhppjkadlpaaCdO
import Derived.Test.YtjnfhppjkadlpaaCdY
import Derived.Test.YtjnfhppjkadlpaaMgB
set_option linter.unusedSimpArgs false
set_option linter.unusedVariables false
namespace Go.Proofs.Ytjnfhppjkadlpaa.Cd
open Go Go.RowKit Go.Proofs.Ytjnfhppjkadlpaa Go.Proofs.Ytjnfhppjkadlpaa.Sp Go.Proofs.Ytjnfhppjkadlpaa.Reg Go.Proofs.Ytjnfhppjkadlpaa.Rd Go.Proofs.Ytjnfhppjkadlpaa.Obr Go.Proofs.Ytjnfhppjkadlpaa.Gf Go.Proofs.Ytjnfhppjkadlpaa.Mt Go.Proofs.Ytjnfhppjkadlpaa.Shd
set_option maxRecDepth 100000 in
set_option maxHeartbeats 32000000 in
theorem any_in (a0 a1 at_ : Int) (K r : Nat) (hK : 1 ≤ K ∧ K ≤ 14) (hr : 1 ≤ r ∧ r ≤ 4) (e0 : (bits .and .i64 a0 255).tmod 14 = (K : Int) - 1) (e1 : bits .and .i64 a1 3 = (r : Int) - 1)
    (ab : Option Addr) (cb_ : Nat) (lb : List UInt8) (a4 : Int) (l0 : Nat) (hl0 : l0 ≤ 31) (eL : bits .and .i64 a4 31 = (l0 : Int)) (al : Option Addr) (cl : Nat) (ns : List Int) (w0 : World) (HB : Hid (BS w0 (.slice ab lb.length cb_) lb)) (HI : Hid (IS w0 (.slice al ns.length cl) ns)) (lb1 : (lb.length : Int) ≤ 1000) :
    Calls Try.prog 10 #[.int .i64 a0, .int .i64 a1, .int .i64 at_, .slice ab lb.length cb_, .int .i64 a4, .slice al ns.length cl] w0 fun e w' => e = .returned (.bool true) ∧ Below w0.heap.size w0 w' := by
  obtain ⟨lg, hlg⟩ : ∃ lg, l0 + 1 = lg := ⟨_, rfl⟩
  go_enter Try.func10, Try.ntmps10
  go_wp2_with fail
  refine (made_calls a0 a1 at_ K r hK hr e0 e1 w0 (St.init w0)).mono ?_
  rintro e w1 ⟨v1, v2, rfl, s1⟩
  obtain ⟨ax, cx, rfl, -⟩ := s1.rowSlice
  obtain ⟨ay, cy, rfl, -⟩ := s1.right.rowSlice
  have HG := Lib.hid (good_m at_ hK hr)
  clear e0 e1
  have l1 := ms_len at_ 0 K
  have l2 := ms_len at_ K r
  generalize ms at_ K r = ys at *
  generalize ms at_ 0 K = xs at *
  subst l1
  subst l2
  go_wp2_with fail
  have s2 := (s1.alloc (.cells #[.slice ax xs.length cx, .slice ay ys.length cy] 51)).eq (Q := mc w1.heap.size ax cx ay cy xs ys) (by unfold mc; rw [sep_emp])
  generalize w1.alloc (.cells #[.slice ax xs.length cx, .slice ay ys.length cy] 51) = w2 at *
  generalize w1.heap.size = bw at *
  clear s1
  have S := Lib.hid s2
  clear s2
  refine wp_region_rv [43, 48, 42, 49, 14] (PJ w0.heap.size w0 (mc bw ax cx ay cy xs ys) CF (CH xs ys (mc bw ax cx ay cy xs ys))) [0, 5, 6, 7, 9] Gf.mixed (by kernel_rfl) (by kernel_rfl) (by kernel_rfl) (fun _ => S.out.drew) ?_
  refine RXl.callV 0 43 rfl rfl rfl (Nat.le_of_ble_eq_true rfl) _ [] _ rfl rfl rfl rfl rfl (PJ.first [] (fun ρ w hag => rfl) (fun _ => rfl) (fun w s => (newx w s).mono fun e w1 ⟨fb, h1, s1⟩ => ⟨(fb, 0), h1, s1⟩)) ?_
  refine RXl.exact (.pointer (some ⟨bw, 0, none⟩)) rfl rfl rfl rfl rfl (fun j τ w' hj hJ => (by obtain ⟨vs, hv, hJ⟩ := hJ; exact (by simp [rho, upd, Spec.val, execOp, go_sem]))) ?_
  refine RXl.exact (.slice ax xs.length cx) rfl rfl rfl rfl rfl (fun j τ w' hj hJ => (by obtain ⟨vs, hv, hJ⟩ := hJ; exact (by obtain ⟨Z, q⟩ := CJ_x hJ; have c := (mc_cells q).1; simp [rho, upd, Spec.val, execOp, go_sem, c]))) ?_
  refine RXl.exact (.pointer (some ⟨bw, 1, none⟩)) rfl rfl rfl rfl rfl (fun j τ w' hj hJ => (by obtain ⟨vs, hv, hJ⟩ := hJ; exact (by simp [rho, upd, Spec.val, execOp, go_sem]))) ?_
  refine RXl.exact (.slice ay ys.length cy) rfl rfl rfl rfl rfl (fun j τ w' hj hJ => (by obtain ⟨vs, hv, hJ⟩ := hJ; exact (by obtain ⟨Z, q⟩ := CJ_x hJ; have c := (mc_cells q).2; simp [rho, upd, Spec.val, execOp, go_sem, c]))) ?_
  refine RXl.callV 1 48 rfl rfl rfl (Nat.le_of_ble_eq_true rfl) _ [.tmp 43, .tmp 45, .tmp 47] _ rfl rfl rfl rfl rfl (CJ_new ax ay cx cy HG.out mc_x mc_y (fun ρ a w h hag => by simp [h 0 43 (by decide) rfl, hag.ex 45 _ rfl rfl rfl, hag.ex 47 _ rfl rfl rfl, CF])) ?_
  refine RXl.effV 2 42 rfl rfl rfl (Nat.le_of_ble_eq_true rfl) rfl rfl rfl rfl (PJ.pass rfl (fun ρ a w h hag s => by have e := h 1 48 (by decide) rfl; exact (exec_move rfl).trans (by rw [e]; rfl))) ?_
  refine RXl.effV 3 49 rfl rfl rfl (Nat.le_of_ble_eq_true rfl) rfl rfl rfl rfl (PJ.pass rfl (fun ρ a w h hag s => by have e := h 2 42 (by decide) rfl; exact exec_extract rfl e rfl)) ?_
  refine RXl.value (.ex (.int .i64 0)) (Free.ex _) rfl rfl rfl rfl (fun ρ w' j hj hI hag => ⟨_, (by obtain ⟨a, e⟩ := PJ.val (hag.so 42 _ rfl rfl rfl); exact exec_extract rfl e rfl), rfl⟩) ?_
  refine RXl.effV 4 14 rfl rfl rfl (Nat.le_of_ble_eq_true rfl) rfl rfl rfl rfl (PJ.pass rfl (fun ρ a w h hag s => by have e := h 3 49 (by decide) rfl; exact (exec_assign rfl).trans (by rw [e]; rfl))) ?_
  refine RXl.exact (.int .i64 0) rfl rfl rfl rfl rfl (fun _ _ _ _ _ => rfl) ?_
  refine RXl.nilV _ (AgrL.upd _ _ (AgrL.unk 14 _ rfl (AgrL.upd _ _ (AgrL.unk 49 _ rfl (AgrL.unk 42 _ rfl (AgrL.unk 48 _ rfl (AgrL.upd _ _ (AgrL.upd _ _ (AgrL.upd _ _ (AgrL.upd _ _ (AgrL.unk 43 _ rfl (AgrL.base _)))))))))))) (by decide) (by decide) fun vs w8 hJ => ?_
  simp only [puts, Act.put, List.setIfInBounds_toArray, List.set_cons_succ, List.set_cons_zero]
  obtain ⟨⟨fb, p⟩, hv, s9⟩ := hJ
  rw [show vs 0 = CF 0 (fb, p) from hv 0 (by decide), show vs 1 = CF 1 (fb, p) from hv 1 (by decide), show vs 2 = CF 2 (fb, p) from hv 2 (by decide), show vs 3 = pp p from hv 3 (by decide), show vs 4 = pp p from hv 4 (by decide)]
  generalize CF 0 (fb, p) = y0
  generalize CF 1 (fb, p) = y1
  generalize CF 2 (fb, p) = y2
  clear S hv vs
  have S := Lib.hid (show St w0.heap.size w0 w8 (fx fb * (cd p fb xs ys * mc bw ax cx ay cy xs ys)) from s9.eq (sep_left_comm _ _ _))
  clear s9
  obtain ⟨hK1, hK2⟩ := hK
  obtain ⟨hr1, hr2⟩ := hr
  have lb2 : lb.length ≤ 1000000 := by omega
  obtain ⟨k5, k6⟩ := mc_cells (S.out.eq (Q := mc bw ax cx ay cy xs ys * (fx fb * cd p fb xs ys)) (by ac_rfl))
  go_wp2_with fail
  rw [show ((l0 : Int) + 1) = (lg : Int) from by omega]
  refine (dat_x xs.length lg (by omega) (by omega) ab lb.length cb_ lb rfl lb2 (reads_arg _ HB.out) S.out).mono ?_
  rintro e w9 ⟨vx, rfl, s9⟩
  have HX1 := Lib.hid (dl_each lb lg xs.length)
  have HX2 := Lib.hid (dl_len lb lg xs.length)
  generalize dl lb lg xs.length = X at *
  clear S k5 k6
  obtain ⟨ax2, cx2, rfl⟩ := obx_slice s9
  rw [HX2.out] at s9 ⊢
  have S := Lib.hid (s9.eq (Q := fx fb * (cd p fb xs ys * (obx (.slice ax2 xs.length cx2) X * mc bw ax cx ay cy xs ys))) (by ac_rfl))
  clear s9
  go_wp2_with fail
  refine (encode_x p fb xs ys lg (.slice ax2 xs.length cx2) X HG.out HX2.out (by omega) HX1.out S.out).mono ?_
  rintro e w10 ⟨vp, rfl, s10⟩
  clear S
  obtain ⟨ap, cp, rfl⟩ := obx_slice s10
  rw [enc_len] at s10 ⊢
  obtain ⟨k5, k6⟩ := mc_cells (s10.eq (Q := mc bw ax cx ay cy xs ys * (obx (.slice ap ys.length cp) (enc xs ys lg X) * (fx fb * (cd p fb xs ys * obx (.slice ax2 xs.length cx2) X)))) (by ac_rfl))
  obtain ⟨vsp, hp1, hp2, s11⟩ := obx_open s10
  rw [enc_len] at hp1
  obtain ⟨vsx, hx1, hx2, s12⟩ := obx_open (s11.eq (Q := obx (.slice ax2 xs.length cx2) X * (ob (.slice ap ys.length cp) vsp (enc xs ys lg X) * (fx fb * (cd p fb xs ys * mc bw ax cx ay cy xs ys)))) (by ac_rfl))
  rw [HX2.out] at hx1
  have HPP := Lib.hid (And.intro hp1 hp2)
  have HXX := Lib.hid (And.intro hx1 hx2)
  have S := Lib.hid ((s12.alloc (.cells #[] 32)).rowMk (size := 1) (n := 0) (cap := 0) (xs := []) (Nat.le_refl _) (Nat.zero_le _) (by simp) rfl)
  clear s10 s11 s12 hp1 hp2 hx1 hx2
  have HR1 := Lib.hid (show ∀ w H, St w0.heap.size w0 w (H * (ob (.slice ax2 xs.length cx2) vsx X * (ob (.slice ap ys.length cp) vsp (enc xs ys lg X) * (fx fb * (cd p fb xs ys * mc bw ax cx ay cy xs ys))))) → Rd w ax2 vsx ∧ Rd w ap vsp from fun w H s =>
    ⟨(ob_row (s.eq (Q := ob (.slice ax2 xs.length cx2) vsx X * (H * (ob (.slice ap ys.length cp) vsp (enc xs ys lg X) * (fx fb * (cd p fb xs ys * mc bw ax cx ay cy xs ys))))) (by ac_rfl))).eq (by rw [HX2.out]) |>.rowRd, (ob_row (s.eq (Q := ob (.slice ap ys.length cp) vsp (enc xs ys lg X) * (H * (ob (.slice ax2 xs.length cx2) vsx X * (fx fb * (cd p fb xs ys * mc bw ax cx ay cy xs ys))))) (by ac_rfl))).eq (by rw [enc_len]) |>.rowRd⟩)
  have HNA := Lib.hid (show (ax2 = none → cx2 = 0) ∧ (ap = none → cp = 0) from by
    have s := S.out.right
    obtain ⟨a1, c1, e1, -, -, h1, -⟩ := ((ob_row s).eq (Q := row 32 1 (.slice ax2 xs.length cx2) xs.length vsx * _) (by rw [HX2.out])).rowSlice
    obtain ⟨a2, c2, e2, -, -, h2, -⟩ := ((ob_row (s.eq (Q := ob (.slice ap ys.length cp) vsp (enc xs ys lg X) * (ob (.slice ax2 xs.length cx2) vsx X * (fx fb * (cd p fb xs ys * mc bw ax cx ay cy xs ys)))) (by ac_rfl))).eq (Q := row 32 1 (.slice ap ys.length cp) ys.length vsp * _) (by rw [enc_len])).rowSlice
    cases e1
    cases e2
    exact ⟨h1, h2⟩)
  obtain ⟨N, hN⟩ : ∃ N, xs.length + ys.length = N := ⟨_, rfl⟩
  have HN := Lib.hid hN
  have hN1 : 2 ≤ N ∧ N ≤ 18 := by omega
  go_wp2_with (first
    | (((have q := S); clear q); at_builtin; go_must (refine wpl_append rfl _ _ rfl tBB S.out ax2 xs.length cx2 vsx rfl rfl (HR1.out _ _ S.out).1 HNA.out.1 (by rw [Nat.mul_one]; exact HXX.out.1) (nn_one HXX.out.2) (by unfold maxLen; omega) (by omega) ?_); intro v11 w11 s11 _; rw [List.nil_append, Nat.zero_add] at s11; have S1 := Lib.hid s11; clear s11 S)
    | (((have q := S1); clear q); at_builtin; go_must (refine wpl_append rfl _ _ rfl tBB S1.out ap ys.length cp vsp rfl rfl (HR1.out _ _ S1.out).2 HNA.out.2 (by rw [Nat.mul_one]; exact HPP.out.1) (nn_one HPP.out.2) (by unfold maxLen; omega) (by omega) ?_); intro v12 w12 s12 _; rw [HN.out] at s12; obtain ⟨ga, ca, rfl, -⟩ := s12.rowCells (by omega); have S2 := Lib.hid s12; clear s12 S1))
  have hnn : NN (vsx ++ vsp) := HXX.out.2.app HPP.out.2
  have hal : (all xs ys lg X).length = N := by rw [all_len HX2.out]; exact hN
  have hvl : (vsx ++ vsp).length = (all xs ys lg X).length := by rw [List.length_append, HXX.out.1, HPP.out.1, hal]; exact hN
  have s13 := (S2.out.eq (Q := (row 32 1 (.slice ax2 xs.length cx2) xs.length vsx * row 32 1 (.slice ap ys.length cp) ys.length vsp) * (ob (.slice (some ⟨ga, 0, none⟩) N ca) (vsx ++ vsp) (all xs ys lg X) * (fx fb * (cd p fb xs ys * mc bw ax cx ay cy xs ys)))) (by
    unfold ob
    rw [hal, HX2.out, enc_len]
    unfold all
    rw [rows_app _ _ _ _ _ (by rw [HX2.out]; exact HXX.out.1)]
    ac_rfl)).right
  have HALL := Lib.hid (And.intro hnn (And.intro hvl hal))
  have HEA := Lib.hid (all_each (xs := xs) (ys := ys) HX2.out HX1.out)
  have HAX := Lib.hid (show ∀ s, (all xs ys lg X).getD s [] = (all xs ys lg X).getD s [] from fun _ => rfl)
  generalize vsx ++ vsp = vsa at *
  have S := Lib.hid (s13.eq (Q := fx fb * (cd p fb xs ys * (ob (.slice (some ⟨ga, 0, none⟩) N ca) vsa (all xs ys lg X) * mc bw ax cx ay cy xs ys))) (by ac_rfl))
  have HBR := Lib.hid (show BRd w0.heap.size w0 (ob (.slice (some ⟨ga, 0, none⟩) N ca) vsa (all xs ys lg X) * mc bw ax cx ay cy xs ys) (.slice (some ⟨ga, 0, none⟩) N ca) (all xs ys lg X) from (ob_brd hvl (s13.eq (Q := ob (.slice (some ⟨ga, 0, none⟩) N ca) vsa (all xs ys lg X) * (fx fb * (cd p fb xs ys * mc bw ax cx ay cy xs ys))) (by ac_rfl))).of (X := mc bw ax cx ay cy xs ys) (sep_comm _ _))
  clear s13 hnn hvl hal S2 hN
  have hNz : ¬ (N : Int) = 0 := by omega
  obtain ⟨hl1, hl2⟩ : 1 ≤ lg ∧ lg ≤ 32 := by omega
  clear hlg hl0 eL
  go_wp2_with fail
  go_loopw [20, 21, 22] (fun ov nv ii wr => ∃ (i m o : Nat), i ≤ 40 ∧ ii = .int .i64 (i : Int) ∧ ov = .int .u64 (o : Int) ∧ nv = .int .i64 (m : Int) ∧ o < 2 ^ 64 ∧ m = cnt (Fb (o : Int)) N ∧ m ≤ ys.length ∧ St w0.heap.size w0 wr (fx fb * (cd p fb xs ys * (ob (.slice (some ⟨ga, 0, none⟩) N ca) vsa (all xs ys lg X) * mc bw ax cx ay cy xs ys)))) (fun _ _ ii _ => 40 - (intOf ii).toNat)
  case atStart => exact ⟨0, 0, 0, by omega, rfl, rfl, rfl, by decide, (((cnt_congr (F := Fb ((0 : Nat) : Int)) (G := fun _ => false) (fun i _ => Fb_zero i)).trans (cnt_false _)).symm), by omega, S.out⟩
  case round =>
    obtain ⟨i, m, o, hi, rfl, rfl, rfl, ho1, ho2, ho3, s1⟩ := hrel
    clear S k5 k6
    have HO := Lib.hid (And.intro ho1 (And.intro ho2 ho3))
    have S := Lib.hid s1
    clear ho1 ho2 s1
    obtain ⟨oo, hoo⟩ : ∃ oo : Int, (o : Int) = oo := ⟨_, rfl⟩
    have HOO := Lib.hid hoo
    obtain ⟨k5, k6⟩ := mc_cells (S.out.eq (Q := mc bw ax cx ay cy xs ys * (fx fb * (cd p fb xs ys * ob (.slice (some ⟨ga, 0, none⟩) N ca) vsa (all xs ys lg X)))) (by ac_rfl))
    have hmI : (m : Int) ≤ (ys.length : Int) := by omega
    rw [hoo]
    clear hoo
    by_cases hlt : i < 40
    · have hltI : (i : Int) < 40 := by omega
      by_cases hil : i < ns.length
      · have hilI : (i : Int) < (ns.length : Int) := by omega
        obtain ⟨bl, ol, rfl⟩ := HI.out.head (by omega)
        have c5 := (HI.out.st rfl S.out).cellAt i hil
        generalize ns[i] = x at *
        obtain ⟨q, hq, e5⟩ : ∃ q : Nat, q < N ∧ (bits .and .i64 x 255).tmod (N : Int) = (q : Int) := by
          refine ⟨(x % 256 % (N : Int)).toNat, ?_, ?_⟩
          · have := Int.emod_lt_of_pos (x % 256) (show (0 : Int) < (N : Int) by omega)
            have := Int.emod_nonneg (x % 256) (show (N : Int) ≠ 0 by omega)
            omega
          · rw [and_m8, Int.tmod_eq_emod_of_nonneg (by omega)]
            have := Int.emod_nonneg (x % 256) (show (N : Int) ≠ 0 by omega)
            omega
        have e6 : (q : Int).tmod (N : Int) = (q : Int) := by rw [Int.tmod_eq_emod_of_nonneg (by omega), Int.emod_eq_of_lt (by omega) (by omega)]
        by_cases hf : Fb oo q = true
        · have hb : bits .and .u64 (oo / 2 ^ q) 1 = 1 := of_decide_eq_true hf
          clear hf
          go_wp2_with fail
          go_roundw
          case rel => exact ⟨i + 1, m, o, by omega, by go_num, by rw [HOO.out], rfl, HO.out.1, HO.out.2.1, HO.out.2.2, S.out⟩
          case measure => simp [intOf]; omega
        · have hb : ¬ bits .and .u64 (oo / 2 ^ q) 1 = 1 := fun e => hf (decide_eq_true e)
          have hf' : Fb oo q = false := by simpa using hf
          clear hf
          obtain ⟨o2, he2, ho2, hc2, hq2⟩ := or_next HO.out.1 hq (by omega) (by rw [HOO.out]; exact hf')
          rw [HOO.out] at he2
          rw [← HO.out.2.1] at hc2
          have HB2 := Lib.hid (And.intro hf' (And.intro ho2 (And.intro hc2 hq2)))
          clear hf' ho2 hc2 hq2
          by_cases hm : m = ys.length
          · skip
            go_wp2_with fail
            refine (shards_x (B := w0.heap.size) (w0 := w0) (R := fx fb * (cd p fb xs ys * (ob (.slice (some ⟨ga, 0, none⟩) N ca) vsa (all xs ys lg X) * mc bw ax cx ay cy xs ys))) (.slice (some ⟨ga, 0, none⟩) N ca) (all xs ys lg X) (by rw [HALL.out.2.2]; omega) (fun b hb => by rw [HEA.out b hb]; omega) (o2 : Int) wr (HBR.out.of (X := fx fb * cd p fb xs ys) (by ac_rfl)) S.out).mono ?_
            rintro e w13 ⟨a13, c13, v13, hs13, rfl, hh13, hsr, s13⟩
            rw [HALL.out.2.2] at s13 hsr ⊢
            have HSR := Lib.hid hsr
            clear S hsr
            have S := Lib.hid s13
            clear s13
            go_wp2_with fail
            refine (decode_lost p fb xs ys (by omega) (by omega) (.slice a13 N c13) (tk (Fb (o2 : Int)) (all xs ys lg X)) (by rw [tk_len, HALL.out.2.2]; exact HN.out.symm) (lgb_tk HEA.out (by omega)) (by have := thr_tk (F := Fb (o2 : Int)) (L := all xs ys lg X); have h2 := HB2.out.2.2.1; rw [HALL.out.2.2] at this; have := HN.out; omega) w13 (HSR.out.of (X := fx fb * (ob (.slice (some ⟨ga, 0, none⟩) N ca) vsa (all xs ys lg X) * mc bw ax cx ay cy xs ys)) (sep_comm _ _)) (S.out.eq (by ac_rfl))).mono ?_
            rintro e w14 ⟨rfl, s14⟩
            clear S
            have S14 := Lib.hid s14
            clear s14
            go_wp2_with fail
            refine (awake4_calls w14 S14.out).mono ?_
            rintro e w15 ⟨rfl, s15⟩
            clear S14
            have S15 := Lib.hid s15
            clear s15
            go_wp2_with fail
            go_ret
            exact ⟨rfl, S15.out.below⟩
          · have hm2 : m + 1 ≤ ys.length := by omega
            go_wp2_with fail
            refine (shards_x (B := w0.heap.size) (w0 := w0) (R := fx fb * (cd p fb xs ys * (ob (.slice (some ⟨ga, 0, none⟩) N ca) vsa (all xs ys lg X) * mc bw ax cx ay cy xs ys))) (.slice (some ⟨ga, 0, none⟩) N ca) (all xs ys lg X) (by rw [HALL.out.2.2]; omega) (fun b hb => by rw [HEA.out b hb]; omega) (o2 : Int) wr (HBR.out.of (X := fx fb * cd p fb xs ys) (by ac_rfl)) S.out).mono ?_
            rintro e w13 ⟨a13, c13, v13, hs13, rfl, hh13, hsr, s13⟩
            rw [HALL.out.2.2] at s13 hsr ⊢
            have HSR := Lib.hid hsr
            clear S hsr
            have S := Lib.hid s13
            clear s13
            go_wp2_with fail
            obtain ⟨t1, t2, t3, t4⟩ := tk_pack (xs := xs) (ys := ys) (n := lg) (N := N) (d := X) (F := Fb (o2 : Int)) HX2.out HX1.out (by omega) HN.out (by omega) (by rw [HB2.out.2.2.1]; exact hm2)
            have HOF := Lib.hid (of_tk (F := Fb (o2 : Int)) (xs := xs) (ys := ys) (n := lg) (d := X) HX2.out HX1.out)
            have HT := Lib.hid (And.intro t1 (And.intro t2 (And.intro t3 t4)))
            clear t1 t2 t3 t4
            refine (decode_ok p fb xs ys HG.out (.slice a13 N c13) (tk (Fb (o2 : Int)) (all xs ys lg X)) HT.out.2.2.2 HT.out.1 lg HT.out.2.1 (by omega) HOF.out.len HT.out.2.2.1 w13 (HSR.out.of (X := ob (.slice (some ⟨ga, 0, none⟩) N ca) vsa (all xs ys lg X) * mc bw ax cx ay cy xs ys) (sep_comm _ _)) (S.out.eq (by ac_rfl))).mono ?_
            rintro e w14 ⟨A, Bk, v14, vs14, hgj, rfl, hv14, hn14, s14⟩
            rw [dec_right HOF.out HT.out.2.2.1 hgj] at s14
            have hv14' : vs14.length = (all xs ys lg X).length := by rw [HALL.out.2.2, hv14]; exact HN.out
            obtain ⟨g14, c14, e14, -⟩ := (ob_row s14).rowCells (by rw [HALL.out.2.2]; omega)
            rw [HALL.out.2.2] at e14
            subst e14
            have hLN : (all xs ys lg X).length ≤ 1000000 := by rw [HALL.out.2.2]; omega
            generalize hXX : ((ob (.slice (some ⟨g14, 0, none⟩) N c14) vs14 (all xs ys lg X) * (fx fb * (cd p fb xs ys * (sh (.slice a13 N c13) hs13 (Fb (o2 : Int)) (all xs ys lg X) * (ob (.slice (some ⟨ga, 0, none⟩) N ca) vsa (all xs ys lg X) * mc bw ax cx ay cy xs ys))))) : Sp.HP) = XH at *
            have s15 : St w0.heap.size w0 w14 XH := s14
            have HXX := Lib.hid hXX
            have HBO := Lib.hid (show ∀ w H, St w0.heap.size w0 w (H * XH) → BSS w (.slice (some ⟨ga, 0, none⟩) N ca) (all xs ys lg X) from fun w H s => by
              rw [← hXX] at s
              exact ob_bss (s.eq (Q := ob (.slice (some ⟨ga, 0, none⟩) N ca) vsa (all xs ys lg X) * (H * (ob (.slice (some ⟨g14, 0, none⟩) N c14) vs14 (all xs ys lg X) * (fx fb * (cd p fb xs ys * (sh (.slice a13 N c13) hs13 (Fb (o2 : Int)) (all xs ys lg X) * mc bw ax cx ay cy xs ys)))))) (by ac_rfl)))
            have HBD := Lib.hid (show ∀ w H, St w0.heap.size w0 w (H * XH) → BSS w (.slice (some ⟨g14, 0, none⟩) N c14) (all xs ys lg X) from fun w H s => by
              rw [← hXX] at s
              exact ob_bss (s.eq (Q := ob (.slice (some ⟨g14, 0, none⟩) N c14) vs14 (all xs ys lg X) * (H * (fx fb * (cd p fb xs ys * (sh (.slice a13 N c13) hs13 (Fb (o2 : Int)) (all xs ys lg X) * (ob (.slice (some ⟨ga, 0, none⟩) N ca) vsa (all xs ys lg X) * mc bw ax cx ay cy xs ys)))))) (by ac_rfl)))
            have S15 := Lib.hid s15
            clear S s14 s15 hXX hgj hv14 hn14 hv14'
            go_wp2_with fail
            refine (Str.strings_calls (.slice (some ⟨g14, 0, none⟩) N c14) (all xs ys lg X) w14 HBD.out hLN S15.out).mono ?_
            rintro e w16 ⟨v16, rfl, s16⟩
            obtain ⟨a16, c16, rfl, -⟩ := s16.rowSlice
            have S16 := Lib.hid s16
            clear S15 s16
            go_wp2_with fail
            refine (Str.strings_calls (R := row 9 1 (.slice a16 (all xs ys lg X).length c16) (all xs ys lg X).length (Str.sv (all xs ys lg X)) * XH) (.slice (some ⟨ga, 0, none⟩) N ca) (all xs ys lg X) w16 (fun w' H s => HBO.out w' (H * row 9 1 (.slice a16 (all xs ys lg X).length c16) (all xs ys lg X).length (Str.sv (all xs ys lg X))) (s.eq (sep_assoc _ _ _).symm)) hLN S16.out).mono ?_
            rintro e w17 ⟨v17, rfl, s17⟩
            obtain ⟨a17, c17, rfl, -⟩ := s17.rowSlice
            have S17 := Lib.hid s17
            clear S16 s17
            go_wp2_with fail
            refine (Str.same_calls (.slice a16 (all xs ys lg X).length c16) (.slice a17 (all xs ys lg X).length c17) (all xs ys lg X) (all xs ys lg X) w17 (Str.St.sl _ S17.out.right) (Str.St.sl _ S17.out)).mono ?_
            rintro e w18 ⟨rfl, hadd⟩
            have s18 := (St.keep S17.out hadd).right.right
            rw [decide_eq_true rfl]
            rw [← HXX.out] at s18
            have S18 := Lib.hid (s18.eq (Q := ob (.slice (some ⟨g14, 0, none⟩) N c14) vs14 (all xs ys lg X) * (fx fb * (cd p fb xs ys * (sh (.slice a13 N c13) hs13 (Fb (o2 : Int)) (all xs ys lg X) * (ob (.slice (some ⟨ga, 0, none⟩) N ca) vsa (all xs ys lg X) * mc bw ax cx ay cy xs ys))))) (by ac_rfl)).right
            clear S17 s18 hadd HBO HBD HXX
            go_wp2_with fail
            refine (rebuild_ok p fb xs ys HG.out (.slice a13 N c13) (tk (Fb (o2 : Int)) (all xs ys lg X)) q (by rw [HN.out]; exact hq) HT.out.2.2.2 HT.out.1 lg (by rw [tk_none HB2.out.2.2.2]; exact HT.out.1) (by rw [tk_none HB2.out.2.2.2]; exact HT.out.2.1) (by omega) (by rw [tk_none HB2.out.2.2.2]; exact HOF.out.len) (by rw [tk_none HB2.out.2.2.2]; exact HT.out.2.2.1) w18 (HSR.out.of (X := ob (.slice (some ⟨ga, 0, none⟩) N ca) vsa (all xs ys lg X) * mc bw ax cx ay cy xs ys) (sep_comm _ _)) (S18.out.eq (by ac_rfl))).mono ?_
            rintro e w19 ⟨A2, Bk2, v19, vs19, u19, hgj, rfl, hv19, hn19, hu19, s19⟩
            rw [tk_none HB2.out.2.2.2] at s19 hgj
            rw [dec_right HOF.out HT.out.2.2.1 hgj] at s19
            have hi19 : q < (all xs ys lg X).length := by rw [HALL.out.2.2]; exact hq
            have hv19' : vs19.length = (all xs ys lg X).length := by rw [HALL.out.2.2, hv19]; exact HN.out
            have hr19 := ob_reads (B := w0.heap.size) (w0 := w0) (v := v19) hv19' hi19 hu19
            obtain ⟨gu, nu, cu, rfl⟩ := hn19 u19 (List.mem_of_getElem? hu19)
            have hlg : (all xs ys lg X)[q].length = lg := HEA.out _ (List.getElem_mem _)
            obtain rfl : nu = lg := by
              have := (hr19 w19 (fx fb * (cd p fb xs ys * (sh (.slice a13 N c13) hs13 (Fb (o2 : Int)) (all xs ys lg X) * (ob (.slice (some ⟨ga, 0, none⟩) N ca) vsa (all xs ys lg X) * mc bw ax cx ay cy xs ys)))) (s19.eq (by ac_rfl))).rd.1
              omega
            obtain ⟨_, _, gw, cw, -, huw, hrw⟩ := ob_head HALL.out.2.1 HALL.out.1 q hi19 (s19.eq (Q := ob (.slice (some ⟨ga, 0, none⟩) N ca) vsa (all xs ys nu X) * (ob v19 vs19 (all xs ys nu X) * (fx fb * (cd p fb xs ys * (sh (.slice a13 N c13) hs13 (Fb (o2 : Int)) (all xs ys nu X) * mc bw ax cx ay cy xs ys))))) (by ac_rfl))
            rw [hlg] at huw hrw
            have HCW := Lib.hid (show ∀ w H, St w0.heap.size w0 w (H * ob (.slice (some ⟨ga, 0, none⟩) N ca) vsa (all xs ys nu X)) → w.cell? ⟨ga, q, none⟩ = some (.slice (some ⟨gw, 0, none⟩) nu cw) ∧ BS w (.slice (some ⟨gw, 0, none⟩) nu cw) (all xs ys nu X)[q] from fun w H s => ⟨ob_cell (s.eq (sep_comm _ _)) hi19 huw, hrw w H s⟩)
            have HRU := Lib.hid hr19
            have S19 := Lib.hid (s19.eq (Q := ob v19 vs19 (all xs ys nu X) * (fx fb * (cd p fb xs ys * (sh (.slice a13 N c13) hs13 (Fb (o2 : Int)) (all xs ys nu X) * (ob (.slice (some ⟨ga, 0, none⟩) N ca) vsa (all xs ys nu X) * mc bw ax cx ay cy xs ys))))) (by ac_rfl))
            clear S18 s19 hgj hv19 hn19 hu19 hv19' hr19 hrw huw hlg
            have hqI : (q : Int) < (N : Int) := by omega
            go_wp2_with fail
            refine wp_region_rx (fun _ w' => St w0.heap.size w0 w' (ob v19 vs19 (all xs ys nu X) * (fx fb * (cd p fb xs ys * (sh (.slice a13 N c13) hs13 (Fb (o2 : Int)) (all xs ys nu X) * (ob (.slice (some ⟨ga, 0, none⟩) N ca) vsa (all xs ys nu X) * mc bw ax cx ay cy xs ys)))))) [] Gf.mixed (by kernel_rfl) (by kernel_rfl) S19.out.drew ?_
            refine RXl.exact (.int .i64 0) rfl rfl rfl rfl rfl (fun _ _ _ _ _ => rfl) ?_
            refine RXl.exact (.bool false) rfl rfl rfl rfl rfl (fun j τ w' hj hJ => by simp [rho, upd, Spec.val, execOp, go_sem]) ?_
            refine RXl.exact (.bool false) rfl rfl rfl rfl rfl (fun _ _ _ _ _ => rfl) ?_
            refine RXl.exact (.slice (some ⟨gu, 0, none⟩) nu cu) rfl rfl rfl rfl rfl (fun _ _ _ _ _ => rfl) ?_
            refine RXl.exact (str ((all xs ys nu X)[q]'hi19)) rfl rfl rfl rfl rfl (fun j τ w' hj hJ => exec_convert rfl (run_str Try.underlying32 Try.underlying5 Try.underlying9 (HRU.out _ (fx fb * (cd p fb xs ys * (sh (.slice a13 N c13) hs13 (Fb (o2 : Int)) (all xs ys nu X) * (ob (.slice (some ⟨ga, 0, none⟩) N ca) vsa (all xs ys nu X) * mc bw ax cx ay cy xs ys)))) (St.eq (sep_comm _ _) hJ)))) ?_
            refine RXl.exact (.slice (some ⟨ga, 0, none⟩) N ca) rfl rfl rfl rfl rfl (fun _ _ _ _ _ => rfl) ?_
            refine RXl.exact (.int .i64 (q : Int)) rfl rfl rfl rfl rfl (fun _ _ _ _ _ => rfl) ?_
            refine RXl.exact (.pointer (some ⟨ga, q, none⟩)) rfl rfl rfl rfl rfl (fun j τ w' hj hJ => by simp [rho, upd, Spec.val, execOp, go_sem, hqI]) ?_
            refine RXl.exact (.slice (some ⟨gw, 0, none⟩) nu cw) rfl rfl rfl rfl rfl (fun j τ w' hj hJ => by have c := (HCW.out _ (ob v19 vs19 (all xs ys nu X) * (fx fb * (cd p fb xs ys * (sh (.slice a13 N c13) hs13 (Fb (o2 : Int)) (all xs ys nu X) * mc bw ax cx ay cy xs ys)))) (St.eq (by ac_rfl) hJ)).1; simp [rho, upd, Spec.val, execOp, go_sem, c]) ?_
            refine RXl.exact (str ((all xs ys nu X)[q]'hi19)) rfl rfl rfl rfl rfl (fun j τ w' hj hJ => exec_convert rfl (run_str Try.underlying32 Try.underlying5 Try.underlying9 (HCW.out _ (ob v19 vs19 (all xs ys nu X) * (fx fb * (cd p fb xs ys * (sh (.slice a13 N c13) hs13 (Fb (o2 : Int)) (all xs ys nu X) * mc bw ax cx ay cy xs ys)))) (St.eq (by ac_rfl) hJ)).2)) ?_
            refine RXl.exact (.bool false) rfl rfl rfl rfl rfl (fun j τ w' hj hJ => by simp [rho, upd, Spec.val, execOp, go_sem]) ?_
            refine RXl.exact (.bool false) rfl rfl rfl rfl rfl (fun _ _ _ _ _ => rfl) ?_
            refine RXl.nilx _ (Agr.upd _ _ (Agr.upd _ _ (Agr.upd _ _ (Agr.upd _ _ (Agr.upd _ _ (Agr.upd _ _ (Agr.upd _ _ (Agr.upd _ _ (Agr.upd _ _ (Agr.upd _ _ (Agr.upd _ _ (Agr.upd _ _ (Agr.base _))))))))))))) fun w20 hJ => ?_
            obtain ⟨_, hJ⟩ := hJ
            simp only [Act.put, List.setIfInBounds_toArray, List.set_cons_succ, List.set_cons_zero]
            have S20 := Lib.hid ((St.right (show St w0.heap.size w0 w20 (ob v19 vs19 (all xs ys nu X) * (fx fb * (cd p fb xs ys * (sh (.slice a13 N c13) hs13 (Fb (o2 : Int)) (all xs ys nu X) * (ob (.slice (some ⟨ga, 0, none⟩) N ca) vsa (all xs ys nu X) * mc bw ax cx ay cy xs ys))))) from hJ)).eq (Q := sh (.slice a13 N c13) hs13 (Fb (o2 : Int)) (all xs ys nu X) * (fx fb * (cd p fb xs ys * (ob (.slice (some ⟨ga, 0, none⟩) N ca) vsa (all xs ys nu X) * mc bw ax cx ay cy xs ys)))) (by ac_rfl)).right
            clear hJ S19 HRU HCW
            go_wp2_with fail
            go_roundw
            case rel => exact ⟨i + 1, m + 1, o2, by omega, by go_num, rfl, by go_num, HB2.out.2.1, HB2.out.2.2.1.symm, hm2, S20.out⟩
            case measure => simp [intOf]; omega
      · have hilI : ¬ (i : Int) < (ns.length : Int) := by omega
        obtain ⟨q, hq, e6⟩ : ∃ q : Nat, q < N ∧ (i : Int).tmod (N : Int) = (q : Int) := ⟨i % N, Nat.mod_lt _ (by omega), by rw [Int.tmod_eq_emod_of_nonneg (by omega)]; rfl⟩
        by_cases hf : Fb oo q = true
        · have hb : bits .and .u64 (oo / 2 ^ q) 1 = 1 := of_decide_eq_true hf
          clear hf
          go_wp2_with fail
          go_roundw
          case rel => exact ⟨i + 1, m, o, by omega, by go_num, by rw [HOO.out], rfl, HO.out.1, HO.out.2.1, HO.out.2.2, S.out⟩
          case measure => simp [intOf]; omega
        · have hb : ¬ bits .and .u64 (oo / 2 ^ q) 1 = 1 := fun e => hf (decide_eq_true e)
          have hf' : Fb oo q = false := by simpa using hf
          clear hf
          obtain ⟨o2, he2, ho2, hc2, hq2⟩ := or_next HO.out.1 hq (by omega) (by rw [HOO.out]; exact hf')
          rw [HOO.out] at he2
          rw [← HO.out.2.1] at hc2
          have HB2 := Lib.hid (And.intro hf' (And.intro ho2 (And.intro hc2 hq2)))
          clear hf' ho2 hc2 hq2
          by_cases hm : m = ys.length
          · skip
            go_wp2_with fail
            refine (shards_x (B := w0.heap.size) (w0 := w0) (R := fx fb * (cd p fb xs ys * (ob (.slice (some ⟨ga, 0, none⟩) N ca) vsa (all xs ys lg X) * mc bw ax cx ay cy xs ys))) (.slice (some ⟨ga, 0, none⟩) N ca) (all xs ys lg X) (by rw [HALL.out.2.2]; omega) (fun b hb => by rw [HEA.out b hb]; omega) (o2 : Int) wr (HBR.out.of (X := fx fb * cd p fb xs ys) (by ac_rfl)) S.out).mono ?_
            rintro e w13 ⟨a13, c13, v13, hs13, rfl, hh13, hsr, s13⟩
            rw [HALL.out.2.2] at s13 hsr ⊢
            have HSR := Lib.hid hsr
            clear S hsr
            have S := Lib.hid s13
            clear s13
            go_wp2_with fail
            refine (decode_lost p fb xs ys (by omega) (by omega) (.slice a13 N c13) (tk (Fb (o2 : Int)) (all xs ys lg X)) (by rw [tk_len, HALL.out.2.2]; exact HN.out.symm) (lgb_tk HEA.out (by omega)) (by have := thr_tk (F := Fb (o2 : Int)) (L := all xs ys lg X); have h2 := HB2.out.2.2.1; rw [HALL.out.2.2] at this; have := HN.out; omega) w13 (HSR.out.of (X := fx fb * (ob (.slice (some ⟨ga, 0, none⟩) N ca) vsa (all xs ys lg X) * mc bw ax cx ay cy xs ys)) (sep_comm _ _)) (S.out.eq (by ac_rfl))).mono ?_
            rintro e w14 ⟨rfl, s14⟩
            clear S
            have S14 := Lib.hid s14
            clear s14
            go_wp2_with fail
            refine (awake4_calls w14 S14.out).mono ?_
            rintro e w15 ⟨rfl, s15⟩
            clear S14
            have S15 := Lib.hid s15
            clear s15
            go_wp2_with fail
            go_ret
            exact ⟨rfl, S15.out.below⟩
          · have hm2 : m + 1 ≤ ys.length := by omega
            go_wp2_with fail
            refine (shards_x (B := w0.heap.size) (w0 := w0) (R := fx fb * (cd p fb xs ys * (ob (.slice (some ⟨ga, 0, none⟩) N ca) vsa (all xs ys lg X) * mc bw ax cx ay cy xs ys))) (.slice (some ⟨ga, 0, none⟩) N ca) (all xs ys lg X) (by rw [HALL.out.2.2]; omega) (fun b hb => by rw [HEA.out b hb]; omega) (o2 : Int) wr (HBR.out.of (X := fx fb * cd p fb xs ys) (by ac_rfl)) S.out).mono ?_
            rintro e w13 ⟨a13, c13, v13, hs13, rfl, hh13, hsr, s13⟩
            rw [HALL.out.2.2] at s13 hsr ⊢
            have HSR := Lib.hid hsr
            clear S hsr
            have S := Lib.hid s13
            clear s13
            go_wp2_with fail
            obtain ⟨t1, t2, t3, t4⟩ := tk_pack (xs := xs) (ys := ys) (n := lg) (N := N) (d := X) (F := Fb (o2 : Int)) HX2.out HX1.out (by omega) HN.out (by omega) (by rw [HB2.out.2.2.1]; exact hm2)
            have HOF := Lib.hid (of_tk (F := Fb (o2 : Int)) (xs := xs) (ys := ys) (n := lg) (d := X) HX2.out HX1.out)
            have HT := Lib.hid (And.intro t1 (And.intro t2 (And.intro t3 t4)))
            clear t1 t2 t3 t4
            refine (decode_ok p fb xs ys HG.out (.slice a13 N c13) (tk (Fb (o2 : Int)) (all xs ys lg X)) HT.out.2.2.2 HT.out.1 lg HT.out.2.1 (by omega) HOF.out.len HT.out.2.2.1 w13 (HSR.out.of (X := ob (.slice (some ⟨ga, 0, none⟩) N ca) vsa (all xs ys lg X) * mc bw ax cx ay cy xs ys) (sep_comm _ _)) (S.out.eq (by ac_rfl))).mono ?_
            rintro e w14 ⟨A, Bk, v14, vs14, hgj, rfl, hv14, hn14, s14⟩
            rw [dec_right HOF.out HT.out.2.2.1 hgj] at s14
            have hv14' : vs14.length = (all xs ys lg X).length := by rw [HALL.out.2.2, hv14]; exact HN.out
            obtain ⟨g14, c14, e14, -⟩ := (ob_row s14).rowCells (by rw [HALL.out.2.2]; omega)
            rw [HALL.out.2.2] at e14
            subst e14
            have hLN : (all xs ys lg X).length ≤ 1000000 := by rw [HALL.out.2.2]; omega
            generalize hXX : ((ob (.slice (some ⟨g14, 0, none⟩) N c14) vs14 (all xs ys lg X) * (fx fb * (cd p fb xs ys * (sh (.slice a13 N c13) hs13 (Fb (o2 : Int)) (all xs ys lg X) * (ob (.slice (some ⟨ga, 0, none⟩) N ca) vsa (all xs ys lg X) * mc bw ax cx ay cy xs ys))))) : Sp.HP) = XH at *
            have s15 : St w0.heap.size w0 w14 XH := s14
            have HXX := Lib.hid hXX
            have HBO := Lib.hid (show ∀ w H, St w0.heap.size w0 w (H * XH) → BSS w (.slice (some ⟨ga, 0, none⟩) N ca) (all xs ys lg X) from fun w H s => by
              rw [← hXX] at s
              exact ob_bss (s.eq (Q := ob (.slice (some ⟨ga, 0, none⟩) N ca) vsa (all xs ys lg X) * (H * (ob (.slice (some ⟨g14, 0, none⟩) N c14) vs14 (all xs ys lg X) * (fx fb * (cd p fb xs ys * (sh (.slice a13 N c13) hs13 (Fb (o2 : Int)) (all xs ys lg X) * mc bw ax cx ay cy xs ys)))))) (by ac_rfl)))
            have HBD := Lib.hid (show ∀ w H, St w0.heap.size w0 w (H * XH) → BSS w (.slice (some ⟨g14, 0, none⟩) N c14) (all xs ys lg X) from fun w H s => by
              rw [← hXX] at s
              exact ob_bss (s.eq (Q := ob (.slice (some ⟨g14, 0, none⟩) N c14) vs14 (all xs ys lg X) * (H * (fx fb * (cd p fb xs ys * (sh (.slice a13 N c13) hs13 (Fb (o2 : Int)) (all xs ys lg X) * (ob (.slice (some ⟨ga, 0, none⟩) N ca) vsa (all xs ys lg X) * mc bw ax cx ay cy xs ys)))))) (by ac_rfl)))
            have S15 := Lib.hid s15
            clear S s14 s15 hXX hgj hv14 hn14 hv14'
            go_wp2_with fail
            refine (Str.strings_calls (.slice (some ⟨g14, 0, none⟩) N c14) (all xs ys lg X) w14 HBD.out hLN S15.out).mono ?_
            rintro e w16 ⟨v16, rfl, s16⟩
            obtain ⟨a16, c16, rfl, -⟩ := s16.rowSlice
            have S16 := Lib.hid s16
            clear S15 s16
            go_wp2_with fail
            refine (Str.strings_calls (R := row 9 1 (.slice a16 (all xs ys lg X).length c16) (all xs ys lg X).length (Str.sv (all xs ys lg X)) * XH) (.slice (some ⟨ga, 0, none⟩) N ca) (all xs ys lg X) w16 (fun w' H s => HBO.out w' (H * row 9 1 (.slice a16 (all xs ys lg X).length c16) (all xs ys lg X).length (Str.sv (all xs ys lg X))) (s.eq (sep_assoc _ _ _).symm)) hLN S16.out).mono ?_
            rintro e w17 ⟨v17, rfl, s17⟩
            obtain ⟨a17, c17, rfl, -⟩ := s17.rowSlice
            have S17 := Lib.hid s17
            clear S16 s17
            go_wp2_with fail
            refine (Str.same_calls (.slice a16 (all xs ys lg X).length c16) (.slice a17 (all xs ys lg X).length c17) (all xs ys lg X) (all xs ys lg X) w17 (Str.St.sl _ S17.out.right) (Str.St.sl _ S17.out)).mono ?_
            rintro e w18 ⟨rfl, hadd⟩
            have s18 := (St.keep S17.out hadd).right.right
            rw [decide_eq_true rfl]
            rw [← HXX.out] at s18
            have S18 := Lib.hid (s18.eq (Q := ob (.slice (some ⟨g14, 0, none⟩) N c14) vs14 (all xs ys lg X) * (fx fb * (cd p fb xs ys * (sh (.slice a13 N c13) hs13 (Fb (o2 : Int)) (all xs ys lg X) * (ob (.slice (some ⟨ga, 0, none⟩) N ca) vsa (all xs ys lg X) * mc bw ax cx ay cy xs ys))))) (by ac_rfl)).right
            clear S17 s18 hadd HBO HBD HXX
            go_wp2_with fail
            refine (rebuild_ok p fb xs ys HG.out (.slice a13 N c13) (tk (Fb (o2 : Int)) (all xs ys lg X)) q (by rw [HN.out]; exact hq) HT.out.2.2.2 HT.out.1 lg (by rw [tk_none HB2.out.2.2.2]; exact HT.out.1) (by rw [tk_none HB2.out.2.2.2]; exact HT.out.2.1) (by omega) (by rw [tk_none HB2.out.2.2.2]; exact HOF.out.len) (by rw [tk_none HB2.out.2.2.2]; exact HT.out.2.2.1) w18 (HSR.out.of (X := ob (.slice (some ⟨ga, 0, none⟩) N ca) vsa (all xs ys lg X) * mc bw ax cx ay cy xs ys) (sep_comm _ _)) (S18.out.eq (by ac_rfl))).mono ?_
            rintro e w19 ⟨A2, Bk2, v19, vs19, u19, hgj, rfl, hv19, hn19, hu19, s19⟩
            rw [tk_none HB2.out.2.2.2] at s19 hgj
            rw [dec_right HOF.out HT.out.2.2.1 hgj] at s19
            have hi19 : q < (all xs ys lg X).length := by rw [HALL.out.2.2]; exact hq
            have hv19' : vs19.length = (all xs ys lg X).length := by rw [HALL.out.2.2, hv19]; exact HN.out
            have hr19 := ob_reads (B := w0.heap.size) (w0 := w0) (v := v19) hv19' hi19 hu19
            obtain ⟨gu, nu, cu, rfl⟩ := hn19 u19 (List.mem_of_getElem? hu19)
            have hlg : (all xs ys lg X)[q].length = lg := HEA.out _ (List.getElem_mem _)
            obtain rfl : nu = lg := by
              have := (hr19 w19 (fx fb * (cd p fb xs ys * (sh (.slice a13 N c13) hs13 (Fb (o2 : Int)) (all xs ys lg X) * (ob (.slice (some ⟨ga, 0, none⟩) N ca) vsa (all xs ys lg X) * mc bw ax cx ay cy xs ys)))) (s19.eq (by ac_rfl))).rd.1
              omega
            obtain ⟨_, _, gw, cw, -, huw, hrw⟩ := ob_head HALL.out.2.1 HALL.out.1 q hi19 (s19.eq (Q := ob (.slice (some ⟨ga, 0, none⟩) N ca) vsa (all xs ys nu X) * (ob v19 vs19 (all xs ys nu X) * (fx fb * (cd p fb xs ys * (sh (.slice a13 N c13) hs13 (Fb (o2 : Int)) (all xs ys nu X) * mc bw ax cx ay cy xs ys))))) (by ac_rfl))
            rw [hlg] at huw hrw
            have HCW := Lib.hid (show ∀ w H, St w0.heap.size w0 w (H * ob (.slice (some ⟨ga, 0, none⟩) N ca) vsa (all xs ys nu X)) → w.cell? ⟨ga, q, none⟩ = some (.slice (some ⟨gw, 0, none⟩) nu cw) ∧ BS w (.slice (some ⟨gw, 0, none⟩) nu cw) (all xs ys nu X)[q] from fun w H s => ⟨ob_cell (s.eq (sep_comm _ _)) hi19 huw, hrw w H s⟩)
            have HRU := Lib.hid hr19
            have S19 := Lib.hid (s19.eq (Q := ob v19 vs19 (all xs ys nu X) * (fx fb * (cd p fb xs ys * (sh (.slice a13 N c13) hs13 (Fb (o2 : Int)) (all xs ys nu X) * (ob (.slice (some ⟨ga, 0, none⟩) N ca) vsa (all xs ys nu X) * mc bw ax cx ay cy xs ys))))) (by ac_rfl))
            clear S18 s19 hgj hv19 hn19 hu19 hv19' hr19 hrw huw hlg
            have hqI : (q : Int) < (N : Int) := by omega
            go_wp2_with fail
            refine wp_region_rx (fun _ w' => St w0.heap.size w0 w' (ob v19 vs19 (all xs ys nu X) * (fx fb * (cd p fb xs ys * (sh (.slice a13 N c13) hs13 (Fb (o2 : Int)) (all xs ys nu X) * (ob (.slice (some ⟨ga, 0, none⟩) N ca) vsa (all xs ys nu X) * mc bw ax cx ay cy xs ys)))))) [] Gf.mixed (by kernel_rfl) (by kernel_rfl) S19.out.drew ?_
            refine RXl.exact (.int .i64 0) rfl rfl rfl rfl rfl (fun _ _ _ _ _ => rfl) ?_
            refine RXl.exact (.bool false) rfl rfl rfl rfl rfl (fun j τ w' hj hJ => by simp [rho, upd, Spec.val, execOp, go_sem]) ?_
            refine RXl.exact (.bool false) rfl rfl rfl rfl rfl (fun _ _ _ _ _ => rfl) ?_
            refine RXl.exact (.slice (some ⟨gu, 0, none⟩) nu cu) rfl rfl rfl rfl rfl (fun _ _ _ _ _ => rfl) ?_
            refine RXl.exact (str ((all xs ys nu X)[q]'hi19)) rfl rfl rfl rfl rfl (fun j τ w' hj hJ => exec_convert rfl (run_str Try.underlying32 Try.underlying5 Try.underlying9 (HRU.out _ (fx fb * (cd p fb xs ys * (sh (.slice a13 N c13) hs13 (Fb (o2 : Int)) (all xs ys nu X) * (ob (.slice (some ⟨ga, 0, none⟩) N ca) vsa (all xs ys nu X) * mc bw ax cx ay cy xs ys)))) (St.eq (sep_comm _ _) hJ)))) ?_
            refine RXl.exact (.slice (some ⟨ga, 0, none⟩) N ca) rfl rfl rfl rfl rfl (fun _ _ _ _ _ => rfl) ?_
            refine RXl.exact (.int .i64 (q : Int)) rfl rfl rfl rfl rfl (fun _ _ _ _ _ => rfl) ?_
            refine RXl.exact (.pointer (some ⟨ga, q, none⟩)) rfl rfl rfl rfl rfl (fun j τ w' hj hJ => by simp [rho, upd, Spec.val, execOp, go_sem, hqI]) ?_
            refine RXl.exact (.slice (some ⟨gw, 0, none⟩) nu cw) rfl rfl rfl rfl rfl (fun j τ w' hj hJ => by have c := (HCW.out _ (ob v19 vs19 (all xs ys nu X) * (fx fb * (cd p fb xs ys * (sh (.slice a13 N c13) hs13 (Fb (o2 : Int)) (all xs ys nu X) * mc bw ax cx ay cy xs ys)))) (St.eq (by ac_rfl) hJ)).1; simp [rho, upd, Spec.val, execOp, go_sem, c]) ?_
            refine RXl.exact (str ((all xs ys nu X)[q]'hi19)) rfl rfl rfl rfl rfl (fun j τ w' hj hJ => exec_convert rfl (run_str Try.underlying32 Try.underlying5 Try.underlying9 (HCW.out _ (ob v19 vs19 (all xs ys nu X) * (fx fb * (cd p fb xs ys * (sh (.slice a13 N c13) hs13 (Fb (o2 : Int)) (all xs ys nu X) * mc bw ax cx ay cy xs ys)))) (St.eq (by ac_rfl) hJ)).2)) ?_
            refine RXl.exact (.bool false) rfl rfl rfl rfl rfl (fun j τ w' hj hJ => by simp [rho, upd, Spec.val, execOp, go_sem]) ?_
            refine RXl.exact (.bool false) rfl rfl rfl rfl rfl (fun _ _ _ _ _ => rfl) ?_
            refine RXl.nilx _ (Agr.upd _ _ (Agr.upd _ _ (Agr.upd _ _ (Agr.upd _ _ (Agr.upd _ _ (Agr.upd _ _ (Agr.upd _ _ (Agr.upd _ _ (Agr.upd _ _ (Agr.upd _ _ (Agr.upd _ _ (Agr.upd _ _ (Agr.base _))))))))))))) fun w20 hJ => ?_
            obtain ⟨_, hJ⟩ := hJ
            simp only [Act.put, List.setIfInBounds_toArray, List.set_cons_succ, List.set_cons_zero]
            have S20 := Lib.hid ((St.right (show St w0.heap.size w0 w20 (ob v19 vs19 (all xs ys nu X) * (fx fb * (cd p fb xs ys * (sh (.slice a13 N c13) hs13 (Fb (o2 : Int)) (all xs ys nu X) * (ob (.slice (some ⟨ga, 0, none⟩) N ca) vsa (all xs ys nu X) * mc bw ax cx ay cy xs ys))))) from hJ)).eq (Q := sh (.slice a13 N c13) hs13 (Fb (o2 : Int)) (all xs ys nu X) * (fx fb * (cd p fb xs ys * (ob (.slice (some ⟨ga, 0, none⟩) N ca) vsa (all xs ys nu X) * mc bw ax cx ay cy xs ys)))) (by ac_rfl)).right
            clear hJ S19 HRU HCW
            go_wp2_with fail
            go_roundw
            case rel => exact ⟨i + 1, m + 1, o2, by omega, by go_num, rfl, by go_num, HB2.out.2.1, HB2.out.2.2.1.symm, hm2, S20.out⟩
            case measure => simp [intOf]; omega
    · have hltI : ¬ (i : Int) < 40 := by omega
      go_wp2_with fail
      refine (awake4_calls wr S.out).mono ?_
      rintro e w13 ⟨rfl, s13⟩
      clear S
      have S13 := Lib.hid s13
      clear s13
      go_wp2_with fail
      go_ret
      exact ⟨rfl, S13.out.below⟩
set_option maxRecDepth 100000 in
set_option maxHeartbeats 8000000 in
theorem any_walk (a0 a1 at_ : Int) (ab : Option Addr) (cb_ : Nat) (lb : List UInt8) (a4 : Int) (al : Option Addr) (cl : Nat) (ns : List Int) (w0 : World) (_h0 : (Lit.int .i64 a0).wf = true) (_h1 : (Lit.int .i64 a1).wf = true) (_h2 : (Lit.int .i64 at_).wf = true)
    (hB : BS w0 (.slice ab lb.length cb_) lb) (_hB2 : lb.length * 1 ≤ 140737488351232) (_h4 : (Lit.int .i64 a4).wf = true) (hI : IS w0 (.slice al ns.length cl) ns) (_hI2 : ns.length * 8 ≤ 140737488351232) :
    Calls Try.prog 10 #[.int .i64 a0, .int .i64 a1, .int .i64 at_, .slice ab lb.length cb_, .int .i64 a4, .slice al ns.length cl] w0 fun e w' => e = .returned (.bool true) ∧ Below w0.heap.size w0 w' := by
  by_cases h2 : (lb.length : Int) ≤ 1000
  · obtain ⟨K, hK, e0⟩ := k_of a0
    obtain ⟨r, hr, e1⟩ := r_of a1
    exact any_in a0 a1 at_ K r hK hr e0 e1 ab cb_ lb a4 (a4 % 32).toNat (by omega) (by rw [and_m5]; omega) al cl ns w0 (Lib.hid hB) (Lib.hid hI) h2
  · have h2' : (1000 : Int) < (lb.length : Int) := by omega
    clear hB h2 hI
    go_enter Try.func10, Try.ntmps10
    go_wp2_with fail
    refine (awake4_calls w0 (St.init w0)).mono ?_
    rintro e w1 ⟨rfl, s1⟩
    have S1 := Lib.hid s1
    clear s1
    go_wp2_with fail
    go_ret
    exact ⟨rfl, S1.out.below⟩
end Go.Proofs.Ytjnfhppjkadlpaa.Cd
