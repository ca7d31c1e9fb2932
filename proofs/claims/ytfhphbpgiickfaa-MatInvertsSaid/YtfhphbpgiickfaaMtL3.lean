/- MatTimes, walked. -/
import Derived.Test.YtfhphbpgiickfaaMtN
namespace Go.Proofs.Ytfhphbpgiickfaa.Mt
open Go Go.RowKit Go.Proofs.Ytfhphbpgiickfaa Go.Proofs.Ytfhphbpgiickfaa.Sp Go.Proofs.Ytfhphbpgiickfaa.Reg Go.Proofs.Ytfhphbpgiickfaa.Rd Go.Proofs.Ytfhphbpgiickfaa.Gf
theorem awakex {B : Nat} {w0 : World} {H : HP} (w : World) (s : St B w0 w H) : Calls Try.prog 32 #[] w (RetG B w0 H (.bool true)) :=
  (awake_calls w).mono fun _ _ ⟨h1, h2⟩ => ⟨h1, s.keep h2⟩
theorem cut_row {r c cap g i : Nat} (li : i < r) (hc0 : 0 < c) (hr : r * c ≤ 1000000) (hcap : r * c ≤ cap) : (∀ w : World, (Instr.sliceAt 36 (.slice (some ⟨g, 0, none⟩) (r * c) cap) (some (.int .i64 ((i : Int) * (c : Int)))) (some (.int .i64 ((i : Int) * (c : Int) + (c : Int)))) none).run Try.prog w = .ok (.slice (some ⟨g, i * c, none⟩) c (cap - i * c)) w) ∧
    IntKind.i64.wrap ((i : Int) * (c : Int)) = (i : Int) * (c : Int) ∧ IntKind.i64.wrap ((i : Int) * (c : Int) + (c : Int)) = (i : Int) * (c : Int) + (c : Int) := by
  have hp := at_lt li hc0
  have hb : (i + 1) * c ≤ r * c := Nat.mul_le_mul_right c li
  have hb2 : (i + 1) * c = i * c + c := Nat.succ_mul i c
  have e1 : (i : Int) * (c : Int) = ((i * c : Nat) : Int) := by push_cast; rfl
  have e2 : ((i * c : Nat) : Int) + (c : Int) = ((i * c + c : Nat) : Int) := by push_cast; rfl
  refine ⟨fun w => ?_, ?_, ?_⟩
  · have hsl := run_slice_sl (P := Try.prog) tB w (some ⟨g, 0, none⟩) (r * c) cap (some (.int .i64 ((i * c : Nat) : Int))) (some (.int .i64 ((i * c + c : Nat) : Int))) (i * c) (i * c + c) (.inr ⟨_, rfl⟩) (.inr ⟨_, rfl⟩) (by omega) (by omega)
    rw [if_neg (by omega), Nat.mul_one, show i * c + c - i * c = c by omega] at hsl
    rw [e1, e2]
    exact hsl.trans (by simp [Addr.add_lit])
  · rw [e1, IntKind.wrap_i64]; omega
  · rw [e1, e2, IntKind.wrap_i64]; omega

set_option maxRecDepth 100000 in
set_option maxHeartbeats 32000000 in
theorem times_in (n k l other : Int) (N K L O : Nat) (hN : bits .and .i64 n 7 = (N : Int) - 1) (hK : bits .and .i64 k 7 = (K : Int) - 1) (hL : bits .and .i64 l 7 = (L : Int) - 1) (hO : bits .and .i64 other 7 = (O : Int) - 1)
    (bN : 1 ≤ N ∧ N ≤ 8) (bK : 1 ≤ K ∧ K ≤ 8) (bL : 1 ≤ L ∧ L ≤ 8) (bO : 1 ≤ O ∧ O ≤ 8) (hP : bits .and .i64 (O : Int) 1 = ((O % 2 : Nat) : Int)) (rNK : 1 ≤ N * K ∧ N * K ≤ 1024) (rKL : 1 ≤ K * L ∧ K * L ≤ 1024) (rOL : 1 ≤ O * L ∧ O * L ≤ 1024) (rNL : N * L ≤ 1024)
    (a : Option Addr) (ca : Nat) (la : List UInt8) (a2 : Option Addr) (cb : Nat) (lb : List UInt8) (a3 : Option Addr) (cv : Nat) (lv : List UInt8) (V : Nat) (w0 : World)
    (HA : Hid (BS w0 (.slice a la.length ca) la)) (HB : Hid (BS w0 (.slice a2 lb.length cb) lb)) (HV : Hid (BS w0 (.slice a3 V cv) lv)) (la1 : (la.length : Int) ≤ 100) (lb1 : (lb.length : Int) ≤ 100) (lv1 : (V : Int) ≤ 100) :
    Calls Try.prog 13 #[.int .i64 n, .int .i64 k, .int .i64 l, .int .i64 other, .slice a la.length ca, .slice a2 lb.length cb, .slice a3 V cv] w0 fun e w' => e = .returned (.bool true) ∧ Below w0.heap.size w0 w' := by
  by_cases hodd : O % 2 = 1
  · rw [hodd] at hP
    clear hodd
    go_enter Try.func13, Try.ntmps13
    go_wp2_with fail
    refine (make1_calls N K (by omega) a la.length ca la (by omega) _ (reads_arg _ HA.out) (St.init w0)).mono ?_
    rintro e w1 ⟨gx, kx, rfl, s⟩
    have S := Lib.hid s
    clear s
    go_wp2_with fail
    refine (make1_calls (K) L (by omega) a2 lb.length cb lb (by omega) _ (reads_arg _ HB.out) S.out).mono ?_
    rintro e w2 ⟨gy, ky, rfl, s⟩
    have s1 := s.alloc (.cells #[.int .i64 (N : Int), .int .i64 (K : Int), .slice (some ⟨gx, 0, none⟩) (N * K) kx] 50)
    have s2 := s1.alloc (.cells #[.int .i64 (K : Int), .int .i64 (L : Int), .slice (some ⟨gy, 0, none⟩) (K * L) ky] 50)
    rw [show (w2.alloc (.cells #[.int .i64 (N : Int), .int .i64 (K : Int), .slice (some ⟨gx, 0, none⟩) (N * K) kx] 50)).heap.size = w2.heap.size + 1 by simp] at s2
    unfold rmv
    clear S
    have S := Lib.hid (s2.eq (Q := pts w2.heap.size (.cells #[.int .i64 (N : Int), .int .i64 (K : Int), .slice (some ⟨gx, 0, none⟩) (N * K) kx] 50) * (pts (w2.heap.size + 1) (.cells #[.int .i64 (K : Int), .int .i64 (L : Int), .slice (some ⟨gy, 0, none⟩) (K * L) ky] 50) * (row 5 1 (.slice (some ⟨gx, 0, none⟩) (N * K) kx) (N * K) (bvs (cl N K (m1 K la))) * (row 5 1 (.slice (some ⟨gy, 0, none⟩) (K * L) ky) (K * L) (bvs (cl K L (m1 L lb))) * emp)))) (by ac_rfl))
    clear s s1 s2
    go_wp2_with fail
    generalize w2.heap.size = bx at *
    have HRX := Lib.hid (show Reads w0.heap.size w0 (pts bx (.cells #[.int .i64 (N : Int), .int .i64 (K : Int), .slice (some ⟨gx, 0, none⟩) (N * K) kx] 50) * (pts (bx + 1) (.cells #[.int .i64 (K : Int), .int .i64 (L : Int), .slice (some ⟨gy, 0, none⟩) (K * L) ky] 50) * (row 5 1 (.slice (some ⟨gx, 0, none⟩) (N * K) kx) (N * K) (bvs (cl N K (m1 K la))) * (row 5 1 (.slice (some ⟨gy, 0, none⟩) (K * L) ky) (K * L) (bvs (cl K L (m1 L lb))) * emp)))) (.slice (some ⟨gx, 0, none⟩) (N * K) kx) (cl N K (m1 K la)) from fun w H s => (s.eq (Q := row 5 1 (.slice (some ⟨gx, 0, none⟩) (N * K) kx) (N * K) (bvs (cl N K (m1 K la))) * (H * (pts bx (.cells #[.int .i64 (N : Int), .int .i64 (K : Int), .slice (some ⟨gx, 0, none⟩) (N * K) kx] 50) * (pts (bx + 1) (.cells #[.int .i64 (K : Int), .int .i64 (L : Int), .slice (some ⟨gy, 0, none⟩) (K * L) ky] 50) * (row 5 1 (.slice (some ⟨gy, 0, none⟩) (K * L) ky) (K * L) (bvs (cl K L (m1 L lb))) * emp))))) (by ac_rfl)).bs)
    refine wp_region_rv [67, 72, 66, 73, 17] (PJ w0.heap.size w0 (pts bx (.cells #[.int .i64 (N : Int), .int .i64 (K : Int), .slice (some ⟨gx, 0, none⟩) (N * K) kx] 50) * (pts (bx + 1) (.cells #[.int .i64 (K : Int), .int .i64 (L : Int), .slice (some ⟨gy, 0, none⟩) (K * L) ky] 50) * (row 5 1 (.slice (some ⟨gx, 0, none⟩) (N * K) kx) (N * K) (bvs (cl N K (m1 K la))) * (row 5 1 (.slice (some ⟨gy, 0, none⟩) (K * L) ky) (K * L) (bvs (cl K L (m1 L lb))) * emp)))) NF (NH (N) (K) (m1 K la) (pts bx (.cells #[.int .i64 (N : Int), .int .i64 (K : Int), .slice (some ⟨gx, 0, none⟩) (N * K) kx] 50) * (pts (bx + 1) (.cells #[.int .i64 (K : Int), .int .i64 (L : Int), .slice (some ⟨gy, 0, none⟩) (K * L) ky] 50) * (row 5 1 (.slice (some ⟨gx, 0, none⟩) (N * K) kx) (N * K) (bvs (cl N K (m1 K la))) * (row 5 1 (.slice (some ⟨gy, 0, none⟩) (K * L) ky) (K * L) (bvs (cl K L (m1 L lb))) * emp)))))) [0, 5, 6, 7, 9] mixed (by kernel_rfl) (by kernel_rfl) (by kernel_rfl) (fun _ => S.out.drew) ?_
    refine RXl.callV 0 67 rfl rfl rfl (Nat.le_of_ble_eq_true rfl) _ [] _ rfl rfl rfl rfl rfl (PJ.first [] (fun ρ w hag => rfl) (fun _ => rfl) (fun w s => (newx w s).mono fun e w1 ⟨fb, h1, s1⟩ => ⟨(fb, 0, 0, 0), h1, s1⟩)) ?_
    refine RXl.exact (.int .i64 ((N : Nat) : Int)) rfl rfl rfl rfl rfl (fun _ _ _ _ _ => rfl) ?_
    refine RXl.exact (.int .i64 ((K : Nat) : Int)) rfl rfl rfl rfl rfl (fun _ _ _ _ _ => rfl) ?_
    refine RXl.exact (.pointer (some ⟨bx, 2, none⟩)) rfl rfl rfl rfl rfl (fun j τ w' hj hJ => (by obtain ⟨vs, hv, hJ⟩ := hJ; exact (by simp [rho, upd, Spec.val, execOp, go_sem]))) ?_
    refine RXl.exact (.slice (some ⟨gx, 0, none⟩) ((N) * (K)) kx) rfl rfl rfl rfl rfl (fun j τ w' hj hJ => (by obtain ⟨vs, hv, hJ⟩ := hJ; exact (by obtain ⟨Z, q⟩ := NJ_x hJ; have c := (q.eq (sep_assoc _ _ _)).cell 2; simp at c; simp [rho, upd, Spec.val, execOp, go_sem, c]))) ?_
    refine RXl.callV 1 72 rfl rfl rfl (Nat.le_of_ble_eq_true rfl) _ [.tmp 67, .tmp 68, .tmp 69, .tmp 71] _ rfl rfl rfl rfl rfl (NJ_new (some ⟨gx, 0, none⟩) ((N) * (K)) kx (by omega) (by omega) HRX.out (fun ρ a w h hag => by simp [h 0 67 (by decide) rfl, hag.ex 68 _ rfl rfl rfl, hag.ex 69 _ rfl rfl rfl, hag.ex 71 _ rfl rfl rfl, NF])) ?_
    refine RXl.effV 2 66 rfl rfl rfl (Nat.le_of_ble_eq_true rfl) rfl rfl rfl rfl (PJ.pass rfl (fun ρ a w h hag s => by have e := h 1 72 (by decide) rfl; exact (exec_move rfl).trans (by rw [e]; rfl))) ?_
    refine RXl.effV 3 73 rfl rfl rfl (Nat.le_of_ble_eq_true rfl) rfl rfl rfl rfl (PJ.pass rfl (fun ρ a w h hag s => by have e := h 2 66 (by decide) rfl; exact exec_extract rfl e rfl)) ?_
    refine RXl.value (.ex (.int .i64 0)) (Free.ex _) rfl rfl rfl rfl (fun ρ w' j hj hI hag => ⟨_, (by obtain ⟨a, e⟩ := PJ.val (hag.so 66 _ rfl rfl rfl); exact exec_extract rfl e rfl), rfl⟩) ?_
    refine RXl.effV 4 17 rfl rfl rfl (Nat.le_of_ble_eq_true rfl) rfl rfl rfl rfl (PJ.pass rfl (fun ρ a w h hag s => by have e := h 3 73 (by decide) rfl; exact (exec_assign rfl).trans (by rw [e]; rfl))) ?_
    refine RXl.exact (.int .i64 0) rfl rfl rfl rfl rfl (fun _ _ _ _ _ => rfl) ?_
    refine RXl.nilV _ (AgrL.upd _ _ (AgrL.unk 17 _ rfl (AgrL.upd _ _ (AgrL.unk 73 _ rfl (AgrL.unk 66 _ rfl (AgrL.unk 72 _ rfl (AgrL.upd _ _ (AgrL.upd _ _ (AgrL.upd _ _ (AgrL.upd _ _ (AgrL.unk 67 _ rfl (AgrL.base _)))))))))))) (by decide) (by decide) fun vs w8 hJ => ?_
    simp only [puts, Act.put, List.setIfInBounds_toArray, List.set_cons_succ, List.set_cons_zero]
    obtain ⟨⟨fa, pa, ga, ka⟩, hv, s9⟩ := hJ
    rw [show vs 0 = NF 0 (fa, pa, ga, ka) from hv 0 (by decide), show vs 1 = NF 1 (fa, pa, ga, ka) from hv 1 (by decide), show vs 2 = NF 2 (fa, pa, ga, ka) from hv 2 (by decide), show vs 3 = .pointer (some ⟨pa, 0, none⟩) from hv 3 (by decide), show vs 4 = .pointer (some ⟨pa, 0, none⟩) from hv 4 (by decide)]
    generalize NF 0 (fa, pa, ga, ka) = y0
    generalize NF 1 (fa, pa, ga, ka) = y1
    generalize NF 2 (fa, pa, ga, ka) = y2
    clear S hv HRX vs
    have S := Lib.hid (show St w0.heap.size w0 w8 (mo pa ga ka fa (N) (K) (m1 K la) * (fx fa * (pts bx (.cells #[.int .i64 (N : Int), .int .i64 (K : Int), .slice (some ⟨gx, 0, none⟩) (N * K) kx] 50) * (pts (bx + 1) (.cells #[.int .i64 (K : Int), .int .i64 (L : Int), .slice (some ⟨gy, 0, none⟩) (K * L) ky] 50) * (row 5 1 (.slice (some ⟨gx, 0, none⟩) (N * K) kx) (N * K) (bvs (cl N K (m1 K la))) * (row 5 1 (.slice (some ⟨gy, 0, none⟩) (K * L) ky) (K * L) (bvs (cl K L (m1 L lb))) * emp)))))) from s9)
    clear s9
    go_wp2_with fail
    have S2 := Lib.hid (S.out.eq (Q := pts (bx + 1) (.cells #[.int .i64 (K : Int), .int .i64 (L : Int), .slice (some ⟨gy, 0, none⟩) (K * L) ky] 50) * (mo pa ga ka fa N K (m1 K la) * (fx fa * (pts bx (.cells #[.int .i64 (N : Int), .int .i64 (K : Int), .slice (some ⟨gx, 0, none⟩) (N * K) kx] 50) * (row 5 1 (.slice (some ⟨gx, 0, none⟩) (N * K) kx) (N * K) (bvs (cl N K (m1 K la))) * (row 5 1 (.slice (some ⟨gy, 0, none⟩) (K * L) ky) (K * L) (bvs (cl K L (m1 L lb))) * emp)))))) (by ac_rfl))
    clear S
    have S := Lib.hid S2.out
    clear S2
    have HRX := Lib.hid (show Reads w0.heap.size w0 (pts (bx + 1) (.cells #[.int .i64 (K : Int), .int .i64 (L : Int), .slice (some ⟨gy, 0, none⟩) (K * L) ky] 50) * (mo pa ga ka fa N K (m1 K la) * (fx fa * (pts bx (.cells #[.int .i64 (N : Int), .int .i64 (K : Int), .slice (some ⟨gx, 0, none⟩) (N * K) kx] 50) * (row 5 1 (.slice (some ⟨gx, 0, none⟩) (N * K) kx) (N * K) (bvs (cl N K (m1 K la))) * (row 5 1 (.slice (some ⟨gy, 0, none⟩) (K * L) ky) (K * L) (bvs (cl K L (m1 L lb))) * emp)))))) (.slice (some ⟨gy, 0, none⟩) (K * L) ky) (cl (K) L (m1 L lb)) from fun w H s => (s.eq (Q := row 5 1 (.slice (some ⟨gy, 0, none⟩) (K * L) ky) (K * L) (bvs (cl K L (m1 L lb))) * (H * (pts (bx + 1) (.cells #[.int .i64 (K : Int), .int .i64 (L : Int), .slice (some ⟨gy, 0, none⟩) (K * L) ky] 50) * (mo pa ga ka fa N K (m1 K la) * (fx fa * (pts bx (.cells #[.int .i64 (N : Int), .int .i64 (K : Int), .slice (some ⟨gx, 0, none⟩) (N * K) kx] 50) * (row 5 1 (.slice (some ⟨gx, 0, none⟩) (N * K) kx) (N * K) (bvs (cl N K (m1 K la))) * emp))))))) (by ac_rfl)).bs)
    refine wp_region_rv [76, 81, 75, 82, 19] (PJ w0.heap.size w0 (pts (bx + 1) (.cells #[.int .i64 (K : Int), .int .i64 (L : Int), .slice (some ⟨gy, 0, none⟩) (K * L) ky] 50) * (mo pa ga ka fa N K (m1 K la) * (fx fa * (pts bx (.cells #[.int .i64 (N : Int), .int .i64 (K : Int), .slice (some ⟨gx, 0, none⟩) (N * K) kx] 50) * (row 5 1 (.slice (some ⟨gx, 0, none⟩) (N * K) kx) (N * K) (bvs (cl N K (m1 K la))) * (row 5 1 (.slice (some ⟨gy, 0, none⟩) (K * L) ky) (K * L) (bvs (cl K L (m1 L lb))) * emp)))))) NF (NH (K) (L) (m1 L lb) (pts (bx + 1) (.cells #[.int .i64 (K : Int), .int .i64 (L : Int), .slice (some ⟨gy, 0, none⟩) (K * L) ky] 50) * (mo pa ga ka fa N K (m1 K la) * (fx fa * (pts bx (.cells #[.int .i64 (N : Int), .int .i64 (K : Int), .slice (some ⟨gx, 0, none⟩) (N * K) kx] 50) * (row 5 1 (.slice (some ⟨gx, 0, none⟩) (N * K) kx) (N * K) (bvs (cl N K (m1 K la))) * (row 5 1 (.slice (some ⟨gy, 0, none⟩) (K * L) ky) (K * L) (bvs (cl K L (m1 L lb))) * emp)))))))) [0, 5, 6, 7, 9] mixed (by kernel_rfl) (by kernel_rfl) (by kernel_rfl) (fun _ => S.out.drew) ?_
    refine RXl.callV 0 76 rfl rfl rfl (Nat.le_of_ble_eq_true rfl) _ [] _ rfl rfl rfl rfl rfl (PJ.first [] (fun ρ w hag => rfl) (fun _ => rfl) (fun w s => (newx w s).mono fun e w1 ⟨fb, h1, s1⟩ => ⟨(fb, 0, 0, 0), h1, s1⟩)) ?_
    refine RXl.exact (.int .i64 ((K : Nat) : Int)) rfl rfl rfl rfl rfl (fun _ _ _ _ _ => rfl) ?_
    refine RXl.exact (.int .i64 ((L : Nat) : Int)) rfl rfl rfl rfl rfl (fun _ _ _ _ _ => rfl) ?_
    refine RXl.exact (.pointer (some ⟨bx + 1, 2, none⟩)) rfl rfl rfl rfl rfl (fun j τ w' hj hJ => (by obtain ⟨vs, hv, hJ⟩ := hJ; exact (by simp [rho, upd, Spec.val, execOp, go_sem]))) ?_
    refine RXl.exact (.slice (some ⟨gy, 0, none⟩) ((K) * (L)) ky) rfl rfl rfl rfl rfl (fun j τ w' hj hJ => (by obtain ⟨vs, hv, hJ⟩ := hJ; exact (by obtain ⟨Z, q⟩ := NJ_x hJ; have c := (q.eq (sep_assoc _ _ _)).cell 2; simp at c; simp [rho, upd, Spec.val, execOp, go_sem, c]))) ?_
    refine RXl.callV 1 81 rfl rfl rfl (Nat.le_of_ble_eq_true rfl) _ [.tmp 76, .tmp 77, .tmp 78, .tmp 80] _ rfl rfl rfl rfl rfl (NJ_new (some ⟨gy, 0, none⟩) ((K) * (L)) ky (by omega) (by omega) HRX.out (fun ρ a w h hag => by simp [h 0 76 (by decide) rfl, hag.ex 77 _ rfl rfl rfl, hag.ex 78 _ rfl rfl rfl, hag.ex 80 _ rfl rfl rfl, NF])) ?_
    refine RXl.effV 2 75 rfl rfl rfl (Nat.le_of_ble_eq_true rfl) rfl rfl rfl rfl (PJ.pass rfl (fun ρ a w h hag s => by have e := h 1 81 (by decide) rfl; exact (exec_move rfl).trans (by rw [e]; rfl))) ?_
    refine RXl.effV 3 82 rfl rfl rfl (Nat.le_of_ble_eq_true rfl) rfl rfl rfl rfl (PJ.pass rfl (fun ρ a w h hag s => by have e := h 2 75 (by decide) rfl; exact exec_extract rfl e rfl)) ?_
    refine RXl.value (.ex (.int .i64 0)) (Free.ex _) rfl rfl rfl rfl (fun ρ w' j hj hI hag => ⟨_, (by obtain ⟨a, e⟩ := PJ.val (hag.so 75 _ rfl rfl rfl); exact exec_extract rfl e rfl), rfl⟩) ?_
    refine RXl.effV 4 19 rfl rfl rfl (Nat.le_of_ble_eq_true rfl) rfl rfl rfl rfl (PJ.pass rfl (fun ρ a w h hag s => by have e := h 3 82 (by decide) rfl; exact (exec_assign rfl).trans (by rw [e]; rfl))) ?_
    refine RXl.exact (.int .i64 0) rfl rfl rfl rfl rfl (fun _ _ _ _ _ => rfl) ?_
    refine RXl.nilV _ (AgrL.upd _ _ (AgrL.unk 19 _ rfl (AgrL.upd _ _ (AgrL.unk 82 _ rfl (AgrL.unk 75 _ rfl (AgrL.unk 81 _ rfl (AgrL.upd _ _ (AgrL.upd _ _ (AgrL.upd _ _ (AgrL.upd _ _ (AgrL.unk 76 _ rfl (AgrL.base _)))))))))))) (by decide) (by decide) fun vs w9 hJ => ?_
    simp only [puts, Act.put, List.setIfInBounds_toArray, List.set_cons_succ, List.set_cons_zero]
    obtain ⟨⟨fo_, po, go_, ko⟩, hv, s9⟩ := hJ
    rw [show vs 0 = NF 0 (fo_, po, go_, ko) from hv 0 (by decide), show vs 1 = NF 1 (fo_, po, go_, ko) from hv 1 (by decide), show vs 2 = NF 2 (fo_, po, go_, ko) from hv 2 (by decide), show vs 3 = .pointer (some ⟨po, 0, none⟩) from hv 3 (by decide), show vs 4 = .pointer (some ⟨po, 0, none⟩) from hv 4 (by decide)]
    generalize NF 0 (fo_, po, go_, ko) = y0
    generalize NF 1 (fo_, po, go_, ko) = y1
    generalize NF 2 (fo_, po, go_, ko) = y2
    clear S hv HRX vs
    have S := Lib.hid (show St w0.heap.size w0 w9 (mo po go_ ko fo_ (K) (L) (m1 L lb) * (fx fo_ * (pts (bx + 1) (.cells #[.int .i64 (K : Int), .int .i64 (L : Int), .slice (some ⟨gy, 0, none⟩) (K * L) ky] 50) * (mo pa ga ka fa N K (m1 K la) * (fx fa * (pts bx (.cells #[.int .i64 (N : Int), .int .i64 (K : Int), .slice (some ⟨gx, 0, none⟩) (N * K) kx] 50) * (row 5 1 (.slice (some ⟨gx, 0, none⟩) (N * K) kx) (N * K) (bvs (cl N K (m1 K la))) * (row 5 1 (.slice (some ⟨gy, 0, none⟩) (K * L) ky) (K * L) (bvs (cl K L (m1 L lb))) * emp)))))))) from s9)
    clear s9
    go_wp2_with fail
    refine (mul_good pa ga ka fa N K (m1 K la) po go_ ko fo_ L (m1 L lb) (by omega) (by omega) (by omega) _ (S.out.eq (Q := fx fa * (mo pa ga ka fa N K (m1 K la) * (mo po go_ ko fo_ (K) L (m1 L lb) * (fx fo_ * (pts (bx + 1) (.cells #[.int .i64 (K : Int), .int .i64 (L : Int), .slice (some ⟨gy, 0, none⟩) (K * L) ky] 50) * (pts bx (.cells #[.int .i64 (N : Int), .int .i64 (K : Int), .slice (some ⟨gx, 0, none⟩) (N * K) kx] 50) * (row 5 1 (.slice (some ⟨gx, 0, none⟩) (N * K) kx) (N * K) (bvs (cl N K (m1 K la))) * (row 5 1 (.slice (some ⟨gy, 0, none⟩) (K * L) ky) (K * L) (bvs (cl K L (m1 L lb))) * emp)))))))) (by ac_rfl))).mono ?_
    rintro e w10 ⟨pp, rfl, s⟩
    obtain ⟨gp, kp, s⟩ := mt_open s
    clear S
    have sx := s.eq (Q := pts bx (.cells #[.int .i64 (N : Int), .int .i64 (K : Int), .slice (some ⟨gx, 0, none⟩) (N * K) kx] 50) * (mo pp gp kp fa N L (mmul K (m1 K la) (m1 L lb)) * (fx fa * (mo pa ga ka fa N K (m1 K la) * (mo po go_ ko fo_ (K) L (m1 L lb) * (fx fo_ * (pts (bx + 1) (.cells #[.int .i64 (K : Int), .int .i64 (L : Int), .slice (some ⟨gy, 0, none⟩) (K * L) ky] 50) * (row 5 1 (.slice (some ⟨gx, 0, none⟩) (N * K) kx) (N * K) (bvs (cl N K (m1 K la))) * (row 5 1 (.slice (some ⟨gy, 0, none⟩) (K * L) ky) (K * L) (bvs (cl K L (m1 L lb))) * emp))))))))) (by ac_rfl)
    have x0 := sx.cell 0
    have x1 := sx.cell 1
    have x2 := sx.cell 2
    simp at x0 x1 x2
    have sy := s.eq (Q := pts (bx + 1) (.cells #[.int .i64 (K : Int), .int .i64 (L : Int), .slice (some ⟨gy, 0, none⟩) (K * L) ky] 50) * (mo pp gp kp fa N L (mmul K (m1 K la) (m1 L lb)) * (fx fa * (mo pa ga ka fa N K (m1 K la) * (mo po go_ ko fo_ (K) L (m1 L lb) * (fx fo_ * (pts bx (.cells #[.int .i64 (N : Int), .int .i64 (K : Int), .slice (some ⟨gx, 0, none⟩) (N * K) kx] 50) * (row 5 1 (.slice (some ⟨gx, 0, none⟩) (N * K) kx) (N * K) (bvs (cl N K (m1 K la))) * (row 5 1 (.slice (some ⟨gy, 0, none⟩) (K * L) ky) (K * L) (bvs (cl K L (m1 L lb))) * emp))))))))) (by ac_rfl)
    have y0 := sy.cell 0
    have y1 := sy.cell 1
    have y2 := sy.cell 2
    simp at y0 y1 y2
    clear sx sy
    have S := Lib.hid s
    clear s
    go_wp2_with fail
    clear x0 x1 x2 y0 y1 y2
    have S2 := Lib.hid (rmm_calls (R := mo pp gp kp fa N L (mmul K (m1 K la) (m1 L lb)) * (fx fa * (mo pa ga ka fa N K (m1 K la) * (mo po go_ ko fo_ (K) L (m1 L lb) * (fx fo_ * (pts (bx + 1) (.cells #[.int .i64 (K : Int), .int .i64 (L : Int), .slice (some ⟨gy, 0, none⟩) (K * L) ky] 50) * (pts bx (.cells #[.int .i64 (N : Int), .int .i64 (K : Int), .slice (some ⟨gx, 0, none⟩) (N * K) kx] 50) * (row 5 1 (.slice (some ⟨gx, 0, none⟩) (N * K) kx) (N * K) (bvs (cl N K (m1 K la))) * (row 5 1 (.slice (some ⟨gy, 0, none⟩) (K * L) ky) (K * L) (bvs (cl K L (m1 L lb))) * emp))))))))) N K L (m1 K la) (m1 L lb) gx kx gy ky (by omega) (by omega) (by omega) w10
      (fun w H s => (s.eq (Q := row 5 1 (.slice (some ⟨gx, 0, none⟩) (N * K) kx) (N * K) (bvs (cl N K (m1 K la))) * (H * (mo pp gp kp fa N L (mmul K (m1 K la) (m1 L lb)) * (fx fa * (mo pa ga ka fa N K (m1 K la) * (mo po go_ ko fo_ (K) L (m1 L lb) * (fx fo_ * (pts (bx + 1) (.cells #[.int .i64 (K : Int), .int .i64 (L : Int), .slice (some ⟨gy, 0, none⟩) (K * L) ky] 50) * (pts bx (.cells #[.int .i64 (N : Int), .int .i64 (K : Int), .slice (some ⟨gx, 0, none⟩) (N * K) kx] 50) * (row 5 1 (.slice (some ⟨gy, 0, none⟩) (K * L) ky) (K * L) (bvs (cl K L (m1 L lb))) * emp)))))))))) (by ac_rfl)).bs)
      (fun w H s => (s.eq (Q := row 5 1 (.slice (some ⟨gy, 0, none⟩) (K * L) ky) (K * L) (bvs (cl K L (m1 L lb))) * (H * (mo pp gp kp fa N L (mmul K (m1 K la) (m1 L lb)) * (fx fa * (mo pa ga ka fa N K (m1 K la) * (mo po go_ ko fo_ (K) L (m1 L lb) * (fx fo_ * (pts (bx + 1) (.cells #[.int .i64 (K : Int), .int .i64 (L : Int), .slice (some ⟨gy, 0, none⟩) (K * L) ky] 50) * (pts bx (.cells #[.int .i64 (N : Int), .int .i64 (K : Int), .slice (some ⟨gx, 0, none⟩) (N * K) kx] 50) * (row 5 1 (.slice (some ⟨gx, 0, none⟩) (N * K) kx) (N * K) (bvs (cl N K (m1 K la))) * emp)))))))))) (by ac_rfl)).bs) S.out)
    clear S
    refine S2.out.mono ?_
    rintro e w11 ⟨gm, km, rfl, s⟩
    clear S2
    have S := Lib.hid (s.eq (Q := mo pp gp kp fa N L (mmul K (m1 K la) (m1 L lb)) * (row 5 1 (.slice (some ⟨gm, 0, none⟩) (N * L) km) (N * L) (bvs (cl N L (mmul K (m1 K la) (m1 L lb)))) * (fx fa * (mo pa ga ka fa N K (m1 K la) * (mo po go_ ko fo_ (K) L (m1 L lb) * (fx fo_ * (pts (bx + 1) (.cells #[.int .i64 (K : Int), .int .i64 (L : Int), .slice (some ⟨gy, 0, none⟩) (K * L) ky] 50) * (pts bx (.cells #[.int .i64 (N : Int), .int .i64 (K : Int), .slice (some ⟨gx, 0, none⟩) (N * K) kx] 50) * (row 5 1 (.slice (some ⟨gx, 0, none⟩) (N * K) kx) (N * K) (bvs (cl N K (m1 K la))) * (row 5 1 (.slice (some ⟨gy, 0, none⟩) (K * L) ky) (K * L) (bvs (cl K L (m1 L lb))) * emp)))))))))) (by ac_rfl))
    clear s
    go_wp2_with fail
    refine (same_true pp gp kp fa N L (mmul K (m1 K la) (m1 L lb)) (by omega) gm km w11 (fun w H s => (s.eq (Q := row 5 1 (.slice (some ⟨gm, 0, none⟩) (N * L) km) (N * L) (bvs (cl N L (mmul K (m1 K la) (m1 L lb)))) * (H * (fx fa * (mo pa ga ka fa N K (m1 K la) * (mo po go_ ko fo_ (K) L (m1 L lb) * (fx fo_ * (pts (bx + 1) (.cells #[.int .i64 (K : Int), .int .i64 (L : Int), .slice (some ⟨gy, 0, none⟩) (K * L) ky] 50) * (pts bx (.cells #[.int .i64 (N : Int), .int .i64 (K : Int), .slice (some ⟨gx, 0, none⟩) (N * K) kx] 50) * (row 5 1 (.slice (some ⟨gx, 0, none⟩) (N * K) kx) (N * K) (bvs (cl N K (m1 K la))) * (row 5 1 (.slice (some ⟨gy, 0, none⟩) (K * L) ky) (K * L) (bvs (cl K L (m1 L lb))) * emp)))))))))) (by ac_rfl)).bs) S.out).mono ?_
    rintro e w12 ⟨rfl, s⟩
    clear S
    have S := Lib.hid (s.right.right.eq (Q := fx fa * (mo pa ga ka fa N K (m1 K la) * (mo po go_ ko fo_ (K) L (m1 L lb) * (fx fo_ * (pts (bx + 1) (.cells #[.int .i64 (K : Int), .int .i64 (L : Int), .slice (some ⟨gy, 0, none⟩) (K * L) ky] 50) * (pts bx (.cells #[.int .i64 (N : Int), .int .i64 (K : Int), .slice (some ⟨gx, 0, none⟩) (N * K) kx] 50) * (row 5 1 (.slice (some ⟨gx, 0, none⟩) (N * K) kx) (N * K) (bvs (cl N K (m1 K la))) * (row 5 1 (.slice (some ⟨gy, 0, none⟩) (K * L) ky) (K * L) (bvs (cl K L (m1 L lb))) * emp)))))))) rfl)
    clear s
    go_wp2_with fail
    by_cases hVK : V = K
    · subst hVK
      have HLV := Lib.hid (show lv.length = V from HV.out.rd.1.symm)
      refine (times_good pa ga ka fa N V (m1 V la) a3 cv lv (by omega) (by omega) HLV.out (reads_arg _ HV.out) _ (S.out.eq (by rfl))).mono ?_
      rintro e w13 ⟨gt, rfl, s⟩
      clear S
      have S := Lib.hid s
      clear s
      go_wp2_with fail
      go_loopw [25] (fun i wr => ∃ q : Nat, q ≤ N ∧ i = .int .i64 q ∧ St w0.heap.size w0 wr (row 5 1 (.slice (some ⟨gt, 0, none⟩) N N) N (bvs ((List.range N).map fun a => gdot (mrow V (m1 V la) a) lv)) * (fx fa * (mo pa ga ka fa N V (m1 V la) * (mo po go_ ko fo_ (V) L (m1 L lb) * (fx fo_ * (pts (bx + 1) (.cells #[.int .i64 (V : Int), .int .i64 (L : Int), .slice (some ⟨gy, 0, none⟩) (V * L) ky] 50) * (pts bx (.cells #[.int .i64 (N : Int), .int .i64 (V : Int), .slice (some ⟨gx, 0, none⟩) (N * V) kx] 50) * (row 5 1 (.slice (some ⟨gx, 0, none⟩) (N * V) kx) (N * V) (bvs (cl N V (m1 V la))) * (row 5 1 (.slice (some ⟨gy, 0, none⟩) (V * L) ky) (V * L) (bvs (cl V L (m1 L lb))) * emp))))))))) ) (fun i _ => N - (intOf i).toNat)
      case atStart => exact ⟨0, Nat.zero_le _, rfl, S.out⟩
      case round =>
        obtain ⟨q, hq, rfl, s⟩ := hrel
        clear S
        have S := Lib.hid s
        have HC := Lib.hid ((s.eq (Q := row 5 1 (.slice (some ⟨gx, 0, none⟩) (N * V) kx) (N * V) (bvs (cl N V (m1 V la))) * (row 5 1 (.slice (some ⟨gt, 0, none⟩) N N) N (bvs ((List.range N).map fun a => gdot (mrow V (m1 V la) a) lv)) * (fx fa * (mo pa ga ka fa N V (m1 V la) * (mo po go_ ko fo_ (V) L (m1 L lb) * (fx fo_ * (pts (bx + 1) (.cells #[.int .i64 (V : Int), .int .i64 (L : Int), .slice (some ⟨gy, 0, none⟩) (V * L) ky] 50) * (pts bx (.cells #[.int .i64 (N : Int), .int .i64 (V : Int), .slice (some ⟨gx, 0, none⟩) (N * V) kx] 50) * (row 5 1 (.slice (some ⟨gy, 0, none⟩) (V * L) ky) (V * L) (bvs (cl V L (m1 L lb))) * emp))))))))) (by ac_rfl)).row1.2.2.1)
        clear s
        by_cases hlt : q < N
        · have HS := Lib.hid (cut_row (g := gx) hlt (show 0 < V by omega) (show N * V ≤ 1000000 by omega) HC.out)
          have HT := Lib.hid (show (bvs ((List.range N).map fun a => gdot (mrow V (m1 V la) a) lv))[q]? = some (bv (gdot (mrow V (m1 V la) q) lv)) by simp [bvs, hlt])
          have HRB := Lib.hid (fun (w : World) (s : St w0.heap.size w0 w (row 5 1 (.slice (some ⟨gt, 0, none⟩) N N) N (bvs ((List.range N).map fun a => gdot (mrow V (m1 V la) a) lv)) * (fx fa * (mo pa ga ka fa N V (m1 V la) * (mo po go_ ko fo_ (V) L (m1 L lb) * (fx fo_ * (pts (bx + 1) (.cells #[.int .i64 (V : Int), .int .i64 (L : Int), .slice (some ⟨gy, 0, none⟩) (V * L) ky] 50) * (pts bx (.cells #[.int .i64 (N : Int), .int .i64 (V : Int), .slice (some ⟨gx, 0, none⟩) (N * V) kx] 50) * (row 5 1 (.slice (some ⟨gx, 0, none⟩) (N * V) kx) (N * V) (bvs (cl N V (m1 V la))) * (row 5 1 (.slice (some ⟨gy, 0, none⟩) (V * L) ky) (V * L) (bvs (cl V L (m1 L lb))) * emp)))))))))) => show BS w (.slice (some ⟨gx, q * V, none⟩) V (kx - q * V)) (mrow V (m1 V la) q) from by
            have hbb : (q + 1) * V ≤ N * V := Nat.mul_le_mul_right V hlt
            have hbb2 : (q + 1) * V = q * V + V := Nat.succ_mul q V
            have hcc := HC.out
            have qq := ((s.eq (Q := row 5 1 (.slice (some ⟨gx, 0, none⟩) (N * V) kx) (N * V) (bvs (cl N V (m1 V la))) * (row 5 1 (.slice (some ⟨gt, 0, none⟩) N N) N (bvs ((List.range N).map fun a => gdot (mrow V (m1 V la) a) lv)) * (fx fa * (mo pa ga ka fa N V (m1 V la) * (mo po go_ ko fo_ (V) L (m1 L lb) * (fx fo_ * (pts (bx + 1) (.cells #[.int .i64 (V : Int), .int .i64 (L : Int), .slice (some ⟨gy, 0, none⟩) (V * L) ky] 50) * (pts bx (.cells #[.int .i64 (N : Int), .int .i64 (V : Int), .slice (some ⟨gx, 0, none⟩) (N * V) kx] 50) * (row 5 1 (.slice (some ⟨gy, 0, none⟩) (V * L) ky) (V * L) (bvs (cl V L (m1 L lb))) * emp))))))))) (by ac_rfl)).bs).sub (q * V) (q * V + V) (by omega) (by rw [cl_len]; omega)
            rw [show q * V + V - q * V = V by omega, cl_row _ hlt] at qq
            unfold subA at qq
            rw [if_neg (by omega), Nat.mul_one] at qq
            simpa [Addr.add_lit] using qq)
          clear HC
          go_wp2_with fail
          refine wp_region_rx (fun _ w' => St w0.heap.size w0 w' (row 5 1 (.slice (some ⟨gt, 0, none⟩) N N) N (bvs ((List.range N).map fun a => gdot (mrow V (m1 V la) a) lv)) * (fx fa * (mo pa ga ka fa N V (m1 V la) * (mo po go_ ko fo_ (V) L (m1 L lb) * (fx fo_ * (pts (bx + 1) (.cells #[.int .i64 (V : Int), .int .i64 (L : Int), .slice (some ⟨gy, 0, none⟩) (V * L) ky] 50) * (pts bx (.cells #[.int .i64 (N : Int), .int .i64 (V : Int), .slice (some ⟨gx, 0, none⟩) (N * V) kx] 50) * (row 5 1 (.slice (some ⟨gx, 0, none⟩) (N * V) kx) (N * V) (bvs (cl N V (m1 V la))) * (row 5 1 (.slice (some ⟨gy, 0, none⟩) (V * L) ky) (V * L) (bvs (cl V L (m1 L lb))) * emp)))))))))) [] mixed (by kernel_rfl) (by kernel_rfl) S.out.drew ?_
          refine RXl.exact (.slice (some ⟨gt, 0, none⟩) N N) rfl rfl rfl rfl rfl (fun _ _ _ _ _ => rfl) ?_
          refine RXl.exact (.int .i64 (q : Int)) rfl rfl rfl rfl rfl (fun _ _ _ _ _ => rfl) ?_
          refine RXl.exact (.pointer (some ⟨gt, q, none⟩)) rfl rfl rfl rfl rfl (fun j τ w' hj hJ => by have t1 : (q : Int) < (N : Int) := (by omega); simp [rho, upd, Spec.val, execOp, go_sem, t1]) ?_
          refine RXl.exact (bv (gdot (mrow V (m1 V la) q) lv)) rfl rfl rfl rfl rfl (fun j τ w' hj hJ => by have c := ((St.row1 hJ).2.2.2.2.1 q hlt).trans HT.out; simp [rho, upd, Spec.val, execOp, go_sem, c]) ?_
          refine RXl.exact (.pointer (some ⟨bx, 2, none⟩)) rfl rfl rfl rfl rfl (fun j τ w' hj hJ => by simp [rho, upd, Spec.val, execOp, go_sem]) ?_
          refine RXl.exact (.slice (some ⟨gx, 0, none⟩) (N * V) kx) rfl rfl rfl rfl rfl (fun j τ w' hj hJ => by have c := (St.eq (Q := pts bx (.cells #[.int .i64 (N : Int), .int .i64 (V : Int), .slice (some ⟨gx, 0, none⟩) (N * V) kx] 50) * (row 5 1 (.slice (some ⟨gt, 0, none⟩) N N) N (bvs ((List.range N).map fun a => gdot (mrow V (m1 V la) a) lv)) * (fx fa * (mo pa ga ka fa N V (m1 V la) * (mo po go_ ko fo_ (V) L (m1 L lb) * (fx fo_ * (pts (bx + 1) (.cells #[.int .i64 (V : Int), .int .i64 (L : Int), .slice (some ⟨gy, 0, none⟩) (V * L) ky] 50) * (row 5 1 (.slice (some ⟨gx, 0, none⟩) (N * V) kx) (N * V) (bvs (cl N V (m1 V la))) * (row 5 1 (.slice (some ⟨gy, 0, none⟩) (V * L) ky) (V * L) (bvs (cl V L (m1 L lb))) * emp))))))))) (by ac_rfl) hJ).cell 2; simp at c; simp [rho, upd, Spec.val, execOp, go_sem, c]) ?_
          refine RXl.exact (.int .i64 (q : Int)) rfl rfl rfl rfl rfl (fun _ _ _ _ _ => rfl) ?_
          refine RXl.exact (.int .i64 (V : Int)) rfl rfl rfl rfl rfl (fun _ _ _ _ _ => rfl) ?_
          refine RXl.exact (.int .i64 ((q : Int) * (V : Int))) rfl rfl rfl rfl rfl (fun j τ w' hj hJ => by simp [rho, upd, Spec.val, execOp, go_sem, HS.out.2.1]) ?_
          refine RXl.exact (.int .i64 (q : Int)) rfl rfl rfl rfl rfl (fun _ _ _ _ _ => rfl) ?_
          refine RXl.exact (.int .i64 (V : Int)) rfl rfl rfl rfl rfl (fun _ _ _ _ _ => rfl) ?_
          refine RXl.exact (.int .i64 ((q : Int) * (V : Int))) rfl rfl rfl rfl rfl (fun j τ w' hj hJ => by simp [rho, upd, Spec.val, execOp, go_sem, HS.out.2.1]) ?_
          refine RXl.exact (.int .i64 (V : Int)) rfl rfl rfl rfl rfl (fun _ _ _ _ _ => rfl) ?_
          refine RXl.exact (.int .i64 ((q : Int) * (V : Int) + (V : Int))) rfl rfl rfl rfl rfl (fun j τ w' hj hJ => by simp [rho, upd, Spec.val, execOp, go_sem, HS.out.2.2]) ?_
          refine RXl.exact (.slice (some ⟨gx, q * V, none⟩) V (kx - q * V)) rfl rfl rfl rfl rfl (fun j τ w' hj hJ => exec_slice rfl (HS.out.1 w')) ?_
          refine RXl.exact (str (mrow V (m1 V la) q)) rfl rfl rfl rfl rfl (fun j τ w' hj hJ => exec_convert rfl (run_str Try.underlying36 Try.underlying5 Try.underlying9 (HRB.out w' hJ))) ?_
          refine RXl.exact (.slice a3 V cv) rfl rfl rfl rfl rfl (fun _ _ _ _ _ => rfl) ?_
          refine RXl.exact (str lv) rfl rfl rfl rfl rfl (fun j τ w' hj hJ => exec_convert rfl (run_str Try.underlying36 Try.underlying5 Try.underlying9 (HV.out.st rfl hJ))) ?_
          refine RXl.callr (bv (gdot (mrow V (m1 V la) q) lv)) _ [str (mrow V (m1 V la) q), str lv] [.tmp 171, .tmp 173] _ rfl rfl rfl rfl rfl rfl (fun _ => rfl) (fun j τ w' hj hJ => rdotx (mrow V (m1 V la) q) lv w' (by rw [mrow_len]; omega) (by rw [HLV.out]; omega) hJ) ?_
          refine RXl.exact (.bool false) rfl rfl rfl rfl rfl (fun j τ w' hj hJ => by simp [rho, upd, Spec.val, execOp, go_sem]) ?_
          refine RXl.nilx _ (Agr.upd _ _ (Agr.upd _ _ (Agr.upd _ _ (Agr.upd _ _ (Agr.upd _ _ (Agr.upd _ _ (Agr.upd _ _ (Agr.upd _ _ (Agr.upd _ _ (Agr.upd _ _ (Agr.upd _ _ (Agr.upd _ _ (Agr.upd _ _ (Agr.upd _ _ (Agr.upd _ _ (Agr.upd _ _ (Agr.upd _ _ (Agr.upd _ _ (Agr.upd _ _ (Agr.upd _ _ (Agr.base _))))))))))))))))))))) fun w14 hJ => ?_
          obtain ⟨_, hJ⟩ := hJ
          simp only [Act.put, List.setIfInBounds_toArray, List.set_cons_succ, List.set_cons_zero]
          clear S
          have S := Lib.hid (show St w0.heap.size w0 w14 (row 5 1 (.slice (some ⟨gt, 0, none⟩) N N) N (bvs ((List.range N).map fun a => gdot (mrow V (m1 V la) a) lv)) * (fx fa * (mo pa ga ka fa N V (m1 V la) * (mo po go_ ko fo_ (V) L (m1 L lb) * (fx fo_ * (pts (bx + 1) (.cells #[.int .i64 (V : Int), .int .i64 (L : Int), .slice (some ⟨gy, 0, none⟩) (V * L) ky] 50) * (pts bx (.cells #[.int .i64 (N : Int), .int .i64 (V : Int), .slice (some ⟨gx, 0, none⟩) (N * V) kx] 50) * (row 5 1 (.slice (some ⟨gx, 0, none⟩) (N * V) kx) (N * V) (bvs (cl N V (m1 V la))) * (row 5 1 (.slice (some ⟨gy, 0, none⟩) (V * L) ky) (V * L) (bvs (cl V L (m1 L lb))) * emp))))))))) from hJ)
          clear hJ HS HT HRB
          go_wp2_with fail
          go_roundw
          case rel => exact ⟨q + 1, by omega, by go_num, S.out⟩
          case measure => simp [intOf]; omega
        · obtain rfl : q = N := by omega
          clear HC
          go_wp2_with fail
          refine (mul_nil pa _ S.out).mono ?_
          rintro e wq ⟨rfl, sq⟩
          clear S
          have S := Lib.hid sq
          clear sq
          go_wp2_with fail
          refine (awakex _ S.out).mono ?_
          rintro e wq ⟨rfl, sq⟩
          clear S
          have S := Lib.hid sq
          clear sq
          go_wp2_with fail
          go_ret
          exact ⟨rfl, S.out.below⟩
    · have hne2 : ((V : Int) != (K : Int)) = true := by rw [bne_iff_ne]; omega
      refine (times_bad pa ga ka fa N K (m1 K la) a3 V cv hVK _ (S.out.eq (Q := mo pa ga ka fa N K (m1 K la) * (fx fa * (mo po go_ ko fo_ (K) L (m1 L lb) * (fx fo_ * (pts (bx + 1) (.cells #[.int .i64 (K : Int), .int .i64 (L : Int), .slice (some ⟨gy, 0, none⟩) (K * L) ky] 50) * (pts bx (.cells #[.int .i64 (N : Int), .int .i64 (K : Int), .slice (some ⟨gx, 0, none⟩) (N * K) kx] 50) * (row 5 1 (.slice (some ⟨gx, 0, none⟩) (N * K) kx) (N * K) (bvs (cl N K (m1 K la))) * (row 5 1 (.slice (some ⟨gy, 0, none⟩) (K * L) ky) (K * L) (bvs (cl K L (m1 L lb))) * emp)))))))) (by ac_rfl))).mono ?_
      rintro e w13 ⟨rfl, s⟩
      clear S
      have S := Lib.hid s
      clear s
      go_wp2_with fail
      refine (awakex _ S.out).mono ?_
      rintro e wq ⟨rfl, sq⟩
      clear S
      have S := Lib.hid sq
      clear sq
      go_wp2_with fail
      go_ret
      exact ⟨rfl, S.out.below⟩
  · have ho : O % 2 = 0 := by omega
    rw [ho] at hP
    clear hodd ho
    by_cases hOK : O = K
    · have hKO := hOK.symm
      subst hKO
      clear hOK
      go_enter Try.func13, Try.ntmps13
      go_wp2_with fail
      refine (make1_calls N K (by omega) a la.length ca la (by omega) _ (reads_arg _ HA.out) (St.init w0)).mono ?_
      rintro e w1 ⟨gx, kx, rfl, s⟩
      have S := Lib.hid s
      clear s
      go_wp2_with fail
      refine (make1_calls (K) L (by omega) a2 lb.length cb lb (by omega) _ (reads_arg _ HB.out) S.out).mono ?_
      rintro e w2 ⟨gy, ky, rfl, s⟩
      have s1 := s.alloc (.cells #[.int .i64 (N : Int), .int .i64 (K : Int), .slice (some ⟨gx, 0, none⟩) (N * K) kx] 50)
      have s2 := s1.alloc (.cells #[.int .i64 (K : Int), .int .i64 (L : Int), .slice (some ⟨gy, 0, none⟩) (K * L) ky] 50)
      rw [show (w2.alloc (.cells #[.int .i64 (N : Int), .int .i64 (K : Int), .slice (some ⟨gx, 0, none⟩) (N * K) kx] 50)).heap.size = w2.heap.size + 1 by simp] at s2
      unfold rmv
      clear S
      have S := Lib.hid (s2.eq (Q := pts w2.heap.size (.cells #[.int .i64 (N : Int), .int .i64 (K : Int), .slice (some ⟨gx, 0, none⟩) (N * K) kx] 50) * (pts (w2.heap.size + 1) (.cells #[.int .i64 (K : Int), .int .i64 (L : Int), .slice (some ⟨gy, 0, none⟩) (K * L) ky] 50) * (row 5 1 (.slice (some ⟨gx, 0, none⟩) (N * K) kx) (N * K) (bvs (cl N K (m1 K la))) * (row 5 1 (.slice (some ⟨gy, 0, none⟩) (K * L) ky) (K * L) (bvs (cl K L (m1 L lb))) * emp)))) (by ac_rfl))
      clear s s1 s2
      go_wp2_with fail
      generalize w2.heap.size = bx at *
      have HRX := Lib.hid (show Reads w0.heap.size w0 (pts bx (.cells #[.int .i64 (N : Int), .int .i64 (K : Int), .slice (some ⟨gx, 0, none⟩) (N * K) kx] 50) * (pts (bx + 1) (.cells #[.int .i64 (K : Int), .int .i64 (L : Int), .slice (some ⟨gy, 0, none⟩) (K * L) ky] 50) * (row 5 1 (.slice (some ⟨gx, 0, none⟩) (N * K) kx) (N * K) (bvs (cl N K (m1 K la))) * (row 5 1 (.slice (some ⟨gy, 0, none⟩) (K * L) ky) (K * L) (bvs (cl K L (m1 L lb))) * emp)))) (.slice (some ⟨gx, 0, none⟩) (N * K) kx) (cl N K (m1 K la)) from fun w H s => (s.eq (Q := row 5 1 (.slice (some ⟨gx, 0, none⟩) (N * K) kx) (N * K) (bvs (cl N K (m1 K la))) * (H * (pts bx (.cells #[.int .i64 (N : Int), .int .i64 (K : Int), .slice (some ⟨gx, 0, none⟩) (N * K) kx] 50) * (pts (bx + 1) (.cells #[.int .i64 (K : Int), .int .i64 (L : Int), .slice (some ⟨gy, 0, none⟩) (K * L) ky] 50) * (row 5 1 (.slice (some ⟨gy, 0, none⟩) (K * L) ky) (K * L) (bvs (cl K L (m1 L lb))) * emp))))) (by ac_rfl)).bs)
      refine wp_region_rv [67, 72, 66, 73, 17] (PJ w0.heap.size w0 (pts bx (.cells #[.int .i64 (N : Int), .int .i64 (K : Int), .slice (some ⟨gx, 0, none⟩) (N * K) kx] 50) * (pts (bx + 1) (.cells #[.int .i64 (K : Int), .int .i64 (L : Int), .slice (some ⟨gy, 0, none⟩) (K * L) ky] 50) * (row 5 1 (.slice (some ⟨gx, 0, none⟩) (N * K) kx) (N * K) (bvs (cl N K (m1 K la))) * (row 5 1 (.slice (some ⟨gy, 0, none⟩) (K * L) ky) (K * L) (bvs (cl K L (m1 L lb))) * emp)))) NF (NH (N) (K) (m1 K la) (pts bx (.cells #[.int .i64 (N : Int), .int .i64 (K : Int), .slice (some ⟨gx, 0, none⟩) (N * K) kx] 50) * (pts (bx + 1) (.cells #[.int .i64 (K : Int), .int .i64 (L : Int), .slice (some ⟨gy, 0, none⟩) (K * L) ky] 50) * (row 5 1 (.slice (some ⟨gx, 0, none⟩) (N * K) kx) (N * K) (bvs (cl N K (m1 K la))) * (row 5 1 (.slice (some ⟨gy, 0, none⟩) (K * L) ky) (K * L) (bvs (cl K L (m1 L lb))) * emp)))))) [0, 5, 6, 7, 9] mixed (by kernel_rfl) (by kernel_rfl) (by kernel_rfl) (fun _ => S.out.drew) ?_
      refine RXl.callV 0 67 rfl rfl rfl (Nat.le_of_ble_eq_true rfl) _ [] _ rfl rfl rfl rfl rfl (PJ.first [] (fun ρ w hag => rfl) (fun _ => rfl) (fun w s => (newx w s).mono fun e w1 ⟨fb, h1, s1⟩ => ⟨(fb, 0, 0, 0), h1, s1⟩)) ?_
      refine RXl.exact (.int .i64 ((N : Nat) : Int)) rfl rfl rfl rfl rfl (fun _ _ _ _ _ => rfl) ?_
      refine RXl.exact (.int .i64 ((K : Nat) : Int)) rfl rfl rfl rfl rfl (fun _ _ _ _ _ => rfl) ?_
      refine RXl.exact (.pointer (some ⟨bx, 2, none⟩)) rfl rfl rfl rfl rfl (fun j τ w' hj hJ => (by obtain ⟨vs, hv, hJ⟩ := hJ; exact (by simp [rho, upd, Spec.val, execOp, go_sem]))) ?_
      refine RXl.exact (.slice (some ⟨gx, 0, none⟩) ((N) * (K)) kx) rfl rfl rfl rfl rfl (fun j τ w' hj hJ => (by obtain ⟨vs, hv, hJ⟩ := hJ; exact (by obtain ⟨Z, q⟩ := NJ_x hJ; have c := (q.eq (sep_assoc _ _ _)).cell 2; simp at c; simp [rho, upd, Spec.val, execOp, go_sem, c]))) ?_
      refine RXl.callV 1 72 rfl rfl rfl (Nat.le_of_ble_eq_true rfl) _ [.tmp 67, .tmp 68, .tmp 69, .tmp 71] _ rfl rfl rfl rfl rfl (NJ_new (some ⟨gx, 0, none⟩) ((N) * (K)) kx (by omega) (by omega) HRX.out (fun ρ a w h hag => by simp [h 0 67 (by decide) rfl, hag.ex 68 _ rfl rfl rfl, hag.ex 69 _ rfl rfl rfl, hag.ex 71 _ rfl rfl rfl, NF])) ?_
      refine RXl.effV 2 66 rfl rfl rfl (Nat.le_of_ble_eq_true rfl) rfl rfl rfl rfl (PJ.pass rfl (fun ρ a w h hag s => by have e := h 1 72 (by decide) rfl; exact (exec_move rfl).trans (by rw [e]; rfl))) ?_
      refine RXl.effV 3 73 rfl rfl rfl (Nat.le_of_ble_eq_true rfl) rfl rfl rfl rfl (PJ.pass rfl (fun ρ a w h hag s => by have e := h 2 66 (by decide) rfl; exact exec_extract rfl e rfl)) ?_
      refine RXl.value (.ex (.int .i64 0)) (Free.ex _) rfl rfl rfl rfl (fun ρ w' j hj hI hag => ⟨_, (by obtain ⟨a, e⟩ := PJ.val (hag.so 66 _ rfl rfl rfl); exact exec_extract rfl e rfl), rfl⟩) ?_
      refine RXl.effV 4 17 rfl rfl rfl (Nat.le_of_ble_eq_true rfl) rfl rfl rfl rfl (PJ.pass rfl (fun ρ a w h hag s => by have e := h 3 73 (by decide) rfl; exact (exec_assign rfl).trans (by rw [e]; rfl))) ?_
      refine RXl.exact (.int .i64 0) rfl rfl rfl rfl rfl (fun _ _ _ _ _ => rfl) ?_
      refine RXl.nilV _ (AgrL.upd _ _ (AgrL.unk 17 _ rfl (AgrL.upd _ _ (AgrL.unk 73 _ rfl (AgrL.unk 66 _ rfl (AgrL.unk 72 _ rfl (AgrL.upd _ _ (AgrL.upd _ _ (AgrL.upd _ _ (AgrL.upd _ _ (AgrL.unk 67 _ rfl (AgrL.base _)))))))))))) (by decide) (by decide) fun vs w8 hJ => ?_
      simp only [puts, Act.put, List.setIfInBounds_toArray, List.set_cons_succ, List.set_cons_zero]
      obtain ⟨⟨fa, pa, ga, ka⟩, hv, s9⟩ := hJ
      rw [show vs 0 = NF 0 (fa, pa, ga, ka) from hv 0 (by decide), show vs 1 = NF 1 (fa, pa, ga, ka) from hv 1 (by decide), show vs 2 = NF 2 (fa, pa, ga, ka) from hv 2 (by decide), show vs 3 = .pointer (some ⟨pa, 0, none⟩) from hv 3 (by decide), show vs 4 = .pointer (some ⟨pa, 0, none⟩) from hv 4 (by decide)]
      generalize NF 0 (fa, pa, ga, ka) = y0
      generalize NF 1 (fa, pa, ga, ka) = y1
      generalize NF 2 (fa, pa, ga, ka) = y2
      clear S hv HRX vs
      have S := Lib.hid (show St w0.heap.size w0 w8 (mo pa ga ka fa (N) (K) (m1 K la) * (fx fa * (pts bx (.cells #[.int .i64 (N : Int), .int .i64 (K : Int), .slice (some ⟨gx, 0, none⟩) (N * K) kx] 50) * (pts (bx + 1) (.cells #[.int .i64 (K : Int), .int .i64 (L : Int), .slice (some ⟨gy, 0, none⟩) (K * L) ky] 50) * (row 5 1 (.slice (some ⟨gx, 0, none⟩) (N * K) kx) (N * K) (bvs (cl N K (m1 K la))) * (row 5 1 (.slice (some ⟨gy, 0, none⟩) (K * L) ky) (K * L) (bvs (cl K L (m1 L lb))) * emp)))))) from s9)
      clear s9
      go_wp2_with fail
      have S2 := Lib.hid (S.out.eq (Q := pts (bx + 1) (.cells #[.int .i64 (K : Int), .int .i64 (L : Int), .slice (some ⟨gy, 0, none⟩) (K * L) ky] 50) * (mo pa ga ka fa N K (m1 K la) * (fx fa * (pts bx (.cells #[.int .i64 (N : Int), .int .i64 (K : Int), .slice (some ⟨gx, 0, none⟩) (N * K) kx] 50) * (row 5 1 (.slice (some ⟨gx, 0, none⟩) (N * K) kx) (N * K) (bvs (cl N K (m1 K la))) * (row 5 1 (.slice (some ⟨gy, 0, none⟩) (K * L) ky) (K * L) (bvs (cl K L (m1 L lb))) * emp)))))) (by ac_rfl))
      clear S
      have S := Lib.hid S2.out
      clear S2
      have HRX := Lib.hid (show Reads w0.heap.size w0 (pts (bx + 1) (.cells #[.int .i64 (K : Int), .int .i64 (L : Int), .slice (some ⟨gy, 0, none⟩) (K * L) ky] 50) * (mo pa ga ka fa N K (m1 K la) * (fx fa * (pts bx (.cells #[.int .i64 (N : Int), .int .i64 (K : Int), .slice (some ⟨gx, 0, none⟩) (N * K) kx] 50) * (row 5 1 (.slice (some ⟨gx, 0, none⟩) (N * K) kx) (N * K) (bvs (cl N K (m1 K la))) * (row 5 1 (.slice (some ⟨gy, 0, none⟩) (K * L) ky) (K * L) (bvs (cl K L (m1 L lb))) * emp)))))) (.slice (some ⟨gy, 0, none⟩) (K * L) ky) (cl (K) L (m1 L lb)) from fun w H s => (s.eq (Q := row 5 1 (.slice (some ⟨gy, 0, none⟩) (K * L) ky) (K * L) (bvs (cl K L (m1 L lb))) * (H * (pts (bx + 1) (.cells #[.int .i64 (K : Int), .int .i64 (L : Int), .slice (some ⟨gy, 0, none⟩) (K * L) ky] 50) * (mo pa ga ka fa N K (m1 K la) * (fx fa * (pts bx (.cells #[.int .i64 (N : Int), .int .i64 (K : Int), .slice (some ⟨gx, 0, none⟩) (N * K) kx] 50) * (row 5 1 (.slice (some ⟨gx, 0, none⟩) (N * K) kx) (N * K) (bvs (cl N K (m1 K la))) * emp))))))) (by ac_rfl)).bs)
      refine wp_region_rv [76, 81, 75, 82, 19] (PJ w0.heap.size w0 (pts (bx + 1) (.cells #[.int .i64 (K : Int), .int .i64 (L : Int), .slice (some ⟨gy, 0, none⟩) (K * L) ky] 50) * (mo pa ga ka fa N K (m1 K la) * (fx fa * (pts bx (.cells #[.int .i64 (N : Int), .int .i64 (K : Int), .slice (some ⟨gx, 0, none⟩) (N * K) kx] 50) * (row 5 1 (.slice (some ⟨gx, 0, none⟩) (N * K) kx) (N * K) (bvs (cl N K (m1 K la))) * (row 5 1 (.slice (some ⟨gy, 0, none⟩) (K * L) ky) (K * L) (bvs (cl K L (m1 L lb))) * emp)))))) NF (NH (K) (L) (m1 L lb) (pts (bx + 1) (.cells #[.int .i64 (K : Int), .int .i64 (L : Int), .slice (some ⟨gy, 0, none⟩) (K * L) ky] 50) * (mo pa ga ka fa N K (m1 K la) * (fx fa * (pts bx (.cells #[.int .i64 (N : Int), .int .i64 (K : Int), .slice (some ⟨gx, 0, none⟩) (N * K) kx] 50) * (row 5 1 (.slice (some ⟨gx, 0, none⟩) (N * K) kx) (N * K) (bvs (cl N K (m1 K la))) * (row 5 1 (.slice (some ⟨gy, 0, none⟩) (K * L) ky) (K * L) (bvs (cl K L (m1 L lb))) * emp)))))))) [0, 5, 6, 7, 9] mixed (by kernel_rfl) (by kernel_rfl) (by kernel_rfl) (fun _ => S.out.drew) ?_
      refine RXl.callV 0 76 rfl rfl rfl (Nat.le_of_ble_eq_true rfl) _ [] _ rfl rfl rfl rfl rfl (PJ.first [] (fun ρ w hag => rfl) (fun _ => rfl) (fun w s => (newx w s).mono fun e w1 ⟨fb, h1, s1⟩ => ⟨(fb, 0, 0, 0), h1, s1⟩)) ?_
      refine RXl.exact (.int .i64 ((K : Nat) : Int)) rfl rfl rfl rfl rfl (fun _ _ _ _ _ => rfl) ?_
      refine RXl.exact (.int .i64 ((L : Nat) : Int)) rfl rfl rfl rfl rfl (fun _ _ _ _ _ => rfl) ?_
      refine RXl.exact (.pointer (some ⟨bx + 1, 2, none⟩)) rfl rfl rfl rfl rfl (fun j τ w' hj hJ => (by obtain ⟨vs, hv, hJ⟩ := hJ; exact (by simp [rho, upd, Spec.val, execOp, go_sem]))) ?_
      refine RXl.exact (.slice (some ⟨gy, 0, none⟩) ((K) * (L)) ky) rfl rfl rfl rfl rfl (fun j τ w' hj hJ => (by obtain ⟨vs, hv, hJ⟩ := hJ; exact (by obtain ⟨Z, q⟩ := NJ_x hJ; have c := (q.eq (sep_assoc _ _ _)).cell 2; simp at c; simp [rho, upd, Spec.val, execOp, go_sem, c]))) ?_
      refine RXl.callV 1 81 rfl rfl rfl (Nat.le_of_ble_eq_true rfl) _ [.tmp 76, .tmp 77, .tmp 78, .tmp 80] _ rfl rfl rfl rfl rfl (NJ_new (some ⟨gy, 0, none⟩) ((K) * (L)) ky (by omega) (by omega) HRX.out (fun ρ a w h hag => by simp [h 0 76 (by decide) rfl, hag.ex 77 _ rfl rfl rfl, hag.ex 78 _ rfl rfl rfl, hag.ex 80 _ rfl rfl rfl, NF])) ?_
      refine RXl.effV 2 75 rfl rfl rfl (Nat.le_of_ble_eq_true rfl) rfl rfl rfl rfl (PJ.pass rfl (fun ρ a w h hag s => by have e := h 1 81 (by decide) rfl; exact (exec_move rfl).trans (by rw [e]; rfl))) ?_
      refine RXl.effV 3 82 rfl rfl rfl (Nat.le_of_ble_eq_true rfl) rfl rfl rfl rfl (PJ.pass rfl (fun ρ a w h hag s => by have e := h 2 75 (by decide) rfl; exact exec_extract rfl e rfl)) ?_
      refine RXl.value (.ex (.int .i64 0)) (Free.ex _) rfl rfl rfl rfl (fun ρ w' j hj hI hag => ⟨_, (by obtain ⟨a, e⟩ := PJ.val (hag.so 75 _ rfl rfl rfl); exact exec_extract rfl e rfl), rfl⟩) ?_
      refine RXl.effV 4 19 rfl rfl rfl (Nat.le_of_ble_eq_true rfl) rfl rfl rfl rfl (PJ.pass rfl (fun ρ a w h hag s => by have e := h 3 82 (by decide) rfl; exact (exec_assign rfl).trans (by rw [e]; rfl))) ?_
      refine RXl.exact (.int .i64 0) rfl rfl rfl rfl rfl (fun _ _ _ _ _ => rfl) ?_
      refine RXl.nilV _ (AgrL.upd _ _ (AgrL.unk 19 _ rfl (AgrL.upd _ _ (AgrL.unk 82 _ rfl (AgrL.unk 75 _ rfl (AgrL.unk 81 _ rfl (AgrL.upd _ _ (AgrL.upd _ _ (AgrL.upd _ _ (AgrL.upd _ _ (AgrL.unk 76 _ rfl (AgrL.base _)))))))))))) (by decide) (by decide) fun vs w9 hJ => ?_
      simp only [puts, Act.put, List.setIfInBounds_toArray, List.set_cons_succ, List.set_cons_zero]
      obtain ⟨⟨fo_, po, go_, ko⟩, hv, s9⟩ := hJ
      rw [show vs 0 = NF 0 (fo_, po, go_, ko) from hv 0 (by decide), show vs 1 = NF 1 (fo_, po, go_, ko) from hv 1 (by decide), show vs 2 = NF 2 (fo_, po, go_, ko) from hv 2 (by decide), show vs 3 = .pointer (some ⟨po, 0, none⟩) from hv 3 (by decide), show vs 4 = .pointer (some ⟨po, 0, none⟩) from hv 4 (by decide)]
      generalize NF 0 (fo_, po, go_, ko) = y0
      generalize NF 1 (fo_, po, go_, ko) = y1
      generalize NF 2 (fo_, po, go_, ko) = y2
      clear S hv HRX vs
      have S := Lib.hid (show St w0.heap.size w0 w9 (mo po go_ ko fo_ (K) (L) (m1 L lb) * (fx fo_ * (pts (bx + 1) (.cells #[.int .i64 (K : Int), .int .i64 (L : Int), .slice (some ⟨gy, 0, none⟩) (K * L) ky] 50) * (mo pa ga ka fa N K (m1 K la) * (fx fa * (pts bx (.cells #[.int .i64 (N : Int), .int .i64 (K : Int), .slice (some ⟨gx, 0, none⟩) (N * K) kx] 50) * (row 5 1 (.slice (some ⟨gx, 0, none⟩) (N * K) kx) (N * K) (bvs (cl N K (m1 K la))) * (row 5 1 (.slice (some ⟨gy, 0, none⟩) (K * L) ky) (K * L) (bvs (cl K L (m1 L lb))) * emp)))))))) from s9)
      clear s9
      go_wp2_with fail
      refine (mul_good pa ga ka fa N K (m1 K la) po go_ ko fo_ L (m1 L lb) (by omega) (by omega) (by omega) _ (S.out.eq (Q := fx fa * (mo pa ga ka fa N K (m1 K la) * (mo po go_ ko fo_ (K) L (m1 L lb) * (fx fo_ * (pts (bx + 1) (.cells #[.int .i64 (K : Int), .int .i64 (L : Int), .slice (some ⟨gy, 0, none⟩) (K * L) ky] 50) * (pts bx (.cells #[.int .i64 (N : Int), .int .i64 (K : Int), .slice (some ⟨gx, 0, none⟩) (N * K) kx] 50) * (row 5 1 (.slice (some ⟨gx, 0, none⟩) (N * K) kx) (N * K) (bvs (cl N K (m1 K la))) * (row 5 1 (.slice (some ⟨gy, 0, none⟩) (K * L) ky) (K * L) (bvs (cl K L (m1 L lb))) * emp)))))))) (by ac_rfl))).mono ?_
      rintro e w10 ⟨pp, rfl, s⟩
      obtain ⟨gp, kp, s⟩ := mt_open s
      clear S
      have sx := s.eq (Q := pts bx (.cells #[.int .i64 (N : Int), .int .i64 (K : Int), .slice (some ⟨gx, 0, none⟩) (N * K) kx] 50) * (mo pp gp kp fa N L (mmul K (m1 K la) (m1 L lb)) * (fx fa * (mo pa ga ka fa N K (m1 K la) * (mo po go_ ko fo_ (K) L (m1 L lb) * (fx fo_ * (pts (bx + 1) (.cells #[.int .i64 (K : Int), .int .i64 (L : Int), .slice (some ⟨gy, 0, none⟩) (K * L) ky] 50) * (row 5 1 (.slice (some ⟨gx, 0, none⟩) (N * K) kx) (N * K) (bvs (cl N K (m1 K la))) * (row 5 1 (.slice (some ⟨gy, 0, none⟩) (K * L) ky) (K * L) (bvs (cl K L (m1 L lb))) * emp))))))))) (by ac_rfl)
      have x0 := sx.cell 0
      have x1 := sx.cell 1
      have x2 := sx.cell 2
      simp at x0 x1 x2
      have sy := s.eq (Q := pts (bx + 1) (.cells #[.int .i64 (K : Int), .int .i64 (L : Int), .slice (some ⟨gy, 0, none⟩) (K * L) ky] 50) * (mo pp gp kp fa N L (mmul K (m1 K la) (m1 L lb)) * (fx fa * (mo pa ga ka fa N K (m1 K la) * (mo po go_ ko fo_ (K) L (m1 L lb) * (fx fo_ * (pts bx (.cells #[.int .i64 (N : Int), .int .i64 (K : Int), .slice (some ⟨gx, 0, none⟩) (N * K) kx] 50) * (row 5 1 (.slice (some ⟨gx, 0, none⟩) (N * K) kx) (N * K) (bvs (cl N K (m1 K la))) * (row 5 1 (.slice (some ⟨gy, 0, none⟩) (K * L) ky) (K * L) (bvs (cl K L (m1 L lb))) * emp))))))))) (by ac_rfl)
      have y0 := sy.cell 0
      have y1 := sy.cell 1
      have y2 := sy.cell 2
      simp at y0 y1 y2
      clear sx sy
      have S := Lib.hid s
      clear s
      go_wp2_with fail
      clear x0 x1 x2 y0 y1 y2
      have S2 := Lib.hid (rmm_calls (R := mo pp gp kp fa N L (mmul K (m1 K la) (m1 L lb)) * (fx fa * (mo pa ga ka fa N K (m1 K la) * (mo po go_ ko fo_ (K) L (m1 L lb) * (fx fo_ * (pts (bx + 1) (.cells #[.int .i64 (K : Int), .int .i64 (L : Int), .slice (some ⟨gy, 0, none⟩) (K * L) ky] 50) * (pts bx (.cells #[.int .i64 (N : Int), .int .i64 (K : Int), .slice (some ⟨gx, 0, none⟩) (N * K) kx] 50) * (row 5 1 (.slice (some ⟨gx, 0, none⟩) (N * K) kx) (N * K) (bvs (cl N K (m1 K la))) * (row 5 1 (.slice (some ⟨gy, 0, none⟩) (K * L) ky) (K * L) (bvs (cl K L (m1 L lb))) * emp))))))))) N K L (m1 K la) (m1 L lb) gx kx gy ky (by omega) (by omega) (by omega) w10
        (fun w H s => (s.eq (Q := row 5 1 (.slice (some ⟨gx, 0, none⟩) (N * K) kx) (N * K) (bvs (cl N K (m1 K la))) * (H * (mo pp gp kp fa N L (mmul K (m1 K la) (m1 L lb)) * (fx fa * (mo pa ga ka fa N K (m1 K la) * (mo po go_ ko fo_ (K) L (m1 L lb) * (fx fo_ * (pts (bx + 1) (.cells #[.int .i64 (K : Int), .int .i64 (L : Int), .slice (some ⟨gy, 0, none⟩) (K * L) ky] 50) * (pts bx (.cells #[.int .i64 (N : Int), .int .i64 (K : Int), .slice (some ⟨gx, 0, none⟩) (N * K) kx] 50) * (row 5 1 (.slice (some ⟨gy, 0, none⟩) (K * L) ky) (K * L) (bvs (cl K L (m1 L lb))) * emp)))))))))) (by ac_rfl)).bs)
        (fun w H s => (s.eq (Q := row 5 1 (.slice (some ⟨gy, 0, none⟩) (K * L) ky) (K * L) (bvs (cl K L (m1 L lb))) * (H * (mo pp gp kp fa N L (mmul K (m1 K la) (m1 L lb)) * (fx fa * (mo pa ga ka fa N K (m1 K la) * (mo po go_ ko fo_ (K) L (m1 L lb) * (fx fo_ * (pts (bx + 1) (.cells #[.int .i64 (K : Int), .int .i64 (L : Int), .slice (some ⟨gy, 0, none⟩) (K * L) ky] 50) * (pts bx (.cells #[.int .i64 (N : Int), .int .i64 (K : Int), .slice (some ⟨gx, 0, none⟩) (N * K) kx] 50) * (row 5 1 (.slice (some ⟨gx, 0, none⟩) (N * K) kx) (N * K) (bvs (cl N K (m1 K la))) * emp)))))))))) (by ac_rfl)).bs) S.out)
      clear S
      refine S2.out.mono ?_
      rintro e w11 ⟨gm, km, rfl, s⟩
      clear S2
      have S := Lib.hid (s.eq (Q := mo pp gp kp fa N L (mmul K (m1 K la) (m1 L lb)) * (row 5 1 (.slice (some ⟨gm, 0, none⟩) (N * L) km) (N * L) (bvs (cl N L (mmul K (m1 K la) (m1 L lb)))) * (fx fa * (mo pa ga ka fa N K (m1 K la) * (mo po go_ ko fo_ (K) L (m1 L lb) * (fx fo_ * (pts (bx + 1) (.cells #[.int .i64 (K : Int), .int .i64 (L : Int), .slice (some ⟨gy, 0, none⟩) (K * L) ky] 50) * (pts bx (.cells #[.int .i64 (N : Int), .int .i64 (K : Int), .slice (some ⟨gx, 0, none⟩) (N * K) kx] 50) * (row 5 1 (.slice (some ⟨gx, 0, none⟩) (N * K) kx) (N * K) (bvs (cl N K (m1 K la))) * (row 5 1 (.slice (some ⟨gy, 0, none⟩) (K * L) ky) (K * L) (bvs (cl K L (m1 L lb))) * emp)))))))))) (by ac_rfl))
      clear s
      go_wp2_with fail
      refine (same_true pp gp kp fa N L (mmul K (m1 K la) (m1 L lb)) (by omega) gm km w11 (fun w H s => (s.eq (Q := row 5 1 (.slice (some ⟨gm, 0, none⟩) (N * L) km) (N * L) (bvs (cl N L (mmul K (m1 K la) (m1 L lb)))) * (H * (fx fa * (mo pa ga ka fa N K (m1 K la) * (mo po go_ ko fo_ (K) L (m1 L lb) * (fx fo_ * (pts (bx + 1) (.cells #[.int .i64 (K : Int), .int .i64 (L : Int), .slice (some ⟨gy, 0, none⟩) (K * L) ky] 50) * (pts bx (.cells #[.int .i64 (N : Int), .int .i64 (K : Int), .slice (some ⟨gx, 0, none⟩) (N * K) kx] 50) * (row 5 1 (.slice (some ⟨gx, 0, none⟩) (N * K) kx) (N * K) (bvs (cl N K (m1 K la))) * (row 5 1 (.slice (some ⟨gy, 0, none⟩) (K * L) ky) (K * L) (bvs (cl K L (m1 L lb))) * emp)))))))))) (by ac_rfl)).bs) S.out).mono ?_
      rintro e w12 ⟨rfl, s⟩
      clear S
      have S := Lib.hid (s.right.right.eq (Q := fx fa * (mo pa ga ka fa N K (m1 K la) * (mo po go_ ko fo_ (K) L (m1 L lb) * (fx fo_ * (pts (bx + 1) (.cells #[.int .i64 (K : Int), .int .i64 (L : Int), .slice (some ⟨gy, 0, none⟩) (K * L) ky] 50) * (pts bx (.cells #[.int .i64 (N : Int), .int .i64 (K : Int), .slice (some ⟨gx, 0, none⟩) (N * K) kx] 50) * (row 5 1 (.slice (some ⟨gx, 0, none⟩) (N * K) kx) (N * K) (bvs (cl N K (m1 K la))) * (row 5 1 (.slice (some ⟨gy, 0, none⟩) (K * L) ky) (K * L) (bvs (cl K L (m1 L lb))) * emp)))))))) rfl)
      clear s
      go_wp2_with fail
      by_cases hVK : V = K
      · subst hVK
        have HLV := Lib.hid (show lv.length = V from HV.out.rd.1.symm)
        refine (times_good pa ga ka fa N V (m1 V la) a3 cv lv (by omega) (by omega) HLV.out (reads_arg _ HV.out) _ (S.out.eq (by rfl))).mono ?_
        rintro e w13 ⟨gt, rfl, s⟩
        clear S
        have S := Lib.hid s
        clear s
        go_wp2_with fail
        go_loopw [25] (fun i wr => ∃ q : Nat, q ≤ N ∧ i = .int .i64 q ∧ St w0.heap.size w0 wr (row 5 1 (.slice (some ⟨gt, 0, none⟩) N N) N (bvs ((List.range N).map fun a => gdot (mrow V (m1 V la) a) lv)) * (fx fa * (mo pa ga ka fa N V (m1 V la) * (mo po go_ ko fo_ (V) L (m1 L lb) * (fx fo_ * (pts (bx + 1) (.cells #[.int .i64 (V : Int), .int .i64 (L : Int), .slice (some ⟨gy, 0, none⟩) (V * L) ky] 50) * (pts bx (.cells #[.int .i64 (N : Int), .int .i64 (V : Int), .slice (some ⟨gx, 0, none⟩) (N * V) kx] 50) * (row 5 1 (.slice (some ⟨gx, 0, none⟩) (N * V) kx) (N * V) (bvs (cl N V (m1 V la))) * (row 5 1 (.slice (some ⟨gy, 0, none⟩) (V * L) ky) (V * L) (bvs (cl V L (m1 L lb))) * emp))))))))) ) (fun i _ => N - (intOf i).toNat)
        case atStart => exact ⟨0, Nat.zero_le _, rfl, S.out⟩
        case round =>
          obtain ⟨q, hq, rfl, s⟩ := hrel
          clear S
          have S := Lib.hid s
          have HC := Lib.hid ((s.eq (Q := row 5 1 (.slice (some ⟨gx, 0, none⟩) (N * V) kx) (N * V) (bvs (cl N V (m1 V la))) * (row 5 1 (.slice (some ⟨gt, 0, none⟩) N N) N (bvs ((List.range N).map fun a => gdot (mrow V (m1 V la) a) lv)) * (fx fa * (mo pa ga ka fa N V (m1 V la) * (mo po go_ ko fo_ (V) L (m1 L lb) * (fx fo_ * (pts (bx + 1) (.cells #[.int .i64 (V : Int), .int .i64 (L : Int), .slice (some ⟨gy, 0, none⟩) (V * L) ky] 50) * (pts bx (.cells #[.int .i64 (N : Int), .int .i64 (V : Int), .slice (some ⟨gx, 0, none⟩) (N * V) kx] 50) * (row 5 1 (.slice (some ⟨gy, 0, none⟩) (V * L) ky) (V * L) (bvs (cl V L (m1 L lb))) * emp))))))))) (by ac_rfl)).row1.2.2.1)
          clear s
          by_cases hlt : q < N
          · have HS := Lib.hid (cut_row (g := gx) hlt (show 0 < V by omega) (show N * V ≤ 1000000 by omega) HC.out)
            have HT := Lib.hid (show (bvs ((List.range N).map fun a => gdot (mrow V (m1 V la) a) lv))[q]? = some (bv (gdot (mrow V (m1 V la) q) lv)) by simp [bvs, hlt])
            have HRB := Lib.hid (fun (w : World) (s : St w0.heap.size w0 w (row 5 1 (.slice (some ⟨gt, 0, none⟩) N N) N (bvs ((List.range N).map fun a => gdot (mrow V (m1 V la) a) lv)) * (fx fa * (mo pa ga ka fa N V (m1 V la) * (mo po go_ ko fo_ (V) L (m1 L lb) * (fx fo_ * (pts (bx + 1) (.cells #[.int .i64 (V : Int), .int .i64 (L : Int), .slice (some ⟨gy, 0, none⟩) (V * L) ky] 50) * (pts bx (.cells #[.int .i64 (N : Int), .int .i64 (V : Int), .slice (some ⟨gx, 0, none⟩) (N * V) kx] 50) * (row 5 1 (.slice (some ⟨gx, 0, none⟩) (N * V) kx) (N * V) (bvs (cl N V (m1 V la))) * (row 5 1 (.slice (some ⟨gy, 0, none⟩) (V * L) ky) (V * L) (bvs (cl V L (m1 L lb))) * emp)))))))))) => show BS w (.slice (some ⟨gx, q * V, none⟩) V (kx - q * V)) (mrow V (m1 V la) q) from by
              have hbb : (q + 1) * V ≤ N * V := Nat.mul_le_mul_right V hlt
              have hbb2 : (q + 1) * V = q * V + V := Nat.succ_mul q V
              have hcc := HC.out
              have qq := ((s.eq (Q := row 5 1 (.slice (some ⟨gx, 0, none⟩) (N * V) kx) (N * V) (bvs (cl N V (m1 V la))) * (row 5 1 (.slice (some ⟨gt, 0, none⟩) N N) N (bvs ((List.range N).map fun a => gdot (mrow V (m1 V la) a) lv)) * (fx fa * (mo pa ga ka fa N V (m1 V la) * (mo po go_ ko fo_ (V) L (m1 L lb) * (fx fo_ * (pts (bx + 1) (.cells #[.int .i64 (V : Int), .int .i64 (L : Int), .slice (some ⟨gy, 0, none⟩) (V * L) ky] 50) * (pts bx (.cells #[.int .i64 (N : Int), .int .i64 (V : Int), .slice (some ⟨gx, 0, none⟩) (N * V) kx] 50) * (row 5 1 (.slice (some ⟨gy, 0, none⟩) (V * L) ky) (V * L) (bvs (cl V L (m1 L lb))) * emp))))))))) (by ac_rfl)).bs).sub (q * V) (q * V + V) (by omega) (by rw [cl_len]; omega)
              rw [show q * V + V - q * V = V by omega, cl_row _ hlt] at qq
              unfold subA at qq
              rw [if_neg (by omega), Nat.mul_one] at qq
              simpa [Addr.add_lit] using qq)
            clear HC
            go_wp2_with fail
            refine wp_region_rx (fun _ w' => St w0.heap.size w0 w' (row 5 1 (.slice (some ⟨gt, 0, none⟩) N N) N (bvs ((List.range N).map fun a => gdot (mrow V (m1 V la) a) lv)) * (fx fa * (mo pa ga ka fa N V (m1 V la) * (mo po go_ ko fo_ (V) L (m1 L lb) * (fx fo_ * (pts (bx + 1) (.cells #[.int .i64 (V : Int), .int .i64 (L : Int), .slice (some ⟨gy, 0, none⟩) (V * L) ky] 50) * (pts bx (.cells #[.int .i64 (N : Int), .int .i64 (V : Int), .slice (some ⟨gx, 0, none⟩) (N * V) kx] 50) * (row 5 1 (.slice (some ⟨gx, 0, none⟩) (N * V) kx) (N * V) (bvs (cl N V (m1 V la))) * (row 5 1 (.slice (some ⟨gy, 0, none⟩) (V * L) ky) (V * L) (bvs (cl V L (m1 L lb))) * emp)))))))))) [] mixed (by kernel_rfl) (by kernel_rfl) S.out.drew ?_
            refine RXl.exact (.slice (some ⟨gt, 0, none⟩) N N) rfl rfl rfl rfl rfl (fun _ _ _ _ _ => rfl) ?_
            refine RXl.exact (.int .i64 (q : Int)) rfl rfl rfl rfl rfl (fun _ _ _ _ _ => rfl) ?_
            refine RXl.exact (.pointer (some ⟨gt, q, none⟩)) rfl rfl rfl rfl rfl (fun j τ w' hj hJ => by have t1 : (q : Int) < (N : Int) := (by omega); simp [rho, upd, Spec.val, execOp, go_sem, t1]) ?_
            refine RXl.exact (bv (gdot (mrow V (m1 V la) q) lv)) rfl rfl rfl rfl rfl (fun j τ w' hj hJ => by have c := ((St.row1 hJ).2.2.2.2.1 q hlt).trans HT.out; simp [rho, upd, Spec.val, execOp, go_sem, c]) ?_
            refine RXl.exact (.pointer (some ⟨bx, 2, none⟩)) rfl rfl rfl rfl rfl (fun j τ w' hj hJ => by simp [rho, upd, Spec.val, execOp, go_sem]) ?_
            refine RXl.exact (.slice (some ⟨gx, 0, none⟩) (N * V) kx) rfl rfl rfl rfl rfl (fun j τ w' hj hJ => by have c := (St.eq (Q := pts bx (.cells #[.int .i64 (N : Int), .int .i64 (V : Int), .slice (some ⟨gx, 0, none⟩) (N * V) kx] 50) * (row 5 1 (.slice (some ⟨gt, 0, none⟩) N N) N (bvs ((List.range N).map fun a => gdot (mrow V (m1 V la) a) lv)) * (fx fa * (mo pa ga ka fa N V (m1 V la) * (mo po go_ ko fo_ (V) L (m1 L lb) * (fx fo_ * (pts (bx + 1) (.cells #[.int .i64 (V : Int), .int .i64 (L : Int), .slice (some ⟨gy, 0, none⟩) (V * L) ky] 50) * (row 5 1 (.slice (some ⟨gx, 0, none⟩) (N * V) kx) (N * V) (bvs (cl N V (m1 V la))) * (row 5 1 (.slice (some ⟨gy, 0, none⟩) (V * L) ky) (V * L) (bvs (cl V L (m1 L lb))) * emp))))))))) (by ac_rfl) hJ).cell 2; simp at c; simp [rho, upd, Spec.val, execOp, go_sem, c]) ?_
            refine RXl.exact (.int .i64 (q : Int)) rfl rfl rfl rfl rfl (fun _ _ _ _ _ => rfl) ?_
            refine RXl.exact (.int .i64 (V : Int)) rfl rfl rfl rfl rfl (fun _ _ _ _ _ => rfl) ?_
            refine RXl.exact (.int .i64 ((q : Int) * (V : Int))) rfl rfl rfl rfl rfl (fun j τ w' hj hJ => by simp [rho, upd, Spec.val, execOp, go_sem, HS.out.2.1]) ?_
            refine RXl.exact (.int .i64 (q : Int)) rfl rfl rfl rfl rfl (fun _ _ _ _ _ => rfl) ?_
            refine RXl.exact (.int .i64 (V : Int)) rfl rfl rfl rfl rfl (fun _ _ _ _ _ => rfl) ?_
            refine RXl.exact (.int .i64 ((q : Int) * (V : Int))) rfl rfl rfl rfl rfl (fun j τ w' hj hJ => by simp [rho, upd, Spec.val, execOp, go_sem, HS.out.2.1]) ?_
            refine RXl.exact (.int .i64 (V : Int)) rfl rfl rfl rfl rfl (fun _ _ _ _ _ => rfl) ?_
            refine RXl.exact (.int .i64 ((q : Int) * (V : Int) + (V : Int))) rfl rfl rfl rfl rfl (fun j τ w' hj hJ => by simp [rho, upd, Spec.val, execOp, go_sem, HS.out.2.2]) ?_
            refine RXl.exact (.slice (some ⟨gx, q * V, none⟩) V (kx - q * V)) rfl rfl rfl rfl rfl (fun j τ w' hj hJ => exec_slice rfl (HS.out.1 w')) ?_
            refine RXl.exact (str (mrow V (m1 V la) q)) rfl rfl rfl rfl rfl (fun j τ w' hj hJ => exec_convert rfl (run_str Try.underlying36 Try.underlying5 Try.underlying9 (HRB.out w' hJ))) ?_
            refine RXl.exact (.slice a3 V cv) rfl rfl rfl rfl rfl (fun _ _ _ _ _ => rfl) ?_
            refine RXl.exact (str lv) rfl rfl rfl rfl rfl (fun j τ w' hj hJ => exec_convert rfl (run_str Try.underlying36 Try.underlying5 Try.underlying9 (HV.out.st rfl hJ))) ?_
            refine RXl.callr (bv (gdot (mrow V (m1 V la) q) lv)) _ [str (mrow V (m1 V la) q), str lv] [.tmp 171, .tmp 173] _ rfl rfl rfl rfl rfl rfl (fun _ => rfl) (fun j τ w' hj hJ => rdotx (mrow V (m1 V la) q) lv w' (by rw [mrow_len]; omega) (by rw [HLV.out]; omega) hJ) ?_
            refine RXl.exact (.bool false) rfl rfl rfl rfl rfl (fun j τ w' hj hJ => by simp [rho, upd, Spec.val, execOp, go_sem]) ?_
            refine RXl.nilx _ (Agr.upd _ _ (Agr.upd _ _ (Agr.upd _ _ (Agr.upd _ _ (Agr.upd _ _ (Agr.upd _ _ (Agr.upd _ _ (Agr.upd _ _ (Agr.upd _ _ (Agr.upd _ _ (Agr.upd _ _ (Agr.upd _ _ (Agr.upd _ _ (Agr.upd _ _ (Agr.upd _ _ (Agr.upd _ _ (Agr.upd _ _ (Agr.upd _ _ (Agr.upd _ _ (Agr.upd _ _ (Agr.base _))))))))))))))))))))) fun w14 hJ => ?_
            obtain ⟨_, hJ⟩ := hJ
            simp only [Act.put, List.setIfInBounds_toArray, List.set_cons_succ, List.set_cons_zero]
            clear S
            have S := Lib.hid (show St w0.heap.size w0 w14 (row 5 1 (.slice (some ⟨gt, 0, none⟩) N N) N (bvs ((List.range N).map fun a => gdot (mrow V (m1 V la) a) lv)) * (fx fa * (mo pa ga ka fa N V (m1 V la) * (mo po go_ ko fo_ (V) L (m1 L lb) * (fx fo_ * (pts (bx + 1) (.cells #[.int .i64 (V : Int), .int .i64 (L : Int), .slice (some ⟨gy, 0, none⟩) (V * L) ky] 50) * (pts bx (.cells #[.int .i64 (N : Int), .int .i64 (V : Int), .slice (some ⟨gx, 0, none⟩) (N * V) kx] 50) * (row 5 1 (.slice (some ⟨gx, 0, none⟩) (N * V) kx) (N * V) (bvs (cl N V (m1 V la))) * (row 5 1 (.slice (some ⟨gy, 0, none⟩) (V * L) ky) (V * L) (bvs (cl V L (m1 L lb))) * emp))))))))) from hJ)
            clear hJ HS HT HRB
            go_wp2_with fail
            go_roundw
            case rel => exact ⟨q + 1, by omega, by go_num, S.out⟩
            case measure => simp [intOf]; omega
          · obtain rfl : q = N := by omega
            clear HC
            go_wp2_with fail
            refine (mul_nil pa _ S.out).mono ?_
            rintro e wq ⟨rfl, sq⟩
            clear S
            have S := Lib.hid sq
            clear sq
            go_wp2_with fail
            refine (awakex _ S.out).mono ?_
            rintro e wq ⟨rfl, sq⟩
            clear S
            have S := Lib.hid sq
            clear sq
            go_wp2_with fail
            go_ret
            exact ⟨rfl, S.out.below⟩
      · have hne2 : ((V : Int) != (K : Int)) = true := by rw [bne_iff_ne]; omega
        refine (times_bad pa ga ka fa N K (m1 K la) a3 V cv hVK _ (S.out.eq (Q := mo pa ga ka fa N K (m1 K la) * (fx fa * (mo po go_ ko fo_ (K) L (m1 L lb) * (fx fo_ * (pts (bx + 1) (.cells #[.int .i64 (K : Int), .int .i64 (L : Int), .slice (some ⟨gy, 0, none⟩) (K * L) ky] 50) * (pts bx (.cells #[.int .i64 (N : Int), .int .i64 (K : Int), .slice (some ⟨gx, 0, none⟩) (N * K) kx] 50) * (row 5 1 (.slice (some ⟨gx, 0, none⟩) (N * K) kx) (N * K) (bvs (cl N K (m1 K la))) * (row 5 1 (.slice (some ⟨gy, 0, none⟩) (K * L) ky) (K * L) (bvs (cl K L (m1 L lb))) * emp)))))))) (by ac_rfl))).mono ?_
        rintro e w13 ⟨rfl, s⟩
        clear S
        have S := Lib.hid s
        clear s
        go_wp2_with fail
        refine (awakex _ S.out).mono ?_
        rintro e wq ⟨rfl, sq⟩
        clear S
        have S := Lib.hid sq
        clear sq
        go_wp2_with fail
        go_ret
        exact ⟨rfl, S.out.below⟩
    · skip
      go_enter Try.func13, Try.ntmps13
      go_wp2_with fail
      refine (make1_calls N K (by omega) a la.length ca la (by omega) _ (reads_arg _ HA.out) (St.init w0)).mono ?_
      rintro e w1 ⟨gx, kx, rfl, s⟩
      have S := Lib.hid s
      clear s
      go_wp2_with fail
      refine (make1_calls (O) L (by omega) a2 lb.length cb lb (by omega) _ (reads_arg _ HB.out) S.out).mono ?_
      rintro e w2 ⟨gy, ky, rfl, s⟩
      have s1 := s.alloc (.cells #[.int .i64 (N : Int), .int .i64 (K : Int), .slice (some ⟨gx, 0, none⟩) (N * K) kx] 50)
      have s2 := s1.alloc (.cells #[.int .i64 (O : Int), .int .i64 (L : Int), .slice (some ⟨gy, 0, none⟩) (O * L) ky] 50)
      rw [show (w2.alloc (.cells #[.int .i64 (N : Int), .int .i64 (K : Int), .slice (some ⟨gx, 0, none⟩) (N * K) kx] 50)).heap.size = w2.heap.size + 1 by simp] at s2
      unfold rmv
      clear S
      have S := Lib.hid (s2.eq (Q := pts w2.heap.size (.cells #[.int .i64 (N : Int), .int .i64 (K : Int), .slice (some ⟨gx, 0, none⟩) (N * K) kx] 50) * (pts (w2.heap.size + 1) (.cells #[.int .i64 (O : Int), .int .i64 (L : Int), .slice (some ⟨gy, 0, none⟩) (O * L) ky] 50) * (row 5 1 (.slice (some ⟨gx, 0, none⟩) (N * K) kx) (N * K) (bvs (cl N K (m1 K la))) * (row 5 1 (.slice (some ⟨gy, 0, none⟩) (O * L) ky) (O * L) (bvs (cl O L (m1 L lb))) * emp)))) (by ac_rfl))
      clear s s1 s2
      go_wp2_with fail
      generalize w2.heap.size = bx at *
      have HRX := Lib.hid (show Reads w0.heap.size w0 (pts bx (.cells #[.int .i64 (N : Int), .int .i64 (K : Int), .slice (some ⟨gx, 0, none⟩) (N * K) kx] 50) * (pts (bx + 1) (.cells #[.int .i64 (O : Int), .int .i64 (L : Int), .slice (some ⟨gy, 0, none⟩) (O * L) ky] 50) * (row 5 1 (.slice (some ⟨gx, 0, none⟩) (N * K) kx) (N * K) (bvs (cl N K (m1 K la))) * (row 5 1 (.slice (some ⟨gy, 0, none⟩) (O * L) ky) (O * L) (bvs (cl O L (m1 L lb))) * emp)))) (.slice (some ⟨gx, 0, none⟩) (N * K) kx) (cl N K (m1 K la)) from fun w H s => (s.eq (Q := row 5 1 (.slice (some ⟨gx, 0, none⟩) (N * K) kx) (N * K) (bvs (cl N K (m1 K la))) * (H * (pts bx (.cells #[.int .i64 (N : Int), .int .i64 (K : Int), .slice (some ⟨gx, 0, none⟩) (N * K) kx] 50) * (pts (bx + 1) (.cells #[.int .i64 (O : Int), .int .i64 (L : Int), .slice (some ⟨gy, 0, none⟩) (O * L) ky] 50) * (row 5 1 (.slice (some ⟨gy, 0, none⟩) (O * L) ky) (O * L) (bvs (cl O L (m1 L lb))) * emp))))) (by ac_rfl)).bs)
      refine wp_region_rv [67, 72, 66, 73, 17] (PJ w0.heap.size w0 (pts bx (.cells #[.int .i64 (N : Int), .int .i64 (K : Int), .slice (some ⟨gx, 0, none⟩) (N * K) kx] 50) * (pts (bx + 1) (.cells #[.int .i64 (O : Int), .int .i64 (L : Int), .slice (some ⟨gy, 0, none⟩) (O * L) ky] 50) * (row 5 1 (.slice (some ⟨gx, 0, none⟩) (N * K) kx) (N * K) (bvs (cl N K (m1 K la))) * (row 5 1 (.slice (some ⟨gy, 0, none⟩) (O * L) ky) (O * L) (bvs (cl O L (m1 L lb))) * emp)))) NF (NH (N) (K) (m1 K la) (pts bx (.cells #[.int .i64 (N : Int), .int .i64 (K : Int), .slice (some ⟨gx, 0, none⟩) (N * K) kx] 50) * (pts (bx + 1) (.cells #[.int .i64 (O : Int), .int .i64 (L : Int), .slice (some ⟨gy, 0, none⟩) (O * L) ky] 50) * (row 5 1 (.slice (some ⟨gx, 0, none⟩) (N * K) kx) (N * K) (bvs (cl N K (m1 K la))) * (row 5 1 (.slice (some ⟨gy, 0, none⟩) (O * L) ky) (O * L) (bvs (cl O L (m1 L lb))) * emp)))))) [0, 5, 6, 7, 9] mixed (by kernel_rfl) (by kernel_rfl) (by kernel_rfl) (fun _ => S.out.drew) ?_
      refine RXl.callV 0 67 rfl rfl rfl (Nat.le_of_ble_eq_true rfl) _ [] _ rfl rfl rfl rfl rfl (PJ.first [] (fun ρ w hag => rfl) (fun _ => rfl) (fun w s => (newx w s).mono fun e w1 ⟨fb, h1, s1⟩ => ⟨(fb, 0, 0, 0), h1, s1⟩)) ?_
      refine RXl.exact (.int .i64 ((N : Nat) : Int)) rfl rfl rfl rfl rfl (fun _ _ _ _ _ => rfl) ?_
      refine RXl.exact (.int .i64 ((K : Nat) : Int)) rfl rfl rfl rfl rfl (fun _ _ _ _ _ => rfl) ?_
      refine RXl.exact (.pointer (some ⟨bx, 2, none⟩)) rfl rfl rfl rfl rfl (fun j τ w' hj hJ => (by obtain ⟨vs, hv, hJ⟩ := hJ; exact (by simp [rho, upd, Spec.val, execOp, go_sem]))) ?_
      refine RXl.exact (.slice (some ⟨gx, 0, none⟩) ((N) * (K)) kx) rfl rfl rfl rfl rfl (fun j τ w' hj hJ => (by obtain ⟨vs, hv, hJ⟩ := hJ; exact (by obtain ⟨Z, q⟩ := NJ_x hJ; have c := (q.eq (sep_assoc _ _ _)).cell 2; simp at c; simp [rho, upd, Spec.val, execOp, go_sem, c]))) ?_
      refine RXl.callV 1 72 rfl rfl rfl (Nat.le_of_ble_eq_true rfl) _ [.tmp 67, .tmp 68, .tmp 69, .tmp 71] _ rfl rfl rfl rfl rfl (NJ_new (some ⟨gx, 0, none⟩) ((N) * (K)) kx (by omega) (by omega) HRX.out (fun ρ a w h hag => by simp [h 0 67 (by decide) rfl, hag.ex 68 _ rfl rfl rfl, hag.ex 69 _ rfl rfl rfl, hag.ex 71 _ rfl rfl rfl, NF])) ?_
      refine RXl.effV 2 66 rfl rfl rfl (Nat.le_of_ble_eq_true rfl) rfl rfl rfl rfl (PJ.pass rfl (fun ρ a w h hag s => by have e := h 1 72 (by decide) rfl; exact (exec_move rfl).trans (by rw [e]; rfl))) ?_
      refine RXl.effV 3 73 rfl rfl rfl (Nat.le_of_ble_eq_true rfl) rfl rfl rfl rfl (PJ.pass rfl (fun ρ a w h hag s => by have e := h 2 66 (by decide) rfl; exact exec_extract rfl e rfl)) ?_
      refine RXl.value (.ex (.int .i64 0)) (Free.ex _) rfl rfl rfl rfl (fun ρ w' j hj hI hag => ⟨_, (by obtain ⟨a, e⟩ := PJ.val (hag.so 66 _ rfl rfl rfl); exact exec_extract rfl e rfl), rfl⟩) ?_
      refine RXl.effV 4 17 rfl rfl rfl (Nat.le_of_ble_eq_true rfl) rfl rfl rfl rfl (PJ.pass rfl (fun ρ a w h hag s => by have e := h 3 73 (by decide) rfl; exact (exec_assign rfl).trans (by rw [e]; rfl))) ?_
      refine RXl.exact (.int .i64 0) rfl rfl rfl rfl rfl (fun _ _ _ _ _ => rfl) ?_
      refine RXl.nilV _ (AgrL.upd _ _ (AgrL.unk 17 _ rfl (AgrL.upd _ _ (AgrL.unk 73 _ rfl (AgrL.unk 66 _ rfl (AgrL.unk 72 _ rfl (AgrL.upd _ _ (AgrL.upd _ _ (AgrL.upd _ _ (AgrL.upd _ _ (AgrL.unk 67 _ rfl (AgrL.base _)))))))))))) (by decide) (by decide) fun vs w8 hJ => ?_
      simp only [puts, Act.put, List.setIfInBounds_toArray, List.set_cons_succ, List.set_cons_zero]
      obtain ⟨⟨fa, pa, ga, ka⟩, hv, s9⟩ := hJ
      rw [show vs 0 = NF 0 (fa, pa, ga, ka) from hv 0 (by decide), show vs 1 = NF 1 (fa, pa, ga, ka) from hv 1 (by decide), show vs 2 = NF 2 (fa, pa, ga, ka) from hv 2 (by decide), show vs 3 = .pointer (some ⟨pa, 0, none⟩) from hv 3 (by decide), show vs 4 = .pointer (some ⟨pa, 0, none⟩) from hv 4 (by decide)]
      generalize NF 0 (fa, pa, ga, ka) = y0
      generalize NF 1 (fa, pa, ga, ka) = y1
      generalize NF 2 (fa, pa, ga, ka) = y2
      clear S hv HRX vs
      have S := Lib.hid (show St w0.heap.size w0 w8 (mo pa ga ka fa (N) (K) (m1 K la) * (fx fa * (pts bx (.cells #[.int .i64 (N : Int), .int .i64 (K : Int), .slice (some ⟨gx, 0, none⟩) (N * K) kx] 50) * (pts (bx + 1) (.cells #[.int .i64 (O : Int), .int .i64 (L : Int), .slice (some ⟨gy, 0, none⟩) (O * L) ky] 50) * (row 5 1 (.slice (some ⟨gx, 0, none⟩) (N * K) kx) (N * K) (bvs (cl N K (m1 K la))) * (row 5 1 (.slice (some ⟨gy, 0, none⟩) (O * L) ky) (O * L) (bvs (cl O L (m1 L lb))) * emp)))))) from s9)
      clear s9
      go_wp2_with fail
      have S2 := Lib.hid (S.out.eq (Q := pts (bx + 1) (.cells #[.int .i64 (O : Int), .int .i64 (L : Int), .slice (some ⟨gy, 0, none⟩) (O * L) ky] 50) * (mo pa ga ka fa N K (m1 K la) * (fx fa * (pts bx (.cells #[.int .i64 (N : Int), .int .i64 (K : Int), .slice (some ⟨gx, 0, none⟩) (N * K) kx] 50) * (row 5 1 (.slice (some ⟨gx, 0, none⟩) (N * K) kx) (N * K) (bvs (cl N K (m1 K la))) * (row 5 1 (.slice (some ⟨gy, 0, none⟩) (O * L) ky) (O * L) (bvs (cl O L (m1 L lb))) * emp)))))) (by ac_rfl))
      clear S
      have S := Lib.hid S2.out
      clear S2
      have HRX := Lib.hid (show Reads w0.heap.size w0 (pts (bx + 1) (.cells #[.int .i64 (O : Int), .int .i64 (L : Int), .slice (some ⟨gy, 0, none⟩) (O * L) ky] 50) * (mo pa ga ka fa N K (m1 K la) * (fx fa * (pts bx (.cells #[.int .i64 (N : Int), .int .i64 (K : Int), .slice (some ⟨gx, 0, none⟩) (N * K) kx] 50) * (row 5 1 (.slice (some ⟨gx, 0, none⟩) (N * K) kx) (N * K) (bvs (cl N K (m1 K la))) * (row 5 1 (.slice (some ⟨gy, 0, none⟩) (O * L) ky) (O * L) (bvs (cl O L (m1 L lb))) * emp)))))) (.slice (some ⟨gy, 0, none⟩) (O * L) ky) (cl (O) L (m1 L lb)) from fun w H s => (s.eq (Q := row 5 1 (.slice (some ⟨gy, 0, none⟩) (O * L) ky) (O * L) (bvs (cl O L (m1 L lb))) * (H * (pts (bx + 1) (.cells #[.int .i64 (O : Int), .int .i64 (L : Int), .slice (some ⟨gy, 0, none⟩) (O * L) ky] 50) * (mo pa ga ka fa N K (m1 K la) * (fx fa * (pts bx (.cells #[.int .i64 (N : Int), .int .i64 (K : Int), .slice (some ⟨gx, 0, none⟩) (N * K) kx] 50) * (row 5 1 (.slice (some ⟨gx, 0, none⟩) (N * K) kx) (N * K) (bvs (cl N K (m1 K la))) * emp))))))) (by ac_rfl)).bs)
      refine wp_region_rv [76, 81, 75, 82, 19] (PJ w0.heap.size w0 (pts (bx + 1) (.cells #[.int .i64 (O : Int), .int .i64 (L : Int), .slice (some ⟨gy, 0, none⟩) (O * L) ky] 50) * (mo pa ga ka fa N K (m1 K la) * (fx fa * (pts bx (.cells #[.int .i64 (N : Int), .int .i64 (K : Int), .slice (some ⟨gx, 0, none⟩) (N * K) kx] 50) * (row 5 1 (.slice (some ⟨gx, 0, none⟩) (N * K) kx) (N * K) (bvs (cl N K (m1 K la))) * (row 5 1 (.slice (some ⟨gy, 0, none⟩) (O * L) ky) (O * L) (bvs (cl O L (m1 L lb))) * emp)))))) NF (NH (O) (L) (m1 L lb) (pts (bx + 1) (.cells #[.int .i64 (O : Int), .int .i64 (L : Int), .slice (some ⟨gy, 0, none⟩) (O * L) ky] 50) * (mo pa ga ka fa N K (m1 K la) * (fx fa * (pts bx (.cells #[.int .i64 (N : Int), .int .i64 (K : Int), .slice (some ⟨gx, 0, none⟩) (N * K) kx] 50) * (row 5 1 (.slice (some ⟨gx, 0, none⟩) (N * K) kx) (N * K) (bvs (cl N K (m1 K la))) * (row 5 1 (.slice (some ⟨gy, 0, none⟩) (O * L) ky) (O * L) (bvs (cl O L (m1 L lb))) * emp)))))))) [0, 5, 6, 7, 9] mixed (by kernel_rfl) (by kernel_rfl) (by kernel_rfl) (fun _ => S.out.drew) ?_
      refine RXl.callV 0 76 rfl rfl rfl (Nat.le_of_ble_eq_true rfl) _ [] _ rfl rfl rfl rfl rfl (PJ.first [] (fun ρ w hag => rfl) (fun _ => rfl) (fun w s => (newx w s).mono fun e w1 ⟨fb, h1, s1⟩ => ⟨(fb, 0, 0, 0), h1, s1⟩)) ?_
      refine RXl.exact (.int .i64 ((O : Nat) : Int)) rfl rfl rfl rfl rfl (fun _ _ _ _ _ => rfl) ?_
      refine RXl.exact (.int .i64 ((L : Nat) : Int)) rfl rfl rfl rfl rfl (fun _ _ _ _ _ => rfl) ?_
      refine RXl.exact (.pointer (some ⟨bx + 1, 2, none⟩)) rfl rfl rfl rfl rfl (fun j τ w' hj hJ => (by obtain ⟨vs, hv, hJ⟩ := hJ; exact (by simp [rho, upd, Spec.val, execOp, go_sem]))) ?_
      refine RXl.exact (.slice (some ⟨gy, 0, none⟩) ((O) * (L)) ky) rfl rfl rfl rfl rfl (fun j τ w' hj hJ => (by obtain ⟨vs, hv, hJ⟩ := hJ; exact (by obtain ⟨Z, q⟩ := NJ_x hJ; have c := (q.eq (sep_assoc _ _ _)).cell 2; simp at c; simp [rho, upd, Spec.val, execOp, go_sem, c]))) ?_
      refine RXl.callV 1 81 rfl rfl rfl (Nat.le_of_ble_eq_true rfl) _ [.tmp 76, .tmp 77, .tmp 78, .tmp 80] _ rfl rfl rfl rfl rfl (NJ_new (some ⟨gy, 0, none⟩) ((O) * (L)) ky (by omega) (by omega) HRX.out (fun ρ a w h hag => by simp [h 0 76 (by decide) rfl, hag.ex 77 _ rfl rfl rfl, hag.ex 78 _ rfl rfl rfl, hag.ex 80 _ rfl rfl rfl, NF])) ?_
      refine RXl.effV 2 75 rfl rfl rfl (Nat.le_of_ble_eq_true rfl) rfl rfl rfl rfl (PJ.pass rfl (fun ρ a w h hag s => by have e := h 1 81 (by decide) rfl; exact (exec_move rfl).trans (by rw [e]; rfl))) ?_
      refine RXl.effV 3 82 rfl rfl rfl (Nat.le_of_ble_eq_true rfl) rfl rfl rfl rfl (PJ.pass rfl (fun ρ a w h hag s => by have e := h 2 75 (by decide) rfl; exact exec_extract rfl e rfl)) ?_
      refine RXl.value (.ex (.int .i64 0)) (Free.ex _) rfl rfl rfl rfl (fun ρ w' j hj hI hag => ⟨_, (by obtain ⟨a, e⟩ := PJ.val (hag.so 75 _ rfl rfl rfl); exact exec_extract rfl e rfl), rfl⟩) ?_
      refine RXl.effV 4 19 rfl rfl rfl (Nat.le_of_ble_eq_true rfl) rfl rfl rfl rfl (PJ.pass rfl (fun ρ a w h hag s => by have e := h 3 82 (by decide) rfl; exact (exec_assign rfl).trans (by rw [e]; rfl))) ?_
      refine RXl.exact (.int .i64 0) rfl rfl rfl rfl rfl (fun _ _ _ _ _ => rfl) ?_
      refine RXl.nilV _ (AgrL.upd _ _ (AgrL.unk 19 _ rfl (AgrL.upd _ _ (AgrL.unk 82 _ rfl (AgrL.unk 75 _ rfl (AgrL.unk 81 _ rfl (AgrL.upd _ _ (AgrL.upd _ _ (AgrL.upd _ _ (AgrL.upd _ _ (AgrL.unk 76 _ rfl (AgrL.base _)))))))))))) (by decide) (by decide) fun vs w9 hJ => ?_
      simp only [puts, Act.put, List.setIfInBounds_toArray, List.set_cons_succ, List.set_cons_zero]
      obtain ⟨⟨fo_, po, go_, ko⟩, hv, s9⟩ := hJ
      rw [show vs 0 = NF 0 (fo_, po, go_, ko) from hv 0 (by decide), show vs 1 = NF 1 (fo_, po, go_, ko) from hv 1 (by decide), show vs 2 = NF 2 (fo_, po, go_, ko) from hv 2 (by decide), show vs 3 = .pointer (some ⟨po, 0, none⟩) from hv 3 (by decide), show vs 4 = .pointer (some ⟨po, 0, none⟩) from hv 4 (by decide)]
      generalize NF 0 (fo_, po, go_, ko) = y0
      generalize NF 1 (fo_, po, go_, ko) = y1
      generalize NF 2 (fo_, po, go_, ko) = y2
      clear S hv HRX vs
      have S := Lib.hid (show St w0.heap.size w0 w9 (mo po go_ ko fo_ (O) (L) (m1 L lb) * (fx fo_ * (pts (bx + 1) (.cells #[.int .i64 (O : Int), .int .i64 (L : Int), .slice (some ⟨gy, 0, none⟩) (O * L) ky] 50) * (mo pa ga ka fa N K (m1 K la) * (fx fa * (pts bx (.cells #[.int .i64 (N : Int), .int .i64 (K : Int), .slice (some ⟨gx, 0, none⟩) (N * K) kx] 50) * (row 5 1 (.slice (some ⟨gx, 0, none⟩) (N * K) kx) (N * K) (bvs (cl N K (m1 K la))) * (row 5 1 (.slice (some ⟨gy, 0, none⟩) (O * L) ky) (O * L) (bvs (cl O L (m1 L lb))) * emp)))))))) from s9)
      clear s9
      go_wp2_with fail
      refine (mul_bad pa ga ka fa N K (m1 K la) po go_ ko fo_ O L (m1 L lb) hOK _ (S.out.eq (Q := mo pa ga ka fa N K (m1 K la) * (mo po go_ ko fo_ (O) L (m1 L lb) * (fx fa * (fx fo_ * (pts (bx + 1) (.cells #[.int .i64 (O : Int), .int .i64 (L : Int), .slice (some ⟨gy, 0, none⟩) (O * L) ky] 50) * (pts bx (.cells #[.int .i64 (N : Int), .int .i64 (K : Int), .slice (some ⟨gx, 0, none⟩) (N * K) kx] 50) * (row 5 1 (.slice (some ⟨gx, 0, none⟩) (N * K) kx) (N * K) (bvs (cl N K (m1 K la))) * (row 5 1 (.slice (some ⟨gy, 0, none⟩) (O * L) ky) (O * L) (bvs (cl O L (m1 L lb))) * emp)))))))) (by ac_rfl))).mono ?_
      rintro e w10 ⟨rfl, s⟩
      clear S
      have S := Lib.hid (s.eq (Q := fx fa * (mo pa ga ka fa N K (m1 K la) * (mo po go_ ko fo_ (O) L (m1 L lb) * (fx fo_ * (pts (bx + 1) (.cells #[.int .i64 (O : Int), .int .i64 (L : Int), .slice (some ⟨gy, 0, none⟩) (O * L) ky] 50) * (pts bx (.cells #[.int .i64 (N : Int), .int .i64 (K : Int), .slice (some ⟨gx, 0, none⟩) (N * K) kx] 50) * (row 5 1 (.slice (some ⟨gx, 0, none⟩) (N * K) kx) (N * K) (bvs (cl N K (m1 K la))) * (row 5 1 (.slice (some ⟨gy, 0, none⟩) (O * L) ky) (O * L) (bvs (cl O L (m1 L lb))) * emp)))))))) (by ac_rfl))
      clear s
      have hne : ((O : Int) != (K : Int)) = true := by rw [bne_iff_ne]; omega
      go_wp2_with fail
      by_cases hVK : V = K
      · subst hVK
        have HLV := Lib.hid (show lv.length = V from HV.out.rd.1.symm)
        refine (times_good pa ga ka fa N V (m1 V la) a3 cv lv (by omega) (by omega) HLV.out (reads_arg _ HV.out) _ (S.out.eq (by rfl))).mono ?_
        rintro e w13 ⟨gt, rfl, s⟩
        clear S
        have S := Lib.hid s
        clear s
        go_wp2_with fail
        go_loopw [25] (fun i wr => ∃ q : Nat, q ≤ N ∧ i = .int .i64 q ∧ St w0.heap.size w0 wr (row 5 1 (.slice (some ⟨gt, 0, none⟩) N N) N (bvs ((List.range N).map fun a => gdot (mrow V (m1 V la) a) lv)) * (fx fa * (mo pa ga ka fa N V (m1 V la) * (mo po go_ ko fo_ (O) L (m1 L lb) * (fx fo_ * (pts (bx + 1) (.cells #[.int .i64 (O : Int), .int .i64 (L : Int), .slice (some ⟨gy, 0, none⟩) (O * L) ky] 50) * (pts bx (.cells #[.int .i64 (N : Int), .int .i64 (V : Int), .slice (some ⟨gx, 0, none⟩) (N * V) kx] 50) * (row 5 1 (.slice (some ⟨gx, 0, none⟩) (N * V) kx) (N * V) (bvs (cl N V (m1 V la))) * (row 5 1 (.slice (some ⟨gy, 0, none⟩) (O * L) ky) (O * L) (bvs (cl O L (m1 L lb))) * emp))))))))) ) (fun i _ => N - (intOf i).toNat)
        case atStart => exact ⟨0, Nat.zero_le _, rfl, S.out⟩
        case round =>
          obtain ⟨q, hq, rfl, s⟩ := hrel
          clear S
          have S := Lib.hid s
          have HC := Lib.hid ((s.eq (Q := row 5 1 (.slice (some ⟨gx, 0, none⟩) (N * V) kx) (N * V) (bvs (cl N V (m1 V la))) * (row 5 1 (.slice (some ⟨gt, 0, none⟩) N N) N (bvs ((List.range N).map fun a => gdot (mrow V (m1 V la) a) lv)) * (fx fa * (mo pa ga ka fa N V (m1 V la) * (mo po go_ ko fo_ (O) L (m1 L lb) * (fx fo_ * (pts (bx + 1) (.cells #[.int .i64 (O : Int), .int .i64 (L : Int), .slice (some ⟨gy, 0, none⟩) (O * L) ky] 50) * (pts bx (.cells #[.int .i64 (N : Int), .int .i64 (V : Int), .slice (some ⟨gx, 0, none⟩) (N * V) kx] 50) * (row 5 1 (.slice (some ⟨gy, 0, none⟩) (O * L) ky) (O * L) (bvs (cl O L (m1 L lb))) * emp))))))))) (by ac_rfl)).row1.2.2.1)
          clear s
          by_cases hlt : q < N
          · have HS := Lib.hid (cut_row (g := gx) hlt (show 0 < V by omega) (show N * V ≤ 1000000 by omega) HC.out)
            have HT := Lib.hid (show (bvs ((List.range N).map fun a => gdot (mrow V (m1 V la) a) lv))[q]? = some (bv (gdot (mrow V (m1 V la) q) lv)) by simp [bvs, hlt])
            have HRB := Lib.hid (fun (w : World) (s : St w0.heap.size w0 w (row 5 1 (.slice (some ⟨gt, 0, none⟩) N N) N (bvs ((List.range N).map fun a => gdot (mrow V (m1 V la) a) lv)) * (fx fa * (mo pa ga ka fa N V (m1 V la) * (mo po go_ ko fo_ (O) L (m1 L lb) * (fx fo_ * (pts (bx + 1) (.cells #[.int .i64 (O : Int), .int .i64 (L : Int), .slice (some ⟨gy, 0, none⟩) (O * L) ky] 50) * (pts bx (.cells #[.int .i64 (N : Int), .int .i64 (V : Int), .slice (some ⟨gx, 0, none⟩) (N * V) kx] 50) * (row 5 1 (.slice (some ⟨gx, 0, none⟩) (N * V) kx) (N * V) (bvs (cl N V (m1 V la))) * (row 5 1 (.slice (some ⟨gy, 0, none⟩) (O * L) ky) (O * L) (bvs (cl O L (m1 L lb))) * emp)))))))))) => show BS w (.slice (some ⟨gx, q * V, none⟩) V (kx - q * V)) (mrow V (m1 V la) q) from by
              have hbb : (q + 1) * V ≤ N * V := Nat.mul_le_mul_right V hlt
              have hbb2 : (q + 1) * V = q * V + V := Nat.succ_mul q V
              have hcc := HC.out
              have qq := ((s.eq (Q := row 5 1 (.slice (some ⟨gx, 0, none⟩) (N * V) kx) (N * V) (bvs (cl N V (m1 V la))) * (row 5 1 (.slice (some ⟨gt, 0, none⟩) N N) N (bvs ((List.range N).map fun a => gdot (mrow V (m1 V la) a) lv)) * (fx fa * (mo pa ga ka fa N V (m1 V la) * (mo po go_ ko fo_ (O) L (m1 L lb) * (fx fo_ * (pts (bx + 1) (.cells #[.int .i64 (O : Int), .int .i64 (L : Int), .slice (some ⟨gy, 0, none⟩) (O * L) ky] 50) * (pts bx (.cells #[.int .i64 (N : Int), .int .i64 (V : Int), .slice (some ⟨gx, 0, none⟩) (N * V) kx] 50) * (row 5 1 (.slice (some ⟨gy, 0, none⟩) (O * L) ky) (O * L) (bvs (cl O L (m1 L lb))) * emp))))))))) (by ac_rfl)).bs).sub (q * V) (q * V + V) (by omega) (by rw [cl_len]; omega)
              rw [show q * V + V - q * V = V by omega, cl_row _ hlt] at qq
              unfold subA at qq
              rw [if_neg (by omega), Nat.mul_one] at qq
              simpa [Addr.add_lit] using qq)
            clear HC
            go_wp2_with fail
            refine wp_region_rx (fun _ w' => St w0.heap.size w0 w' (row 5 1 (.slice (some ⟨gt, 0, none⟩) N N) N (bvs ((List.range N).map fun a => gdot (mrow V (m1 V la) a) lv)) * (fx fa * (mo pa ga ka fa N V (m1 V la) * (mo po go_ ko fo_ (O) L (m1 L lb) * (fx fo_ * (pts (bx + 1) (.cells #[.int .i64 (O : Int), .int .i64 (L : Int), .slice (some ⟨gy, 0, none⟩) (O * L) ky] 50) * (pts bx (.cells #[.int .i64 (N : Int), .int .i64 (V : Int), .slice (some ⟨gx, 0, none⟩) (N * V) kx] 50) * (row 5 1 (.slice (some ⟨gx, 0, none⟩) (N * V) kx) (N * V) (bvs (cl N V (m1 V la))) * (row 5 1 (.slice (some ⟨gy, 0, none⟩) (O * L) ky) (O * L) (bvs (cl O L (m1 L lb))) * emp)))))))))) [] mixed (by kernel_rfl) (by kernel_rfl) S.out.drew ?_
            refine RXl.exact (.slice (some ⟨gt, 0, none⟩) N N) rfl rfl rfl rfl rfl (fun _ _ _ _ _ => rfl) ?_
            refine RXl.exact (.int .i64 (q : Int)) rfl rfl rfl rfl rfl (fun _ _ _ _ _ => rfl) ?_
            refine RXl.exact (.pointer (some ⟨gt, q, none⟩)) rfl rfl rfl rfl rfl (fun j τ w' hj hJ => by have t1 : (q : Int) < (N : Int) := (by omega); simp [rho, upd, Spec.val, execOp, go_sem, t1]) ?_
            refine RXl.exact (bv (gdot (mrow V (m1 V la) q) lv)) rfl rfl rfl rfl rfl (fun j τ w' hj hJ => by have c := ((St.row1 hJ).2.2.2.2.1 q hlt).trans HT.out; simp [rho, upd, Spec.val, execOp, go_sem, c]) ?_
            refine RXl.exact (.pointer (some ⟨bx, 2, none⟩)) rfl rfl rfl rfl rfl (fun j τ w' hj hJ => by simp [rho, upd, Spec.val, execOp, go_sem]) ?_
            refine RXl.exact (.slice (some ⟨gx, 0, none⟩) (N * V) kx) rfl rfl rfl rfl rfl (fun j τ w' hj hJ => by have c := (St.eq (Q := pts bx (.cells #[.int .i64 (N : Int), .int .i64 (V : Int), .slice (some ⟨gx, 0, none⟩) (N * V) kx] 50) * (row 5 1 (.slice (some ⟨gt, 0, none⟩) N N) N (bvs ((List.range N).map fun a => gdot (mrow V (m1 V la) a) lv)) * (fx fa * (mo pa ga ka fa N V (m1 V la) * (mo po go_ ko fo_ (O) L (m1 L lb) * (fx fo_ * (pts (bx + 1) (.cells #[.int .i64 (O : Int), .int .i64 (L : Int), .slice (some ⟨gy, 0, none⟩) (O * L) ky] 50) * (row 5 1 (.slice (some ⟨gx, 0, none⟩) (N * V) kx) (N * V) (bvs (cl N V (m1 V la))) * (row 5 1 (.slice (some ⟨gy, 0, none⟩) (O * L) ky) (O * L) (bvs (cl O L (m1 L lb))) * emp))))))))) (by ac_rfl) hJ).cell 2; simp at c; simp [rho, upd, Spec.val, execOp, go_sem, c]) ?_
            refine RXl.exact (.int .i64 (q : Int)) rfl rfl rfl rfl rfl (fun _ _ _ _ _ => rfl) ?_
            refine RXl.exact (.int .i64 (V : Int)) rfl rfl rfl rfl rfl (fun _ _ _ _ _ => rfl) ?_
            refine RXl.exact (.int .i64 ((q : Int) * (V : Int))) rfl rfl rfl rfl rfl (fun j τ w' hj hJ => by simp [rho, upd, Spec.val, execOp, go_sem, HS.out.2.1]) ?_
            refine RXl.exact (.int .i64 (q : Int)) rfl rfl rfl rfl rfl (fun _ _ _ _ _ => rfl) ?_
            refine RXl.exact (.int .i64 (V : Int)) rfl rfl rfl rfl rfl (fun _ _ _ _ _ => rfl) ?_
            refine RXl.exact (.int .i64 ((q : Int) * (V : Int))) rfl rfl rfl rfl rfl (fun j τ w' hj hJ => by simp [rho, upd, Spec.val, execOp, go_sem, HS.out.2.1]) ?_
            refine RXl.exact (.int .i64 (V : Int)) rfl rfl rfl rfl rfl (fun _ _ _ _ _ => rfl) ?_
            refine RXl.exact (.int .i64 ((q : Int) * (V : Int) + (V : Int))) rfl rfl rfl rfl rfl (fun j τ w' hj hJ => by simp [rho, upd, Spec.val, execOp, go_sem, HS.out.2.2]) ?_
            refine RXl.exact (.slice (some ⟨gx, q * V, none⟩) V (kx - q * V)) rfl rfl rfl rfl rfl (fun j τ w' hj hJ => exec_slice rfl (HS.out.1 w')) ?_
            refine RXl.exact (str (mrow V (m1 V la) q)) rfl rfl rfl rfl rfl (fun j τ w' hj hJ => exec_convert rfl (run_str Try.underlying36 Try.underlying5 Try.underlying9 (HRB.out w' hJ))) ?_
            refine RXl.exact (.slice a3 V cv) rfl rfl rfl rfl rfl (fun _ _ _ _ _ => rfl) ?_
            refine RXl.exact (str lv) rfl rfl rfl rfl rfl (fun j τ w' hj hJ => exec_convert rfl (run_str Try.underlying36 Try.underlying5 Try.underlying9 (HV.out.st rfl hJ))) ?_
            refine RXl.callr (bv (gdot (mrow V (m1 V la) q) lv)) _ [str (mrow V (m1 V la) q), str lv] [.tmp 171, .tmp 173] _ rfl rfl rfl rfl rfl rfl (fun _ => rfl) (fun j τ w' hj hJ => rdotx (mrow V (m1 V la) q) lv w' (by rw [mrow_len]; omega) (by rw [HLV.out]; omega) hJ) ?_
            refine RXl.exact (.bool false) rfl rfl rfl rfl rfl (fun j τ w' hj hJ => by simp [rho, upd, Spec.val, execOp, go_sem]) ?_
            refine RXl.nilx _ (Agr.upd _ _ (Agr.upd _ _ (Agr.upd _ _ (Agr.upd _ _ (Agr.upd _ _ (Agr.upd _ _ (Agr.upd _ _ (Agr.upd _ _ (Agr.upd _ _ (Agr.upd _ _ (Agr.upd _ _ (Agr.upd _ _ (Agr.upd _ _ (Agr.upd _ _ (Agr.upd _ _ (Agr.upd _ _ (Agr.upd _ _ (Agr.upd _ _ (Agr.upd _ _ (Agr.upd _ _ (Agr.base _))))))))))))))))))))) fun w14 hJ => ?_
            obtain ⟨_, hJ⟩ := hJ
            simp only [Act.put, List.setIfInBounds_toArray, List.set_cons_succ, List.set_cons_zero]
            clear S
            have S := Lib.hid (show St w0.heap.size w0 w14 (row 5 1 (.slice (some ⟨gt, 0, none⟩) N N) N (bvs ((List.range N).map fun a => gdot (mrow V (m1 V la) a) lv)) * (fx fa * (mo pa ga ka fa N V (m1 V la) * (mo po go_ ko fo_ (O) L (m1 L lb) * (fx fo_ * (pts (bx + 1) (.cells #[.int .i64 (O : Int), .int .i64 (L : Int), .slice (some ⟨gy, 0, none⟩) (O * L) ky] 50) * (pts bx (.cells #[.int .i64 (N : Int), .int .i64 (V : Int), .slice (some ⟨gx, 0, none⟩) (N * V) kx] 50) * (row 5 1 (.slice (some ⟨gx, 0, none⟩) (N * V) kx) (N * V) (bvs (cl N V (m1 V la))) * (row 5 1 (.slice (some ⟨gy, 0, none⟩) (O * L) ky) (O * L) (bvs (cl O L (m1 L lb))) * emp))))))))) from hJ)
            clear hJ HS HT HRB
            go_wp2_with fail
            go_roundw
            case rel => exact ⟨q + 1, by omega, by go_num, S.out⟩
            case measure => simp [intOf]; omega
          · obtain rfl : q = N := by omega
            clear HC
            go_wp2_with fail
            refine (mul_nil pa _ S.out).mono ?_
            rintro e wq ⟨rfl, sq⟩
            clear S
            have S := Lib.hid sq
            clear sq
            go_wp2_with fail
            refine (awakex _ S.out).mono ?_
            rintro e wq ⟨rfl, sq⟩
            clear S
            have S := Lib.hid sq
            clear sq
            go_wp2_with fail
            go_ret
            exact ⟨rfl, S.out.below⟩
      · have hne2 : ((V : Int) != (K : Int)) = true := by rw [bne_iff_ne]; omega
        refine (times_bad pa ga ka fa N K (m1 K la) a3 V cv hVK _ (S.out.eq (Q := mo pa ga ka fa N K (m1 K la) * (fx fa * (mo po go_ ko fo_ (O) L (m1 L lb) * (fx fo_ * (pts (bx + 1) (.cells #[.int .i64 (O : Int), .int .i64 (L : Int), .slice (some ⟨gy, 0, none⟩) (O * L) ky] 50) * (pts bx (.cells #[.int .i64 (N : Int), .int .i64 (K : Int), .slice (some ⟨gx, 0, none⟩) (N * K) kx] 50) * (row 5 1 (.slice (some ⟨gx, 0, none⟩) (N * K) kx) (N * K) (bvs (cl N K (m1 K la))) * (row 5 1 (.slice (some ⟨gy, 0, none⟩) (O * L) ky) (O * L) (bvs (cl O L (m1 L lb))) * emp)))))))) (by ac_rfl))).mono ?_
        rintro e w13 ⟨rfl, s⟩
        clear S
        have S := Lib.hid s
        clear s
        go_wp2_with fail
        refine (awakex _ S.out).mono ?_
        rintro e wq ⟨rfl, sq⟩
        clear S
        have S := Lib.hid sq
        clear sq
        go_wp2_with fail
        go_ret
        exact ⟨rfl, S.out.below⟩
theorem and7 (n : Int) : ∃ N : Nat, bits .and .i64 n 7 = (N : Int) - 1 ∧ 1 ≤ N ∧ N ≤ 8 := ⟨(n % 8).toNat + 1, by rw [and_m3]; omega, by omega, by omega⟩
theorem mul_le8 {a b : Nat} (ha : 1 ≤ a ∧ a ≤ 8) (hb : 1 ≤ b ∧ b ≤ 8) : 1 ≤ a * b ∧ a * b ≤ 1024 := by
  have h1 := Nat.mul_le_mul ha.2 hb.2
  have h2 := Nat.mul_le_mul ha.1 hb.1
  omega
set_option maxRecDepth 100000 in
set_option maxHeartbeats 4000000 in
theorem times_walk (n k l other : Int) (a : Option Addr) (ca : Nat) (la : List UInt8) (a2 : Option Addr) (cb : Nat) (lb : List UInt8) (a3 : Option Addr) (cv : Nat) (lv : List UInt8) (w0 : World) (_wn : (Lit.int .i64 n).wf = true) (_wk : (Lit.int .i64 k).wf = true) (_wl : (Lit.int .i64 l).wf = true) (_wo : (Lit.int .i64 other).wf = true)
    (ha : BS w0 (.slice a la.length ca) la) (_ya : la.length * 1 ≤ 140737488351232) (hb : BS w0 (.slice a2 lb.length cb) lb) (_yb : lb.length * 1 ≤ 140737488351232) (hv : BS w0 (.slice a3 lv.length cv) lv) (_yv : lv.length * 1 ≤ 140737488351232) :
    Calls Try.prog 13 #[.int .i64 n, .int .i64 k, .int .i64 l, .int .i64 other, .slice a la.length ca, .slice a2 lb.length cb, .slice a3 lv.length cv] w0 fun e w' => e = .returned (.bool true) ∧ Below w0.heap.size w0 w' := by
  obtain ⟨N, hN, bN⟩ := and7 n
  obtain ⟨K, hK, bK⟩ := and7 k
  obtain ⟨L, hL, bL⟩ := and7 l
  obtain ⟨O, hO, bO⟩ := and7 other
  have HA := Lib.hid ha
  have HB := Lib.hid hb
  have HV := Lib.hid hv
  clear ha hb hv
  have S := Lib.hid (St.init w0)
  by_cases h1 : 100 < la.length
  · have k1 : (100 : Int) < (la.length : Int) := by omega
    clear h1 hN hK hL hO
    go_enter Try.func13, Try.ntmps13
    go_wp2_with fail
    refine (awakex _ S.out).mono ?_
    rintro e wq ⟨rfl, sq⟩
    clear S
    have S := Lib.hid sq
    clear sq
    go_wp2_with fail
    go_ret
    exact ⟨rfl, S.out.below⟩
  · have k1 : (la.length : Int) ≤ 100 := by omega
    clear h1
    by_cases h2 : 100 < lb.length
    · have k2 : (100 : Int) < (lb.length : Int) := by omega
      clear h2 hN hK hL hO
      go_enter Try.func13, Try.ntmps13
      go_wp2_with fail
      refine (awakex _ S.out).mono ?_
      rintro e wq ⟨rfl, sq⟩
      clear S
      have S := Lib.hid sq
      clear sq
      go_wp2_with fail
      go_ret
      exact ⟨rfl, S.out.below⟩
    · have k2 : (lb.length : Int) ≤ 100 := by omega
      clear h2
      by_cases h3 : 100 < lv.length
      · have k3 : (100 : Int) < (lv.length : Int) := by omega
        clear h3 hN hK hL hO
        go_enter Try.func13, Try.ntmps13
        go_wp2_with fail
        refine (awakex _ S.out).mono ?_
        rintro e wq ⟨rfl, sq⟩
        clear S
        have S := Lib.hid sq
        clear sq
        go_wp2_with fail
        go_ret
        exact ⟨rfl, S.out.below⟩
      · have k3 : (lv.length : Int) ≤ 100 := by omega
        clear h3
        exact times_in n k l other N K L O hN hK hL hO bN bK bL bO (by rw [and_m1]; omega) (mul_le8 bN bK) (mul_le8 bK bL) (mul_le8 bO bL) (mul_le8 bN bL).2 a ca la a2 cb lb a3 cv lv lv.length w0 HA HB HV k1 k2 k3
end Go.Proofs.Ytfhphbpgiickfaa.Mt
