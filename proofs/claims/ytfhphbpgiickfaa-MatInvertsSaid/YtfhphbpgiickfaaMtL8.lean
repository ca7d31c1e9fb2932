/- MatInverts, walked. -/
import Derived.Test.YtfhphbpgiickfaaMtL3
import Derived.Test.YtfhphbpgiickfaaMtI
import Derived.Test.YtfhphbpgiickfaaCpy
namespace Go.Proofs.Ytfhphbpgiickfaa.Mt
open Go Go.RowKit Go.Proofs.Ytfhphbpgiickfaa Go.Proofs.Ytfhphbpgiickfaa.Sp Go.Proofs.Ytfhphbpgiickfaa.Reg Go.Proofs.Ytfhphbpgiickfaa.Rd Go.Proofs.Ytfhphbpgiickfaa.Gf

set_option maxRecDepth 100000 in
set_option maxHeartbeats 32000000 in
theorem inverts_even (n k : Int) (N K : Nat) (hN : (bits .and .i64 n 255).tmod 9 = (N : Int) - 1) (hK : (bits .and .i64 k 255).tmod 9 = (K : Int) - 1) (bN : 1 ≤ N ∧ N ≤ 9) (_bK : 1 ≤ K ∧ K ≤ 9) (rNN : 1 ≤ N * N ∧ N * N ≤ 1024) (hP : (bits .and .i64 (K : Int) 1 == 0) = true) (a : Option Addr) (ca : Nat) (la : List UInt8) (w0 : World) (HA : Hid (BS w0 (.slice a la.length ca) la)) (la1 : (la.length : Int) ≤ 100) (db : Bool) :
    Calls Try.prog 10 #[.int .i64 n, .int .i64 k, .slice a la.length ca, .bool db] w0 fun e w' => e = .returned (.bool true) ∧ Below w0.heap.size w0 w' := by
  cases db
  · skip
    go_enter Try.func10, Try.ntmps10
    go_wp2_with fail
    refine (make1_calls N N (by omega) a la.length ca la (by omega) _ (reads_arg _ HA.out) (St.init w0)).mono ?_
    rintro e w2 ⟨gx, kx, rfl, s⟩
    have hxl := cl_len N N (m1 N la)
    generalize cl N N (m1 N la) = xs at hxl s
    have hcap := (St.row1 s).2.2.1
    have s1 := s.alloc (.cells #[.int .i64 (N : Int), .int .i64 (N : Int), .slice (some ⟨gx, 0, none⟩) (N * N) kx] 50)
    have S := Lib.hid s1
    clear s s1
    unfold rmv
    go_wp2_with fail
    generalize w2.heap.size = bx at *
    rw [← cl_ofl hxl] at S
    generalize ofl N xs = f at S
    clear hxl hcap
    have HRX := Lib.hid (show Reads w0.heap.size w0 (pts bx (.cells #[.int .i64 (N : Int), .int .i64 (N : Int), .slice (some ⟨gx, 0, none⟩) (N * N) kx] 50) * (row 5 1 (.slice (some ⟨gx, 0, none⟩) (N * N) kx) (N * N) (bvs (cl N N f)) * emp)) (.slice (some ⟨gx, 0, none⟩) (N * N) kx) (cl N N f) from fun w H s => (s.eq (Q := row 5 1 (.slice (some ⟨gx, 0, none⟩) (N * N) kx) (N * N) (bvs (cl N N f)) * (H * (pts bx (.cells #[.int .i64 (N : Int), .int .i64 (N : Int), .slice (some ⟨gx, 0, none⟩) (N * N) kx] 50) * emp))) (by ac_rfl)).bs)
    refine wp_region_rv [57, 62, 56, 63, 10] (PJ w0.heap.size w0 (pts bx (.cells #[.int .i64 (N : Int), .int .i64 (N : Int), .slice (some ⟨gx, 0, none⟩) (N * N) kx] 50) * (row 5 1 (.slice (some ⟨gx, 0, none⟩) (N * N) kx) (N * N) (bvs (cl N N f)) * emp)) NF (NH (N) (N) (f) (pts bx (.cells #[.int .i64 (N : Int), .int .i64 (N : Int), .slice (some ⟨gx, 0, none⟩) (N * N) kx] 50) * (row 5 1 (.slice (some ⟨gx, 0, none⟩) (N * N) kx) (N * N) (bvs (cl N N f)) * emp)))) [0, 5, 6, 7, 9] mixed (by kernel_rfl) (by kernel_rfl) (by kernel_rfl) (fun _ => S.out.drew) ?_
    refine RXl.callV 0 57 rfl rfl rfl (Nat.le_of_ble_eq_true rfl) _ [] _ rfl rfl rfl rfl rfl (PJ.first [] (fun ρ w hag => rfl) (fun _ => rfl) (fun w s => (newx w s).mono fun e w1 ⟨fb, h1, s1⟩ => ⟨(fb, 0, 0, 0), h1, s1⟩)) ?_
    refine RXl.exact (.int .i64 ((N : Nat) : Int)) rfl rfl rfl rfl rfl (fun _ _ _ _ _ => rfl) ?_
    refine RXl.exact (.int .i64 ((N : Nat) : Int)) rfl rfl rfl rfl rfl (fun _ _ _ _ _ => rfl) ?_
    refine RXl.exact (.pointer (some ⟨bx, 2, none⟩)) rfl rfl rfl rfl rfl (fun j τ w' hj hJ => (by obtain ⟨vs, hv, hJ⟩ := hJ; exact (by simp [rho, upd, Spec.val, execOp, go_sem]))) ?_
    refine RXl.exact (.slice (some ⟨gx, 0, none⟩) ((N) * (N)) kx) rfl rfl rfl rfl rfl (fun j τ w' hj hJ => (by obtain ⟨vs, hv, hJ⟩ := hJ; exact (by obtain ⟨Z, q⟩ := NJ_x hJ; have c := (q.eq (sep_assoc _ _ _)).cell 2; simp at c; simp [rho, upd, Spec.val, execOp, go_sem, c]))) ?_
    refine RXl.callV 1 62 rfl rfl rfl (Nat.le_of_ble_eq_true rfl) _ [.tmp 57, .tmp 58, .tmp 59, .tmp 61] _ rfl rfl rfl rfl rfl (NJ_new (some ⟨gx, 0, none⟩) ((N) * (N)) kx (by omega) (by omega) HRX.out (fun ρ a w h hag => by simp [h 0 57 (by decide) rfl, hag.ex 58 _ rfl rfl rfl, hag.ex 59 _ rfl rfl rfl, hag.ex 61 _ rfl rfl rfl, NF])) ?_
    refine RXl.effV 2 56 rfl rfl rfl (Nat.le_of_ble_eq_true rfl) rfl rfl rfl rfl (PJ.pass rfl (fun ρ a w h hag s => by have e := h 1 62 (by decide) rfl; exact (exec_move rfl).trans (by rw [e]; rfl))) ?_
    refine RXl.effV 3 63 rfl rfl rfl (Nat.le_of_ble_eq_true rfl) rfl rfl rfl rfl (PJ.pass rfl (fun ρ a w h hag s => by have e := h 2 56 (by decide) rfl; exact exec_extract rfl e rfl)) ?_
    refine RXl.value (.ex (.int .i64 0)) (Free.ex _) rfl rfl rfl rfl (fun ρ w' j hj hI hag => ⟨_, (by obtain ⟨a, e⟩ := PJ.val (hag.so 56 _ rfl rfl rfl); exact exec_extract rfl e rfl), rfl⟩) ?_
    refine RXl.effV 4 10 rfl rfl rfl (Nat.le_of_ble_eq_true rfl) rfl rfl rfl rfl (PJ.pass rfl (fun ρ a w h hag s => by have e := h 3 63 (by decide) rfl; exact (exec_assign rfl).trans (by rw [e]; rfl))) ?_
    refine RXl.exact (.int .i64 0) rfl rfl rfl rfl rfl (fun _ _ _ _ _ => rfl) ?_
    refine RXl.nilV _ (AgrL.upd _ _ (AgrL.unk 10 _ rfl (AgrL.upd _ _ (AgrL.unk 63 _ rfl (AgrL.unk 56 _ rfl (AgrL.unk 62 _ rfl (AgrL.upd _ _ (AgrL.upd _ _ (AgrL.upd _ _ (AgrL.upd _ _ (AgrL.unk 57 _ rfl (AgrL.base _)))))))))))) (by decide) (by decide) fun vs w8 hJ => ?_
    simp only [puts, Act.put, List.setIfInBounds_toArray, List.set_cons_succ, List.set_cons_zero]
    obtain ⟨⟨fa, pa, ga, ka⟩, hv, s9⟩ := hJ
    rw [show vs 0 = NF 0 (fa, pa, ga, ka) from hv 0 (by decide), show vs 1 = NF 1 (fa, pa, ga, ka) from hv 1 (by decide), show vs 2 = NF 2 (fa, pa, ga, ka) from hv 2 (by decide), show vs 3 = .pointer (some ⟨pa, 0, none⟩) from hv 3 (by decide), show vs 4 = .pointer (some ⟨pa, 0, none⟩) from hv 4 (by decide)]
    generalize NF 0 (fa, pa, ga, ka) = y0
    generalize NF 1 (fa, pa, ga, ka) = y1
    generalize NF 2 (fa, pa, ga, ka) = y2
    clear S hv HRX vs
    have S := Lib.hid (show St w0.heap.size w0 w8 (mo pa ga ka fa (N) (N) (f) * (fx fa * (pts bx (.cells #[.int .i64 (N : Int), .int .i64 (N : Int), .slice (some ⟨gx, 0, none⟩) (N * N) kx] 50) * (row 5 1 (.slice (some ⟨gx, 0, none⟩) (N * N) kx) (N * N) (bvs (cl N N f)) * emp)))) from s9)
    clear s9
    go_wp2_with fail
    cases hg : gj N f N with
    | none =>
      have HG := Lib.hid hg
      refine (inv_calls pa ga ka fa N f (by omega) _ (S.out.eq (Q := fx fa * (mo pa ga ka fa N N f * (pts bx (.cells #[.int .i64 (N : Int), .int .i64 (N : Int), .slice (some ⟨gx, 0, none⟩) (N * N) kx] 50) * (row 5 1 (.slice (some ⟨gx, 0, none⟩) (N * N) kx) (N * N) (bvs (cl N N f)) * emp)))) (by ac_rfl))).mono ?_
      unfold InvP
      rw [hg]
      clear hg
      rintro e w19 ⟨rfl, s⟩
      clear S
      have sx := s.eq (Q := pts bx (.cells #[.int .i64 (N : Int), .int .i64 (N : Int), .slice (some ⟨gx, 0, none⟩) (N * N) kx] 50) * (fx fa * (mo pa ga ka fa N N f * (row 5 1 (.slice (some ⟨gx, 0, none⟩) (N * N) kx) (N * N) (bvs (cl N N f)) * emp)))) (by ac_rfl)
      have x0 := sx.cell 0
      have x1 := sx.cell 1
      have x2 := sx.cell 2
      simp at x0 x1 x2
      have S := Lib.hid sx
      clear s sx
      go_wp2_with fail
      clear x0 x1 x2
      refine (rinvert_calls N gx kx f (by omega) _ (fun w H s => (s.eq (Q := row 5 1 (.slice (some ⟨gx, 0, none⟩) (N * N) kx) (N * N) (bvs (cl N N f)) * (H * (pts bx (.cells #[.int .i64 (N : Int), .int .i64 (N : Int), .slice (some ⟨gx, 0, none⟩) (N * N) kx] 50) * (fx fa * (mo pa ga ka fa N N f * emp))))) (by ac_rfl)).bs) S.out).mono ?_
      unfold RInvP
      rw [HG.out]
      rintro e w20 ⟨rfl, s⟩
      clear S
      have S := Lib.hid (s.alloc (.cells #[.int .i64 0, .int .i64 0, .slice none 0 0] 50))
      clear s
      go_wp2_with fail
      refine (awakex _ S.out).mono ?_
      rintro e wq ⟨rfl, sq⟩
      clear S
      have S := Lib.hid sq
      clear sq
      go_wp2_with fail
      go_ret
      exact ⟨rfl, S.out.below⟩
    | some x =>
      obtain ⟨A, Bm⟩ := x
      have HG := Lib.hid hg
      have HE1 := Lib.hid (show cl N N (mmul N f Bm) = cl N N unit from cl_congr fun i j hi hj => (gj_some hg).2.1 i j hi hj)
      have HE2 := Lib.hid (show cl N N (mmul N Bm f) = cl N N unit from cl_congr fun i j hi hj => (gj_some hg).1 i j hi hj)
      refine (inv_calls pa ga ka fa N f (by omega) _ (S.out.eq (Q := fx fa * (mo pa ga ka fa N N f * (pts bx (.cells #[.int .i64 (N : Int), .int .i64 (N : Int), .slice (some ⟨gx, 0, none⟩) (N * N) kx] 50) * (row 5 1 (.slice (some ⟨gx, 0, none⟩) (N * N) kx) (N * N) (bvs (cl N N f)) * emp)))) (by ac_rfl))).mono ?_
      unfold InvP
      rw [hg]
      clear hg
      rintro e w19 ⟨pi, rfl, s⟩
      obtain ⟨gi, ki, s⟩ := mt_open s
      clear S
      have sx := s.eq (Q := pts bx (.cells #[.int .i64 (N : Int), .int .i64 (N : Int), .slice (some ⟨gx, 0, none⟩) (N * N) kx] 50) * (mo pi gi ki fa N N Bm * (fx fa * (mo pa ga ka fa N N f * (row 5 1 (.slice (some ⟨gx, 0, none⟩) (N * N) kx) (N * N) (bvs (cl N N f)) * emp))))) (by ac_rfl)
      have x0 := sx.cell 0
      have x1 := sx.cell 1
      have x2 := sx.cell 2
      simp at x0 x1 x2
      have S := Lib.hid sx
      clear s sx
      go_wp2_with fail
      clear x0 x1 x2
      refine (rinvert_calls N gx kx f (by omega) _ (fun w H s => (s.eq (Q := row 5 1 (.slice (some ⟨gx, 0, none⟩) (N * N) kx) (N * N) (bvs (cl N N f)) * (H * (pts bx (.cells #[.int .i64 (N : Int), .int .i64 (N : Int), .slice (some ⟨gx, 0, none⟩) (N * N) kx] 50) * (mo pi gi ki fa N N Bm * (fx fa * (mo pa ga ka fa N N f * emp)))))) (by ac_rfl)).bs) S.out).mono ?_
      unfold RInvP
      rw [HG.out]
      clear HG
      rintro e w20 ⟨gr, rfl, s⟩
      unfold rr at s
      clear S
      have s1 := s.alloc (.cells #[.int .i64 (N : Int), .int .i64 (N : Int), .slice (some ⟨gr, 0, none⟩) (N * N) (N * N)] 50)
      obtain ⟨b2, hb2⟩ : ∃ x, w20.heap.size = x := ⟨_, rfl⟩
      rw [hb2] at s1
      have sx := s1.eq (Q := pts b2 (.cells #[.int .i64 (N : Int), .int .i64 (N : Int), .slice (some ⟨gr, 0, none⟩) (N * N) (N * N)] 50) * (mo pi gi ki fa N N Bm * (fx fa * (mo pa ga ka fa N N f * (row 5 1 (.slice (some ⟨gr, 0, none⟩) (N * N) (N * N)) (N * N) (bvs (cl N N Bm)) * (row 5 1 (.slice (some ⟨gx, 0, none⟩) (N * N) kx) (N * N) (bvs (cl N N f)) * (pts bx (.cells #[.int .i64 (N : Int), .int .i64 (N : Int), .slice (some ⟨gx, 0, none⟩) (N * N) kx] 50) * emp))))))) (by ac_rfl)
      have x0 := sx.cell 0
      have x1 := sx.cell 1
      have x2 := sx.cell 2
      simp at x0 x1 x2
      have S := Lib.hid sx
      clear s s1 sx
      unfold rmv
      go_wp2_with fail
      clear x0 x1 x2
      have S2 := Lib.hid (S.out.eq (Q := mo pi gi ki fa N N Bm * (pts b2 (.cells #[.int .i64 (N : Int), .int .i64 (N : Int), .slice (some ⟨gr, 0, none⟩) (N * N) (N * N)] 50) * (fx fa * (mo pa ga ka fa N N f * (row 5 1 (.slice (some ⟨gr, 0, none⟩) (N * N) (N * N)) (N * N) (bvs (cl N N Bm)) * (row 5 1 (.slice (some ⟨gx, 0, none⟩) (N * N) kx) (N * N) (bvs (cl N N f)) * (pts bx (.cells #[.int .i64 (N : Int), .int .i64 (N : Int), .slice (some ⟨gx, 0, none⟩) (N * N) kx] 50) * emp))))))) (by ac_rfl))
      clear S
      have S := Lib.hid S2.out
      clear S2
      refine (same_true pi gi ki fa N N Bm (by omega) gr (N * N) _ (fun w H s => (s.eq (Q := row 5 1 (.slice (some ⟨gr, 0, none⟩) (N * N) (N * N)) (N * N) (bvs (cl N N Bm)) * (H * (pts b2 (.cells #[.int .i64 (N : Int), .int .i64 (N : Int), .slice (some ⟨gr, 0, none⟩) (N * N) (N * N)] 50) * (fx fa * (mo pa ga ka fa N N f * (row 5 1 (.slice (some ⟨gx, 0, none⟩) (N * N) kx) (N * N) (bvs (cl N N f)) * (pts bx (.cells #[.int .i64 (N : Int), .int .i64 (N : Int), .slice (some ⟨gx, 0, none⟩) (N * N) kx] 50) * emp))))))) (by ac_rfl)).bs) S.out).mono ?_
      rintro e wq ⟨rfl, sq⟩
      clear S
      have S := Lib.hid sq
      clear sq
      go_wp2_with fail
      refine (mul_good pa ga ka fa N N f pi gi ki fa N Bm (by omega) (by omega) (by omega) _ (S.out.eq (Q := fx fa * (mo pa ga ka fa N N f * (mo pi gi ki fa N N Bm * (pts b2 (.cells #[.int .i64 (N : Int), .int .i64 (N : Int), .slice (some ⟨gr, 0, none⟩) (N * N) (N * N)] 50) * (row 5 1 (.slice (some ⟨gr, 0, none⟩) (N * N) (N * N)) (N * N) (bvs (cl N N Bm)) * (row 5 1 (.slice (some ⟨gx, 0, none⟩) (N * N) kx) (N * N) (bvs (cl N N f)) * (pts bx (.cells #[.int .i64 (N : Int), .int .i64 (N : Int), .slice (some ⟨gx, 0, none⟩) (N * N) kx] 50) * emp))))))) (by ac_rfl))).mono ?_
      rintro e w21 ⟨pp, rfl, s⟩
      have s := mt_congr s HE1.out
      obtain ⟨gp, kp, s⟩ := mt_open s
      clear S
      have S := Lib.hid (s.eq (Q := fx fa * (mo pi gi ki fa N N Bm * (mo pa ga ka fa N N f * (mo pp gp kp fa N N unit * (pts b2 (.cells #[.int .i64 (N : Int), .int .i64 (N : Int), .slice (some ⟨gr, 0, none⟩) (N * N) (N * N)] 50) * (row 5 1 (.slice (some ⟨gr, 0, none⟩) (N * N) (N * N)) (N * N) (bvs (cl N N Bm)) * (row 5 1 (.slice (some ⟨gx, 0, none⟩) (N * N) kx) (N * N) (bvs (cl N N f)) * (pts bx (.cells #[.int .i64 (N : Int), .int .i64 (N : Int), .slice (some ⟨gx, 0, none⟩) (N * N) kx] 50) * emp)))))))) (by ac_rfl))
      clear s
      go_wp2_with fail
      refine (mul_good pi gi ki fa N N Bm pa ga ka fa N f (by omega) (by omega) (by omega) _ S.out).mono ?_
      rintro e w22 ⟨pq, rfl, s⟩
      have s := mt_congr s HE2.out
      obtain ⟨gq, kq, s⟩ := mt_open s
      clear S HE1 HE2
      have S := Lib.hid s
      clear s
      go_wp2_with fail
      refine (runit_calls N (by omega) _ S.out).mono ?_
      rintro e w23 ⟨g1, rfl, s⟩
      clear S
      have S := Lib.hid (s.eq (Q := mo pp gp kp fa N N unit * (row 5 1 (.slice (some ⟨g1, 0, none⟩) (N * N) (N * N)) (N * N) (bvs (cl N N unit)) * (mo pq gq kq fa N N unit * (fx fa * (mo pi gi ki fa N N Bm * (mo pa ga ka fa N N f * (pts b2 (.cells #[.int .i64 (N : Int), .int .i64 (N : Int), .slice (some ⟨gr, 0, none⟩) (N * N) (N * N)] 50) * (row 5 1 (.slice (some ⟨gr, 0, none⟩) (N * N) (N * N)) (N * N) (bvs (cl N N Bm)) * (row 5 1 (.slice (some ⟨gx, 0, none⟩) (N * N) kx) (N * N) (bvs (cl N N f)) * (pts bx (.cells #[.int .i64 (N : Int), .int .i64 (N : Int), .slice (some ⟨gx, 0, none⟩) (N * N) kx] 50) * emp)))))))))) (by ac_rfl))
      clear s
      go_wp2_with fail
      refine (same_true pp gp kp fa N N unit (by omega) g1 (N * N) _ (fun w H s => (s.eq (Q := row 5 1 (.slice (some ⟨g1, 0, none⟩) (N * N) (N * N)) (N * N) (bvs (cl N N unit)) * (H * (mo pq gq kq fa N N unit * (fx fa * (mo pi gi ki fa N N Bm * (mo pa ga ka fa N N f * (pts b2 (.cells #[.int .i64 (N : Int), .int .i64 (N : Int), .slice (some ⟨gr, 0, none⟩) (N * N) (N * N)] 50) * (row 5 1 (.slice (some ⟨gr, 0, none⟩) (N * N) (N * N)) (N * N) (bvs (cl N N Bm)) * (row 5 1 (.slice (some ⟨gx, 0, none⟩) (N * N) kx) (N * N) (bvs (cl N N f)) * (pts bx (.cells #[.int .i64 (N : Int), .int .i64 (N : Int), .slice (some ⟨gx, 0, none⟩) (N * N) kx] 50) * emp)))))))))) (by ac_rfl)).bs) S.out).mono ?_
      rintro e wq ⟨rfl, sq⟩
      clear S
      have S := Lib.hid sq
      clear sq
      go_wp2_with fail
      refine (runit_calls N (by omega) _ S.out).mono ?_
      rintro e w24 ⟨g2, rfl, s⟩
      clear S
      have S := Lib.hid (s.eq (Q := mo pq gq kq fa N N unit * (row 5 1 (.slice (some ⟨g2, 0, none⟩) (N * N) (N * N)) (N * N) (bvs (cl N N unit)) * (mo pp gp kp fa N N unit * (row 5 1 (.slice (some ⟨g1, 0, none⟩) (N * N) (N * N)) (N * N) (bvs (cl N N unit)) * (fx fa * (mo pi gi ki fa N N Bm * (mo pa ga ka fa N N f * (pts b2 (.cells #[.int .i64 (N : Int), .int .i64 (N : Int), .slice (some ⟨gr, 0, none⟩) (N * N) (N * N)] 50) * (row 5 1 (.slice (some ⟨gr, 0, none⟩) (N * N) (N * N)) (N * N) (bvs (cl N N Bm)) * (row 5 1 (.slice (some ⟨gx, 0, none⟩) (N * N) kx) (N * N) (bvs (cl N N f)) * (pts bx (.cells #[.int .i64 (N : Int), .int .i64 (N : Int), .slice (some ⟨gx, 0, none⟩) (N * N) kx] 50) * emp))))))))))) (by ac_rfl))
      clear s
      go_wp2_with fail
      refine (same_true pq gq kq fa N N unit (by omega) g2 (N * N) _ (fun w H s => (s.eq (Q := row 5 1 (.slice (some ⟨g2, 0, none⟩) (N * N) (N * N)) (N * N) (bvs (cl N N unit)) * (H * (mo pp gp kp fa N N unit * (row 5 1 (.slice (some ⟨g1, 0, none⟩) (N * N) (N * N)) (N * N) (bvs (cl N N unit)) * (fx fa * (mo pi gi ki fa N N Bm * (mo pa ga ka fa N N f * (pts b2 (.cells #[.int .i64 (N : Int), .int .i64 (N : Int), .slice (some ⟨gr, 0, none⟩) (N * N) (N * N)] 50) * (row 5 1 (.slice (some ⟨gr, 0, none⟩) (N * N) (N * N)) (N * N) (bvs (cl N N Bm)) * (row 5 1 (.slice (some ⟨gx, 0, none⟩) (N * N) kx) (N * N) (bvs (cl N N f)) * (pts bx (.cells #[.int .i64 (N : Int), .int .i64 (N : Int), .slice (some ⟨gx, 0, none⟩) (N * N) kx] 50) * emp))))))))))) (by ac_rfl)).bs) S.out).mono ?_
      rintro e wq ⟨rfl, sq⟩
      clear S
      have S := Lib.hid sq
      clear sq
      go_wp2_with fail
      refine (awakex _ S.out).mono ?_
      rintro e wq ⟨rfl, sq⟩
      clear S
      have S := Lib.hid sq
      clear sq
      go_wp2_with fail
      go_ret
      exact ⟨rfl, S.out.below⟩
  · by_cases h1 : 1 < N
    · have g1 : (1 : Int) < (N : Int) := by omega
      have g2 : N + N ≤ N * N := by have := Nat.mul_le_mul_right N h1; omega
      clear h1
      go_enter Try.func10, Try.ntmps10
      go_wp2_with fail
      refine (make1_calls N N (by omega) a la.length ca la (by omega) _ (reads_arg _ HA.out) (St.init w0)).mono ?_
      rintro e w2 ⟨gx, kx, rfl, s⟩
      have hxl := cl_len N N (m1 N la)
      generalize cl N N (m1 N la) = xs at hxl s
      have hcap := (St.row1 s).2.2.1
      have s1 := s.alloc (.cells #[.int .i64 (N : Int), .int .i64 (N : Int), .slice (some ⟨gx, 0, none⟩) (N * N) kx] 50)
      have S := Lib.hid s1
      clear s s1
      unfold rmv
      go_wp2_with fail
      generalize w2.heap.size = bx at *
      have HC := Lib.hid (show (∀ w : World, (Instr.sliceAt 36 (.slice (some ⟨gx, 0, none⟩) (N * N) kx) (some (.int .i64 (N : Int))) (some (.int .i64 (2 * (N : Int)))) none).run Try.prog w = .ok (.slice (some ⟨gx, N, none⟩) N (kx - N)) w) ∧
          (∀ w : World, (Instr.sliceAt 36 (.slice (some ⟨gx, 0, none⟩) (N * N) kx) none (some (.int .i64 (N : Int))) none).run Try.prog w = .ok (.slice (some ⟨gx, 0, none⟩) N kx) w) from by
        refine ⟨fun w => ?_, fun w => ?_⟩
        · have hsl := run_slice_sl (P := Try.prog) tB w (some ⟨gx, 0, none⟩) (N * N) kx (some (.int .i64 ((N : Nat) : Int))) (some (.int .i64 ((N + N : Nat) : Int))) N (N + N) (.inr ⟨_, rfl⟩) (.inr ⟨_, rfl⟩) (by omega) (by omega)
          rw [if_neg (by omega), Nat.mul_one, show N + N - N = N by omega] at hsl
          rw [show (2 : Int) * (N : Int) = ((N + N : Nat) : Int) by push_cast; omega]
          exact hsl.trans (by simp [Addr.add_lit])
        · have hsl := run_slice_sl (P := Try.prog) tB w (some ⟨gx, 0, none⟩) (N * N) kx none (some (.int .i64 ((N : Nat) : Int))) 0 N (.inl ⟨rfl, rfl⟩) (.inr ⟨_, rfl⟩) (by omega) (by omega)
          rw [if_neg (by omega), Nat.mul_one] at hsl
          exact hsl.trans (by simp [Addr.add_lit]))
      have HCP := Lib.hid (show ∀ w', St w0.heap.size w0 w' (pts bx (.cells #[.int .i64 (N : Int), .int .i64 (N : Int), .slice (some ⟨gx, 0, none⟩) (N * N) kx] 50) * (row 5 1 (.slice (some ⟨gx, 0, none⟩) (N * N) kx) (N * N) (bvs (xs)) * emp)) → ∃ w2, (Builtin.copy_ #[36, 36] 3 #[.slice (some ⟨gx, N, none⟩) N (kx - N), .slice (some ⟨gx, 0, none⟩) N kx]).run Try.prog w' = .ok (.int .i64 (N : Int)) w2 ∧
          St w0.heap.size w0 w2 (pts bx (.cells #[.int .i64 (N : Int), .int .i64 (N : Int), .slice (some ⟨gx, 0, none⟩) (N * N) kx] 50) * (row 5 1 (.slice (some ⟨gx, 0, none⟩) (N * N) kx) (N * N) (bvs (xs.take N ++ xs.take N ++ xs.drop (N + N))) * emp)) from by
        intro w' s
        have s' := s.eq (sep_left_comm _ _ _)
        have hl : (xs.take N).length = N := by rw [List.length_take, hxl]; omega
        have hb := (St.bs s').sub 0 N (by omega) (by rw [hxl]; omega)
        rw [Nat.sub_zero, Nat.sub_zero, List.drop_zero] at hb
        have hb2 : BS w' (.slice (some ⟨gx, 0, none⟩) (xs.take N).length kx) (xs.take N) := by
          rw [hl]
          unfold subA at hb
          rw [if_neg (by omega)] at hb
          simpa [Addr.add_lit] using hb
        obtain ⟨w2, r1, r2⟩ := copy_st (P := Try.prog) (dT := 36) (sT := 36) (ty := 3) Try.underlying36 (by kernel_rfl) s' N N (kx - N) (some ⟨gx, 0, none⟩) kx (xs.take N) hb2 (by omega) (by omega)
        rw [hl] at r1 r2
        exact ⟨w2, r1, r2.eq (sep_left_comm _ _ _)⟩)
      have HW := Lib.hid (show IntKind.i64.wrap (2 * (N : Int)) = 2 * (N : Int) from by rw [IntKind.wrap_i64]; omega)
      refine wp_region_rx (fun j w' => St w0.heap.size w0 w' (pts bx (.cells #[.int .i64 (N : Int), .int .i64 (N : Int), .slice (some ⟨gx, 0, none⟩) (N * N) kx] 50) * (row 5 1 (.slice (some ⟨gx, 0, none⟩) (N * N) kx) (N * N) (bvs (if j = 0 then xs else xs.take N ++ xs.take N ++ xs.drop (N + N))) * emp))) [10] mixed (by kernel_rfl) (by kernel_rfl) S.out.drew ?_
      refine RXl.exact (.pointer (some ⟨bx, 2, none⟩)) rfl rfl rfl rfl rfl (fun j τ w' hj hJ => by simp [rho, upd, Spec.val, execOp, go_sem]) ?_
      refine RXl.exactB 0 10 rfl (by kernel_rfl) (.slice (some ⟨gx, 0, none⟩) (N * N) kx) rfl rfl rfl rfl rfl (fun j τ w' hj hJ => by have c := St.cell hJ 2; simp at c; simp [rho, upd, Spec.val, execOp, go_sem, c]) ?_
      refine RXl.exact (.int .i64 (N : Int)) rfl rfl rfl rfl rfl (fun _ _ _ _ _ => rfl) ?_
      refine RXl.exact (.int .i64 (N : Int)) rfl rfl rfl rfl rfl (fun _ _ _ _ _ => rfl) ?_
      refine RXl.exact (.int .i64 (2 * (N : Int))) rfl rfl rfl rfl rfl (fun j τ w' hj hJ => by simp [rho, upd, Spec.val, execOp, go_sem, HW.out]) ?_
      refine RXl.exact (.slice (some ⟨gx, N, none⟩) N (kx - N)) rfl rfl rfl rfl rfl (fun j τ w' hj hJ => by have c := HC.out.1 w'; simp [rho, upd, Spec.val, execOp, c]) ?_
      refine RXl.exact (.pointer (some ⟨bx, 2, none⟩)) rfl rfl rfl rfl rfl (fun j τ w' hj hJ => by simp [rho, upd, Spec.val, execOp, go_sem]) ?_
      refine RXl.exactB 0 10 rfl (by kernel_rfl) (.slice (some ⟨gx, 0, none⟩) (N * N) kx) rfl rfl rfl rfl rfl (fun j τ w' hj hJ => by have c := St.cell hJ 2; simp at c; simp [rho, upd, Spec.val, execOp, go_sem, c]) ?_
      refine RXl.exact (.int .i64 (N : Int)) rfl rfl rfl rfl rfl (fun _ _ _ _ _ => rfl) ?_
      refine RXl.exact (.slice (some ⟨gx, 0, none⟩) N kx) rfl rfl rfl rfl rfl (fun j τ w' hj hJ => by have c := HC.out.2 w'; simp [rho, upd, Spec.val, execOp, c]) ?_
      refine RXl.effk 0 (.int .i64 (N : Int)) rfl rfl rfl rfl rfl (fun w' hJ => (let ⟨w2, r1, r2⟩ := HCP.out w' hJ; ⟨w2, exec_copy rfl r1, r2⟩)) ?_
      refine RXl.nilx _ (Agr.upd _ _ (Agr.upd _ _ (Agr.upd _ _ (Agr.upd _ _ (Agr.upd _ _ (Agr.upd _ _ (Agr.upd _ _ (Agr.upd _ _ (Agr.upd _ _ (Agr.upd _ _ (Agr.upd _ _ (Agr.base _)))))))))))) fun w7 hJ => ?_
      obtain ⟨_, hJ⟩ := hJ
      simp only [Act.put, List.setIfInBounds_toArray, List.set_cons_succ, List.set_cons_zero]
      clear S
      have S := Lib.hid (show St w0.heap.size w0 w7 (pts bx (.cells #[.int .i64 (N : Int), .int .i64 (N : Int), .slice (some ⟨gx, 0, none⟩) (N * N) kx] 50) * (row 5 1 (.slice (some ⟨gx, 0, none⟩) (N * N) kx) (N * N) (bvs (xs.take N ++ xs.take N ++ xs.drop (N + N))) * emp)) from hJ)
      clear hJ HC HCP HW
      have hx2 : (xs.take N ++ xs.take N ++ xs.drop (N + N)).length = N * N := by rw [List.length_append, List.length_append, List.length_take, List.length_drop, hxl]; omega
      rw [← cl_ofl hx2] at S
      generalize ofl N (xs.take N ++ xs.take N ++ xs.drop (N + N)) = f at S
      clear hxl hcap hx2
      go_wp2_with fail
      have HRX := Lib.hid (show Reads w0.heap.size w0 (pts bx (.cells #[.int .i64 (N : Int), .int .i64 (N : Int), .slice (some ⟨gx, 0, none⟩) (N * N) kx] 50) * (row 5 1 (.slice (some ⟨gx, 0, none⟩) (N * N) kx) (N * N) (bvs (cl N N f)) * emp)) (.slice (some ⟨gx, 0, none⟩) (N * N) kx) (cl N N f) from fun w H s => (s.eq (Q := row 5 1 (.slice (some ⟨gx, 0, none⟩) (N * N) kx) (N * N) (bvs (cl N N f)) * (H * (pts bx (.cells #[.int .i64 (N : Int), .int .i64 (N : Int), .slice (some ⟨gx, 0, none⟩) (N * N) kx] 50) * emp))) (by ac_rfl)).bs)
      refine wp_region_rv [57, 62, 56, 63, 10] (PJ w0.heap.size w0 (pts bx (.cells #[.int .i64 (N : Int), .int .i64 (N : Int), .slice (some ⟨gx, 0, none⟩) (N * N) kx] 50) * (row 5 1 (.slice (some ⟨gx, 0, none⟩) (N * N) kx) (N * N) (bvs (cl N N f)) * emp)) NF (NH (N) (N) (f) (pts bx (.cells #[.int .i64 (N : Int), .int .i64 (N : Int), .slice (some ⟨gx, 0, none⟩) (N * N) kx] 50) * (row 5 1 (.slice (some ⟨gx, 0, none⟩) (N * N) kx) (N * N) (bvs (cl N N f)) * emp)))) [0, 5, 6, 7, 9] mixed (by kernel_rfl) (by kernel_rfl) (by kernel_rfl) (fun _ => S.out.drew) ?_
      refine RXl.callV 0 57 rfl rfl rfl (Nat.le_of_ble_eq_true rfl) _ [] _ rfl rfl rfl rfl rfl (PJ.first [] (fun ρ w hag => rfl) (fun _ => rfl) (fun w s => (newx w s).mono fun e w1 ⟨fb, h1, s1⟩ => ⟨(fb, 0, 0, 0), h1, s1⟩)) ?_
      refine RXl.exact (.int .i64 ((N : Nat) : Int)) rfl rfl rfl rfl rfl (fun _ _ _ _ _ => rfl) ?_
      refine RXl.exact (.int .i64 ((N : Nat) : Int)) rfl rfl rfl rfl rfl (fun _ _ _ _ _ => rfl) ?_
      refine RXl.exact (.pointer (some ⟨bx, 2, none⟩)) rfl rfl rfl rfl rfl (fun j τ w' hj hJ => (by obtain ⟨vs, hv, hJ⟩ := hJ; exact (by simp [rho, upd, Spec.val, execOp, go_sem]))) ?_
      refine RXl.exact (.slice (some ⟨gx, 0, none⟩) ((N) * (N)) kx) rfl rfl rfl rfl rfl (fun j τ w' hj hJ => (by obtain ⟨vs, hv, hJ⟩ := hJ; exact (by obtain ⟨Z, q⟩ := NJ_x hJ; have c := (q.eq (sep_assoc _ _ _)).cell 2; simp at c; simp [rho, upd, Spec.val, execOp, go_sem, c]))) ?_
      refine RXl.callV 1 62 rfl rfl rfl (Nat.le_of_ble_eq_true rfl) _ [.tmp 57, .tmp 58, .tmp 59, .tmp 61] _ rfl rfl rfl rfl rfl (NJ_new (some ⟨gx, 0, none⟩) ((N) * (N)) kx (by omega) (by omega) HRX.out (fun ρ a w h hag => by simp [h 0 57 (by decide) rfl, hag.ex 58 _ rfl rfl rfl, hag.ex 59 _ rfl rfl rfl, hag.ex 61 _ rfl rfl rfl, NF])) ?_
      refine RXl.effV 2 56 rfl rfl rfl (Nat.le_of_ble_eq_true rfl) rfl rfl rfl rfl (PJ.pass rfl (fun ρ a w h hag s => by have e := h 1 62 (by decide) rfl; exact (exec_move rfl).trans (by rw [e]; rfl))) ?_
      refine RXl.effV 3 63 rfl rfl rfl (Nat.le_of_ble_eq_true rfl) rfl rfl rfl rfl (PJ.pass rfl (fun ρ a w h hag s => by have e := h 2 56 (by decide) rfl; exact exec_extract rfl e rfl)) ?_
      refine RXl.value (.ex (.int .i64 0)) (Free.ex _) rfl rfl rfl rfl (fun ρ w' j hj hI hag => ⟨_, (by obtain ⟨a, e⟩ := PJ.val (hag.so 56 _ rfl rfl rfl); exact exec_extract rfl e rfl), rfl⟩) ?_
      refine RXl.effV 4 10 rfl rfl rfl (Nat.le_of_ble_eq_true rfl) rfl rfl rfl rfl (PJ.pass rfl (fun ρ a w h hag s => by have e := h 3 63 (by decide) rfl; exact (exec_assign rfl).trans (by rw [e]; rfl))) ?_
      refine RXl.exact (.int .i64 0) rfl rfl rfl rfl rfl (fun _ _ _ _ _ => rfl) ?_
      refine RXl.nilV _ (AgrL.upd _ _ (AgrL.unk 10 _ rfl (AgrL.upd _ _ (AgrL.unk 63 _ rfl (AgrL.unk 56 _ rfl (AgrL.unk 62 _ rfl (AgrL.upd _ _ (AgrL.upd _ _ (AgrL.upd _ _ (AgrL.upd _ _ (AgrL.unk 57 _ rfl (AgrL.base _)))))))))))) (by decide) (by decide) fun vs w8 hJ => ?_
      simp only [puts, Act.put, List.setIfInBounds_toArray, List.set_cons_succ, List.set_cons_zero]
      obtain ⟨⟨fa, pa, ga, ka⟩, hv, s9⟩ := hJ
      rw [show vs 0 = NF 0 (fa, pa, ga, ka) from hv 0 (by decide), show vs 1 = NF 1 (fa, pa, ga, ka) from hv 1 (by decide), show vs 2 = NF 2 (fa, pa, ga, ka) from hv 2 (by decide), show vs 3 = .pointer (some ⟨pa, 0, none⟩) from hv 3 (by decide), show vs 4 = .pointer (some ⟨pa, 0, none⟩) from hv 4 (by decide)]
      generalize NF 0 (fa, pa, ga, ka) = y0
      generalize NF 1 (fa, pa, ga, ka) = y1
      generalize NF 2 (fa, pa, ga, ka) = y2
      clear S hv HRX vs
      have S := Lib.hid (show St w0.heap.size w0 w8 (mo pa ga ka fa (N) (N) (f) * (fx fa * (pts bx (.cells #[.int .i64 (N : Int), .int .i64 (N : Int), .slice (some ⟨gx, 0, none⟩) (N * N) kx] 50) * (row 5 1 (.slice (some ⟨gx, 0, none⟩) (N * N) kx) (N * N) (bvs (cl N N f)) * emp)))) from s9)
      clear s9
      go_wp2_with fail
      cases hg : gj N f N with
      | none =>
        have HG := Lib.hid hg
        refine (inv_calls pa ga ka fa N f (by omega) _ (S.out.eq (Q := fx fa * (mo pa ga ka fa N N f * (pts bx (.cells #[.int .i64 (N : Int), .int .i64 (N : Int), .slice (some ⟨gx, 0, none⟩) (N * N) kx] 50) * (row 5 1 (.slice (some ⟨gx, 0, none⟩) (N * N) kx) (N * N) (bvs (cl N N f)) * emp)))) (by ac_rfl))).mono ?_
        unfold InvP
        rw [hg]
        clear hg
        rintro e w19 ⟨rfl, s⟩
        clear S
        have sx := s.eq (Q := pts bx (.cells #[.int .i64 (N : Int), .int .i64 (N : Int), .slice (some ⟨gx, 0, none⟩) (N * N) kx] 50) * (fx fa * (mo pa ga ka fa N N f * (row 5 1 (.slice (some ⟨gx, 0, none⟩) (N * N) kx) (N * N) (bvs (cl N N f)) * emp)))) (by ac_rfl)
        have x0 := sx.cell 0
        have x1 := sx.cell 1
        have x2 := sx.cell 2
        simp at x0 x1 x2
        have S := Lib.hid sx
        clear s sx
        go_wp2_with fail
        clear x0 x1 x2
        refine (rinvert_calls N gx kx f (by omega) _ (fun w H s => (s.eq (Q := row 5 1 (.slice (some ⟨gx, 0, none⟩) (N * N) kx) (N * N) (bvs (cl N N f)) * (H * (pts bx (.cells #[.int .i64 (N : Int), .int .i64 (N : Int), .slice (some ⟨gx, 0, none⟩) (N * N) kx] 50) * (fx fa * (mo pa ga ka fa N N f * emp))))) (by ac_rfl)).bs) S.out).mono ?_
        unfold RInvP
        rw [HG.out]
        rintro e w20 ⟨rfl, s⟩
        clear S
        have S := Lib.hid (s.alloc (.cells #[.int .i64 0, .int .i64 0, .slice none 0 0] 50))
        clear s
        go_wp2_with fail
        refine (awakex _ S.out).mono ?_
        rintro e wq ⟨rfl, sq⟩
        clear S
        have S := Lib.hid sq
        clear sq
        go_wp2_with fail
        go_ret
        exact ⟨rfl, S.out.below⟩
      | some x =>
        obtain ⟨A, Bm⟩ := x
        have HG := Lib.hid hg
        have HE1 := Lib.hid (show cl N N (mmul N f Bm) = cl N N unit from cl_congr fun i j hi hj => (gj_some hg).2.1 i j hi hj)
        have HE2 := Lib.hid (show cl N N (mmul N Bm f) = cl N N unit from cl_congr fun i j hi hj => (gj_some hg).1 i j hi hj)
        refine (inv_calls pa ga ka fa N f (by omega) _ (S.out.eq (Q := fx fa * (mo pa ga ka fa N N f * (pts bx (.cells #[.int .i64 (N : Int), .int .i64 (N : Int), .slice (some ⟨gx, 0, none⟩) (N * N) kx] 50) * (row 5 1 (.slice (some ⟨gx, 0, none⟩) (N * N) kx) (N * N) (bvs (cl N N f)) * emp)))) (by ac_rfl))).mono ?_
        unfold InvP
        rw [hg]
        clear hg
        rintro e w19 ⟨pi, rfl, s⟩
        obtain ⟨gi, ki, s⟩ := mt_open s
        clear S
        have sx := s.eq (Q := pts bx (.cells #[.int .i64 (N : Int), .int .i64 (N : Int), .slice (some ⟨gx, 0, none⟩) (N * N) kx] 50) * (mo pi gi ki fa N N Bm * (fx fa * (mo pa ga ka fa N N f * (row 5 1 (.slice (some ⟨gx, 0, none⟩) (N * N) kx) (N * N) (bvs (cl N N f)) * emp))))) (by ac_rfl)
        have x0 := sx.cell 0
        have x1 := sx.cell 1
        have x2 := sx.cell 2
        simp at x0 x1 x2
        have S := Lib.hid sx
        clear s sx
        go_wp2_with fail
        clear x0 x1 x2
        refine (rinvert_calls N gx kx f (by omega) _ (fun w H s => (s.eq (Q := row 5 1 (.slice (some ⟨gx, 0, none⟩) (N * N) kx) (N * N) (bvs (cl N N f)) * (H * (pts bx (.cells #[.int .i64 (N : Int), .int .i64 (N : Int), .slice (some ⟨gx, 0, none⟩) (N * N) kx] 50) * (mo pi gi ki fa N N Bm * (fx fa * (mo pa ga ka fa N N f * emp)))))) (by ac_rfl)).bs) S.out).mono ?_
        unfold RInvP
        rw [HG.out]
        clear HG
        rintro e w20 ⟨gr, rfl, s⟩
        unfold rr at s
        clear S
        have s1 := s.alloc (.cells #[.int .i64 (N : Int), .int .i64 (N : Int), .slice (some ⟨gr, 0, none⟩) (N * N) (N * N)] 50)
        obtain ⟨b2, hb2⟩ : ∃ x, w20.heap.size = x := ⟨_, rfl⟩
        rw [hb2] at s1
        have sx := s1.eq (Q := pts b2 (.cells #[.int .i64 (N : Int), .int .i64 (N : Int), .slice (some ⟨gr, 0, none⟩) (N * N) (N * N)] 50) * (mo pi gi ki fa N N Bm * (fx fa * (mo pa ga ka fa N N f * (row 5 1 (.slice (some ⟨gr, 0, none⟩) (N * N) (N * N)) (N * N) (bvs (cl N N Bm)) * (row 5 1 (.slice (some ⟨gx, 0, none⟩) (N * N) kx) (N * N) (bvs (cl N N f)) * (pts bx (.cells #[.int .i64 (N : Int), .int .i64 (N : Int), .slice (some ⟨gx, 0, none⟩) (N * N) kx] 50) * emp))))))) (by ac_rfl)
        have x0 := sx.cell 0
        have x1 := sx.cell 1
        have x2 := sx.cell 2
        simp at x0 x1 x2
        have S := Lib.hid sx
        clear s s1 sx
        unfold rmv
        go_wp2_with fail
        clear x0 x1 x2
        have S2 := Lib.hid (S.out.eq (Q := mo pi gi ki fa N N Bm * (pts b2 (.cells #[.int .i64 (N : Int), .int .i64 (N : Int), .slice (some ⟨gr, 0, none⟩) (N * N) (N * N)] 50) * (fx fa * (mo pa ga ka fa N N f * (row 5 1 (.slice (some ⟨gr, 0, none⟩) (N * N) (N * N)) (N * N) (bvs (cl N N Bm)) * (row 5 1 (.slice (some ⟨gx, 0, none⟩) (N * N) kx) (N * N) (bvs (cl N N f)) * (pts bx (.cells #[.int .i64 (N : Int), .int .i64 (N : Int), .slice (some ⟨gx, 0, none⟩) (N * N) kx] 50) * emp))))))) (by ac_rfl))
        clear S
        have S := Lib.hid S2.out
        clear S2
        refine (same_true pi gi ki fa N N Bm (by omega) gr (N * N) _ (fun w H s => (s.eq (Q := row 5 1 (.slice (some ⟨gr, 0, none⟩) (N * N) (N * N)) (N * N) (bvs (cl N N Bm)) * (H * (pts b2 (.cells #[.int .i64 (N : Int), .int .i64 (N : Int), .slice (some ⟨gr, 0, none⟩) (N * N) (N * N)] 50) * (fx fa * (mo pa ga ka fa N N f * (row 5 1 (.slice (some ⟨gx, 0, none⟩) (N * N) kx) (N * N) (bvs (cl N N f)) * (pts bx (.cells #[.int .i64 (N : Int), .int .i64 (N : Int), .slice (some ⟨gx, 0, none⟩) (N * N) kx] 50) * emp))))))) (by ac_rfl)).bs) S.out).mono ?_
        rintro e wq ⟨rfl, sq⟩
        clear S
        have S := Lib.hid sq
        clear sq
        go_wp2_with fail
        refine (mul_good pa ga ka fa N N f pi gi ki fa N Bm (by omega) (by omega) (by omega) _ (S.out.eq (Q := fx fa * (mo pa ga ka fa N N f * (mo pi gi ki fa N N Bm * (pts b2 (.cells #[.int .i64 (N : Int), .int .i64 (N : Int), .slice (some ⟨gr, 0, none⟩) (N * N) (N * N)] 50) * (row 5 1 (.slice (some ⟨gr, 0, none⟩) (N * N) (N * N)) (N * N) (bvs (cl N N Bm)) * (row 5 1 (.slice (some ⟨gx, 0, none⟩) (N * N) kx) (N * N) (bvs (cl N N f)) * (pts bx (.cells #[.int .i64 (N : Int), .int .i64 (N : Int), .slice (some ⟨gx, 0, none⟩) (N * N) kx] 50) * emp))))))) (by ac_rfl))).mono ?_
        rintro e w21 ⟨pp, rfl, s⟩
        have s := mt_congr s HE1.out
        obtain ⟨gp, kp, s⟩ := mt_open s
        clear S
        have S := Lib.hid (s.eq (Q := fx fa * (mo pi gi ki fa N N Bm * (mo pa ga ka fa N N f * (mo pp gp kp fa N N unit * (pts b2 (.cells #[.int .i64 (N : Int), .int .i64 (N : Int), .slice (some ⟨gr, 0, none⟩) (N * N) (N * N)] 50) * (row 5 1 (.slice (some ⟨gr, 0, none⟩) (N * N) (N * N)) (N * N) (bvs (cl N N Bm)) * (row 5 1 (.slice (some ⟨gx, 0, none⟩) (N * N) kx) (N * N) (bvs (cl N N f)) * (pts bx (.cells #[.int .i64 (N : Int), .int .i64 (N : Int), .slice (some ⟨gx, 0, none⟩) (N * N) kx] 50) * emp)))))))) (by ac_rfl))
        clear s
        go_wp2_with fail
        refine (mul_good pi gi ki fa N N Bm pa ga ka fa N f (by omega) (by omega) (by omega) _ S.out).mono ?_
        rintro e w22 ⟨pq, rfl, s⟩
        have s := mt_congr s HE2.out
        obtain ⟨gq, kq, s⟩ := mt_open s
        clear S HE1 HE2
        have S := Lib.hid s
        clear s
        go_wp2_with fail
        refine (runit_calls N (by omega) _ S.out).mono ?_
        rintro e w23 ⟨g1, rfl, s⟩
        clear S
        have S := Lib.hid (s.eq (Q := mo pp gp kp fa N N unit * (row 5 1 (.slice (some ⟨g1, 0, none⟩) (N * N) (N * N)) (N * N) (bvs (cl N N unit)) * (mo pq gq kq fa N N unit * (fx fa * (mo pi gi ki fa N N Bm * (mo pa ga ka fa N N f * (pts b2 (.cells #[.int .i64 (N : Int), .int .i64 (N : Int), .slice (some ⟨gr, 0, none⟩) (N * N) (N * N)] 50) * (row 5 1 (.slice (some ⟨gr, 0, none⟩) (N * N) (N * N)) (N * N) (bvs (cl N N Bm)) * (row 5 1 (.slice (some ⟨gx, 0, none⟩) (N * N) kx) (N * N) (bvs (cl N N f)) * (pts bx (.cells #[.int .i64 (N : Int), .int .i64 (N : Int), .slice (some ⟨gx, 0, none⟩) (N * N) kx] 50) * emp)))))))))) (by ac_rfl))
        clear s
        go_wp2_with fail
        refine (same_true pp gp kp fa N N unit (by omega) g1 (N * N) _ (fun w H s => (s.eq (Q := row 5 1 (.slice (some ⟨g1, 0, none⟩) (N * N) (N * N)) (N * N) (bvs (cl N N unit)) * (H * (mo pq gq kq fa N N unit * (fx fa * (mo pi gi ki fa N N Bm * (mo pa ga ka fa N N f * (pts b2 (.cells #[.int .i64 (N : Int), .int .i64 (N : Int), .slice (some ⟨gr, 0, none⟩) (N * N) (N * N)] 50) * (row 5 1 (.slice (some ⟨gr, 0, none⟩) (N * N) (N * N)) (N * N) (bvs (cl N N Bm)) * (row 5 1 (.slice (some ⟨gx, 0, none⟩) (N * N) kx) (N * N) (bvs (cl N N f)) * (pts bx (.cells #[.int .i64 (N : Int), .int .i64 (N : Int), .slice (some ⟨gx, 0, none⟩) (N * N) kx] 50) * emp)))))))))) (by ac_rfl)).bs) S.out).mono ?_
        rintro e wq ⟨rfl, sq⟩
        clear S
        have S := Lib.hid sq
        clear sq
        go_wp2_with fail
        refine (runit_calls N (by omega) _ S.out).mono ?_
        rintro e w24 ⟨g2, rfl, s⟩
        clear S
        have S := Lib.hid (s.eq (Q := mo pq gq kq fa N N unit * (row 5 1 (.slice (some ⟨g2, 0, none⟩) (N * N) (N * N)) (N * N) (bvs (cl N N unit)) * (mo pp gp kp fa N N unit * (row 5 1 (.slice (some ⟨g1, 0, none⟩) (N * N) (N * N)) (N * N) (bvs (cl N N unit)) * (fx fa * (mo pi gi ki fa N N Bm * (mo pa ga ka fa N N f * (pts b2 (.cells #[.int .i64 (N : Int), .int .i64 (N : Int), .slice (some ⟨gr, 0, none⟩) (N * N) (N * N)] 50) * (row 5 1 (.slice (some ⟨gr, 0, none⟩) (N * N) (N * N)) (N * N) (bvs (cl N N Bm)) * (row 5 1 (.slice (some ⟨gx, 0, none⟩) (N * N) kx) (N * N) (bvs (cl N N f)) * (pts bx (.cells #[.int .i64 (N : Int), .int .i64 (N : Int), .slice (some ⟨gx, 0, none⟩) (N * N) kx] 50) * emp))))))))))) (by ac_rfl))
        clear s
        go_wp2_with fail
        refine (same_true pq gq kq fa N N unit (by omega) g2 (N * N) _ (fun w H s => (s.eq (Q := row 5 1 (.slice (some ⟨g2, 0, none⟩) (N * N) (N * N)) (N * N) (bvs (cl N N unit)) * (H * (mo pp gp kp fa N N unit * (row 5 1 (.slice (some ⟨g1, 0, none⟩) (N * N) (N * N)) (N * N) (bvs (cl N N unit)) * (fx fa * (mo pi gi ki fa N N Bm * (mo pa ga ka fa N N f * (pts b2 (.cells #[.int .i64 (N : Int), .int .i64 (N : Int), .slice (some ⟨gr, 0, none⟩) (N * N) (N * N)] 50) * (row 5 1 (.slice (some ⟨gr, 0, none⟩) (N * N) (N * N)) (N * N) (bvs (cl N N Bm)) * (row 5 1 (.slice (some ⟨gx, 0, none⟩) (N * N) kx) (N * N) (bvs (cl N N f)) * (pts bx (.cells #[.int .i64 (N : Int), .int .i64 (N : Int), .slice (some ⟨gx, 0, none⟩) (N * N) kx] 50) * emp))))))))))) (by ac_rfl)).bs) S.out).mono ?_
        rintro e wq ⟨rfl, sq⟩
        clear S
        have S := Lib.hid sq
        clear sq
        go_wp2_with fail
        refine (awakex _ S.out).mono ?_
        rintro e wq ⟨rfl, sq⟩
        clear S
        have S := Lib.hid sq
        clear sq
        go_wp2_with fail
        go_ret
        exact ⟨rfl, S.out.below⟩
    · have g1 : (N : Int) ≤ 1 := by omega
      clear h1
      go_enter Try.func10, Try.ntmps10
      go_wp2_with fail
      refine (make1_calls N N (by omega) a la.length ca la (by omega) _ (reads_arg _ HA.out) (St.init w0)).mono ?_
      rintro e w2 ⟨gx, kx, rfl, s⟩
      have hxl := cl_len N N (m1 N la)
      generalize cl N N (m1 N la) = xs at hxl s
      have hcap := (St.row1 s).2.2.1
      have s1 := s.alloc (.cells #[.int .i64 (N : Int), .int .i64 (N : Int), .slice (some ⟨gx, 0, none⟩) (N * N) kx] 50)
      have S := Lib.hid s1
      clear s s1
      unfold rmv
      go_wp2_with fail
      generalize w2.heap.size = bx at *
      rw [← cl_ofl hxl] at S
      generalize ofl N xs = f at S
      clear hxl hcap
      have HRX := Lib.hid (show Reads w0.heap.size w0 (pts bx (.cells #[.int .i64 (N : Int), .int .i64 (N : Int), .slice (some ⟨gx, 0, none⟩) (N * N) kx] 50) * (row 5 1 (.slice (some ⟨gx, 0, none⟩) (N * N) kx) (N * N) (bvs (cl N N f)) * emp)) (.slice (some ⟨gx, 0, none⟩) (N * N) kx) (cl N N f) from fun w H s => (s.eq (Q := row 5 1 (.slice (some ⟨gx, 0, none⟩) (N * N) kx) (N * N) (bvs (cl N N f)) * (H * (pts bx (.cells #[.int .i64 (N : Int), .int .i64 (N : Int), .slice (some ⟨gx, 0, none⟩) (N * N) kx] 50) * emp))) (by ac_rfl)).bs)
      refine wp_region_rv [57, 62, 56, 63, 10] (PJ w0.heap.size w0 (pts bx (.cells #[.int .i64 (N : Int), .int .i64 (N : Int), .slice (some ⟨gx, 0, none⟩) (N * N) kx] 50) * (row 5 1 (.slice (some ⟨gx, 0, none⟩) (N * N) kx) (N * N) (bvs (cl N N f)) * emp)) NF (NH (N) (N) (f) (pts bx (.cells #[.int .i64 (N : Int), .int .i64 (N : Int), .slice (some ⟨gx, 0, none⟩) (N * N) kx] 50) * (row 5 1 (.slice (some ⟨gx, 0, none⟩) (N * N) kx) (N * N) (bvs (cl N N f)) * emp)))) [0, 5, 6, 7, 9] mixed (by kernel_rfl) (by kernel_rfl) (by kernel_rfl) (fun _ => S.out.drew) ?_
      refine RXl.callV 0 57 rfl rfl rfl (Nat.le_of_ble_eq_true rfl) _ [] _ rfl rfl rfl rfl rfl (PJ.first [] (fun ρ w hag => rfl) (fun _ => rfl) (fun w s => (newx w s).mono fun e w1 ⟨fb, h1, s1⟩ => ⟨(fb, 0, 0, 0), h1, s1⟩)) ?_
      refine RXl.exact (.int .i64 ((N : Nat) : Int)) rfl rfl rfl rfl rfl (fun _ _ _ _ _ => rfl) ?_
      refine RXl.exact (.int .i64 ((N : Nat) : Int)) rfl rfl rfl rfl rfl (fun _ _ _ _ _ => rfl) ?_
      refine RXl.exact (.pointer (some ⟨bx, 2, none⟩)) rfl rfl rfl rfl rfl (fun j τ w' hj hJ => (by obtain ⟨vs, hv, hJ⟩ := hJ; exact (by simp [rho, upd, Spec.val, execOp, go_sem]))) ?_
      refine RXl.exact (.slice (some ⟨gx, 0, none⟩) ((N) * (N)) kx) rfl rfl rfl rfl rfl (fun j τ w' hj hJ => (by obtain ⟨vs, hv, hJ⟩ := hJ; exact (by obtain ⟨Z, q⟩ := NJ_x hJ; have c := (q.eq (sep_assoc _ _ _)).cell 2; simp at c; simp [rho, upd, Spec.val, execOp, go_sem, c]))) ?_
      refine RXl.callV 1 62 rfl rfl rfl (Nat.le_of_ble_eq_true rfl) _ [.tmp 57, .tmp 58, .tmp 59, .tmp 61] _ rfl rfl rfl rfl rfl (NJ_new (some ⟨gx, 0, none⟩) ((N) * (N)) kx (by omega) (by omega) HRX.out (fun ρ a w h hag => by simp [h 0 57 (by decide) rfl, hag.ex 58 _ rfl rfl rfl, hag.ex 59 _ rfl rfl rfl, hag.ex 61 _ rfl rfl rfl, NF])) ?_
      refine RXl.effV 2 56 rfl rfl rfl (Nat.le_of_ble_eq_true rfl) rfl rfl rfl rfl (PJ.pass rfl (fun ρ a w h hag s => by have e := h 1 62 (by decide) rfl; exact (exec_move rfl).trans (by rw [e]; rfl))) ?_
      refine RXl.effV 3 63 rfl rfl rfl (Nat.le_of_ble_eq_true rfl) rfl rfl rfl rfl (PJ.pass rfl (fun ρ a w h hag s => by have e := h 2 56 (by decide) rfl; exact exec_extract rfl e rfl)) ?_
      refine RXl.value (.ex (.int .i64 0)) (Free.ex _) rfl rfl rfl rfl (fun ρ w' j hj hI hag => ⟨_, (by obtain ⟨a, e⟩ := PJ.val (hag.so 56 _ rfl rfl rfl); exact exec_extract rfl e rfl), rfl⟩) ?_
      refine RXl.effV 4 10 rfl rfl rfl (Nat.le_of_ble_eq_true rfl) rfl rfl rfl rfl (PJ.pass rfl (fun ρ a w h hag s => by have e := h 3 63 (by decide) rfl; exact (exec_assign rfl).trans (by rw [e]; rfl))) ?_
      refine RXl.exact (.int .i64 0) rfl rfl rfl rfl rfl (fun _ _ _ _ _ => rfl) ?_
      refine RXl.nilV _ (AgrL.upd _ _ (AgrL.unk 10 _ rfl (AgrL.upd _ _ (AgrL.unk 63 _ rfl (AgrL.unk 56 _ rfl (AgrL.unk 62 _ rfl (AgrL.upd _ _ (AgrL.upd _ _ (AgrL.upd _ _ (AgrL.upd _ _ (AgrL.unk 57 _ rfl (AgrL.base _)))))))))))) (by decide) (by decide) fun vs w8 hJ => ?_
      simp only [puts, Act.put, List.setIfInBounds_toArray, List.set_cons_succ, List.set_cons_zero]
      obtain ⟨⟨fa, pa, ga, ka⟩, hv, s9⟩ := hJ
      rw [show vs 0 = NF 0 (fa, pa, ga, ka) from hv 0 (by decide), show vs 1 = NF 1 (fa, pa, ga, ka) from hv 1 (by decide), show vs 2 = NF 2 (fa, pa, ga, ka) from hv 2 (by decide), show vs 3 = .pointer (some ⟨pa, 0, none⟩) from hv 3 (by decide), show vs 4 = .pointer (some ⟨pa, 0, none⟩) from hv 4 (by decide)]
      generalize NF 0 (fa, pa, ga, ka) = y0
      generalize NF 1 (fa, pa, ga, ka) = y1
      generalize NF 2 (fa, pa, ga, ka) = y2
      clear S hv HRX vs
      have S := Lib.hid (show St w0.heap.size w0 w8 (mo pa ga ka fa (N) (N) (f) * (fx fa * (pts bx (.cells #[.int .i64 (N : Int), .int .i64 (N : Int), .slice (some ⟨gx, 0, none⟩) (N * N) kx] 50) * (row 5 1 (.slice (some ⟨gx, 0, none⟩) (N * N) kx) (N * N) (bvs (cl N N f)) * emp)))) from s9)
      clear s9
      go_wp2_with fail
      cases hg : gj N f N with
      | none =>
        have HG := Lib.hid hg
        refine (inv_calls pa ga ka fa N f (by omega) _ (S.out.eq (Q := fx fa * (mo pa ga ka fa N N f * (pts bx (.cells #[.int .i64 (N : Int), .int .i64 (N : Int), .slice (some ⟨gx, 0, none⟩) (N * N) kx] 50) * (row 5 1 (.slice (some ⟨gx, 0, none⟩) (N * N) kx) (N * N) (bvs (cl N N f)) * emp)))) (by ac_rfl))).mono ?_
        unfold InvP
        rw [hg]
        clear hg
        rintro e w19 ⟨rfl, s⟩
        clear S
        have sx := s.eq (Q := pts bx (.cells #[.int .i64 (N : Int), .int .i64 (N : Int), .slice (some ⟨gx, 0, none⟩) (N * N) kx] 50) * (fx fa * (mo pa ga ka fa N N f * (row 5 1 (.slice (some ⟨gx, 0, none⟩) (N * N) kx) (N * N) (bvs (cl N N f)) * emp)))) (by ac_rfl)
        have x0 := sx.cell 0
        have x1 := sx.cell 1
        have x2 := sx.cell 2
        simp at x0 x1 x2
        have S := Lib.hid sx
        clear s sx
        go_wp2_with fail
        clear x0 x1 x2
        refine (rinvert_calls N gx kx f (by omega) _ (fun w H s => (s.eq (Q := row 5 1 (.slice (some ⟨gx, 0, none⟩) (N * N) kx) (N * N) (bvs (cl N N f)) * (H * (pts bx (.cells #[.int .i64 (N : Int), .int .i64 (N : Int), .slice (some ⟨gx, 0, none⟩) (N * N) kx] 50) * (fx fa * (mo pa ga ka fa N N f * emp))))) (by ac_rfl)).bs) S.out).mono ?_
        unfold RInvP
        rw [HG.out]
        rintro e w20 ⟨rfl, s⟩
        clear S
        have S := Lib.hid (s.alloc (.cells #[.int .i64 0, .int .i64 0, .slice none 0 0] 50))
        clear s
        go_wp2_with fail
        refine (awakex _ S.out).mono ?_
        rintro e wq ⟨rfl, sq⟩
        clear S
        have S := Lib.hid sq
        clear sq
        go_wp2_with fail
        go_ret
        exact ⟨rfl, S.out.below⟩
      | some x =>
        obtain ⟨A, Bm⟩ := x
        have HG := Lib.hid hg
        have HE1 := Lib.hid (show cl N N (mmul N f Bm) = cl N N unit from cl_congr fun i j hi hj => (gj_some hg).2.1 i j hi hj)
        have HE2 := Lib.hid (show cl N N (mmul N Bm f) = cl N N unit from cl_congr fun i j hi hj => (gj_some hg).1 i j hi hj)
        refine (inv_calls pa ga ka fa N f (by omega) _ (S.out.eq (Q := fx fa * (mo pa ga ka fa N N f * (pts bx (.cells #[.int .i64 (N : Int), .int .i64 (N : Int), .slice (some ⟨gx, 0, none⟩) (N * N) kx] 50) * (row 5 1 (.slice (some ⟨gx, 0, none⟩) (N * N) kx) (N * N) (bvs (cl N N f)) * emp)))) (by ac_rfl))).mono ?_
        unfold InvP
        rw [hg]
        clear hg
        rintro e w19 ⟨pi, rfl, s⟩
        obtain ⟨gi, ki, s⟩ := mt_open s
        clear S
        have sx := s.eq (Q := pts bx (.cells #[.int .i64 (N : Int), .int .i64 (N : Int), .slice (some ⟨gx, 0, none⟩) (N * N) kx] 50) * (mo pi gi ki fa N N Bm * (fx fa * (mo pa ga ka fa N N f * (row 5 1 (.slice (some ⟨gx, 0, none⟩) (N * N) kx) (N * N) (bvs (cl N N f)) * emp))))) (by ac_rfl)
        have x0 := sx.cell 0
        have x1 := sx.cell 1
        have x2 := sx.cell 2
        simp at x0 x1 x2
        have S := Lib.hid sx
        clear s sx
        go_wp2_with fail
        clear x0 x1 x2
        refine (rinvert_calls N gx kx f (by omega) _ (fun w H s => (s.eq (Q := row 5 1 (.slice (some ⟨gx, 0, none⟩) (N * N) kx) (N * N) (bvs (cl N N f)) * (H * (pts bx (.cells #[.int .i64 (N : Int), .int .i64 (N : Int), .slice (some ⟨gx, 0, none⟩) (N * N) kx] 50) * (mo pi gi ki fa N N Bm * (fx fa * (mo pa ga ka fa N N f * emp)))))) (by ac_rfl)).bs) S.out).mono ?_
        unfold RInvP
        rw [HG.out]
        clear HG
        rintro e w20 ⟨gr, rfl, s⟩
        unfold rr at s
        clear S
        have s1 := s.alloc (.cells #[.int .i64 (N : Int), .int .i64 (N : Int), .slice (some ⟨gr, 0, none⟩) (N * N) (N * N)] 50)
        obtain ⟨b2, hb2⟩ : ∃ x, w20.heap.size = x := ⟨_, rfl⟩
        rw [hb2] at s1
        have sx := s1.eq (Q := pts b2 (.cells #[.int .i64 (N : Int), .int .i64 (N : Int), .slice (some ⟨gr, 0, none⟩) (N * N) (N * N)] 50) * (mo pi gi ki fa N N Bm * (fx fa * (mo pa ga ka fa N N f * (row 5 1 (.slice (some ⟨gr, 0, none⟩) (N * N) (N * N)) (N * N) (bvs (cl N N Bm)) * (row 5 1 (.slice (some ⟨gx, 0, none⟩) (N * N) kx) (N * N) (bvs (cl N N f)) * (pts bx (.cells #[.int .i64 (N : Int), .int .i64 (N : Int), .slice (some ⟨gx, 0, none⟩) (N * N) kx] 50) * emp))))))) (by ac_rfl)
        have x0 := sx.cell 0
        have x1 := sx.cell 1
        have x2 := sx.cell 2
        simp at x0 x1 x2
        have S := Lib.hid sx
        clear s s1 sx
        unfold rmv
        go_wp2_with fail
        clear x0 x1 x2
        have S2 := Lib.hid (S.out.eq (Q := mo pi gi ki fa N N Bm * (pts b2 (.cells #[.int .i64 (N : Int), .int .i64 (N : Int), .slice (some ⟨gr, 0, none⟩) (N * N) (N * N)] 50) * (fx fa * (mo pa ga ka fa N N f * (row 5 1 (.slice (some ⟨gr, 0, none⟩) (N * N) (N * N)) (N * N) (bvs (cl N N Bm)) * (row 5 1 (.slice (some ⟨gx, 0, none⟩) (N * N) kx) (N * N) (bvs (cl N N f)) * (pts bx (.cells #[.int .i64 (N : Int), .int .i64 (N : Int), .slice (some ⟨gx, 0, none⟩) (N * N) kx] 50) * emp))))))) (by ac_rfl))
        clear S
        have S := Lib.hid S2.out
        clear S2
        refine (same_true pi gi ki fa N N Bm (by omega) gr (N * N) _ (fun w H s => (s.eq (Q := row 5 1 (.slice (some ⟨gr, 0, none⟩) (N * N) (N * N)) (N * N) (bvs (cl N N Bm)) * (H * (pts b2 (.cells #[.int .i64 (N : Int), .int .i64 (N : Int), .slice (some ⟨gr, 0, none⟩) (N * N) (N * N)] 50) * (fx fa * (mo pa ga ka fa N N f * (row 5 1 (.slice (some ⟨gx, 0, none⟩) (N * N) kx) (N * N) (bvs (cl N N f)) * (pts bx (.cells #[.int .i64 (N : Int), .int .i64 (N : Int), .slice (some ⟨gx, 0, none⟩) (N * N) kx] 50) * emp))))))) (by ac_rfl)).bs) S.out).mono ?_
        rintro e wq ⟨rfl, sq⟩
        clear S
        have S := Lib.hid sq
        clear sq
        go_wp2_with fail
        refine (mul_good pa ga ka fa N N f pi gi ki fa N Bm (by omega) (by omega) (by omega) _ (S.out.eq (Q := fx fa * (mo pa ga ka fa N N f * (mo pi gi ki fa N N Bm * (pts b2 (.cells #[.int .i64 (N : Int), .int .i64 (N : Int), .slice (some ⟨gr, 0, none⟩) (N * N) (N * N)] 50) * (row 5 1 (.slice (some ⟨gr, 0, none⟩) (N * N) (N * N)) (N * N) (bvs (cl N N Bm)) * (row 5 1 (.slice (some ⟨gx, 0, none⟩) (N * N) kx) (N * N) (bvs (cl N N f)) * (pts bx (.cells #[.int .i64 (N : Int), .int .i64 (N : Int), .slice (some ⟨gx, 0, none⟩) (N * N) kx] 50) * emp))))))) (by ac_rfl))).mono ?_
        rintro e w21 ⟨pp, rfl, s⟩
        have s := mt_congr s HE1.out
        obtain ⟨gp, kp, s⟩ := mt_open s
        clear S
        have S := Lib.hid (s.eq (Q := fx fa * (mo pi gi ki fa N N Bm * (mo pa ga ka fa N N f * (mo pp gp kp fa N N unit * (pts b2 (.cells #[.int .i64 (N : Int), .int .i64 (N : Int), .slice (some ⟨gr, 0, none⟩) (N * N) (N * N)] 50) * (row 5 1 (.slice (some ⟨gr, 0, none⟩) (N * N) (N * N)) (N * N) (bvs (cl N N Bm)) * (row 5 1 (.slice (some ⟨gx, 0, none⟩) (N * N) kx) (N * N) (bvs (cl N N f)) * (pts bx (.cells #[.int .i64 (N : Int), .int .i64 (N : Int), .slice (some ⟨gx, 0, none⟩) (N * N) kx] 50) * emp)))))))) (by ac_rfl))
        clear s
        go_wp2_with fail
        refine (mul_good pi gi ki fa N N Bm pa ga ka fa N f (by omega) (by omega) (by omega) _ S.out).mono ?_
        rintro e w22 ⟨pq, rfl, s⟩
        have s := mt_congr s HE2.out
        obtain ⟨gq, kq, s⟩ := mt_open s
        clear S HE1 HE2
        have S := Lib.hid s
        clear s
        go_wp2_with fail
        refine (runit_calls N (by omega) _ S.out).mono ?_
        rintro e w23 ⟨g1, rfl, s⟩
        clear S
        have S := Lib.hid (s.eq (Q := mo pp gp kp fa N N unit * (row 5 1 (.slice (some ⟨g1, 0, none⟩) (N * N) (N * N)) (N * N) (bvs (cl N N unit)) * (mo pq gq kq fa N N unit * (fx fa * (mo pi gi ki fa N N Bm * (mo pa ga ka fa N N f * (pts b2 (.cells #[.int .i64 (N : Int), .int .i64 (N : Int), .slice (some ⟨gr, 0, none⟩) (N * N) (N * N)] 50) * (row 5 1 (.slice (some ⟨gr, 0, none⟩) (N * N) (N * N)) (N * N) (bvs (cl N N Bm)) * (row 5 1 (.slice (some ⟨gx, 0, none⟩) (N * N) kx) (N * N) (bvs (cl N N f)) * (pts bx (.cells #[.int .i64 (N : Int), .int .i64 (N : Int), .slice (some ⟨gx, 0, none⟩) (N * N) kx] 50) * emp)))))))))) (by ac_rfl))
        clear s
        go_wp2_with fail
        refine (same_true pp gp kp fa N N unit (by omega) g1 (N * N) _ (fun w H s => (s.eq (Q := row 5 1 (.slice (some ⟨g1, 0, none⟩) (N * N) (N * N)) (N * N) (bvs (cl N N unit)) * (H * (mo pq gq kq fa N N unit * (fx fa * (mo pi gi ki fa N N Bm * (mo pa ga ka fa N N f * (pts b2 (.cells #[.int .i64 (N : Int), .int .i64 (N : Int), .slice (some ⟨gr, 0, none⟩) (N * N) (N * N)] 50) * (row 5 1 (.slice (some ⟨gr, 0, none⟩) (N * N) (N * N)) (N * N) (bvs (cl N N Bm)) * (row 5 1 (.slice (some ⟨gx, 0, none⟩) (N * N) kx) (N * N) (bvs (cl N N f)) * (pts bx (.cells #[.int .i64 (N : Int), .int .i64 (N : Int), .slice (some ⟨gx, 0, none⟩) (N * N) kx] 50) * emp)))))))))) (by ac_rfl)).bs) S.out).mono ?_
        rintro e wq ⟨rfl, sq⟩
        clear S
        have S := Lib.hid sq
        clear sq
        go_wp2_with fail
        refine (runit_calls N (by omega) _ S.out).mono ?_
        rintro e w24 ⟨g2, rfl, s⟩
        clear S
        have S := Lib.hid (s.eq (Q := mo pq gq kq fa N N unit * (row 5 1 (.slice (some ⟨g2, 0, none⟩) (N * N) (N * N)) (N * N) (bvs (cl N N unit)) * (mo pp gp kp fa N N unit * (row 5 1 (.slice (some ⟨g1, 0, none⟩) (N * N) (N * N)) (N * N) (bvs (cl N N unit)) * (fx fa * (mo pi gi ki fa N N Bm * (mo pa ga ka fa N N f * (pts b2 (.cells #[.int .i64 (N : Int), .int .i64 (N : Int), .slice (some ⟨gr, 0, none⟩) (N * N) (N * N)] 50) * (row 5 1 (.slice (some ⟨gr, 0, none⟩) (N * N) (N * N)) (N * N) (bvs (cl N N Bm)) * (row 5 1 (.slice (some ⟨gx, 0, none⟩) (N * N) kx) (N * N) (bvs (cl N N f)) * (pts bx (.cells #[.int .i64 (N : Int), .int .i64 (N : Int), .slice (some ⟨gx, 0, none⟩) (N * N) kx] 50) * emp))))))))))) (by ac_rfl))
        clear s
        go_wp2_with fail
        refine (same_true pq gq kq fa N N unit (by omega) g2 (N * N) _ (fun w H s => (s.eq (Q := row 5 1 (.slice (some ⟨g2, 0, none⟩) (N * N) (N * N)) (N * N) (bvs (cl N N unit)) * (H * (mo pp gp kp fa N N unit * (row 5 1 (.slice (some ⟨g1, 0, none⟩) (N * N) (N * N)) (N * N) (bvs (cl N N unit)) * (fx fa * (mo pi gi ki fa N N Bm * (mo pa ga ka fa N N f * (pts b2 (.cells #[.int .i64 (N : Int), .int .i64 (N : Int), .slice (some ⟨gr, 0, none⟩) (N * N) (N * N)] 50) * (row 5 1 (.slice (some ⟨gr, 0, none⟩) (N * N) (N * N)) (N * N) (bvs (cl N N Bm)) * (row 5 1 (.slice (some ⟨gx, 0, none⟩) (N * N) kx) (N * N) (bvs (cl N N f)) * (pts bx (.cells #[.int .i64 (N : Int), .int .i64 (N : Int), .slice (some ⟨gx, 0, none⟩) (N * N) kx] 50) * emp))))))))))) (by ac_rfl)).bs) S.out).mono ?_
        rintro e wq ⟨rfl, sq⟩
        clear S
        have S := Lib.hid sq
        clear sq
        go_wp2_with fail
        refine (awakex _ S.out).mono ?_
        rintro e wq ⟨rfl, sq⟩
        clear S
        have S := Lib.hid sq
        clear sq
        go_wp2_with fail
        go_ret
        exact ⟨rfl, S.out.below⟩
set_option maxRecDepth 100000 in
set_option maxHeartbeats 32000000 in
theorem inverts_odd (n k : Int) (N : Nat) (hN : (bits .and .i64 n 255).tmod 9 = (N : Int) - 1) (hK : (bits .and .i64 k 255).tmod 9 = (N : Int) - 1) (bN : 1 ≤ N ∧ N ≤ 9) (rNN : 1 ≤ N * N ∧ N * N ≤ 1024) (hP : (bits .and .i64 (N : Int) 1 == 0) = false) (a : Option Addr) (ca : Nat) (la : List UInt8) (w0 : World) (HA : Hid (BS w0 (.slice a la.length ca) la)) (la1 : (la.length : Int) ≤ 100) (db : Bool) :
    Calls Try.prog 10 #[.int .i64 n, .int .i64 k, .slice a la.length ca, .bool db] w0 fun e w' => e = .returned (.bool true) ∧ Below w0.heap.size w0 w' := by
  cases db
  · skip
    go_enter Try.func10, Try.ntmps10
    go_wp2_with fail
    refine (make1_calls N N (by omega) a la.length ca la (by omega) _ (reads_arg _ HA.out) (St.init w0)).mono ?_
    rintro e w2 ⟨gx, kx, rfl, s⟩
    have hxl := cl_len N N (m1 N la)
    generalize cl N N (m1 N la) = xs at hxl s
    have hcap := (St.row1 s).2.2.1
    have s1 := s.alloc (.cells #[.int .i64 (N : Int), .int .i64 (N : Int), .slice (some ⟨gx, 0, none⟩) (N * N) kx] 50)
    have S := Lib.hid s1
    clear s s1
    unfold rmv
    go_wp2_with fail
    generalize w2.heap.size = bx at *
    rw [← cl_ofl hxl] at S
    generalize ofl N xs = f at S
    clear hxl hcap
    have HRX := Lib.hid (show Reads w0.heap.size w0 (pts bx (.cells #[.int .i64 (N : Int), .int .i64 (N : Int), .slice (some ⟨gx, 0, none⟩) (N * N) kx] 50) * (row 5 1 (.slice (some ⟨gx, 0, none⟩) (N * N) kx) (N * N) (bvs (cl N N f)) * emp)) (.slice (some ⟨gx, 0, none⟩) (N * N) kx) (cl N N f) from fun w H s => (s.eq (Q := row 5 1 (.slice (some ⟨gx, 0, none⟩) (N * N) kx) (N * N) (bvs (cl N N f)) * (H * (pts bx (.cells #[.int .i64 (N : Int), .int .i64 (N : Int), .slice (some ⟨gx, 0, none⟩) (N * N) kx] 50) * emp))) (by ac_rfl)).bs)
    refine wp_region_rv [57, 62, 56, 63, 10] (PJ w0.heap.size w0 (pts bx (.cells #[.int .i64 (N : Int), .int .i64 (N : Int), .slice (some ⟨gx, 0, none⟩) (N * N) kx] 50) * (row 5 1 (.slice (some ⟨gx, 0, none⟩) (N * N) kx) (N * N) (bvs (cl N N f)) * emp)) NF (NH (N) (N) (f) (pts bx (.cells #[.int .i64 (N : Int), .int .i64 (N : Int), .slice (some ⟨gx, 0, none⟩) (N * N) kx] 50) * (row 5 1 (.slice (some ⟨gx, 0, none⟩) (N * N) kx) (N * N) (bvs (cl N N f)) * emp)))) [0, 5, 6, 7, 9] mixed (by kernel_rfl) (by kernel_rfl) (by kernel_rfl) (fun _ => S.out.drew) ?_
    refine RXl.callV 0 57 rfl rfl rfl (Nat.le_of_ble_eq_true rfl) _ [] _ rfl rfl rfl rfl rfl (PJ.first [] (fun ρ w hag => rfl) (fun _ => rfl) (fun w s => (newx w s).mono fun e w1 ⟨fb, h1, s1⟩ => ⟨(fb, 0, 0, 0), h1, s1⟩)) ?_
    refine RXl.exact (.int .i64 ((N : Nat) : Int)) rfl rfl rfl rfl rfl (fun _ _ _ _ _ => rfl) ?_
    refine RXl.exact (.int .i64 ((N : Nat) : Int)) rfl rfl rfl rfl rfl (fun _ _ _ _ _ => rfl) ?_
    refine RXl.exact (.pointer (some ⟨bx, 2, none⟩)) rfl rfl rfl rfl rfl (fun j τ w' hj hJ => (by obtain ⟨vs, hv, hJ⟩ := hJ; exact (by simp [rho, upd, Spec.val, execOp, go_sem]))) ?_
    refine RXl.exact (.slice (some ⟨gx, 0, none⟩) ((N) * (N)) kx) rfl rfl rfl rfl rfl (fun j τ w' hj hJ => (by obtain ⟨vs, hv, hJ⟩ := hJ; exact (by obtain ⟨Z, q⟩ := NJ_x hJ; have c := (q.eq (sep_assoc _ _ _)).cell 2; simp at c; simp [rho, upd, Spec.val, execOp, go_sem, c]))) ?_
    refine RXl.callV 1 62 rfl rfl rfl (Nat.le_of_ble_eq_true rfl) _ [.tmp 57, .tmp 58, .tmp 59, .tmp 61] _ rfl rfl rfl rfl rfl (NJ_new (some ⟨gx, 0, none⟩) ((N) * (N)) kx (by omega) (by omega) HRX.out (fun ρ a w h hag => by simp [h 0 57 (by decide) rfl, hag.ex 58 _ rfl rfl rfl, hag.ex 59 _ rfl rfl rfl, hag.ex 61 _ rfl rfl rfl, NF])) ?_
    refine RXl.effV 2 56 rfl rfl rfl (Nat.le_of_ble_eq_true rfl) rfl rfl rfl rfl (PJ.pass rfl (fun ρ a w h hag s => by have e := h 1 62 (by decide) rfl; exact (exec_move rfl).trans (by rw [e]; rfl))) ?_
    refine RXl.effV 3 63 rfl rfl rfl (Nat.le_of_ble_eq_true rfl) rfl rfl rfl rfl (PJ.pass rfl (fun ρ a w h hag s => by have e := h 2 56 (by decide) rfl; exact exec_extract rfl e rfl)) ?_
    refine RXl.value (.ex (.int .i64 0)) (Free.ex _) rfl rfl rfl rfl (fun ρ w' j hj hI hag => ⟨_, (by obtain ⟨a, e⟩ := PJ.val (hag.so 56 _ rfl rfl rfl); exact exec_extract rfl e rfl), rfl⟩) ?_
    refine RXl.effV 4 10 rfl rfl rfl (Nat.le_of_ble_eq_true rfl) rfl rfl rfl rfl (PJ.pass rfl (fun ρ a w h hag s => by have e := h 3 63 (by decide) rfl; exact (exec_assign rfl).trans (by rw [e]; rfl))) ?_
    refine RXl.exact (.int .i64 0) rfl rfl rfl rfl rfl (fun _ _ _ _ _ => rfl) ?_
    refine RXl.nilV _ (AgrL.upd _ _ (AgrL.unk 10 _ rfl (AgrL.upd _ _ (AgrL.unk 63 _ rfl (AgrL.unk 56 _ rfl (AgrL.unk 62 _ rfl (AgrL.upd _ _ (AgrL.upd _ _ (AgrL.upd _ _ (AgrL.upd _ _ (AgrL.unk 57 _ rfl (AgrL.base _)))))))))))) (by decide) (by decide) fun vs w8 hJ => ?_
    simp only [puts, Act.put, List.setIfInBounds_toArray, List.set_cons_succ, List.set_cons_zero]
    obtain ⟨⟨fa, pa, ga, ka⟩, hv, s9⟩ := hJ
    rw [show vs 0 = NF 0 (fa, pa, ga, ka) from hv 0 (by decide), show vs 1 = NF 1 (fa, pa, ga, ka) from hv 1 (by decide), show vs 2 = NF 2 (fa, pa, ga, ka) from hv 2 (by decide), show vs 3 = .pointer (some ⟨pa, 0, none⟩) from hv 3 (by decide), show vs 4 = .pointer (some ⟨pa, 0, none⟩) from hv 4 (by decide)]
    generalize NF 0 (fa, pa, ga, ka) = y0
    generalize NF 1 (fa, pa, ga, ka) = y1
    generalize NF 2 (fa, pa, ga, ka) = y2
    clear S hv HRX vs
    have S := Lib.hid (show St w0.heap.size w0 w8 (mo pa ga ka fa (N) (N) (f) * (fx fa * (pts bx (.cells #[.int .i64 (N : Int), .int .i64 (N : Int), .slice (some ⟨gx, 0, none⟩) (N * N) kx] 50) * (row 5 1 (.slice (some ⟨gx, 0, none⟩) (N * N) kx) (N * N) (bvs (cl N N f)) * emp)))) from s9)
    clear s9
    go_wp2_with fail
    cases hg : gj N f N with
    | none =>
      have HG := Lib.hid hg
      refine (inv_calls pa ga ka fa N f (by omega) _ (S.out.eq (Q := fx fa * (mo pa ga ka fa N N f * (pts bx (.cells #[.int .i64 (N : Int), .int .i64 (N : Int), .slice (some ⟨gx, 0, none⟩) (N * N) kx] 50) * (row 5 1 (.slice (some ⟨gx, 0, none⟩) (N * N) kx) (N * N) (bvs (cl N N f)) * emp)))) (by ac_rfl))).mono ?_
      unfold InvP
      rw [hg]
      clear hg
      rintro e w19 ⟨rfl, s⟩
      clear S
      have sx := s.eq (Q := pts bx (.cells #[.int .i64 (N : Int), .int .i64 (N : Int), .slice (some ⟨gx, 0, none⟩) (N * N) kx] 50) * (fx fa * (mo pa ga ka fa N N f * (row 5 1 (.slice (some ⟨gx, 0, none⟩) (N * N) kx) (N * N) (bvs (cl N N f)) * emp)))) (by ac_rfl)
      have x0 := sx.cell 0
      have x1 := sx.cell 1
      have x2 := sx.cell 2
      simp at x0 x1 x2
      have S := Lib.hid sx
      clear s sx
      go_wp2_with fail
      clear x0 x1 x2
      refine (rinvert_calls N gx kx f (by omega) _ (fun w H s => (s.eq (Q := row 5 1 (.slice (some ⟨gx, 0, none⟩) (N * N) kx) (N * N) (bvs (cl N N f)) * (H * (pts bx (.cells #[.int .i64 (N : Int), .int .i64 (N : Int), .slice (some ⟨gx, 0, none⟩) (N * N) kx] 50) * (fx fa * (mo pa ga ka fa N N f * emp))))) (by ac_rfl)).bs) S.out).mono ?_
      unfold RInvP
      rw [HG.out]
      rintro e w20 ⟨rfl, s⟩
      clear S
      have S := Lib.hid (s.alloc (.cells #[.int .i64 0, .int .i64 0, .slice none 0 0] 50))
      clear s
      go_wp2_with fail
      refine (awakex _ S.out).mono ?_
      rintro e wq ⟨rfl, sq⟩
      clear S
      have S := Lib.hid sq
      clear sq
      go_wp2_with fail
      go_ret
      exact ⟨rfl, S.out.below⟩
    | some x =>
      obtain ⟨A, Bm⟩ := x
      have HG := Lib.hid hg
      have HE1 := Lib.hid (show cl N N (mmul N f Bm) = cl N N unit from cl_congr fun i j hi hj => (gj_some hg).2.1 i j hi hj)
      have HE2 := Lib.hid (show cl N N (mmul N Bm f) = cl N N unit from cl_congr fun i j hi hj => (gj_some hg).1 i j hi hj)
      refine (inv_calls pa ga ka fa N f (by omega) _ (S.out.eq (Q := fx fa * (mo pa ga ka fa N N f * (pts bx (.cells #[.int .i64 (N : Int), .int .i64 (N : Int), .slice (some ⟨gx, 0, none⟩) (N * N) kx] 50) * (row 5 1 (.slice (some ⟨gx, 0, none⟩) (N * N) kx) (N * N) (bvs (cl N N f)) * emp)))) (by ac_rfl))).mono ?_
      unfold InvP
      rw [hg]
      clear hg
      rintro e w19 ⟨pi, rfl, s⟩
      obtain ⟨gi, ki, s⟩ := mt_open s
      clear S
      have sx := s.eq (Q := pts bx (.cells #[.int .i64 (N : Int), .int .i64 (N : Int), .slice (some ⟨gx, 0, none⟩) (N * N) kx] 50) * (mo pi gi ki fa N N Bm * (fx fa * (mo pa ga ka fa N N f * (row 5 1 (.slice (some ⟨gx, 0, none⟩) (N * N) kx) (N * N) (bvs (cl N N f)) * emp))))) (by ac_rfl)
      have x0 := sx.cell 0
      have x1 := sx.cell 1
      have x2 := sx.cell 2
      simp at x0 x1 x2
      have S := Lib.hid sx
      clear s sx
      go_wp2_with fail
      clear x0 x1 x2
      refine (rinvert_calls N gx kx f (by omega) _ (fun w H s => (s.eq (Q := row 5 1 (.slice (some ⟨gx, 0, none⟩) (N * N) kx) (N * N) (bvs (cl N N f)) * (H * (pts bx (.cells #[.int .i64 (N : Int), .int .i64 (N : Int), .slice (some ⟨gx, 0, none⟩) (N * N) kx] 50) * (mo pi gi ki fa N N Bm * (fx fa * (mo pa ga ka fa N N f * emp)))))) (by ac_rfl)).bs) S.out).mono ?_
      unfold RInvP
      rw [HG.out]
      clear HG
      rintro e w20 ⟨gr, rfl, s⟩
      unfold rr at s
      clear S
      have s1 := s.alloc (.cells #[.int .i64 (N : Int), .int .i64 (N : Int), .slice (some ⟨gr, 0, none⟩) (N * N) (N * N)] 50)
      obtain ⟨b2, hb2⟩ : ∃ x, w20.heap.size = x := ⟨_, rfl⟩
      rw [hb2] at s1
      have sx := s1.eq (Q := pts b2 (.cells #[.int .i64 (N : Int), .int .i64 (N : Int), .slice (some ⟨gr, 0, none⟩) (N * N) (N * N)] 50) * (mo pi gi ki fa N N Bm * (fx fa * (mo pa ga ka fa N N f * (row 5 1 (.slice (some ⟨gr, 0, none⟩) (N * N) (N * N)) (N * N) (bvs (cl N N Bm)) * (row 5 1 (.slice (some ⟨gx, 0, none⟩) (N * N) kx) (N * N) (bvs (cl N N f)) * (pts bx (.cells #[.int .i64 (N : Int), .int .i64 (N : Int), .slice (some ⟨gx, 0, none⟩) (N * N) kx] 50) * emp))))))) (by ac_rfl)
      have x0 := sx.cell 0
      have x1 := sx.cell 1
      have x2 := sx.cell 2
      simp at x0 x1 x2
      have S := Lib.hid sx
      clear s s1 sx
      unfold rmv
      go_wp2_with fail
      clear x0 x1 x2
      have S2 := Lib.hid (S.out.eq (Q := mo pi gi ki fa N N Bm * (pts b2 (.cells #[.int .i64 (N : Int), .int .i64 (N : Int), .slice (some ⟨gr, 0, none⟩) (N * N) (N * N)] 50) * (fx fa * (mo pa ga ka fa N N f * (row 5 1 (.slice (some ⟨gr, 0, none⟩) (N * N) (N * N)) (N * N) (bvs (cl N N Bm)) * (row 5 1 (.slice (some ⟨gx, 0, none⟩) (N * N) kx) (N * N) (bvs (cl N N f)) * (pts bx (.cells #[.int .i64 (N : Int), .int .i64 (N : Int), .slice (some ⟨gx, 0, none⟩) (N * N) kx] 50) * emp))))))) (by ac_rfl))
      clear S
      have S := Lib.hid S2.out
      clear S2
      refine (same_true pi gi ki fa N N Bm (by omega) gr (N * N) _ (fun w H s => (s.eq (Q := row 5 1 (.slice (some ⟨gr, 0, none⟩) (N * N) (N * N)) (N * N) (bvs (cl N N Bm)) * (H * (pts b2 (.cells #[.int .i64 (N : Int), .int .i64 (N : Int), .slice (some ⟨gr, 0, none⟩) (N * N) (N * N)] 50) * (fx fa * (mo pa ga ka fa N N f * (row 5 1 (.slice (some ⟨gx, 0, none⟩) (N * N) kx) (N * N) (bvs (cl N N f)) * (pts bx (.cells #[.int .i64 (N : Int), .int .i64 (N : Int), .slice (some ⟨gx, 0, none⟩) (N * N) kx] 50) * emp))))))) (by ac_rfl)).bs) S.out).mono ?_
      rintro e wq ⟨rfl, sq⟩
      clear S
      have S := Lib.hid sq
      clear sq
      go_wp2_with fail
      refine (mul_good pa ga ka fa N N f pi gi ki fa N Bm (by omega) (by omega) (by omega) _ (S.out.eq (Q := fx fa * (mo pa ga ka fa N N f * (mo pi gi ki fa N N Bm * (pts b2 (.cells #[.int .i64 (N : Int), .int .i64 (N : Int), .slice (some ⟨gr, 0, none⟩) (N * N) (N * N)] 50) * (row 5 1 (.slice (some ⟨gr, 0, none⟩) (N * N) (N * N)) (N * N) (bvs (cl N N Bm)) * (row 5 1 (.slice (some ⟨gx, 0, none⟩) (N * N) kx) (N * N) (bvs (cl N N f)) * (pts bx (.cells #[.int .i64 (N : Int), .int .i64 (N : Int), .slice (some ⟨gx, 0, none⟩) (N * N) kx] 50) * emp))))))) (by ac_rfl))).mono ?_
      rintro e w21 ⟨pp, rfl, s⟩
      have s := mt_congr s HE1.out
      obtain ⟨gp, kp, s⟩ := mt_open s
      clear S
      have S := Lib.hid (s.eq (Q := fx fa * (mo pi gi ki fa N N Bm * (mo pa ga ka fa N N f * (mo pp gp kp fa N N unit * (pts b2 (.cells #[.int .i64 (N : Int), .int .i64 (N : Int), .slice (some ⟨gr, 0, none⟩) (N * N) (N * N)] 50) * (row 5 1 (.slice (some ⟨gr, 0, none⟩) (N * N) (N * N)) (N * N) (bvs (cl N N Bm)) * (row 5 1 (.slice (some ⟨gx, 0, none⟩) (N * N) kx) (N * N) (bvs (cl N N f)) * (pts bx (.cells #[.int .i64 (N : Int), .int .i64 (N : Int), .slice (some ⟨gx, 0, none⟩) (N * N) kx] 50) * emp)))))))) (by ac_rfl))
      clear s
      go_wp2_with fail
      refine (mul_good pi gi ki fa N N Bm pa ga ka fa N f (by omega) (by omega) (by omega) _ S.out).mono ?_
      rintro e w22 ⟨pq, rfl, s⟩
      have s := mt_congr s HE2.out
      obtain ⟨gq, kq, s⟩ := mt_open s
      clear S HE1 HE2
      have S := Lib.hid s
      clear s
      go_wp2_with fail
      refine (runit_calls N (by omega) _ S.out).mono ?_
      rintro e w23 ⟨g1, rfl, s⟩
      clear S
      have S := Lib.hid (s.eq (Q := mo pp gp kp fa N N unit * (row 5 1 (.slice (some ⟨g1, 0, none⟩) (N * N) (N * N)) (N * N) (bvs (cl N N unit)) * (mo pq gq kq fa N N unit * (fx fa * (mo pi gi ki fa N N Bm * (mo pa ga ka fa N N f * (pts b2 (.cells #[.int .i64 (N : Int), .int .i64 (N : Int), .slice (some ⟨gr, 0, none⟩) (N * N) (N * N)] 50) * (row 5 1 (.slice (some ⟨gr, 0, none⟩) (N * N) (N * N)) (N * N) (bvs (cl N N Bm)) * (row 5 1 (.slice (some ⟨gx, 0, none⟩) (N * N) kx) (N * N) (bvs (cl N N f)) * (pts bx (.cells #[.int .i64 (N : Int), .int .i64 (N : Int), .slice (some ⟨gx, 0, none⟩) (N * N) kx] 50) * emp)))))))))) (by ac_rfl))
      clear s
      go_wp2_with fail
      refine (same_true pp gp kp fa N N unit (by omega) g1 (N * N) _ (fun w H s => (s.eq (Q := row 5 1 (.slice (some ⟨g1, 0, none⟩) (N * N) (N * N)) (N * N) (bvs (cl N N unit)) * (H * (mo pq gq kq fa N N unit * (fx fa * (mo pi gi ki fa N N Bm * (mo pa ga ka fa N N f * (pts b2 (.cells #[.int .i64 (N : Int), .int .i64 (N : Int), .slice (some ⟨gr, 0, none⟩) (N * N) (N * N)] 50) * (row 5 1 (.slice (some ⟨gr, 0, none⟩) (N * N) (N * N)) (N * N) (bvs (cl N N Bm)) * (row 5 1 (.slice (some ⟨gx, 0, none⟩) (N * N) kx) (N * N) (bvs (cl N N f)) * (pts bx (.cells #[.int .i64 (N : Int), .int .i64 (N : Int), .slice (some ⟨gx, 0, none⟩) (N * N) kx] 50) * emp)))))))))) (by ac_rfl)).bs) S.out).mono ?_
      rintro e wq ⟨rfl, sq⟩
      clear S
      have S := Lib.hid sq
      clear sq
      go_wp2_with fail
      refine (runit_calls N (by omega) _ S.out).mono ?_
      rintro e w24 ⟨g2, rfl, s⟩
      clear S
      have S := Lib.hid (s.eq (Q := mo pq gq kq fa N N unit * (row 5 1 (.slice (some ⟨g2, 0, none⟩) (N * N) (N * N)) (N * N) (bvs (cl N N unit)) * (mo pp gp kp fa N N unit * (row 5 1 (.slice (some ⟨g1, 0, none⟩) (N * N) (N * N)) (N * N) (bvs (cl N N unit)) * (fx fa * (mo pi gi ki fa N N Bm * (mo pa ga ka fa N N f * (pts b2 (.cells #[.int .i64 (N : Int), .int .i64 (N : Int), .slice (some ⟨gr, 0, none⟩) (N * N) (N * N)] 50) * (row 5 1 (.slice (some ⟨gr, 0, none⟩) (N * N) (N * N)) (N * N) (bvs (cl N N Bm)) * (row 5 1 (.slice (some ⟨gx, 0, none⟩) (N * N) kx) (N * N) (bvs (cl N N f)) * (pts bx (.cells #[.int .i64 (N : Int), .int .i64 (N : Int), .slice (some ⟨gx, 0, none⟩) (N * N) kx] 50) * emp))))))))))) (by ac_rfl))
      clear s
      go_wp2_with fail
      refine (same_true pq gq kq fa N N unit (by omega) g2 (N * N) _ (fun w H s => (s.eq (Q := row 5 1 (.slice (some ⟨g2, 0, none⟩) (N * N) (N * N)) (N * N) (bvs (cl N N unit)) * (H * (mo pp gp kp fa N N unit * (row 5 1 (.slice (some ⟨g1, 0, none⟩) (N * N) (N * N)) (N * N) (bvs (cl N N unit)) * (fx fa * (mo pi gi ki fa N N Bm * (mo pa ga ka fa N N f * (pts b2 (.cells #[.int .i64 (N : Int), .int .i64 (N : Int), .slice (some ⟨gr, 0, none⟩) (N * N) (N * N)] 50) * (row 5 1 (.slice (some ⟨gr, 0, none⟩) (N * N) (N * N)) (N * N) (bvs (cl N N Bm)) * (row 5 1 (.slice (some ⟨gx, 0, none⟩) (N * N) kx) (N * N) (bvs (cl N N f)) * (pts bx (.cells #[.int .i64 (N : Int), .int .i64 (N : Int), .slice (some ⟨gx, 0, none⟩) (N * N) kx] 50) * emp))))))))))) (by ac_rfl)).bs) S.out).mono ?_
      rintro e wq ⟨rfl, sq⟩
      clear S
      have S := Lib.hid sq
      clear sq
      go_wp2_with fail
      refine (awakex _ S.out).mono ?_
      rintro e wq ⟨rfl, sq⟩
      clear S
      have S := Lib.hid sq
      clear sq
      go_wp2_with fail
      go_ret
      exact ⟨rfl, S.out.below⟩
  · by_cases h1 : 1 < N
    · have g1 : (1 : Int) < (N : Int) := by omega
      have g2 : N + N ≤ N * N := by have := Nat.mul_le_mul_right N h1; omega
      clear h1
      go_enter Try.func10, Try.ntmps10
      go_wp2_with fail
      refine (make1_calls N N (by omega) a la.length ca la (by omega) _ (reads_arg _ HA.out) (St.init w0)).mono ?_
      rintro e w2 ⟨gx, kx, rfl, s⟩
      have hxl := cl_len N N (m1 N la)
      generalize cl N N (m1 N la) = xs at hxl s
      have hcap := (St.row1 s).2.2.1
      have s1 := s.alloc (.cells #[.int .i64 (N : Int), .int .i64 (N : Int), .slice (some ⟨gx, 0, none⟩) (N * N) kx] 50)
      have S := Lib.hid s1
      clear s s1
      unfold rmv
      go_wp2_with fail
      generalize w2.heap.size = bx at *
      have HC := Lib.hid (show (∀ w : World, (Instr.sliceAt 36 (.slice (some ⟨gx, 0, none⟩) (N * N) kx) (some (.int .i64 (N : Int))) (some (.int .i64 (2 * (N : Int)))) none).run Try.prog w = .ok (.slice (some ⟨gx, N, none⟩) N (kx - N)) w) ∧
          (∀ w : World, (Instr.sliceAt 36 (.slice (some ⟨gx, 0, none⟩) (N * N) kx) none (some (.int .i64 (N : Int))) none).run Try.prog w = .ok (.slice (some ⟨gx, 0, none⟩) N kx) w) from by
        refine ⟨fun w => ?_, fun w => ?_⟩
        · have hsl := run_slice_sl (P := Try.prog) tB w (some ⟨gx, 0, none⟩) (N * N) kx (some (.int .i64 ((N : Nat) : Int))) (some (.int .i64 ((N + N : Nat) : Int))) N (N + N) (.inr ⟨_, rfl⟩) (.inr ⟨_, rfl⟩) (by omega) (by omega)
          rw [if_neg (by omega), Nat.mul_one, show N + N - N = N by omega] at hsl
          rw [show (2 : Int) * (N : Int) = ((N + N : Nat) : Int) by push_cast; omega]
          exact hsl.trans (by simp [Addr.add_lit])
        · have hsl := run_slice_sl (P := Try.prog) tB w (some ⟨gx, 0, none⟩) (N * N) kx none (some (.int .i64 ((N : Nat) : Int))) 0 N (.inl ⟨rfl, rfl⟩) (.inr ⟨_, rfl⟩) (by omega) (by omega)
          rw [if_neg (by omega), Nat.mul_one] at hsl
          exact hsl.trans (by simp [Addr.add_lit]))
      have HCP := Lib.hid (show ∀ w', St w0.heap.size w0 w' (pts bx (.cells #[.int .i64 (N : Int), .int .i64 (N : Int), .slice (some ⟨gx, 0, none⟩) (N * N) kx] 50) * (row 5 1 (.slice (some ⟨gx, 0, none⟩) (N * N) kx) (N * N) (bvs (xs)) * emp)) → ∃ w2, (Builtin.copy_ #[36, 36] 3 #[.slice (some ⟨gx, N, none⟩) N (kx - N), .slice (some ⟨gx, 0, none⟩) N kx]).run Try.prog w' = .ok (.int .i64 (N : Int)) w2 ∧
          St w0.heap.size w0 w2 (pts bx (.cells #[.int .i64 (N : Int), .int .i64 (N : Int), .slice (some ⟨gx, 0, none⟩) (N * N) kx] 50) * (row 5 1 (.slice (some ⟨gx, 0, none⟩) (N * N) kx) (N * N) (bvs (xs.take N ++ xs.take N ++ xs.drop (N + N))) * emp)) from by
        intro w' s
        have s' := s.eq (sep_left_comm _ _ _)
        have hl : (xs.take N).length = N := by rw [List.length_take, hxl]; omega
        have hb := (St.bs s').sub 0 N (by omega) (by rw [hxl]; omega)
        rw [Nat.sub_zero, Nat.sub_zero, List.drop_zero] at hb
        have hb2 : BS w' (.slice (some ⟨gx, 0, none⟩) (xs.take N).length kx) (xs.take N) := by
          rw [hl]
          unfold subA at hb
          rw [if_neg (by omega)] at hb
          simpa [Addr.add_lit] using hb
        obtain ⟨w2, r1, r2⟩ := copy_st (P := Try.prog) (dT := 36) (sT := 36) (ty := 3) Try.underlying36 (by kernel_rfl) s' N N (kx - N) (some ⟨gx, 0, none⟩) kx (xs.take N) hb2 (by omega) (by omega)
        rw [hl] at r1 r2
        exact ⟨w2, r1, r2.eq (sep_left_comm _ _ _)⟩)
      have HW := Lib.hid (show IntKind.i64.wrap (2 * (N : Int)) = 2 * (N : Int) from by rw [IntKind.wrap_i64]; omega)
      refine wp_region_rx (fun j w' => St w0.heap.size w0 w' (pts bx (.cells #[.int .i64 (N : Int), .int .i64 (N : Int), .slice (some ⟨gx, 0, none⟩) (N * N) kx] 50) * (row 5 1 (.slice (some ⟨gx, 0, none⟩) (N * N) kx) (N * N) (bvs (if j = 0 then xs else xs.take N ++ xs.take N ++ xs.drop (N + N))) * emp))) [10] mixed (by kernel_rfl) (by kernel_rfl) S.out.drew ?_
      refine RXl.exact (.pointer (some ⟨bx, 2, none⟩)) rfl rfl rfl rfl rfl (fun j τ w' hj hJ => by simp [rho, upd, Spec.val, execOp, go_sem]) ?_
      refine RXl.exactB 0 10 rfl (by kernel_rfl) (.slice (some ⟨gx, 0, none⟩) (N * N) kx) rfl rfl rfl rfl rfl (fun j τ w' hj hJ => by have c := St.cell hJ 2; simp at c; simp [rho, upd, Spec.val, execOp, go_sem, c]) ?_
      refine RXl.exact (.int .i64 (N : Int)) rfl rfl rfl rfl rfl (fun _ _ _ _ _ => rfl) ?_
      refine RXl.exact (.int .i64 (N : Int)) rfl rfl rfl rfl rfl (fun _ _ _ _ _ => rfl) ?_
      refine RXl.exact (.int .i64 (2 * (N : Int))) rfl rfl rfl rfl rfl (fun j τ w' hj hJ => by simp [rho, upd, Spec.val, execOp, go_sem, HW.out]) ?_
      refine RXl.exact (.slice (some ⟨gx, N, none⟩) N (kx - N)) rfl rfl rfl rfl rfl (fun j τ w' hj hJ => by have c := HC.out.1 w'; simp [rho, upd, Spec.val, execOp, c]) ?_
      refine RXl.exact (.pointer (some ⟨bx, 2, none⟩)) rfl rfl rfl rfl rfl (fun j τ w' hj hJ => by simp [rho, upd, Spec.val, execOp, go_sem]) ?_
      refine RXl.exactB 0 10 rfl (by kernel_rfl) (.slice (some ⟨gx, 0, none⟩) (N * N) kx) rfl rfl rfl rfl rfl (fun j τ w' hj hJ => by have c := St.cell hJ 2; simp at c; simp [rho, upd, Spec.val, execOp, go_sem, c]) ?_
      refine RXl.exact (.int .i64 (N : Int)) rfl rfl rfl rfl rfl (fun _ _ _ _ _ => rfl) ?_
      refine RXl.exact (.slice (some ⟨gx, 0, none⟩) N kx) rfl rfl rfl rfl rfl (fun j τ w' hj hJ => by have c := HC.out.2 w'; simp [rho, upd, Spec.val, execOp, c]) ?_
      refine RXl.effk 0 (.int .i64 (N : Int)) rfl rfl rfl rfl rfl (fun w' hJ => (let ⟨w2, r1, r2⟩ := HCP.out w' hJ; ⟨w2, exec_copy rfl r1, r2⟩)) ?_
      refine RXl.nilx _ (Agr.upd _ _ (Agr.upd _ _ (Agr.upd _ _ (Agr.upd _ _ (Agr.upd _ _ (Agr.upd _ _ (Agr.upd _ _ (Agr.upd _ _ (Agr.upd _ _ (Agr.upd _ _ (Agr.upd _ _ (Agr.base _)))))))))))) fun w7 hJ => ?_
      obtain ⟨_, hJ⟩ := hJ
      simp only [Act.put, List.setIfInBounds_toArray, List.set_cons_succ, List.set_cons_zero]
      clear S
      have S := Lib.hid (show St w0.heap.size w0 w7 (pts bx (.cells #[.int .i64 (N : Int), .int .i64 (N : Int), .slice (some ⟨gx, 0, none⟩) (N * N) kx] 50) * (row 5 1 (.slice (some ⟨gx, 0, none⟩) (N * N) kx) (N * N) (bvs (xs.take N ++ xs.take N ++ xs.drop (N + N))) * emp)) from hJ)
      clear hJ HC HCP HW
      have hx2 : (xs.take N ++ xs.take N ++ xs.drop (N + N)).length = N * N := by rw [List.length_append, List.length_append, List.length_take, List.length_drop, hxl]; omega
      rw [← cl_ofl hx2] at S
      generalize ofl N (xs.take N ++ xs.take N ++ xs.drop (N + N)) = f at S
      clear hxl hcap hx2
      go_wp2_with fail
      have HRX := Lib.hid (show Reads w0.heap.size w0 (pts bx (.cells #[.int .i64 (N : Int), .int .i64 (N : Int), .slice (some ⟨gx, 0, none⟩) (N * N) kx] 50) * (row 5 1 (.slice (some ⟨gx, 0, none⟩) (N * N) kx) (N * N) (bvs (cl N N f)) * emp)) (.slice (some ⟨gx, 0, none⟩) (N * N) kx) (cl N N f) from fun w H s => (s.eq (Q := row 5 1 (.slice (some ⟨gx, 0, none⟩) (N * N) kx) (N * N) (bvs (cl N N f)) * (H * (pts bx (.cells #[.int .i64 (N : Int), .int .i64 (N : Int), .slice (some ⟨gx, 0, none⟩) (N * N) kx] 50) * emp))) (by ac_rfl)).bs)
      refine wp_region_rv [57, 62, 56, 63, 10] (PJ w0.heap.size w0 (pts bx (.cells #[.int .i64 (N : Int), .int .i64 (N : Int), .slice (some ⟨gx, 0, none⟩) (N * N) kx] 50) * (row 5 1 (.slice (some ⟨gx, 0, none⟩) (N * N) kx) (N * N) (bvs (cl N N f)) * emp)) NF (NH (N) (N) (f) (pts bx (.cells #[.int .i64 (N : Int), .int .i64 (N : Int), .slice (some ⟨gx, 0, none⟩) (N * N) kx] 50) * (row 5 1 (.slice (some ⟨gx, 0, none⟩) (N * N) kx) (N * N) (bvs (cl N N f)) * emp)))) [0, 5, 6, 7, 9] mixed (by kernel_rfl) (by kernel_rfl) (by kernel_rfl) (fun _ => S.out.drew) ?_
      refine RXl.callV 0 57 rfl rfl rfl (Nat.le_of_ble_eq_true rfl) _ [] _ rfl rfl rfl rfl rfl (PJ.first [] (fun ρ w hag => rfl) (fun _ => rfl) (fun w s => (newx w s).mono fun e w1 ⟨fb, h1, s1⟩ => ⟨(fb, 0, 0, 0), h1, s1⟩)) ?_
      refine RXl.exact (.int .i64 ((N : Nat) : Int)) rfl rfl rfl rfl rfl (fun _ _ _ _ _ => rfl) ?_
      refine RXl.exact (.int .i64 ((N : Nat) : Int)) rfl rfl rfl rfl rfl (fun _ _ _ _ _ => rfl) ?_
      refine RXl.exact (.pointer (some ⟨bx, 2, none⟩)) rfl rfl rfl rfl rfl (fun j τ w' hj hJ => (by obtain ⟨vs, hv, hJ⟩ := hJ; exact (by simp [rho, upd, Spec.val, execOp, go_sem]))) ?_
      refine RXl.exact (.slice (some ⟨gx, 0, none⟩) ((N) * (N)) kx) rfl rfl rfl rfl rfl (fun j τ w' hj hJ => (by obtain ⟨vs, hv, hJ⟩ := hJ; exact (by obtain ⟨Z, q⟩ := NJ_x hJ; have c := (q.eq (sep_assoc _ _ _)).cell 2; simp at c; simp [rho, upd, Spec.val, execOp, go_sem, c]))) ?_
      refine RXl.callV 1 62 rfl rfl rfl (Nat.le_of_ble_eq_true rfl) _ [.tmp 57, .tmp 58, .tmp 59, .tmp 61] _ rfl rfl rfl rfl rfl (NJ_new (some ⟨gx, 0, none⟩) ((N) * (N)) kx (by omega) (by omega) HRX.out (fun ρ a w h hag => by simp [h 0 57 (by decide) rfl, hag.ex 58 _ rfl rfl rfl, hag.ex 59 _ rfl rfl rfl, hag.ex 61 _ rfl rfl rfl, NF])) ?_
      refine RXl.effV 2 56 rfl rfl rfl (Nat.le_of_ble_eq_true rfl) rfl rfl rfl rfl (PJ.pass rfl (fun ρ a w h hag s => by have e := h 1 62 (by decide) rfl; exact (exec_move rfl).trans (by rw [e]; rfl))) ?_
      refine RXl.effV 3 63 rfl rfl rfl (Nat.le_of_ble_eq_true rfl) rfl rfl rfl rfl (PJ.pass rfl (fun ρ a w h hag s => by have e := h 2 56 (by decide) rfl; exact exec_extract rfl e rfl)) ?_
      refine RXl.value (.ex (.int .i64 0)) (Free.ex _) rfl rfl rfl rfl (fun ρ w' j hj hI hag => ⟨_, (by obtain ⟨a, e⟩ := PJ.val (hag.so 56 _ rfl rfl rfl); exact exec_extract rfl e rfl), rfl⟩) ?_
      refine RXl.effV 4 10 rfl rfl rfl (Nat.le_of_ble_eq_true rfl) rfl rfl rfl rfl (PJ.pass rfl (fun ρ a w h hag s => by have e := h 3 63 (by decide) rfl; exact (exec_assign rfl).trans (by rw [e]; rfl))) ?_
      refine RXl.exact (.int .i64 0) rfl rfl rfl rfl rfl (fun _ _ _ _ _ => rfl) ?_
      refine RXl.nilV _ (AgrL.upd _ _ (AgrL.unk 10 _ rfl (AgrL.upd _ _ (AgrL.unk 63 _ rfl (AgrL.unk 56 _ rfl (AgrL.unk 62 _ rfl (AgrL.upd _ _ (AgrL.upd _ _ (AgrL.upd _ _ (AgrL.upd _ _ (AgrL.unk 57 _ rfl (AgrL.base _)))))))))))) (by decide) (by decide) fun vs w8 hJ => ?_
      simp only [puts, Act.put, List.setIfInBounds_toArray, List.set_cons_succ, List.set_cons_zero]
      obtain ⟨⟨fa, pa, ga, ka⟩, hv, s9⟩ := hJ
      rw [show vs 0 = NF 0 (fa, pa, ga, ka) from hv 0 (by decide), show vs 1 = NF 1 (fa, pa, ga, ka) from hv 1 (by decide), show vs 2 = NF 2 (fa, pa, ga, ka) from hv 2 (by decide), show vs 3 = .pointer (some ⟨pa, 0, none⟩) from hv 3 (by decide), show vs 4 = .pointer (some ⟨pa, 0, none⟩) from hv 4 (by decide)]
      generalize NF 0 (fa, pa, ga, ka) = y0
      generalize NF 1 (fa, pa, ga, ka) = y1
      generalize NF 2 (fa, pa, ga, ka) = y2
      clear S hv HRX vs
      have S := Lib.hid (show St w0.heap.size w0 w8 (mo pa ga ka fa (N) (N) (f) * (fx fa * (pts bx (.cells #[.int .i64 (N : Int), .int .i64 (N : Int), .slice (some ⟨gx, 0, none⟩) (N * N) kx] 50) * (row 5 1 (.slice (some ⟨gx, 0, none⟩) (N * N) kx) (N * N) (bvs (cl N N f)) * emp)))) from s9)
      clear s9
      go_wp2_with fail
      cases hg : gj N f N with
      | none =>
        have HG := Lib.hid hg
        refine (inv_calls pa ga ka fa N f (by omega) _ (S.out.eq (Q := fx fa * (mo pa ga ka fa N N f * (pts bx (.cells #[.int .i64 (N : Int), .int .i64 (N : Int), .slice (some ⟨gx, 0, none⟩) (N * N) kx] 50) * (row 5 1 (.slice (some ⟨gx, 0, none⟩) (N * N) kx) (N * N) (bvs (cl N N f)) * emp)))) (by ac_rfl))).mono ?_
        unfold InvP
        rw [hg]
        clear hg
        rintro e w19 ⟨rfl, s⟩
        clear S
        have sx := s.eq (Q := pts bx (.cells #[.int .i64 (N : Int), .int .i64 (N : Int), .slice (some ⟨gx, 0, none⟩) (N * N) kx] 50) * (fx fa * (mo pa ga ka fa N N f * (row 5 1 (.slice (some ⟨gx, 0, none⟩) (N * N) kx) (N * N) (bvs (cl N N f)) * emp)))) (by ac_rfl)
        have x0 := sx.cell 0
        have x1 := sx.cell 1
        have x2 := sx.cell 2
        simp at x0 x1 x2
        have S := Lib.hid sx
        clear s sx
        go_wp2_with fail
        clear x0 x1 x2
        refine (rinvert_calls N gx kx f (by omega) _ (fun w H s => (s.eq (Q := row 5 1 (.slice (some ⟨gx, 0, none⟩) (N * N) kx) (N * N) (bvs (cl N N f)) * (H * (pts bx (.cells #[.int .i64 (N : Int), .int .i64 (N : Int), .slice (some ⟨gx, 0, none⟩) (N * N) kx] 50) * (fx fa * (mo pa ga ka fa N N f * emp))))) (by ac_rfl)).bs) S.out).mono ?_
        unfold RInvP
        rw [HG.out]
        rintro e w20 ⟨rfl, s⟩
        clear S
        have S := Lib.hid (s.alloc (.cells #[.int .i64 0, .int .i64 0, .slice none 0 0] 50))
        clear s
        go_wp2_with fail
        refine (awakex _ S.out).mono ?_
        rintro e wq ⟨rfl, sq⟩
        clear S
        have S := Lib.hid sq
        clear sq
        go_wp2_with fail
        go_ret
        exact ⟨rfl, S.out.below⟩
      | some x =>
        obtain ⟨A, Bm⟩ := x
        have HG := Lib.hid hg
        have HE1 := Lib.hid (show cl N N (mmul N f Bm) = cl N N unit from cl_congr fun i j hi hj => (gj_some hg).2.1 i j hi hj)
        have HE2 := Lib.hid (show cl N N (mmul N Bm f) = cl N N unit from cl_congr fun i j hi hj => (gj_some hg).1 i j hi hj)
        refine (inv_calls pa ga ka fa N f (by omega) _ (S.out.eq (Q := fx fa * (mo pa ga ka fa N N f * (pts bx (.cells #[.int .i64 (N : Int), .int .i64 (N : Int), .slice (some ⟨gx, 0, none⟩) (N * N) kx] 50) * (row 5 1 (.slice (some ⟨gx, 0, none⟩) (N * N) kx) (N * N) (bvs (cl N N f)) * emp)))) (by ac_rfl))).mono ?_
        unfold InvP
        rw [hg]
        clear hg
        rintro e w19 ⟨pi, rfl, s⟩
        obtain ⟨gi, ki, s⟩ := mt_open s
        clear S
        have sx := s.eq (Q := pts bx (.cells #[.int .i64 (N : Int), .int .i64 (N : Int), .slice (some ⟨gx, 0, none⟩) (N * N) kx] 50) * (mo pi gi ki fa N N Bm * (fx fa * (mo pa ga ka fa N N f * (row 5 1 (.slice (some ⟨gx, 0, none⟩) (N * N) kx) (N * N) (bvs (cl N N f)) * emp))))) (by ac_rfl)
        have x0 := sx.cell 0
        have x1 := sx.cell 1
        have x2 := sx.cell 2
        simp at x0 x1 x2
        have S := Lib.hid sx
        clear s sx
        go_wp2_with fail
        clear x0 x1 x2
        refine (rinvert_calls N gx kx f (by omega) _ (fun w H s => (s.eq (Q := row 5 1 (.slice (some ⟨gx, 0, none⟩) (N * N) kx) (N * N) (bvs (cl N N f)) * (H * (pts bx (.cells #[.int .i64 (N : Int), .int .i64 (N : Int), .slice (some ⟨gx, 0, none⟩) (N * N) kx] 50) * (mo pi gi ki fa N N Bm * (fx fa * (mo pa ga ka fa N N f * emp)))))) (by ac_rfl)).bs) S.out).mono ?_
        unfold RInvP
        rw [HG.out]
        clear HG
        rintro e w20 ⟨gr, rfl, s⟩
        unfold rr at s
        clear S
        have s1 := s.alloc (.cells #[.int .i64 (N : Int), .int .i64 (N : Int), .slice (some ⟨gr, 0, none⟩) (N * N) (N * N)] 50)
        obtain ⟨b2, hb2⟩ : ∃ x, w20.heap.size = x := ⟨_, rfl⟩
        rw [hb2] at s1
        have sx := s1.eq (Q := pts b2 (.cells #[.int .i64 (N : Int), .int .i64 (N : Int), .slice (some ⟨gr, 0, none⟩) (N * N) (N * N)] 50) * (mo pi gi ki fa N N Bm * (fx fa * (mo pa ga ka fa N N f * (row 5 1 (.slice (some ⟨gr, 0, none⟩) (N * N) (N * N)) (N * N) (bvs (cl N N Bm)) * (row 5 1 (.slice (some ⟨gx, 0, none⟩) (N * N) kx) (N * N) (bvs (cl N N f)) * (pts bx (.cells #[.int .i64 (N : Int), .int .i64 (N : Int), .slice (some ⟨gx, 0, none⟩) (N * N) kx] 50) * emp))))))) (by ac_rfl)
        have x0 := sx.cell 0
        have x1 := sx.cell 1
        have x2 := sx.cell 2
        simp at x0 x1 x2
        have S := Lib.hid sx
        clear s s1 sx
        unfold rmv
        go_wp2_with fail
        clear x0 x1 x2
        have S2 := Lib.hid (S.out.eq (Q := mo pi gi ki fa N N Bm * (pts b2 (.cells #[.int .i64 (N : Int), .int .i64 (N : Int), .slice (some ⟨gr, 0, none⟩) (N * N) (N * N)] 50) * (fx fa * (mo pa ga ka fa N N f * (row 5 1 (.slice (some ⟨gr, 0, none⟩) (N * N) (N * N)) (N * N) (bvs (cl N N Bm)) * (row 5 1 (.slice (some ⟨gx, 0, none⟩) (N * N) kx) (N * N) (bvs (cl N N f)) * (pts bx (.cells #[.int .i64 (N : Int), .int .i64 (N : Int), .slice (some ⟨gx, 0, none⟩) (N * N) kx] 50) * emp))))))) (by ac_rfl))
        clear S
        have S := Lib.hid S2.out
        clear S2
        refine (same_true pi gi ki fa N N Bm (by omega) gr (N * N) _ (fun w H s => (s.eq (Q := row 5 1 (.slice (some ⟨gr, 0, none⟩) (N * N) (N * N)) (N * N) (bvs (cl N N Bm)) * (H * (pts b2 (.cells #[.int .i64 (N : Int), .int .i64 (N : Int), .slice (some ⟨gr, 0, none⟩) (N * N) (N * N)] 50) * (fx fa * (mo pa ga ka fa N N f * (row 5 1 (.slice (some ⟨gx, 0, none⟩) (N * N) kx) (N * N) (bvs (cl N N f)) * (pts bx (.cells #[.int .i64 (N : Int), .int .i64 (N : Int), .slice (some ⟨gx, 0, none⟩) (N * N) kx] 50) * emp))))))) (by ac_rfl)).bs) S.out).mono ?_
        rintro e wq ⟨rfl, sq⟩
        clear S
        have S := Lib.hid sq
        clear sq
        go_wp2_with fail
        refine (mul_good pa ga ka fa N N f pi gi ki fa N Bm (by omega) (by omega) (by omega) _ (S.out.eq (Q := fx fa * (mo pa ga ka fa N N f * (mo pi gi ki fa N N Bm * (pts b2 (.cells #[.int .i64 (N : Int), .int .i64 (N : Int), .slice (some ⟨gr, 0, none⟩) (N * N) (N * N)] 50) * (row 5 1 (.slice (some ⟨gr, 0, none⟩) (N * N) (N * N)) (N * N) (bvs (cl N N Bm)) * (row 5 1 (.slice (some ⟨gx, 0, none⟩) (N * N) kx) (N * N) (bvs (cl N N f)) * (pts bx (.cells #[.int .i64 (N : Int), .int .i64 (N : Int), .slice (some ⟨gx, 0, none⟩) (N * N) kx] 50) * emp))))))) (by ac_rfl))).mono ?_
        rintro e w21 ⟨pp, rfl, s⟩
        have s := mt_congr s HE1.out
        obtain ⟨gp, kp, s⟩ := mt_open s
        clear S
        have S := Lib.hid (s.eq (Q := fx fa * (mo pi gi ki fa N N Bm * (mo pa ga ka fa N N f * (mo pp gp kp fa N N unit * (pts b2 (.cells #[.int .i64 (N : Int), .int .i64 (N : Int), .slice (some ⟨gr, 0, none⟩) (N * N) (N * N)] 50) * (row 5 1 (.slice (some ⟨gr, 0, none⟩) (N * N) (N * N)) (N * N) (bvs (cl N N Bm)) * (row 5 1 (.slice (some ⟨gx, 0, none⟩) (N * N) kx) (N * N) (bvs (cl N N f)) * (pts bx (.cells #[.int .i64 (N : Int), .int .i64 (N : Int), .slice (some ⟨gx, 0, none⟩) (N * N) kx] 50) * emp)))))))) (by ac_rfl))
        clear s
        go_wp2_with fail
        refine (mul_good pi gi ki fa N N Bm pa ga ka fa N f (by omega) (by omega) (by omega) _ S.out).mono ?_
        rintro e w22 ⟨pq, rfl, s⟩
        have s := mt_congr s HE2.out
        obtain ⟨gq, kq, s⟩ := mt_open s
        clear S HE1 HE2
        have S := Lib.hid s
        clear s
        go_wp2_with fail
        refine (runit_calls N (by omega) _ S.out).mono ?_
        rintro e w23 ⟨g1, rfl, s⟩
        clear S
        have S := Lib.hid (s.eq (Q := mo pp gp kp fa N N unit * (row 5 1 (.slice (some ⟨g1, 0, none⟩) (N * N) (N * N)) (N * N) (bvs (cl N N unit)) * (mo pq gq kq fa N N unit * (fx fa * (mo pi gi ki fa N N Bm * (mo pa ga ka fa N N f * (pts b2 (.cells #[.int .i64 (N : Int), .int .i64 (N : Int), .slice (some ⟨gr, 0, none⟩) (N * N) (N * N)] 50) * (row 5 1 (.slice (some ⟨gr, 0, none⟩) (N * N) (N * N)) (N * N) (bvs (cl N N Bm)) * (row 5 1 (.slice (some ⟨gx, 0, none⟩) (N * N) kx) (N * N) (bvs (cl N N f)) * (pts bx (.cells #[.int .i64 (N : Int), .int .i64 (N : Int), .slice (some ⟨gx, 0, none⟩) (N * N) kx] 50) * emp)))))))))) (by ac_rfl))
        clear s
        go_wp2_with fail
        refine (same_true pp gp kp fa N N unit (by omega) g1 (N * N) _ (fun w H s => (s.eq (Q := row 5 1 (.slice (some ⟨g1, 0, none⟩) (N * N) (N * N)) (N * N) (bvs (cl N N unit)) * (H * (mo pq gq kq fa N N unit * (fx fa * (mo pi gi ki fa N N Bm * (mo pa ga ka fa N N f * (pts b2 (.cells #[.int .i64 (N : Int), .int .i64 (N : Int), .slice (some ⟨gr, 0, none⟩) (N * N) (N * N)] 50) * (row 5 1 (.slice (some ⟨gr, 0, none⟩) (N * N) (N * N)) (N * N) (bvs (cl N N Bm)) * (row 5 1 (.slice (some ⟨gx, 0, none⟩) (N * N) kx) (N * N) (bvs (cl N N f)) * (pts bx (.cells #[.int .i64 (N : Int), .int .i64 (N : Int), .slice (some ⟨gx, 0, none⟩) (N * N) kx] 50) * emp)))))))))) (by ac_rfl)).bs) S.out).mono ?_
        rintro e wq ⟨rfl, sq⟩
        clear S
        have S := Lib.hid sq
        clear sq
        go_wp2_with fail
        refine (runit_calls N (by omega) _ S.out).mono ?_
        rintro e w24 ⟨g2, rfl, s⟩
        clear S
        have S := Lib.hid (s.eq (Q := mo pq gq kq fa N N unit * (row 5 1 (.slice (some ⟨g2, 0, none⟩) (N * N) (N * N)) (N * N) (bvs (cl N N unit)) * (mo pp gp kp fa N N unit * (row 5 1 (.slice (some ⟨g1, 0, none⟩) (N * N) (N * N)) (N * N) (bvs (cl N N unit)) * (fx fa * (mo pi gi ki fa N N Bm * (mo pa ga ka fa N N f * (pts b2 (.cells #[.int .i64 (N : Int), .int .i64 (N : Int), .slice (some ⟨gr, 0, none⟩) (N * N) (N * N)] 50) * (row 5 1 (.slice (some ⟨gr, 0, none⟩) (N * N) (N * N)) (N * N) (bvs (cl N N Bm)) * (row 5 1 (.slice (some ⟨gx, 0, none⟩) (N * N) kx) (N * N) (bvs (cl N N f)) * (pts bx (.cells #[.int .i64 (N : Int), .int .i64 (N : Int), .slice (some ⟨gx, 0, none⟩) (N * N) kx] 50) * emp))))))))))) (by ac_rfl))
        clear s
        go_wp2_with fail
        refine (same_true pq gq kq fa N N unit (by omega) g2 (N * N) _ (fun w H s => (s.eq (Q := row 5 1 (.slice (some ⟨g2, 0, none⟩) (N * N) (N * N)) (N * N) (bvs (cl N N unit)) * (H * (mo pp gp kp fa N N unit * (row 5 1 (.slice (some ⟨g1, 0, none⟩) (N * N) (N * N)) (N * N) (bvs (cl N N unit)) * (fx fa * (mo pi gi ki fa N N Bm * (mo pa ga ka fa N N f * (pts b2 (.cells #[.int .i64 (N : Int), .int .i64 (N : Int), .slice (some ⟨gr, 0, none⟩) (N * N) (N * N)] 50) * (row 5 1 (.slice (some ⟨gr, 0, none⟩) (N * N) (N * N)) (N * N) (bvs (cl N N Bm)) * (row 5 1 (.slice (some ⟨gx, 0, none⟩) (N * N) kx) (N * N) (bvs (cl N N f)) * (pts bx (.cells #[.int .i64 (N : Int), .int .i64 (N : Int), .slice (some ⟨gx, 0, none⟩) (N * N) kx] 50) * emp))))))))))) (by ac_rfl)).bs) S.out).mono ?_
        rintro e wq ⟨rfl, sq⟩
        clear S
        have S := Lib.hid sq
        clear sq
        go_wp2_with fail
        refine (awakex _ S.out).mono ?_
        rintro e wq ⟨rfl, sq⟩
        clear S
        have S := Lib.hid sq
        clear sq
        go_wp2_with fail
        go_ret
        exact ⟨rfl, S.out.below⟩
    · have g1 : (N : Int) ≤ 1 := by omega
      clear h1
      go_enter Try.func10, Try.ntmps10
      go_wp2_with fail
      refine (make1_calls N N (by omega) a la.length ca la (by omega) _ (reads_arg _ HA.out) (St.init w0)).mono ?_
      rintro e w2 ⟨gx, kx, rfl, s⟩
      have hxl := cl_len N N (m1 N la)
      generalize cl N N (m1 N la) = xs at hxl s
      have hcap := (St.row1 s).2.2.1
      have s1 := s.alloc (.cells #[.int .i64 (N : Int), .int .i64 (N : Int), .slice (some ⟨gx, 0, none⟩) (N * N) kx] 50)
      have S := Lib.hid s1
      clear s s1
      unfold rmv
      go_wp2_with fail
      generalize w2.heap.size = bx at *
      rw [← cl_ofl hxl] at S
      generalize ofl N xs = f at S
      clear hxl hcap
      have HRX := Lib.hid (show Reads w0.heap.size w0 (pts bx (.cells #[.int .i64 (N : Int), .int .i64 (N : Int), .slice (some ⟨gx, 0, none⟩) (N * N) kx] 50) * (row 5 1 (.slice (some ⟨gx, 0, none⟩) (N * N) kx) (N * N) (bvs (cl N N f)) * emp)) (.slice (some ⟨gx, 0, none⟩) (N * N) kx) (cl N N f) from fun w H s => (s.eq (Q := row 5 1 (.slice (some ⟨gx, 0, none⟩) (N * N) kx) (N * N) (bvs (cl N N f)) * (H * (pts bx (.cells #[.int .i64 (N : Int), .int .i64 (N : Int), .slice (some ⟨gx, 0, none⟩) (N * N) kx] 50) * emp))) (by ac_rfl)).bs)
      refine wp_region_rv [57, 62, 56, 63, 10] (PJ w0.heap.size w0 (pts bx (.cells #[.int .i64 (N : Int), .int .i64 (N : Int), .slice (some ⟨gx, 0, none⟩) (N * N) kx] 50) * (row 5 1 (.slice (some ⟨gx, 0, none⟩) (N * N) kx) (N * N) (bvs (cl N N f)) * emp)) NF (NH (N) (N) (f) (pts bx (.cells #[.int .i64 (N : Int), .int .i64 (N : Int), .slice (some ⟨gx, 0, none⟩) (N * N) kx] 50) * (row 5 1 (.slice (some ⟨gx, 0, none⟩) (N * N) kx) (N * N) (bvs (cl N N f)) * emp)))) [0, 5, 6, 7, 9] mixed (by kernel_rfl) (by kernel_rfl) (by kernel_rfl) (fun _ => S.out.drew) ?_
      refine RXl.callV 0 57 rfl rfl rfl (Nat.le_of_ble_eq_true rfl) _ [] _ rfl rfl rfl rfl rfl (PJ.first [] (fun ρ w hag => rfl) (fun _ => rfl) (fun w s => (newx w s).mono fun e w1 ⟨fb, h1, s1⟩ => ⟨(fb, 0, 0, 0), h1, s1⟩)) ?_
      refine RXl.exact (.int .i64 ((N : Nat) : Int)) rfl rfl rfl rfl rfl (fun _ _ _ _ _ => rfl) ?_
      refine RXl.exact (.int .i64 ((N : Nat) : Int)) rfl rfl rfl rfl rfl (fun _ _ _ _ _ => rfl) ?_
      refine RXl.exact (.pointer (some ⟨bx, 2, none⟩)) rfl rfl rfl rfl rfl (fun j τ w' hj hJ => (by obtain ⟨vs, hv, hJ⟩ := hJ; exact (by simp [rho, upd, Spec.val, execOp, go_sem]))) ?_
      refine RXl.exact (.slice (some ⟨gx, 0, none⟩) ((N) * (N)) kx) rfl rfl rfl rfl rfl (fun j τ w' hj hJ => (by obtain ⟨vs, hv, hJ⟩ := hJ; exact (by obtain ⟨Z, q⟩ := NJ_x hJ; have c := (q.eq (sep_assoc _ _ _)).cell 2; simp at c; simp [rho, upd, Spec.val, execOp, go_sem, c]))) ?_
      refine RXl.callV 1 62 rfl rfl rfl (Nat.le_of_ble_eq_true rfl) _ [.tmp 57, .tmp 58, .tmp 59, .tmp 61] _ rfl rfl rfl rfl rfl (NJ_new (some ⟨gx, 0, none⟩) ((N) * (N)) kx (by omega) (by omega) HRX.out (fun ρ a w h hag => by simp [h 0 57 (by decide) rfl, hag.ex 58 _ rfl rfl rfl, hag.ex 59 _ rfl rfl rfl, hag.ex 61 _ rfl rfl rfl, NF])) ?_
      refine RXl.effV 2 56 rfl rfl rfl (Nat.le_of_ble_eq_true rfl) rfl rfl rfl rfl (PJ.pass rfl (fun ρ a w h hag s => by have e := h 1 62 (by decide) rfl; exact (exec_move rfl).trans (by rw [e]; rfl))) ?_
      refine RXl.effV 3 63 rfl rfl rfl (Nat.le_of_ble_eq_true rfl) rfl rfl rfl rfl (PJ.pass rfl (fun ρ a w h hag s => by have e := h 2 56 (by decide) rfl; exact exec_extract rfl e rfl)) ?_
      refine RXl.value (.ex (.int .i64 0)) (Free.ex _) rfl rfl rfl rfl (fun ρ w' j hj hI hag => ⟨_, (by obtain ⟨a, e⟩ := PJ.val (hag.so 56 _ rfl rfl rfl); exact exec_extract rfl e rfl), rfl⟩) ?_
      refine RXl.effV 4 10 rfl rfl rfl (Nat.le_of_ble_eq_true rfl) rfl rfl rfl rfl (PJ.pass rfl (fun ρ a w h hag s => by have e := h 3 63 (by decide) rfl; exact (exec_assign rfl).trans (by rw [e]; rfl))) ?_
      refine RXl.exact (.int .i64 0) rfl rfl rfl rfl rfl (fun _ _ _ _ _ => rfl) ?_
      refine RXl.nilV _ (AgrL.upd _ _ (AgrL.unk 10 _ rfl (AgrL.upd _ _ (AgrL.unk 63 _ rfl (AgrL.unk 56 _ rfl (AgrL.unk 62 _ rfl (AgrL.upd _ _ (AgrL.upd _ _ (AgrL.upd _ _ (AgrL.upd _ _ (AgrL.unk 57 _ rfl (AgrL.base _)))))))))))) (by decide) (by decide) fun vs w8 hJ => ?_
      simp only [puts, Act.put, List.setIfInBounds_toArray, List.set_cons_succ, List.set_cons_zero]
      obtain ⟨⟨fa, pa, ga, ka⟩, hv, s9⟩ := hJ
      rw [show vs 0 = NF 0 (fa, pa, ga, ka) from hv 0 (by decide), show vs 1 = NF 1 (fa, pa, ga, ka) from hv 1 (by decide), show vs 2 = NF 2 (fa, pa, ga, ka) from hv 2 (by decide), show vs 3 = .pointer (some ⟨pa, 0, none⟩) from hv 3 (by decide), show vs 4 = .pointer (some ⟨pa, 0, none⟩) from hv 4 (by decide)]
      generalize NF 0 (fa, pa, ga, ka) = y0
      generalize NF 1 (fa, pa, ga, ka) = y1
      generalize NF 2 (fa, pa, ga, ka) = y2
      clear S hv HRX vs
      have S := Lib.hid (show St w0.heap.size w0 w8 (mo pa ga ka fa (N) (N) (f) * (fx fa * (pts bx (.cells #[.int .i64 (N : Int), .int .i64 (N : Int), .slice (some ⟨gx, 0, none⟩) (N * N) kx] 50) * (row 5 1 (.slice (some ⟨gx, 0, none⟩) (N * N) kx) (N * N) (bvs (cl N N f)) * emp)))) from s9)
      clear s9
      go_wp2_with fail
      cases hg : gj N f N with
      | none =>
        have HG := Lib.hid hg
        refine (inv_calls pa ga ka fa N f (by omega) _ (S.out.eq (Q := fx fa * (mo pa ga ka fa N N f * (pts bx (.cells #[.int .i64 (N : Int), .int .i64 (N : Int), .slice (some ⟨gx, 0, none⟩) (N * N) kx] 50) * (row 5 1 (.slice (some ⟨gx, 0, none⟩) (N * N) kx) (N * N) (bvs (cl N N f)) * emp)))) (by ac_rfl))).mono ?_
        unfold InvP
        rw [hg]
        clear hg
        rintro e w19 ⟨rfl, s⟩
        clear S
        have sx := s.eq (Q := pts bx (.cells #[.int .i64 (N : Int), .int .i64 (N : Int), .slice (some ⟨gx, 0, none⟩) (N * N) kx] 50) * (fx fa * (mo pa ga ka fa N N f * (row 5 1 (.slice (some ⟨gx, 0, none⟩) (N * N) kx) (N * N) (bvs (cl N N f)) * emp)))) (by ac_rfl)
        have x0 := sx.cell 0
        have x1 := sx.cell 1
        have x2 := sx.cell 2
        simp at x0 x1 x2
        have S := Lib.hid sx
        clear s sx
        go_wp2_with fail
        clear x0 x1 x2
        refine (rinvert_calls N gx kx f (by omega) _ (fun w H s => (s.eq (Q := row 5 1 (.slice (some ⟨gx, 0, none⟩) (N * N) kx) (N * N) (bvs (cl N N f)) * (H * (pts bx (.cells #[.int .i64 (N : Int), .int .i64 (N : Int), .slice (some ⟨gx, 0, none⟩) (N * N) kx] 50) * (fx fa * (mo pa ga ka fa N N f * emp))))) (by ac_rfl)).bs) S.out).mono ?_
        unfold RInvP
        rw [HG.out]
        rintro e w20 ⟨rfl, s⟩
        clear S
        have S := Lib.hid (s.alloc (.cells #[.int .i64 0, .int .i64 0, .slice none 0 0] 50))
        clear s
        go_wp2_with fail
        refine (awakex _ S.out).mono ?_
        rintro e wq ⟨rfl, sq⟩
        clear S
        have S := Lib.hid sq
        clear sq
        go_wp2_with fail
        go_ret
        exact ⟨rfl, S.out.below⟩
      | some x =>
        obtain ⟨A, Bm⟩ := x
        have HG := Lib.hid hg
        have HE1 := Lib.hid (show cl N N (mmul N f Bm) = cl N N unit from cl_congr fun i j hi hj => (gj_some hg).2.1 i j hi hj)
        have HE2 := Lib.hid (show cl N N (mmul N Bm f) = cl N N unit from cl_congr fun i j hi hj => (gj_some hg).1 i j hi hj)
        refine (inv_calls pa ga ka fa N f (by omega) _ (S.out.eq (Q := fx fa * (mo pa ga ka fa N N f * (pts bx (.cells #[.int .i64 (N : Int), .int .i64 (N : Int), .slice (some ⟨gx, 0, none⟩) (N * N) kx] 50) * (row 5 1 (.slice (some ⟨gx, 0, none⟩) (N * N) kx) (N * N) (bvs (cl N N f)) * emp)))) (by ac_rfl))).mono ?_
        unfold InvP
        rw [hg]
        clear hg
        rintro e w19 ⟨pi, rfl, s⟩
        obtain ⟨gi, ki, s⟩ := mt_open s
        clear S
        have sx := s.eq (Q := pts bx (.cells #[.int .i64 (N : Int), .int .i64 (N : Int), .slice (some ⟨gx, 0, none⟩) (N * N) kx] 50) * (mo pi gi ki fa N N Bm * (fx fa * (mo pa ga ka fa N N f * (row 5 1 (.slice (some ⟨gx, 0, none⟩) (N * N) kx) (N * N) (bvs (cl N N f)) * emp))))) (by ac_rfl)
        have x0 := sx.cell 0
        have x1 := sx.cell 1
        have x2 := sx.cell 2
        simp at x0 x1 x2
        have S := Lib.hid sx
        clear s sx
        go_wp2_with fail
        clear x0 x1 x2
        refine (rinvert_calls N gx kx f (by omega) _ (fun w H s => (s.eq (Q := row 5 1 (.slice (some ⟨gx, 0, none⟩) (N * N) kx) (N * N) (bvs (cl N N f)) * (H * (pts bx (.cells #[.int .i64 (N : Int), .int .i64 (N : Int), .slice (some ⟨gx, 0, none⟩) (N * N) kx] 50) * (mo pi gi ki fa N N Bm * (fx fa * (mo pa ga ka fa N N f * emp)))))) (by ac_rfl)).bs) S.out).mono ?_
        unfold RInvP
        rw [HG.out]
        clear HG
        rintro e w20 ⟨gr, rfl, s⟩
        unfold rr at s
        clear S
        have s1 := s.alloc (.cells #[.int .i64 (N : Int), .int .i64 (N : Int), .slice (some ⟨gr, 0, none⟩) (N * N) (N * N)] 50)
        obtain ⟨b2, hb2⟩ : ∃ x, w20.heap.size = x := ⟨_, rfl⟩
        rw [hb2] at s1
        have sx := s1.eq (Q := pts b2 (.cells #[.int .i64 (N : Int), .int .i64 (N : Int), .slice (some ⟨gr, 0, none⟩) (N * N) (N * N)] 50) * (mo pi gi ki fa N N Bm * (fx fa * (mo pa ga ka fa N N f * (row 5 1 (.slice (some ⟨gr, 0, none⟩) (N * N) (N * N)) (N * N) (bvs (cl N N Bm)) * (row 5 1 (.slice (some ⟨gx, 0, none⟩) (N * N) kx) (N * N) (bvs (cl N N f)) * (pts bx (.cells #[.int .i64 (N : Int), .int .i64 (N : Int), .slice (some ⟨gx, 0, none⟩) (N * N) kx] 50) * emp))))))) (by ac_rfl)
        have x0 := sx.cell 0
        have x1 := sx.cell 1
        have x2 := sx.cell 2
        simp at x0 x1 x2
        have S := Lib.hid sx
        clear s s1 sx
        unfold rmv
        go_wp2_with fail
        clear x0 x1 x2
        have S2 := Lib.hid (S.out.eq (Q := mo pi gi ki fa N N Bm * (pts b2 (.cells #[.int .i64 (N : Int), .int .i64 (N : Int), .slice (some ⟨gr, 0, none⟩) (N * N) (N * N)] 50) * (fx fa * (mo pa ga ka fa N N f * (row 5 1 (.slice (some ⟨gr, 0, none⟩) (N * N) (N * N)) (N * N) (bvs (cl N N Bm)) * (row 5 1 (.slice (some ⟨gx, 0, none⟩) (N * N) kx) (N * N) (bvs (cl N N f)) * (pts bx (.cells #[.int .i64 (N : Int), .int .i64 (N : Int), .slice (some ⟨gx, 0, none⟩) (N * N) kx] 50) * emp))))))) (by ac_rfl))
        clear S
        have S := Lib.hid S2.out
        clear S2
        refine (same_true pi gi ki fa N N Bm (by omega) gr (N * N) _ (fun w H s => (s.eq (Q := row 5 1 (.slice (some ⟨gr, 0, none⟩) (N * N) (N * N)) (N * N) (bvs (cl N N Bm)) * (H * (pts b2 (.cells #[.int .i64 (N : Int), .int .i64 (N : Int), .slice (some ⟨gr, 0, none⟩) (N * N) (N * N)] 50) * (fx fa * (mo pa ga ka fa N N f * (row 5 1 (.slice (some ⟨gx, 0, none⟩) (N * N) kx) (N * N) (bvs (cl N N f)) * (pts bx (.cells #[.int .i64 (N : Int), .int .i64 (N : Int), .slice (some ⟨gx, 0, none⟩) (N * N) kx] 50) * emp))))))) (by ac_rfl)).bs) S.out).mono ?_
        rintro e wq ⟨rfl, sq⟩
        clear S
        have S := Lib.hid sq
        clear sq
        go_wp2_with fail
        refine (mul_good pa ga ka fa N N f pi gi ki fa N Bm (by omega) (by omega) (by omega) _ (S.out.eq (Q := fx fa * (mo pa ga ka fa N N f * (mo pi gi ki fa N N Bm * (pts b2 (.cells #[.int .i64 (N : Int), .int .i64 (N : Int), .slice (some ⟨gr, 0, none⟩) (N * N) (N * N)] 50) * (row 5 1 (.slice (some ⟨gr, 0, none⟩) (N * N) (N * N)) (N * N) (bvs (cl N N Bm)) * (row 5 1 (.slice (some ⟨gx, 0, none⟩) (N * N) kx) (N * N) (bvs (cl N N f)) * (pts bx (.cells #[.int .i64 (N : Int), .int .i64 (N : Int), .slice (some ⟨gx, 0, none⟩) (N * N) kx] 50) * emp))))))) (by ac_rfl))).mono ?_
        rintro e w21 ⟨pp, rfl, s⟩
        have s := mt_congr s HE1.out
        obtain ⟨gp, kp, s⟩ := mt_open s
        clear S
        have S := Lib.hid (s.eq (Q := fx fa * (mo pi gi ki fa N N Bm * (mo pa ga ka fa N N f * (mo pp gp kp fa N N unit * (pts b2 (.cells #[.int .i64 (N : Int), .int .i64 (N : Int), .slice (some ⟨gr, 0, none⟩) (N * N) (N * N)] 50) * (row 5 1 (.slice (some ⟨gr, 0, none⟩) (N * N) (N * N)) (N * N) (bvs (cl N N Bm)) * (row 5 1 (.slice (some ⟨gx, 0, none⟩) (N * N) kx) (N * N) (bvs (cl N N f)) * (pts bx (.cells #[.int .i64 (N : Int), .int .i64 (N : Int), .slice (some ⟨gx, 0, none⟩) (N * N) kx] 50) * emp)))))))) (by ac_rfl))
        clear s
        go_wp2_with fail
        refine (mul_good pi gi ki fa N N Bm pa ga ka fa N f (by omega) (by omega) (by omega) _ S.out).mono ?_
        rintro e w22 ⟨pq, rfl, s⟩
        have s := mt_congr s HE2.out
        obtain ⟨gq, kq, s⟩ := mt_open s
        clear S HE1 HE2
        have S := Lib.hid s
        clear s
        go_wp2_with fail
        refine (runit_calls N (by omega) _ S.out).mono ?_
        rintro e w23 ⟨g1, rfl, s⟩
        clear S
        have S := Lib.hid (s.eq (Q := mo pp gp kp fa N N unit * (row 5 1 (.slice (some ⟨g1, 0, none⟩) (N * N) (N * N)) (N * N) (bvs (cl N N unit)) * (mo pq gq kq fa N N unit * (fx fa * (mo pi gi ki fa N N Bm * (mo pa ga ka fa N N f * (pts b2 (.cells #[.int .i64 (N : Int), .int .i64 (N : Int), .slice (some ⟨gr, 0, none⟩) (N * N) (N * N)] 50) * (row 5 1 (.slice (some ⟨gr, 0, none⟩) (N * N) (N * N)) (N * N) (bvs (cl N N Bm)) * (row 5 1 (.slice (some ⟨gx, 0, none⟩) (N * N) kx) (N * N) (bvs (cl N N f)) * (pts bx (.cells #[.int .i64 (N : Int), .int .i64 (N : Int), .slice (some ⟨gx, 0, none⟩) (N * N) kx] 50) * emp)))))))))) (by ac_rfl))
        clear s
        go_wp2_with fail
        refine (same_true pp gp kp fa N N unit (by omega) g1 (N * N) _ (fun w H s => (s.eq (Q := row 5 1 (.slice (some ⟨g1, 0, none⟩) (N * N) (N * N)) (N * N) (bvs (cl N N unit)) * (H * (mo pq gq kq fa N N unit * (fx fa * (mo pi gi ki fa N N Bm * (mo pa ga ka fa N N f * (pts b2 (.cells #[.int .i64 (N : Int), .int .i64 (N : Int), .slice (some ⟨gr, 0, none⟩) (N * N) (N * N)] 50) * (row 5 1 (.slice (some ⟨gr, 0, none⟩) (N * N) (N * N)) (N * N) (bvs (cl N N Bm)) * (row 5 1 (.slice (some ⟨gx, 0, none⟩) (N * N) kx) (N * N) (bvs (cl N N f)) * (pts bx (.cells #[.int .i64 (N : Int), .int .i64 (N : Int), .slice (some ⟨gx, 0, none⟩) (N * N) kx] 50) * emp)))))))))) (by ac_rfl)).bs) S.out).mono ?_
        rintro e wq ⟨rfl, sq⟩
        clear S
        have S := Lib.hid sq
        clear sq
        go_wp2_with fail
        refine (runit_calls N (by omega) _ S.out).mono ?_
        rintro e w24 ⟨g2, rfl, s⟩
        clear S
        have S := Lib.hid (s.eq (Q := mo pq gq kq fa N N unit * (row 5 1 (.slice (some ⟨g2, 0, none⟩) (N * N) (N * N)) (N * N) (bvs (cl N N unit)) * (mo pp gp kp fa N N unit * (row 5 1 (.slice (some ⟨g1, 0, none⟩) (N * N) (N * N)) (N * N) (bvs (cl N N unit)) * (fx fa * (mo pi gi ki fa N N Bm * (mo pa ga ka fa N N f * (pts b2 (.cells #[.int .i64 (N : Int), .int .i64 (N : Int), .slice (some ⟨gr, 0, none⟩) (N * N) (N * N)] 50) * (row 5 1 (.slice (some ⟨gr, 0, none⟩) (N * N) (N * N)) (N * N) (bvs (cl N N Bm)) * (row 5 1 (.slice (some ⟨gx, 0, none⟩) (N * N) kx) (N * N) (bvs (cl N N f)) * (pts bx (.cells #[.int .i64 (N : Int), .int .i64 (N : Int), .slice (some ⟨gx, 0, none⟩) (N * N) kx] 50) * emp))))))))))) (by ac_rfl))
        clear s
        go_wp2_with fail
        refine (same_true pq gq kq fa N N unit (by omega) g2 (N * N) _ (fun w H s => (s.eq (Q := row 5 1 (.slice (some ⟨g2, 0, none⟩) (N * N) (N * N)) (N * N) (bvs (cl N N unit)) * (H * (mo pp gp kp fa N N unit * (row 5 1 (.slice (some ⟨g1, 0, none⟩) (N * N) (N * N)) (N * N) (bvs (cl N N unit)) * (fx fa * (mo pi gi ki fa N N Bm * (mo pa ga ka fa N N f * (pts b2 (.cells #[.int .i64 (N : Int), .int .i64 (N : Int), .slice (some ⟨gr, 0, none⟩) (N * N) (N * N)] 50) * (row 5 1 (.slice (some ⟨gr, 0, none⟩) (N * N) (N * N)) (N * N) (bvs (cl N N Bm)) * (row 5 1 (.slice (some ⟨gx, 0, none⟩) (N * N) kx) (N * N) (bvs (cl N N f)) * (pts bx (.cells #[.int .i64 (N : Int), .int .i64 (N : Int), .slice (some ⟨gx, 0, none⟩) (N * N) kx] 50) * emp))))))))))) (by ac_rfl)).bs) S.out).mono ?_
        rintro e wq ⟨rfl, sq⟩
        clear S
        have S := Lib.hid sq
        clear sq
        go_wp2_with fail
        refine (awakex _ S.out).mono ?_
        rintro e wq ⟨rfl, sq⟩
        clear S
        have S := Lib.hid sq
        clear sq
        go_wp2_with fail
        go_ret
        exact ⟨rfl, S.out.below⟩
set_option maxRecDepth 100000 in
set_option maxHeartbeats 32000000 in
theorem inverts_bad (n k : Int) (N K : Nat) (hN : (bits .and .i64 n 255).tmod 9 = (N : Int) - 1) (hK : (bits .and .i64 k 255).tmod 9 = (K : Int) - 1) (bN : 1 ≤ N ∧ N ≤ 9) (_bK : 1 ≤ K ∧ K ≤ 9) (rNN : 1 ≤ N * K ∧ N * K ≤ 1024) (hP : (bits .and .i64 (K : Int) 1 == 0) = false) (hne : N ≠ K) (a : Option Addr) (ca : Nat) (la : List UInt8) (w0 : World) (HA : Hid (BS w0 (.slice a la.length ca) la)) (la1 : (la.length : Int) ≤ 100) (db : Bool) :
    Calls Try.prog 10 #[.int .i64 n, .int .i64 k, .slice a la.length ca, .bool db] w0 fun e w' => e = .returned (.bool true) ∧ Below w0.heap.size w0 w' := by
  have hx : ((N : Int) != (K : Int)) = true := by rw [bne_iff_ne]; omega
  cases db
  · skip
    go_enter Try.func10, Try.ntmps10
    go_wp2_with fail
    refine (make1_calls N K (by omega) a la.length ca la (by omega) _ (reads_arg _ HA.out) (St.init w0)).mono ?_
    rintro e w2 ⟨gx, kx, rfl, s⟩
    have hxl := cl_len N K (m1 K la)
    generalize cl N K (m1 K la) = xs at hxl s
    have hcap := (St.row1 s).2.2.1
    have s1 := s.alloc (.cells #[.int .i64 (N : Int), .int .i64 (K : Int), .slice (some ⟨gx, 0, none⟩) (N * K) kx] 50)
    have S := Lib.hid s1
    clear s s1
    unfold rmv
    go_wp2_with fail
    generalize w2.heap.size = bx at *
    rw [← cl_ofl hxl] at S
    generalize ofl K xs = f at S
    clear hxl hcap
    have HRX := Lib.hid (show Reads w0.heap.size w0 (pts bx (.cells #[.int .i64 (N : Int), .int .i64 (K : Int), .slice (some ⟨gx, 0, none⟩) (N * K) kx] 50) * (row 5 1 (.slice (some ⟨gx, 0, none⟩) (N * K) kx) (N * K) (bvs (cl N K f)) * emp)) (.slice (some ⟨gx, 0, none⟩) (N * K) kx) (cl N K f) from fun w H s => (s.eq (Q := row 5 1 (.slice (some ⟨gx, 0, none⟩) (N * K) kx) (N * K) (bvs (cl N K f)) * (H * (pts bx (.cells #[.int .i64 (N : Int), .int .i64 (K : Int), .slice (some ⟨gx, 0, none⟩) (N * K) kx] 50) * emp))) (by ac_rfl)).bs)
    refine wp_region_rv [57, 62, 56, 63, 10] (PJ w0.heap.size w0 (pts bx (.cells #[.int .i64 (N : Int), .int .i64 (K : Int), .slice (some ⟨gx, 0, none⟩) (N * K) kx] 50) * (row 5 1 (.slice (some ⟨gx, 0, none⟩) (N * K) kx) (N * K) (bvs (cl N K f)) * emp)) NF (NH (N) (K) (f) (pts bx (.cells #[.int .i64 (N : Int), .int .i64 (K : Int), .slice (some ⟨gx, 0, none⟩) (N * K) kx] 50) * (row 5 1 (.slice (some ⟨gx, 0, none⟩) (N * K) kx) (N * K) (bvs (cl N K f)) * emp)))) [0, 5, 6, 7, 9] mixed (by kernel_rfl) (by kernel_rfl) (by kernel_rfl) (fun _ => S.out.drew) ?_
    refine RXl.callV 0 57 rfl rfl rfl (Nat.le_of_ble_eq_true rfl) _ [] _ rfl rfl rfl rfl rfl (PJ.first [] (fun ρ w hag => rfl) (fun _ => rfl) (fun w s => (newx w s).mono fun e w1 ⟨fb, h1, s1⟩ => ⟨(fb, 0, 0, 0), h1, s1⟩)) ?_
    refine RXl.exact (.int .i64 ((N : Nat) : Int)) rfl rfl rfl rfl rfl (fun _ _ _ _ _ => rfl) ?_
    refine RXl.exact (.int .i64 ((K : Nat) : Int)) rfl rfl rfl rfl rfl (fun _ _ _ _ _ => rfl) ?_
    refine RXl.exact (.pointer (some ⟨bx, 2, none⟩)) rfl rfl rfl rfl rfl (fun j τ w' hj hJ => (by obtain ⟨vs, hv, hJ⟩ := hJ; exact (by simp [rho, upd, Spec.val, execOp, go_sem]))) ?_
    refine RXl.exact (.slice (some ⟨gx, 0, none⟩) ((N) * (K)) kx) rfl rfl rfl rfl rfl (fun j τ w' hj hJ => (by obtain ⟨vs, hv, hJ⟩ := hJ; exact (by obtain ⟨Z, q⟩ := NJ_x hJ; have c := (q.eq (sep_assoc _ _ _)).cell 2; simp at c; simp [rho, upd, Spec.val, execOp, go_sem, c]))) ?_
    refine RXl.callV 1 62 rfl rfl rfl (Nat.le_of_ble_eq_true rfl) _ [.tmp 57, .tmp 58, .tmp 59, .tmp 61] _ rfl rfl rfl rfl rfl (NJ_new (some ⟨gx, 0, none⟩) ((N) * (K)) kx (by omega) (by omega) HRX.out (fun ρ a w h hag => by simp [h 0 57 (by decide) rfl, hag.ex 58 _ rfl rfl rfl, hag.ex 59 _ rfl rfl rfl, hag.ex 61 _ rfl rfl rfl, NF])) ?_
    refine RXl.effV 2 56 rfl rfl rfl (Nat.le_of_ble_eq_true rfl) rfl rfl rfl rfl (PJ.pass rfl (fun ρ a w h hag s => by have e := h 1 62 (by decide) rfl; exact (exec_move rfl).trans (by rw [e]; rfl))) ?_
    refine RXl.effV 3 63 rfl rfl rfl (Nat.le_of_ble_eq_true rfl) rfl rfl rfl rfl (PJ.pass rfl (fun ρ a w h hag s => by have e := h 2 56 (by decide) rfl; exact exec_extract rfl e rfl)) ?_
    refine RXl.value (.ex (.int .i64 0)) (Free.ex _) rfl rfl rfl rfl (fun ρ w' j hj hI hag => ⟨_, (by obtain ⟨a, e⟩ := PJ.val (hag.so 56 _ rfl rfl rfl); exact exec_extract rfl e rfl), rfl⟩) ?_
    refine RXl.effV 4 10 rfl rfl rfl (Nat.le_of_ble_eq_true rfl) rfl rfl rfl rfl (PJ.pass rfl (fun ρ a w h hag s => by have e := h 3 63 (by decide) rfl; exact (exec_assign rfl).trans (by rw [e]; rfl))) ?_
    refine RXl.exact (.int .i64 0) rfl rfl rfl rfl rfl (fun _ _ _ _ _ => rfl) ?_
    refine RXl.nilV _ (AgrL.upd _ _ (AgrL.unk 10 _ rfl (AgrL.upd _ _ (AgrL.unk 63 _ rfl (AgrL.unk 56 _ rfl (AgrL.unk 62 _ rfl (AgrL.upd _ _ (AgrL.upd _ _ (AgrL.upd _ _ (AgrL.upd _ _ (AgrL.unk 57 _ rfl (AgrL.base _)))))))))))) (by decide) (by decide) fun vs w8 hJ => ?_
    simp only [puts, Act.put, List.setIfInBounds_toArray, List.set_cons_succ, List.set_cons_zero]
    obtain ⟨⟨fa, pa, ga, ka⟩, hv, s9⟩ := hJ
    rw [show vs 0 = NF 0 (fa, pa, ga, ka) from hv 0 (by decide), show vs 1 = NF 1 (fa, pa, ga, ka) from hv 1 (by decide), show vs 2 = NF 2 (fa, pa, ga, ka) from hv 2 (by decide), show vs 3 = .pointer (some ⟨pa, 0, none⟩) from hv 3 (by decide), show vs 4 = .pointer (some ⟨pa, 0, none⟩) from hv 4 (by decide)]
    generalize NF 0 (fa, pa, ga, ka) = y0
    generalize NF 1 (fa, pa, ga, ka) = y1
    generalize NF 2 (fa, pa, ga, ka) = y2
    clear S hv HRX vs
    have S := Lib.hid (show St w0.heap.size w0 w8 (mo pa ga ka fa (N) (K) (f) * (fx fa * (pts bx (.cells #[.int .i64 (N : Int), .int .i64 (K : Int), .slice (some ⟨gx, 0, none⟩) (N * K) kx] 50) * (row 5 1 (.slice (some ⟨gx, 0, none⟩) (N * K) kx) (N * K) (bvs (cl N K f)) * emp)))) from s9)
    clear s9
    go_wp2_with fail
    refine (inv_bad pa ga ka fa N K f hne _ S.out).mono ?_
    rintro e wq ⟨rfl, sq⟩
    clear S
    have S := Lib.hid sq
    clear sq
    go_wp2_with fail
    refine (awakex _ S.out).mono ?_
    rintro e wq ⟨rfl, sq⟩
    clear S
    have S := Lib.hid sq
    clear sq
    go_wp2_with fail
    go_ret
    exact ⟨rfl, S.out.below⟩
  · by_cases h1 : 1 < N
    · have g1 : (1 : Int) < (N : Int) := by omega
      have g2 : K + K ≤ N * K := by have := Nat.mul_le_mul_right K h1; omega
      clear h1
      go_enter Try.func10, Try.ntmps10
      go_wp2_with fail
      refine (make1_calls N K (by omega) a la.length ca la (by omega) _ (reads_arg _ HA.out) (St.init w0)).mono ?_
      rintro e w2 ⟨gx, kx, rfl, s⟩
      have hxl := cl_len N K (m1 K la)
      generalize cl N K (m1 K la) = xs at hxl s
      have hcap := (St.row1 s).2.2.1
      have s1 := s.alloc (.cells #[.int .i64 (N : Int), .int .i64 (K : Int), .slice (some ⟨gx, 0, none⟩) (N * K) kx] 50)
      have S := Lib.hid s1
      clear s s1
      unfold rmv
      go_wp2_with fail
      generalize w2.heap.size = bx at *
      have HC := Lib.hid (show (∀ w : World, (Instr.sliceAt 36 (.slice (some ⟨gx, 0, none⟩) (N * K) kx) (some (.int .i64 (K : Int))) (some (.int .i64 (2 * (K : Int)))) none).run Try.prog w = .ok (.slice (some ⟨gx, K, none⟩) K (kx - K)) w) ∧
          (∀ w : World, (Instr.sliceAt 36 (.slice (some ⟨gx, 0, none⟩) (N * K) kx) none (some (.int .i64 (K : Int))) none).run Try.prog w = .ok (.slice (some ⟨gx, 0, none⟩) K kx) w) from by
        refine ⟨fun w => ?_, fun w => ?_⟩
        · have hsl := run_slice_sl (P := Try.prog) tB w (some ⟨gx, 0, none⟩) (N * K) kx (some (.int .i64 ((K : Nat) : Int))) (some (.int .i64 ((K + K : Nat) : Int))) K (K + K) (.inr ⟨_, rfl⟩) (.inr ⟨_, rfl⟩) (by omega) (by omega)
          rw [if_neg (by omega), Nat.mul_one, show K + K - K = K by omega] at hsl
          rw [show (2 : Int) * (K : Int) = ((K + K : Nat) : Int) by push_cast; omega]
          exact hsl.trans (by simp [Addr.add_lit])
        · have hsl := run_slice_sl (P := Try.prog) tB w (some ⟨gx, 0, none⟩) (N * K) kx none (some (.int .i64 ((K : Nat) : Int))) 0 K (.inl ⟨rfl, rfl⟩) (.inr ⟨_, rfl⟩) (by omega) (by omega)
          rw [if_neg (by omega), Nat.mul_one] at hsl
          exact hsl.trans (by simp [Addr.add_lit]))
      have HCP := Lib.hid (show ∀ w', St w0.heap.size w0 w' (pts bx (.cells #[.int .i64 (N : Int), .int .i64 (K : Int), .slice (some ⟨gx, 0, none⟩) (N * K) kx] 50) * (row 5 1 (.slice (some ⟨gx, 0, none⟩) (N * K) kx) (N * K) (bvs (xs)) * emp)) → ∃ w2, (Builtin.copy_ #[36, 36] 3 #[.slice (some ⟨gx, K, none⟩) K (kx - K), .slice (some ⟨gx, 0, none⟩) K kx]).run Try.prog w' = .ok (.int .i64 (K : Int)) w2 ∧
          St w0.heap.size w0 w2 (pts bx (.cells #[.int .i64 (N : Int), .int .i64 (K : Int), .slice (some ⟨gx, 0, none⟩) (N * K) kx] 50) * (row 5 1 (.slice (some ⟨gx, 0, none⟩) (N * K) kx) (N * K) (bvs (xs.take K ++ xs.take K ++ xs.drop (K + K))) * emp)) from by
        intro w' s
        have s' := s.eq (sep_left_comm _ _ _)
        have hl : (xs.take K).length = K := by rw [List.length_take, hxl]; omega
        have hb := (St.bs s').sub 0 K (by omega) (by rw [hxl]; omega)
        rw [Nat.sub_zero, Nat.sub_zero, List.drop_zero] at hb
        have hb2 : BS w' (.slice (some ⟨gx, 0, none⟩) (xs.take K).length kx) (xs.take K) := by
          rw [hl]
          unfold subA at hb
          rw [if_neg (by omega)] at hb
          simpa [Addr.add_lit] using hb
        obtain ⟨w2, r1, r2⟩ := copy_st (P := Try.prog) (dT := 36) (sT := 36) (ty := 3) Try.underlying36 (by kernel_rfl) s' K K (kx - K) (some ⟨gx, 0, none⟩) kx (xs.take K) hb2 (by omega) (by omega)
        rw [hl] at r1 r2
        exact ⟨w2, r1, r2.eq (sep_left_comm _ _ _)⟩)
      have HW := Lib.hid (show IntKind.i64.wrap (2 * (K : Int)) = 2 * (K : Int) from by rw [IntKind.wrap_i64]; omega)
      refine wp_region_rx (fun j w' => St w0.heap.size w0 w' (pts bx (.cells #[.int .i64 (N : Int), .int .i64 (K : Int), .slice (some ⟨gx, 0, none⟩) (N * K) kx] 50) * (row 5 1 (.slice (some ⟨gx, 0, none⟩) (N * K) kx) (N * K) (bvs (if j = 0 then xs else xs.take K ++ xs.take K ++ xs.drop (K + K))) * emp))) [10] mixed (by kernel_rfl) (by kernel_rfl) S.out.drew ?_
      refine RXl.exact (.pointer (some ⟨bx, 2, none⟩)) rfl rfl rfl rfl rfl (fun j τ w' hj hJ => by simp [rho, upd, Spec.val, execOp, go_sem]) ?_
      refine RXl.exactB 0 10 rfl (by kernel_rfl) (.slice (some ⟨gx, 0, none⟩) (N * K) kx) rfl rfl rfl rfl rfl (fun j τ w' hj hJ => by have c := St.cell hJ 2; simp at c; simp [rho, upd, Spec.val, execOp, go_sem, c]) ?_
      refine RXl.exact (.int .i64 (K : Int)) rfl rfl rfl rfl rfl (fun _ _ _ _ _ => rfl) ?_
      refine RXl.exact (.int .i64 (K : Int)) rfl rfl rfl rfl rfl (fun _ _ _ _ _ => rfl) ?_
      refine RXl.exact (.int .i64 (2 * (K : Int))) rfl rfl rfl rfl rfl (fun j τ w' hj hJ => by simp [rho, upd, Spec.val, execOp, go_sem, HW.out]) ?_
      refine RXl.exact (.slice (some ⟨gx, K, none⟩) K (kx - K)) rfl rfl rfl rfl rfl (fun j τ w' hj hJ => by have c := HC.out.1 w'; simp [rho, upd, Spec.val, execOp, c]) ?_
      refine RXl.exact (.pointer (some ⟨bx, 2, none⟩)) rfl rfl rfl rfl rfl (fun j τ w' hj hJ => by simp [rho, upd, Spec.val, execOp, go_sem]) ?_
      refine RXl.exactB 0 10 rfl (by kernel_rfl) (.slice (some ⟨gx, 0, none⟩) (N * K) kx) rfl rfl rfl rfl rfl (fun j τ w' hj hJ => by have c := St.cell hJ 2; simp at c; simp [rho, upd, Spec.val, execOp, go_sem, c]) ?_
      refine RXl.exact (.int .i64 (K : Int)) rfl rfl rfl rfl rfl (fun _ _ _ _ _ => rfl) ?_
      refine RXl.exact (.slice (some ⟨gx, 0, none⟩) K kx) rfl rfl rfl rfl rfl (fun j τ w' hj hJ => by have c := HC.out.2 w'; simp [rho, upd, Spec.val, execOp, c]) ?_
      refine RXl.effk 0 (.int .i64 (K : Int)) rfl rfl rfl rfl rfl (fun w' hJ => (let ⟨w2, r1, r2⟩ := HCP.out w' hJ; ⟨w2, exec_copy rfl r1, r2⟩)) ?_
      refine RXl.nilx _ (Agr.upd _ _ (Agr.upd _ _ (Agr.upd _ _ (Agr.upd _ _ (Agr.upd _ _ (Agr.upd _ _ (Agr.upd _ _ (Agr.upd _ _ (Agr.upd _ _ (Agr.upd _ _ (Agr.upd _ _ (Agr.base _)))))))))))) fun w7 hJ => ?_
      obtain ⟨_, hJ⟩ := hJ
      simp only [Act.put, List.setIfInBounds_toArray, List.set_cons_succ, List.set_cons_zero]
      clear S
      have S := Lib.hid (show St w0.heap.size w0 w7 (pts bx (.cells #[.int .i64 (N : Int), .int .i64 (K : Int), .slice (some ⟨gx, 0, none⟩) (N * K) kx] 50) * (row 5 1 (.slice (some ⟨gx, 0, none⟩) (N * K) kx) (N * K) (bvs (xs.take K ++ xs.take K ++ xs.drop (K + K))) * emp)) from hJ)
      clear hJ HC HCP HW
      have hx2 : (xs.take K ++ xs.take K ++ xs.drop (K + K)).length = N * K := by rw [List.length_append, List.length_append, List.length_take, List.length_drop, hxl]; omega
      rw [← cl_ofl hx2] at S
      generalize ofl K (xs.take K ++ xs.take K ++ xs.drop (K + K)) = f at S
      clear hxl hcap hx2
      go_wp2_with fail
      have HRX := Lib.hid (show Reads w0.heap.size w0 (pts bx (.cells #[.int .i64 (N : Int), .int .i64 (K : Int), .slice (some ⟨gx, 0, none⟩) (N * K) kx] 50) * (row 5 1 (.slice (some ⟨gx, 0, none⟩) (N * K) kx) (N * K) (bvs (cl N K f)) * emp)) (.slice (some ⟨gx, 0, none⟩) (N * K) kx) (cl N K f) from fun w H s => (s.eq (Q := row 5 1 (.slice (some ⟨gx, 0, none⟩) (N * K) kx) (N * K) (bvs (cl N K f)) * (H * (pts bx (.cells #[.int .i64 (N : Int), .int .i64 (K : Int), .slice (some ⟨gx, 0, none⟩) (N * K) kx] 50) * emp))) (by ac_rfl)).bs)
      refine wp_region_rv [57, 62, 56, 63, 10] (PJ w0.heap.size w0 (pts bx (.cells #[.int .i64 (N : Int), .int .i64 (K : Int), .slice (some ⟨gx, 0, none⟩) (N * K) kx] 50) * (row 5 1 (.slice (some ⟨gx, 0, none⟩) (N * K) kx) (N * K) (bvs (cl N K f)) * emp)) NF (NH (N) (K) (f) (pts bx (.cells #[.int .i64 (N : Int), .int .i64 (K : Int), .slice (some ⟨gx, 0, none⟩) (N * K) kx] 50) * (row 5 1 (.slice (some ⟨gx, 0, none⟩) (N * K) kx) (N * K) (bvs (cl N K f)) * emp)))) [0, 5, 6, 7, 9] mixed (by kernel_rfl) (by kernel_rfl) (by kernel_rfl) (fun _ => S.out.drew) ?_
      refine RXl.callV 0 57 rfl rfl rfl (Nat.le_of_ble_eq_true rfl) _ [] _ rfl rfl rfl rfl rfl (PJ.first [] (fun ρ w hag => rfl) (fun _ => rfl) (fun w s => (newx w s).mono fun e w1 ⟨fb, h1, s1⟩ => ⟨(fb, 0, 0, 0), h1, s1⟩)) ?_
      refine RXl.exact (.int .i64 ((N : Nat) : Int)) rfl rfl rfl rfl rfl (fun _ _ _ _ _ => rfl) ?_
      refine RXl.exact (.int .i64 ((K : Nat) : Int)) rfl rfl rfl rfl rfl (fun _ _ _ _ _ => rfl) ?_
      refine RXl.exact (.pointer (some ⟨bx, 2, none⟩)) rfl rfl rfl rfl rfl (fun j τ w' hj hJ => (by obtain ⟨vs, hv, hJ⟩ := hJ; exact (by simp [rho, upd, Spec.val, execOp, go_sem]))) ?_
      refine RXl.exact (.slice (some ⟨gx, 0, none⟩) ((N) * (K)) kx) rfl rfl rfl rfl rfl (fun j τ w' hj hJ => (by obtain ⟨vs, hv, hJ⟩ := hJ; exact (by obtain ⟨Z, q⟩ := NJ_x hJ; have c := (q.eq (sep_assoc _ _ _)).cell 2; simp at c; simp [rho, upd, Spec.val, execOp, go_sem, c]))) ?_
      refine RXl.callV 1 62 rfl rfl rfl (Nat.le_of_ble_eq_true rfl) _ [.tmp 57, .tmp 58, .tmp 59, .tmp 61] _ rfl rfl rfl rfl rfl (NJ_new (some ⟨gx, 0, none⟩) ((N) * (K)) kx (by omega) (by omega) HRX.out (fun ρ a w h hag => by simp [h 0 57 (by decide) rfl, hag.ex 58 _ rfl rfl rfl, hag.ex 59 _ rfl rfl rfl, hag.ex 61 _ rfl rfl rfl, NF])) ?_
      refine RXl.effV 2 56 rfl rfl rfl (Nat.le_of_ble_eq_true rfl) rfl rfl rfl rfl (PJ.pass rfl (fun ρ a w h hag s => by have e := h 1 62 (by decide) rfl; exact (exec_move rfl).trans (by rw [e]; rfl))) ?_
      refine RXl.effV 3 63 rfl rfl rfl (Nat.le_of_ble_eq_true rfl) rfl rfl rfl rfl (PJ.pass rfl (fun ρ a w h hag s => by have e := h 2 56 (by decide) rfl; exact exec_extract rfl e rfl)) ?_
      refine RXl.value (.ex (.int .i64 0)) (Free.ex _) rfl rfl rfl rfl (fun ρ w' j hj hI hag => ⟨_, (by obtain ⟨a, e⟩ := PJ.val (hag.so 56 _ rfl rfl rfl); exact exec_extract rfl e rfl), rfl⟩) ?_
      refine RXl.effV 4 10 rfl rfl rfl (Nat.le_of_ble_eq_true rfl) rfl rfl rfl rfl (PJ.pass rfl (fun ρ a w h hag s => by have e := h 3 63 (by decide) rfl; exact (exec_assign rfl).trans (by rw [e]; rfl))) ?_
      refine RXl.exact (.int .i64 0) rfl rfl rfl rfl rfl (fun _ _ _ _ _ => rfl) ?_
      refine RXl.nilV _ (AgrL.upd _ _ (AgrL.unk 10 _ rfl (AgrL.upd _ _ (AgrL.unk 63 _ rfl (AgrL.unk 56 _ rfl (AgrL.unk 62 _ rfl (AgrL.upd _ _ (AgrL.upd _ _ (AgrL.upd _ _ (AgrL.upd _ _ (AgrL.unk 57 _ rfl (AgrL.base _)))))))))))) (by decide) (by decide) fun vs w8 hJ => ?_
      simp only [puts, Act.put, List.setIfInBounds_toArray, List.set_cons_succ, List.set_cons_zero]
      obtain ⟨⟨fa, pa, ga, ka⟩, hv, s9⟩ := hJ
      rw [show vs 0 = NF 0 (fa, pa, ga, ka) from hv 0 (by decide), show vs 1 = NF 1 (fa, pa, ga, ka) from hv 1 (by decide), show vs 2 = NF 2 (fa, pa, ga, ka) from hv 2 (by decide), show vs 3 = .pointer (some ⟨pa, 0, none⟩) from hv 3 (by decide), show vs 4 = .pointer (some ⟨pa, 0, none⟩) from hv 4 (by decide)]
      generalize NF 0 (fa, pa, ga, ka) = y0
      generalize NF 1 (fa, pa, ga, ka) = y1
      generalize NF 2 (fa, pa, ga, ka) = y2
      clear S hv HRX vs
      have S := Lib.hid (show St w0.heap.size w0 w8 (mo pa ga ka fa (N) (K) (f) * (fx fa * (pts bx (.cells #[.int .i64 (N : Int), .int .i64 (K : Int), .slice (some ⟨gx, 0, none⟩) (N * K) kx] 50) * (row 5 1 (.slice (some ⟨gx, 0, none⟩) (N * K) kx) (N * K) (bvs (cl N K f)) * emp)))) from s9)
      clear s9
      go_wp2_with fail
      refine (inv_bad pa ga ka fa N K f hne _ S.out).mono ?_
      rintro e wq ⟨rfl, sq⟩
      clear S
      have S := Lib.hid sq
      clear sq
      go_wp2_with fail
      refine (awakex _ S.out).mono ?_
      rintro e wq ⟨rfl, sq⟩
      clear S
      have S := Lib.hid sq
      clear sq
      go_wp2_with fail
      go_ret
      exact ⟨rfl, S.out.below⟩
    · have g1 : (N : Int) ≤ 1 := by omega
      clear h1
      go_enter Try.func10, Try.ntmps10
      go_wp2_with fail
      refine (make1_calls N K (by omega) a la.length ca la (by omega) _ (reads_arg _ HA.out) (St.init w0)).mono ?_
      rintro e w2 ⟨gx, kx, rfl, s⟩
      have hxl := cl_len N K (m1 K la)
      generalize cl N K (m1 K la) = xs at hxl s
      have hcap := (St.row1 s).2.2.1
      have s1 := s.alloc (.cells #[.int .i64 (N : Int), .int .i64 (K : Int), .slice (some ⟨gx, 0, none⟩) (N * K) kx] 50)
      have S := Lib.hid s1
      clear s s1
      unfold rmv
      go_wp2_with fail
      generalize w2.heap.size = bx at *
      rw [← cl_ofl hxl] at S
      generalize ofl K xs = f at S
      clear hxl hcap
      have HRX := Lib.hid (show Reads w0.heap.size w0 (pts bx (.cells #[.int .i64 (N : Int), .int .i64 (K : Int), .slice (some ⟨gx, 0, none⟩) (N * K) kx] 50) * (row 5 1 (.slice (some ⟨gx, 0, none⟩) (N * K) kx) (N * K) (bvs (cl N K f)) * emp)) (.slice (some ⟨gx, 0, none⟩) (N * K) kx) (cl N K f) from fun w H s => (s.eq (Q := row 5 1 (.slice (some ⟨gx, 0, none⟩) (N * K) kx) (N * K) (bvs (cl N K f)) * (H * (pts bx (.cells #[.int .i64 (N : Int), .int .i64 (K : Int), .slice (some ⟨gx, 0, none⟩) (N * K) kx] 50) * emp))) (by ac_rfl)).bs)
      refine wp_region_rv [57, 62, 56, 63, 10] (PJ w0.heap.size w0 (pts bx (.cells #[.int .i64 (N : Int), .int .i64 (K : Int), .slice (some ⟨gx, 0, none⟩) (N * K) kx] 50) * (row 5 1 (.slice (some ⟨gx, 0, none⟩) (N * K) kx) (N * K) (bvs (cl N K f)) * emp)) NF (NH (N) (K) (f) (pts bx (.cells #[.int .i64 (N : Int), .int .i64 (K : Int), .slice (some ⟨gx, 0, none⟩) (N * K) kx] 50) * (row 5 1 (.slice (some ⟨gx, 0, none⟩) (N * K) kx) (N * K) (bvs (cl N K f)) * emp)))) [0, 5, 6, 7, 9] mixed (by kernel_rfl) (by kernel_rfl) (by kernel_rfl) (fun _ => S.out.drew) ?_
      refine RXl.callV 0 57 rfl rfl rfl (Nat.le_of_ble_eq_true rfl) _ [] _ rfl rfl rfl rfl rfl (PJ.first [] (fun ρ w hag => rfl) (fun _ => rfl) (fun w s => (newx w s).mono fun e w1 ⟨fb, h1, s1⟩ => ⟨(fb, 0, 0, 0), h1, s1⟩)) ?_
      refine RXl.exact (.int .i64 ((N : Nat) : Int)) rfl rfl rfl rfl rfl (fun _ _ _ _ _ => rfl) ?_
      refine RXl.exact (.int .i64 ((K : Nat) : Int)) rfl rfl rfl rfl rfl (fun _ _ _ _ _ => rfl) ?_
      refine RXl.exact (.pointer (some ⟨bx, 2, none⟩)) rfl rfl rfl rfl rfl (fun j τ w' hj hJ => (by obtain ⟨vs, hv, hJ⟩ := hJ; exact (by simp [rho, upd, Spec.val, execOp, go_sem]))) ?_
      refine RXl.exact (.slice (some ⟨gx, 0, none⟩) ((N) * (K)) kx) rfl rfl rfl rfl rfl (fun j τ w' hj hJ => (by obtain ⟨vs, hv, hJ⟩ := hJ; exact (by obtain ⟨Z, q⟩ := NJ_x hJ; have c := (q.eq (sep_assoc _ _ _)).cell 2; simp at c; simp [rho, upd, Spec.val, execOp, go_sem, c]))) ?_
      refine RXl.callV 1 62 rfl rfl rfl (Nat.le_of_ble_eq_true rfl) _ [.tmp 57, .tmp 58, .tmp 59, .tmp 61] _ rfl rfl rfl rfl rfl (NJ_new (some ⟨gx, 0, none⟩) ((N) * (K)) kx (by omega) (by omega) HRX.out (fun ρ a w h hag => by simp [h 0 57 (by decide) rfl, hag.ex 58 _ rfl rfl rfl, hag.ex 59 _ rfl rfl rfl, hag.ex 61 _ rfl rfl rfl, NF])) ?_
      refine RXl.effV 2 56 rfl rfl rfl (Nat.le_of_ble_eq_true rfl) rfl rfl rfl rfl (PJ.pass rfl (fun ρ a w h hag s => by have e := h 1 62 (by decide) rfl; exact (exec_move rfl).trans (by rw [e]; rfl))) ?_
      refine RXl.effV 3 63 rfl rfl rfl (Nat.le_of_ble_eq_true rfl) rfl rfl rfl rfl (PJ.pass rfl (fun ρ a w h hag s => by have e := h 2 56 (by decide) rfl; exact exec_extract rfl e rfl)) ?_
      refine RXl.value (.ex (.int .i64 0)) (Free.ex _) rfl rfl rfl rfl (fun ρ w' j hj hI hag => ⟨_, (by obtain ⟨a, e⟩ := PJ.val (hag.so 56 _ rfl rfl rfl); exact exec_extract rfl e rfl), rfl⟩) ?_
      refine RXl.effV 4 10 rfl rfl rfl (Nat.le_of_ble_eq_true rfl) rfl rfl rfl rfl (PJ.pass rfl (fun ρ a w h hag s => by have e := h 3 63 (by decide) rfl; exact (exec_assign rfl).trans (by rw [e]; rfl))) ?_
      refine RXl.exact (.int .i64 0) rfl rfl rfl rfl rfl (fun _ _ _ _ _ => rfl) ?_
      refine RXl.nilV _ (AgrL.upd _ _ (AgrL.unk 10 _ rfl (AgrL.upd _ _ (AgrL.unk 63 _ rfl (AgrL.unk 56 _ rfl (AgrL.unk 62 _ rfl (AgrL.upd _ _ (AgrL.upd _ _ (AgrL.upd _ _ (AgrL.upd _ _ (AgrL.unk 57 _ rfl (AgrL.base _)))))))))))) (by decide) (by decide) fun vs w8 hJ => ?_
      simp only [puts, Act.put, List.setIfInBounds_toArray, List.set_cons_succ, List.set_cons_zero]
      obtain ⟨⟨fa, pa, ga, ka⟩, hv, s9⟩ := hJ
      rw [show vs 0 = NF 0 (fa, pa, ga, ka) from hv 0 (by decide), show vs 1 = NF 1 (fa, pa, ga, ka) from hv 1 (by decide), show vs 2 = NF 2 (fa, pa, ga, ka) from hv 2 (by decide), show vs 3 = .pointer (some ⟨pa, 0, none⟩) from hv 3 (by decide), show vs 4 = .pointer (some ⟨pa, 0, none⟩) from hv 4 (by decide)]
      generalize NF 0 (fa, pa, ga, ka) = y0
      generalize NF 1 (fa, pa, ga, ka) = y1
      generalize NF 2 (fa, pa, ga, ka) = y2
      clear S hv HRX vs
      have S := Lib.hid (show St w0.heap.size w0 w8 (mo pa ga ka fa (N) (K) (f) * (fx fa * (pts bx (.cells #[.int .i64 (N : Int), .int .i64 (K : Int), .slice (some ⟨gx, 0, none⟩) (N * K) kx] 50) * (row 5 1 (.slice (some ⟨gx, 0, none⟩) (N * K) kx) (N * K) (bvs (cl N K f)) * emp)))) from s9)
      clear s9
      go_wp2_with fail
      refine (inv_bad pa ga ka fa N K f hne _ S.out).mono ?_
      rintro e wq ⟨rfl, sq⟩
      clear S
      have S := Lib.hid sq
      clear sq
      go_wp2_with fail
      refine (awakex _ S.out).mono ?_
      rintro e wq ⟨rfl, sq⟩
      clear S
      have S := Lib.hid sq
      clear sq
      go_wp2_with fail
      go_ret
      exact ⟨rfl, S.out.below⟩
theorem and9 (n : Int) : ∃ N : Nat, (bits .and .i64 n 255).tmod 9 = (N : Int) - 1 ∧ 1 ≤ N ∧ N ≤ 9 := ⟨(n % 256 % 9).toNat + 1, by rw [and_m8, Int.tmod_eq_emod_of_nonneg (by omega)]; omega, by omega, by omega⟩
theorem mul_le9 {a b : Nat} (ha : 1 ≤ a ∧ a ≤ 9) (hb : 1 ≤ b ∧ b ≤ 9) : 1 ≤ a * b ∧ a * b ≤ 1024 := by
  have h1 := Nat.mul_le_mul ha.2 hb.2
  have h2 := Nat.mul_le_mul ha.1 hb.1
  omega
set_option maxRecDepth 100000 in
set_option maxHeartbeats 4000000 in
theorem inverts_walk (n k : Int) (a : Option Addr) (ca : Nat) (la : List UInt8) (db : Bool) (w0 : World) (_wn : (Lit.int .i64 n).wf = true) (_wk : (Lit.int .i64 k).wf = true)
    (ha : BS w0 (.slice a la.length ca) la) (_ya : la.length * 1 ≤ 140737488351232) :
    Calls Try.prog 10 #[.int .i64 n, .int .i64 k, .slice a la.length ca, .bool db] w0 fun e w' => e = .returned (.bool true) ∧ Below w0.heap.size w0 w' := by
  obtain ⟨N, hN, bN⟩ := and9 n
  obtain ⟨K, hK, bK⟩ := and9 k
  have HA := Lib.hid ha
  clear ha
  have S := Lib.hid (St.init w0)
  by_cases h1 : 100 < la.length
  · have k1 : (100 : Int) < (la.length : Int) := by omega
    clear h1 hN hK
    go_enter Try.func10, Try.ntmps10
    go_wp2_with fail
    refine (awakex _ S.out).mono ?_
    rintro e wq ⟨rfl, sq⟩
    clear S
    have S := Lib.hid sq
    clear sq
    go_wp2_with fail
    go_ret
    exact ⟨rfl, S.out.below⟩
  · have k1 : (la.length : Int) ≤ 100 := by omega
    clear h1
    cases hP : (bits .and .i64 (K : Int) 1 == 0)
    · by_cases hne : N = K
      · subst hne
        exact inverts_odd n k N hN hK bN (mul_le9 bN bN) hP a ca la w0 HA k1 db
      · exact inverts_bad n k N K hN hK bN bK (mul_le9 bN bK) hP hne a ca la w0 HA k1 db
    · exact inverts_even n k N K hN hK bN bK (mul_le9 bN bN) hP a ca la w0 HA k1 db
end Go.Proofs.Ytfhphbpgiickfaa.Mt
