/- MatUnits, walked. -/
import Derived.Test.YtfhphbpgiickfaaMtL3
import Derived.Test.YtfhphbpgiickfaaMtA
namespace Go.Proofs.Ytfhphbpgiickfaa.Mt
open Go Go.RowKit Go.Proofs.Ytfhphbpgiickfaa Go.Proofs.Ytfhphbpgiickfaa.Sp Go.Proofs.Ytfhphbpgiickfaa.Reg Go.Proofs.Ytfhphbpgiickfaa.Rd Go.Proofs.Ytfhphbpgiickfaa.Gf

set_option maxRecDepth 100000 in
set_option maxHeartbeats 32000000 in
theorem units_in (n : Int) (N : Nat) (hN : bits .and .i64 n 7 = (N : Int) - 1) (bN : 1 ≤ N ∧ N ≤ 8) (rNN : 1 ≤ N * N ∧ N * N ≤ 1024) (a : Option Addr) (ca : Nat) (la : List UInt8) (v6 : Value) (lv : Nat) (w0 : World)
    (a3 : Option Addr) (cv : Nat) (hv6 : v6 = .slice a3 lv cv) (HA : Hid (BS w0 (.slice a la.length ca) la)) (la1 : (la.length : Int) ≤ 100) (lv1 : (lv : Int) ≤ 100) :
    Calls Try.prog 11 #[.int .i64 n, .slice a la.length ca, v6] w0 fun e w' => e = .returned (.bool true) ∧ Below w0.heap.size w0 w' := by
  subst hv6
  have HE1 := Lib.hid (show cl N N (mmul N (m1 N la) unit) = cl N N (m1 N la) from cl_congr fun i j _ hj => mmul_unit _ hj)
  have HE2 := Lib.hid (show cl N N (mmul N unit (m1 N la)) = cl N N (m1 N la) from cl_congr fun i j hi _ => unit_mmul _ hi)
  have HG := Lib.hid (show gj N (m1 N la) N = none ∨ ∃ A Bm A' B', gj N (m1 N la) N = some (A, Bm) ∧ gj N Bm N = some (A', B') ∧ cl N N B' = cl N N (m1 N la) from by
    cases hg : gj N (m1 N la) N with
    | none => exact .inl rfl
    | some x =>
      obtain ⟨A', B', h1, h2⟩ := gj_twice (A := x.1) (Bm := x.2) hg
      exact .inr ⟨x.1, x.2, A', B', rfl, h1, cl_congr fun i j hi hj => h2 i j hi hj⟩)
  go_enter Try.func11, Try.ntmps11
  go_wp2_with fail
  refine (make1_calls N N (by omega) a la.length ca la (by omega) _ (reads_arg _ HA.out) (St.init w0)).mono ?_
  rintro e w2 ⟨gx, kx, rfl, s⟩
  have s1 := s.alloc (.cells #[.int .i64 (N : Int), .int .i64 (N : Int), .slice (some ⟨gx, 0, none⟩) (N * N) kx] 50)
  have S := Lib.hid s1
  clear s s1
  unfold rmv
  go_wp2_with fail
  generalize w2.heap.size = bx at *
  have HRX := Lib.hid (show Reads w0.heap.size w0 (pts bx (.cells #[.int .i64 (N : Int), .int .i64 (N : Int), .slice (some ⟨gx, 0, none⟩) (N * N) kx] 50) * (row 5 1 (.slice (some ⟨gx, 0, none⟩) (N * N) kx) (N * N) (bvs (cl N N (m1 N la))) * emp)) (.slice (some ⟨gx, 0, none⟩) (N * N) kx) (cl N N (m1 N la)) from fun w H s => (s.eq (Q := row 5 1 (.slice (some ⟨gx, 0, none⟩) (N * N) kx) (N * N) (bvs (cl N N (m1 N la))) * (H * (pts bx (.cells #[.int .i64 (N : Int), .int .i64 (N : Int), .slice (some ⟨gx, 0, none⟩) (N * N) kx] 50) * emp))) (by ac_rfl)).bs)
  refine wp_region_rv [41, 46, 40, 47, 8] (PJ w0.heap.size w0 (pts bx (.cells #[.int .i64 (N : Int), .int .i64 (N : Int), .slice (some ⟨gx, 0, none⟩) (N * N) kx] 50) * (row 5 1 (.slice (some ⟨gx, 0, none⟩) (N * N) kx) (N * N) (bvs (cl N N (m1 N la))) * emp)) NF (NH (N) (N) (m1 N la) (pts bx (.cells #[.int .i64 (N : Int), .int .i64 (N : Int), .slice (some ⟨gx, 0, none⟩) (N * N) kx] 50) * (row 5 1 (.slice (some ⟨gx, 0, none⟩) (N * N) kx) (N * N) (bvs (cl N N (m1 N la))) * emp)))) [0, 5, 6, 7, 9] mixed (by kernel_rfl) (by kernel_rfl) (by kernel_rfl) (fun _ => S.out.drew) ?_
  refine RXl.callV 0 41 rfl rfl rfl (Nat.le_of_ble_eq_true rfl) _ [] _ rfl rfl rfl rfl rfl (PJ.first [] (fun ρ w hag => rfl) (fun _ => rfl) (fun w s => (newx w s).mono fun e w1 ⟨fb, h1, s1⟩ => ⟨(fb, 0, 0, 0), h1, s1⟩)) ?_
  refine RXl.exact (.int .i64 ((N : Nat) : Int)) rfl rfl rfl rfl rfl (fun _ _ _ _ _ => rfl) ?_
  refine RXl.exact (.int .i64 ((N : Nat) : Int)) rfl rfl rfl rfl rfl (fun _ _ _ _ _ => rfl) ?_
  refine RXl.exact (.pointer (some ⟨bx, 2, none⟩)) rfl rfl rfl rfl rfl (fun j τ w' hj hJ => (by obtain ⟨vs, hv, hJ⟩ := hJ; exact (by simp [rho, upd, Spec.val, execOp, go_sem]))) ?_
  refine RXl.exact (.slice (some ⟨gx, 0, none⟩) ((N) * (N)) kx) rfl rfl rfl rfl rfl (fun j τ w' hj hJ => (by obtain ⟨vs, hv, hJ⟩ := hJ; exact (by obtain ⟨Z, q⟩ := NJ_x hJ; have c := (q.eq (sep_assoc _ _ _)).cell 2; simp at c; simp [rho, upd, Spec.val, execOp, go_sem, c]))) ?_
  refine RXl.callV 1 46 rfl rfl rfl (Nat.le_of_ble_eq_true rfl) _ [.tmp 41, .tmp 42, .tmp 43, .tmp 45] _ rfl rfl rfl rfl rfl (NJ_new (some ⟨gx, 0, none⟩) ((N) * (N)) kx (by omega) (by omega) HRX.out (fun ρ a w h hag => by simp [h 0 41 (by decide) rfl, hag.ex 42 _ rfl rfl rfl, hag.ex 43 _ rfl rfl rfl, hag.ex 45 _ rfl rfl rfl, NF])) ?_
  refine RXl.effV 2 40 rfl rfl rfl (Nat.le_of_ble_eq_true rfl) rfl rfl rfl rfl (PJ.pass rfl (fun ρ a w h hag s => by have e := h 1 46 (by decide) rfl; exact (exec_move rfl).trans (by rw [e]; rfl))) ?_
  refine RXl.effV 3 47 rfl rfl rfl (Nat.le_of_ble_eq_true rfl) rfl rfl rfl rfl (PJ.pass rfl (fun ρ a w h hag s => by have e := h 2 40 (by decide) rfl; exact exec_extract rfl e rfl)) ?_
  refine RXl.value (.ex (.int .i64 0)) (Free.ex _) rfl rfl rfl rfl (fun ρ w' j hj hI hag => ⟨_, (by obtain ⟨a, e⟩ := PJ.val (hag.so 40 _ rfl rfl rfl); exact exec_extract rfl e rfl), rfl⟩) ?_
  refine RXl.effV 4 8 rfl rfl rfl (Nat.le_of_ble_eq_true rfl) rfl rfl rfl rfl (PJ.pass rfl (fun ρ a w h hag s => by have e := h 3 47 (by decide) rfl; exact (exec_assign rfl).trans (by rw [e]; rfl))) ?_
  refine RXl.exact (.int .i64 0) rfl rfl rfl rfl rfl (fun _ _ _ _ _ => rfl) ?_
  refine RXl.nilV _ (AgrL.upd _ _ (AgrL.unk 8 _ rfl (AgrL.upd _ _ (AgrL.unk 47 _ rfl (AgrL.unk 40 _ rfl (AgrL.unk 46 _ rfl (AgrL.upd _ _ (AgrL.upd _ _ (AgrL.upd _ _ (AgrL.upd _ _ (AgrL.unk 41 _ rfl (AgrL.base _)))))))))))) (by decide) (by decide) fun vs w8 hJ => ?_
  simp only [puts, Act.put, List.setIfInBounds_toArray, List.set_cons_succ, List.set_cons_zero]
  obtain ⟨⟨fa, pa, ga, ka⟩, hv, s9⟩ := hJ
  rw [show vs 0 = NF 0 (fa, pa, ga, ka) from hv 0 (by decide), show vs 1 = NF 1 (fa, pa, ga, ka) from hv 1 (by decide), show vs 2 = NF 2 (fa, pa, ga, ka) from hv 2 (by decide), show vs 3 = .pointer (some ⟨pa, 0, none⟩) from hv 3 (by decide), show vs 4 = .pointer (some ⟨pa, 0, none⟩) from hv 4 (by decide)]
  generalize NF 0 (fa, pa, ga, ka) = y0
  generalize NF 1 (fa, pa, ga, ka) = y1
  generalize NF 2 (fa, pa, ga, ka) = y2
  clear S hv HRX vs
  have S := Lib.hid (show St w0.heap.size w0 w8 (mo pa ga ka fa (N) (N) (m1 N la) * (fx fa * (pts bx (.cells #[.int .i64 (N : Int), .int .i64 (N : Int), .slice (some ⟨gx, 0, none⟩) (N * N) kx] 50) * (row 5 1 (.slice (some ⟨gx, 0, none⟩) (N * N) kx) (N * N) (bvs (cl N N (m1 N la))) * emp)))) from s9)
  clear s9
  go_wp2_with fail
  refine (newx _ S.out).mono ?_
  rintro e w10 ⟨fu, rfl, s⟩
  clear S
  have S := Lib.hid s
  clear s
  go_wp2_with fail
  refine (unit_good fu N (by omega) _ S.out).mono ?_
  rintro e w11 ⟨pu, rfl, s⟩
  obtain ⟨gu, ku, s⟩ := mt_open s
  clear S
  have S := Lib.hid s
  clear s
  go_wp2_with fail
  refine (newx _ S.out).mono ?_
  rintro e w12 ⟨f3, rfl, s⟩
  clear S
  have S := Lib.hid s
  clear s
  go_wp2_with fail
  refine (unit_bad f3 33 (by omega) _ S.out).mono ?_
  rintro e wq ⟨rfl, sq⟩
  clear S
  have S := Lib.hid sq
  clear sq
  go_wp2_with fail
  have S2 := Lib.hid S.out.right
  clear S
  have S := Lib.hid (S2.out.eq (Q := mo pu gu ku fu N N unit * (fx fu * (mo pa ga ka fa N N (m1 N la) * (fx fa * (pts bx (.cells #[.int .i64 (N : Int), .int .i64 (N : Int), .slice (some ⟨gx, 0, none⟩) (N * N) kx] 50) * (row 5 1 (.slice (some ⟨gx, 0, none⟩) (N * N) kx) (N * N) (bvs (cl N N (m1 N la))) * emp)))))) rfl)
  clear S2
  refine (unit_nil 3 _ S.out).mono ?_
  rintro e wq ⟨rfl, sq⟩
  clear S
  have S := Lib.hid sq
  clear sq
  go_wp2_with fail
  refine (runit_calls N (by omega) _ S.out).mono ?_
  rintro e w13 ⟨gr, rfl, s⟩
  clear S
  have S := Lib.hid (s.eq (Q := mo pu gu ku fu N N unit * (row 5 1 (.slice (some ⟨gr, 0, none⟩) (N * N) (N * N)) (N * N) (bvs (cl N N unit)) * (fx fu * (mo pa ga ka fa N N (m1 N la) * (fx fa * (pts bx (.cells #[.int .i64 (N : Int), .int .i64 (N : Int), .slice (some ⟨gx, 0, none⟩) (N * N) kx] 50) * (row 5 1 (.slice (some ⟨gx, 0, none⟩) (N * N) kx) (N * N) (bvs (cl N N (m1 N la))) * emp))))))) (by ac_rfl))
  clear s
  go_wp2_with fail
  refine (same_true pu gu ku fu N N unit (by omega) gr (N * N) _ (fun w H s => (s.eq (Q := row 5 1 (.slice (some ⟨gr, 0, none⟩) (N * N) (N * N)) (N * N) (bvs (cl N N unit)) * (H * (fx fu * (mo pa ga ka fa N N (m1 N la) * (fx fa * (pts bx (.cells #[.int .i64 (N : Int), .int .i64 (N : Int), .slice (some ⟨gx, 0, none⟩) (N * N) kx] 50) * (row 5 1 (.slice (some ⟨gx, 0, none⟩) (N * N) kx) (N * N) (bvs (cl N N (m1 N la))) * emp))))))) (by ac_rfl)).bs) S.out).mono ?_
  rintro e w14 ⟨rfl, s⟩
  clear S
  have S := Lib.hid ((s.eq (Q := row 5 1 (.slice (some ⟨gr, 0, none⟩) (N * N) (N * N)) (N * N) (bvs (cl N N unit)) * (mo pu gu ku fu N N unit * (fx fu * (mo pa ga ka fa N N (m1 N la) * (fx fa * (pts bx (.cells #[.int .i64 (N : Int), .int .i64 (N : Int), .slice (some ⟨gx, 0, none⟩) (N * N) kx] 50) * (row 5 1 (.slice (some ⟨gx, 0, none⟩) (N * N) kx) (N * N) (bvs (cl N N (m1 N la))) * emp))))))) (by ac_rfl)).right)
  clear s
  go_wp2_with fail
  refine (mul_good pa ga ka fa N N (m1 N la) pu gu ku fu N unit (by omega) (by omega) (by omega) _ (S.out.eq (Q := fx fa * (mo pa ga ka fa N N (m1 N la) * (mo pu gu ku fu N N unit * (fx fu * (pts bx (.cells #[.int .i64 (N : Int), .int .i64 (N : Int), .slice (some ⟨gx, 0, none⟩) (N * N) kx] 50) * (row 5 1 (.slice (some ⟨gx, 0, none⟩) (N * N) kx) (N * N) (bvs (cl N N (m1 N la))) * emp)))))) (by ac_rfl))).mono ?_
  rintro e w15 ⟨pp, rfl, s⟩
  clear S
  have S := Lib.hid ((mt_congr s HE1.out).eq (Q := fx fu * (mo pu gu ku fu N N unit * (mo pa ga ka fa N N (m1 N la) * (mt pp fa N N (m1 N la) * (fx fa * (pts bx (.cells #[.int .i64 (N : Int), .int .i64 (N : Int), .slice (some ⟨gx, 0, none⟩) (N * N) kx] 50) * (row 5 1 (.slice (some ⟨gx, 0, none⟩) (N * N) kx) (N * N) (bvs (cl N N (m1 N la))) * emp))))))) (by ac_rfl))
  clear s
  go_wp2_with fail
  refine (mul_good pu gu ku fu N N unit pa ga ka fa N (m1 N la) (by omega) (by omega) (by omega) _ S.out).mono ?_
  rintro e w16 ⟨pq, rfl, s⟩
  have s := mt_congr s HE2.out
  obtain ⟨gq, kq, s⟩ := mt_open s
  obtain ⟨gp, kp, s⟩ := mt_open (s.eq (Q := mt pp fa N N (m1 N la) * (mo pq gq kq fu N N (m1 N la) * (mo pu gu ku fu N N unit * (fx fu * (mo pa ga ka fa N N (m1 N la) * (fx fa * (pts bx (.cells #[.int .i64 (N : Int), .int .i64 (N : Int), .slice (some ⟨gx, 0, none⟩) (N * N) kx] 50) * (row 5 1 (.slice (some ⟨gx, 0, none⟩) (N * N) kx) (N * N) (bvs (cl N N (m1 N la))) * emp)))))))) (by ac_rfl))
  clear S
  have sx := s.eq (Q := pts bx (.cells #[.int .i64 (N : Int), .int .i64 (N : Int), .slice (some ⟨gx, 0, none⟩) (N * N) kx] 50) * (mo pp gp kp fa N N (m1 N la) * (mo pq gq kq fu N N (m1 N la) * (mo pu gu ku fu N N unit * (fx fu * (mo pa ga ka fa N N (m1 N la) * (fx fa * (row 5 1 (.slice (some ⟨gx, 0, none⟩) (N * N) kx) (N * N) (bvs (cl N N (m1 N la))) * emp)))))))) (by ac_rfl)
  have x0 := sx.cell 0
  have x1 := sx.cell 1
  have x2 := sx.cell 2
  simp at x0 x1 x2
  clear sx
  have S := Lib.hid s
  clear s
  go_wp2_with fail
  clear x0 x1 x2
  refine (same_true pp gp kp fa N N (m1 N la) (by omega) gx kx _ (fun w H s => (s.eq (Q := row 5 1 (.slice (some ⟨gx, 0, none⟩) (N * N) kx) (N * N) (bvs (cl N N (m1 N la))) * (H * (mo pq gq kq fu N N (m1 N la) * (mo pu gu ku fu N N unit * (fx fu * (mo pa ga ka fa N N (m1 N la) * (fx fa * (pts bx (.cells #[.int .i64 (N : Int), .int .i64 (N : Int), .slice (some ⟨gx, 0, none⟩) (N * N) kx] 50) * emp)))))))) (by ac_rfl)).bs) S.out).mono ?_
  rintro e w17 ⟨rfl, s⟩
  clear S
  have s := s.right
  have sx := s.eq (Q := pts bx (.cells #[.int .i64 (N : Int), .int .i64 (N : Int), .slice (some ⟨gx, 0, none⟩) (N * N) kx] 50) * (mo pq gq kq fu N N (m1 N la) * (mo pu gu ku fu N N unit * (fx fu * (mo pa ga ka fa N N (m1 N la) * (fx fa * (row 5 1 (.slice (some ⟨gx, 0, none⟩) (N * N) kx) (N * N) (bvs (cl N N (m1 N la))) * emp))))))) (by ac_rfl)
  have x0 := sx.cell 0
  have x1 := sx.cell 1
  have x2 := sx.cell 2
  simp at x0 x1 x2
  clear sx
  have S := Lib.hid s
  clear s
  go_wp2_with fail
  clear x0 x1 x2
  refine (same_true pq gq kq fu N N (m1 N la) (by omega) gx kx _ (fun w H s => (s.eq (Q := row 5 1 (.slice (some ⟨gx, 0, none⟩) (N * N) kx) (N * N) (bvs (cl N N (m1 N la))) * (H * (mo pu gu ku fu N N unit * (fx fu * (mo pa ga ka fa N N (m1 N la) * (fx fa * (pts bx (.cells #[.int .i64 (N : Int), .int .i64 (N : Int), .slice (some ⟨gx, 0, none⟩) (N * N) kx] 50) * emp))))))) (by ac_rfl)).bs) S.out).mono ?_
  rintro e w18 ⟨rfl, s⟩
  clear S
  have S := Lib.hid (s.right.eq (Q := fx fa * (mo pa ga ka fa N N (m1 N la) * (mo pu gu ku fu N N unit * (fx fu * (pts bx (.cells #[.int .i64 (N : Int), .int .i64 (N : Int), .slice (some ⟨gx, 0, none⟩) (N * N) kx] 50) * (row 5 1 (.slice (some ⟨gx, 0, none⟩) (N * N) kx) (N * N) (bvs (cl N N (m1 N la))) * emp)))))) (by ac_rfl))
  clear s
  go_wp2_with fail
  refine (inv_calls pa ga ka fa N (m1 N la) (by omega) _ S.out).mono ?_
  rcases HG.out with hg | ⟨A, Bm, A', B', hg, hg2, hcl⟩
  · unfold InvP
    rw [hg]
    clear hg HG
    rintro e w19 ⟨rfl, s⟩
    clear S
    have S := Lib.hid s
    clear s
    go_wp2_with fail
    refine (awakex _ S.out).mono ?_
    rintro e wq ⟨rfl, sq⟩
    clear S
    have S := Lib.hid sq
    clear sq
    go_wp2_with fail
    go_ret
    exact ⟨rfl, S.out.below⟩
  · have HG2 := Lib.hid hg2
    have HCL := Lib.hid hcl
    unfold InvP
    rw [hg]
    clear hg hg2 hcl HG
    rintro e w19 ⟨pi, rfl, s⟩
    obtain ⟨gi, ki, s⟩ := mt_open s
    clear S
    have S := Lib.hid (s.eq (Q := fx fa * (mo pi gi ki fa N N Bm * (mo pa ga ka fa N N (m1 N la) * (mo pu gu ku fu N N unit * (fx fu * (pts bx (.cells #[.int .i64 (N : Int), .int .i64 (N : Int), .slice (some ⟨gx, 0, none⟩) (N * N) kx] 50) * (row 5 1 (.slice (some ⟨gx, 0, none⟩) (N * N) kx) (N * N) (bvs (cl N N (m1 N la))) * emp))))))) (by ac_rfl))
    clear s
    go_wp2_with fail
    refine (inv_calls pi gi ki fa N Bm (by omega) _ S.out).mono ?_
    unfold InvP
    rw [HG2.out]
    rintro e w20 ⟨pj, rfl, s⟩
    have s : St _ _ _ _ := mt_congr s HCL.out
    obtain ⟨gj, kj, s⟩ := mt_open s
    clear S
    have sx := s.eq (Q := pts bx (.cells #[.int .i64 (N : Int), .int .i64 (N : Int), .slice (some ⟨gx, 0, none⟩) (N * N) kx] 50) * (mo pj gj kj fa N N (m1 N la) * (fx fa * (mo pi gi ki fa N N Bm * (mo pa ga ka fa N N (m1 N la) * (mo pu gu ku fu N N unit * (fx fu * (row 5 1 (.slice (some ⟨gx, 0, none⟩) (N * N) kx) (N * N) (bvs (cl N N (m1 N la))) * emp)))))))) (by ac_rfl)
    have x0 := sx.cell 0
    have x1 := sx.cell 1
    have x2 := sx.cell 2
    simp at x0 x1 x2
    clear sx
    have S := Lib.hid s
    clear s
    go_wp2_with fail
    clear x0 x1 x2
    refine (same_true pj gj kj fa N N (m1 N la) (by omega) gx kx _ (fun w H s => (s.eq (Q := row 5 1 (.slice (some ⟨gx, 0, none⟩) (N * N) kx) (N * N) (bvs (cl N N (m1 N la))) * (H * (fx fa * (mo pi gi ki fa N N Bm * (mo pa ga ka fa N N (m1 N la) * (mo pu gu ku fu N N unit * (fx fu * (pts bx (.cells #[.int .i64 (N : Int), .int .i64 (N : Int), .slice (some ⟨gx, 0, none⟩) (N * N) kx] 50) * emp)))))))) (by ac_rfl)).bs) S.out).mono ?_
    rintro e w21 ⟨rfl, s⟩
    clear S
    have S := Lib.hid s
    clear s
    go_wp2_with fail
    refine (awakex _ S.out).mono ?_
    rintro e wq ⟨rfl, sq⟩
    clear S
    have S := Lib.hid sq
    clear sq
    go_wp2_with fail
    go_ret
    exact ⟨rfl, S.out.below⟩
set_option maxRecDepth 100000 in
set_option maxHeartbeats 4000000 in
theorem units_walk (n : Int) (a : Option Addr) (ca : Nat) (la : List UInt8) (a3 : Option Addr) (cv : Nat) (lv : List UInt8) (w0 : World) (_wn : (Lit.int .i64 n).wf = true)
    (ha : BS w0 (.slice a la.length ca) la) (_ya : la.length * 1 ≤ 140737488351232) (_hv : BS w0 (.slice a3 lv.length cv) lv) (_yv : lv.length * 1 ≤ 140737488351232) :
    Calls Try.prog 11 #[.int .i64 n, .slice a la.length ca, .slice a3 lv.length cv] w0 fun e w' => e = .returned (.bool true) ∧ Below w0.heap.size w0 w' := by
  obtain ⟨N, hN, bN⟩ := and7 n
  have HA := Lib.hid ha
  clear ha _hv
  have S := Lib.hid (St.init w0)
  by_cases h1 : 100 < la.length
  · have k1 : (100 : Int) < (la.length : Int) := by omega
    clear h1 hN
    go_enter Try.func11, Try.ntmps11
    go_wp2_with fail
    refine (awakex _ S.out).mono ?_
    rintro e wq ⟨rfl, sq⟩
    clear S
    have S := Lib.hid sq
    clear sq
    go_wp2_with fail
    go_ret
    exact ⟨rfl, S.out.below⟩
  · have k1 : (la.length : Int) ≤ 100 := by omega
    clear h1
    by_cases h3 : 100 < lv.length
    · have k3 : (100 : Int) < (lv.length : Int) := by omega
      clear h3 hN
      go_enter Try.func11, Try.ntmps11
      go_wp2_with fail
      refine (awakex _ S.out).mono ?_
      rintro e wq ⟨rfl, sq⟩
      clear S
      have S := Lib.hid sq
      clear sq
      go_wp2_with fail
      go_ret
      exact ⟨rfl, S.out.below⟩
    · have k3 : (lv.length : Int) ≤ 100 := by omega
      clear h3
      exact units_in n N hN bN (mul_le8 bN bN) a ca la _ lv.length w0 a3 cv rfl HA k1 k3
end Go.Proofs.Ytfhphbpgiickfaa.Mt
