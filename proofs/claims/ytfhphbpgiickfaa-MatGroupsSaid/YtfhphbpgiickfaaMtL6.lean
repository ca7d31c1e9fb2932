/- MatGroups, walked. -/
import Derived.Test.YtfhphbpgiickfaaMtL3
import Derived.Test.YtfhphbpgiickfaaMtA
import Derived.Test.YtfhphbpgiickfaaMtP
namespace Go.Proofs.Ytfhphbpgiickfaa.Mt
open Go Go.RowKit Go.Proofs.Ytfhphbpgiickfaa Go.Proofs.Ytfhphbpgiickfaa.Sp Go.Proofs.Ytfhphbpgiickfaa.Reg Go.Proofs.Ytfhphbpgiickfaa.Rd Go.Proofs.Ytfhphbpgiickfaa.Gf

/-- Two copies of cells. -/
def CF (n1 n2 : Nat) (k : Nat) (a : (Nat × Nat) × (Nat × Nat)) : Value := match k with
  | 0 => .slice (some ⟨a.1.1, 0, none⟩) n1 a.1.2
  | _ => .slice (some ⟨a.2.1, 0, none⟩) n2 a.2.2
def CH (n1 n2 : Nat) (xs ys : List UInt8) (X : HP) (k : Nat) (a : (Nat × Nat) × (Nat × Nat)) : HP := match k with
  | 0 => row 5 1 (.slice (some ⟨a.1.1, 0, none⟩) n1 a.1.2) n1 (bvs xs) * X
  | _ => row 5 1 (.slice (some ⟨a.1.1, 0, none⟩) n1 a.1.2) n1 (bvs xs) * (row 5 1 (.slice (some ⟨a.2.1, 0, none⟩) n2 a.2.2) n2 (bvs ys) * X)
section
variable {B : Nat} {w0 : World} {R X : HP}
theorem CH_1 {n1 n2 : Nat} {xs ys : List UInt8} {j : Nat} {a : (Nat × Nat) × (Nat × Nat)} {w : World} (s : St B w0 w (CH n1 n2 xs ys X j a)) : BS w (CF n1 n2 0 a) xs := by
  match j, s with
  | 0, s => exact St.bs s
  | _ + 1, s => exact St.bs s
theorem CH_2 {n1 n2 : Nat} {xs ys : List UInt8} {j : Nat} {a : (Nat × Nat) × (Nat × Nat)} {w : World} (hj : 1 ≤ j) (s : St B w0 w (CH n1 n2 xs ys X j a)) : BS w (CF n1 n2 1 a) ys := by
  match j, hj, s with
  | _ + 1, _, s => exact St.bs (St.eq (sep_left_comm _ _ _) s)
end
set_option maxRecDepth 100000 in
set_option maxHeartbeats 64000000 in
theorem groups_in (n k l o rr : Int) (N K L O i : Nat) (hN : (bits .and .i64 n 255).tmod 5 = (N : Int) - 1) (hK : (bits .and .i64 k 255).tmod 5 = (K : Int) - 1) (hL : (bits .and .i64 l 255).tmod 5 = (L : Int) - 1) (hO : (bits .and .i64 o 255).tmod 5 = (O : Int) - 1) (hI : (bits .and .i64 rr 255).tmod (N : Int) = (i : Int)) (hiN : i < N)
    (bN : 1 ≤ N ∧ N ≤ 8) (bK : 1 ≤ K ∧ K ≤ 8) (bL : 1 ≤ L ∧ L ≤ 8) (bO : 1 ≤ O ∧ O ≤ 8) (rNK : 1 ≤ N * K ∧ N * K ≤ 1024) (rKL : 1 ≤ K * L ∧ K * L ≤ 1024) (rLO : 1 ≤ L * O ∧ L * O ≤ 1024) (rNO : N * O ≤ 1024)
    (a : Option Addr) (ca : Nat) (la : List UInt8) (a2 : Option Addr) (cb : Nat) (lb : List UInt8) (a3 : Option Addr) (cc : Nat) (lc : List UInt8) (w0 : World)
    (HA : Hid (BS w0 (.slice a la.length ca) la)) (HB : Hid (BS w0 (.slice a2 lb.length cb) lb)) (HC : Hid (BS w0 (.slice a3 lc.length cc) lc)) (la1 : (la.length : Int) ≤ 60) (lb1 : (lb.length : Int) ≤ 60) (lc1 : (lc.length : Int) ≤ 60) :
    Calls Try.prog 14 #[.int .i64 n, .int .i64 k, .int .i64 l, .int .i64 o, .slice a la.length ca, .slice a2 lb.length cb, .slice a3 lc.length cc, .int .i64 rr] w0 fun e w' => e = .returned (.bool true) ∧ Below w0.heap.size w0 w' := by
  have HI1 := Lib.hid (show ∀ r : Nat, i < r → ([((i : Nat) : Int)]).any (badR r) = false from fun r hr => by simp [badR]; omega)
  go_enter Try.func14, Try.ntmps14
  go_wp2_with fail
  refine (make1_calls N K (by omega) a la.length ca la (by omega) _ (reads_arg _ HA.out) (St.init w0)).mono ?_
  rintro e w1 ⟨gx, kx, rfl, s⟩
  have S := Lib.hid s
  clear s
  go_wp2_with fail
  refine (make1_calls K L (by omega) a2 lb.length cb lb (by omega) _ (reads_arg _ HB.out) S.out).mono ?_
  rintro e w2 ⟨gy, ky, rfl, s⟩
  clear S
  have S := Lib.hid s
  clear s
  go_wp2_with fail
  refine (make1_calls L O (by omega) a3 lc.length cc lc (by omega) _ (reads_arg _ HC.out) S.out).mono ?_
  rintro e w3 ⟨gz, kz, rfl, s⟩
  have s1 := s.alloc (.cells #[.int .i64 (N : Int), .int .i64 (K : Int), .slice (some ⟨gx, 0, none⟩) (N * K) kx] 50)
  have s2 := s1.alloc (.cells #[.int .i64 (K : Int), .int .i64 (L : Int), .slice (some ⟨gy, 0, none⟩) (K * L) ky] 50)
  have s3 := s2.alloc (.cells #[.int .i64 (L : Int), .int .i64 (O : Int), .slice (some ⟨gz, 0, none⟩) (L * O) kz] 50)
  have e2 : (w3.alloc (.cells #[.int .i64 (N : Int), .int .i64 (K : Int), .slice (some ⟨gx, 0, none⟩) (N * K) kx] 50)).heap.size = w3.heap.size + 1 := by simp
  have e3 : ((w3.alloc (.cells #[.int .i64 (N : Int), .int .i64 (K : Int), .slice (some ⟨gx, 0, none⟩) (N * K) kx] 50)).alloc (.cells #[.int .i64 (K : Int), .int .i64 (L : Int), .slice (some ⟨gy, 0, none⟩) (K * L) ky] 50)).heap.size = w3.heap.size + 1 + 1 := by simp
  rw [e2] at s2 s3
  rw [e3] at s3
  unfold rmv
  clear S
  have S := Lib.hid (s3.eq (Q := pts (w3.heap.size) (.cells #[.int .i64 (N : Int), .int .i64 (K : Int), .slice (some ⟨gx, 0, none⟩) (N * K) kx] 50) * (pts (w3.heap.size + 1) (.cells #[.int .i64 (K : Int), .int .i64 (L : Int), .slice (some ⟨gy, 0, none⟩) (K * L) ky] 50) * (pts (w3.heap.size + 1 + 1) (.cells #[.int .i64 (L : Int), .int .i64 (O : Int), .slice (some ⟨gz, 0, none⟩) (L * O) kz] 50) * (row 5 1 (.slice (some ⟨gx, 0, none⟩) (N * K) kx) (N * K) (bvs (cl N K (m1 K la))) * (row 5 1 (.slice (some ⟨gy, 0, none⟩) (K * L) ky) (K * L) (bvs (cl K L (m1 L lb))) * (row 5 1 (.slice (some ⟨gz, 0, none⟩) (L * O) kz) (L * O) (bvs (cl L O (m1 O lc))) * emp)))))) (by ac_rfl))
  clear s s1 s2 s3 e2 e3
  go_wp2_with fail
  generalize w3.heap.size = bx at *
  have HRX := Lib.hid (show Reads w0.heap.size w0 (pts (bx) (.cells #[.int .i64 (N : Int), .int .i64 (K : Int), .slice (some ⟨gx, 0, none⟩) (N * K) kx] 50) * (pts (bx + 1) (.cells #[.int .i64 (K : Int), .int .i64 (L : Int), .slice (some ⟨gy, 0, none⟩) (K * L) ky] 50) * (pts (bx + 1 + 1) (.cells #[.int .i64 (L : Int), .int .i64 (O : Int), .slice (some ⟨gz, 0, none⟩) (L * O) kz] 50) * (row 5 1 (.slice (some ⟨gx, 0, none⟩) (N * K) kx) (N * K) (bvs (cl N K (m1 K la))) * (row 5 1 (.slice (some ⟨gy, 0, none⟩) (K * L) ky) (K * L) (bvs (cl K L (m1 L lb))) * (row 5 1 (.slice (some ⟨gz, 0, none⟩) (L * O) kz) (L * O) (bvs (cl L O (m1 O lc))) * emp)))))) (.slice (some ⟨gx, 0, none⟩) (N * K) kx) (cl N K (m1 K la)) from fun w H s => (s.eq (Q := row 5 1 (.slice (some ⟨gx, 0, none⟩) (N * K) kx) (N * K) (bvs (cl N K (m1 K la))) * (H * (pts (bx) (.cells #[.int .i64 (N : Int), .int .i64 (K : Int), .slice (some ⟨gx, 0, none⟩) (N * K) kx] 50) * (pts (bx + 1) (.cells #[.int .i64 (K : Int), .int .i64 (L : Int), .slice (some ⟨gy, 0, none⟩) (K * L) ky] 50) * (pts (bx + 1 + 1) (.cells #[.int .i64 (L : Int), .int .i64 (O : Int), .slice (some ⟨gz, 0, none⟩) (L * O) kz] 50) * (row 5 1 (.slice (some ⟨gy, 0, none⟩) (K * L) ky) (K * L) (bvs (cl K L (m1 L lb))) * (row 5 1 (.slice (some ⟨gz, 0, none⟩) (L * O) kz) (L * O) (bvs (cl L O (m1 O lc))) * emp))))))) (by ac_rfl)).bs)
  refine wp_region_rv [83, 88, 82, 89, 20] (PJ w0.heap.size w0 (pts (bx) (.cells #[.int .i64 (N : Int), .int .i64 (K : Int), .slice (some ⟨gx, 0, none⟩) (N * K) kx] 50) * (pts (bx + 1) (.cells #[.int .i64 (K : Int), .int .i64 (L : Int), .slice (some ⟨gy, 0, none⟩) (K * L) ky] 50) * (pts (bx + 1 + 1) (.cells #[.int .i64 (L : Int), .int .i64 (O : Int), .slice (some ⟨gz, 0, none⟩) (L * O) kz] 50) * (row 5 1 (.slice (some ⟨gx, 0, none⟩) (N * K) kx) (N * K) (bvs (cl N K (m1 K la))) * (row 5 1 (.slice (some ⟨gy, 0, none⟩) (K * L) ky) (K * L) (bvs (cl K L (m1 L lb))) * (row 5 1 (.slice (some ⟨gz, 0, none⟩) (L * O) kz) (L * O) (bvs (cl L O (m1 O lc))) * emp)))))) NF (NH (N) (K) (m1 K la) (pts (bx) (.cells #[.int .i64 (N : Int), .int .i64 (K : Int), .slice (some ⟨gx, 0, none⟩) (N * K) kx] 50) * (pts (bx + 1) (.cells #[.int .i64 (K : Int), .int .i64 (L : Int), .slice (some ⟨gy, 0, none⟩) (K * L) ky] 50) * (pts (bx + 1 + 1) (.cells #[.int .i64 (L : Int), .int .i64 (O : Int), .slice (some ⟨gz, 0, none⟩) (L * O) kz] 50) * (row 5 1 (.slice (some ⟨gx, 0, none⟩) (N * K) kx) (N * K) (bvs (cl N K (m1 K la))) * (row 5 1 (.slice (some ⟨gy, 0, none⟩) (K * L) ky) (K * L) (bvs (cl K L (m1 L lb))) * (row 5 1 (.slice (some ⟨gz, 0, none⟩) (L * O) kz) (L * O) (bvs (cl L O (m1 O lc))) * emp)))))))) [0, 5, 6, 7, 9] mixed (by kernel_rfl) (by kernel_rfl) (by kernel_rfl) (fun _ => S.out.drew) ?_
  refine RXl.callV 0 83 rfl rfl rfl (Nat.le_of_ble_eq_true rfl) _ [] _ rfl rfl rfl rfl rfl (PJ.first [] (fun ρ w hag => rfl) (fun _ => rfl) (fun w s => (newx w s).mono fun e w1 ⟨fb, h1, s1⟩ => ⟨(fb, 0, 0, 0), h1, s1⟩)) ?_
  refine RXl.exact (.int .i64 ((N : Nat) : Int)) rfl rfl rfl rfl rfl (fun _ _ _ _ _ => rfl) ?_
  refine RXl.exact (.int .i64 ((K : Nat) : Int)) rfl rfl rfl rfl rfl (fun _ _ _ _ _ => rfl) ?_
  refine RXl.exact (.pointer (some ⟨bx, 2, none⟩)) rfl rfl rfl rfl rfl (fun j τ w' hj hJ => (by obtain ⟨vs, hv, hJ⟩ := hJ; exact (by simp [rho, upd, Spec.val, execOp, go_sem]))) ?_
  refine RXl.exact (.slice (some ⟨gx, 0, none⟩) ((N) * (K)) kx) rfl rfl rfl rfl rfl (fun j τ w' hj hJ => (by obtain ⟨vs, hv, hJ⟩ := hJ; exact (by obtain ⟨Z, q⟩ := NJ_x hJ; have c := (q.eq (sep_assoc _ _ _)).cell 2; simp at c; simp [rho, upd, Spec.val, execOp, go_sem, c]))) ?_
  refine RXl.callV 1 88 rfl rfl rfl (Nat.le_of_ble_eq_true rfl) _ [.tmp 83, .tmp 84, .tmp 85, .tmp 87] _ rfl rfl rfl rfl rfl (NJ_new (some ⟨gx, 0, none⟩) ((N) * (K)) kx (by omega) (by omega) HRX.out (fun ρ a w h hag => by simp [h 0 83 (by decide) rfl, hag.ex 84 _ rfl rfl rfl, hag.ex 85 _ rfl rfl rfl, hag.ex 87 _ rfl rfl rfl, NF])) ?_
  refine RXl.effV 2 82 rfl rfl rfl (Nat.le_of_ble_eq_true rfl) rfl rfl rfl rfl (PJ.pass rfl (fun ρ a w h hag s => by have e := h 1 88 (by decide) rfl; exact (exec_move rfl).trans (by rw [e]; rfl))) ?_
  refine RXl.effV 3 89 rfl rfl rfl (Nat.le_of_ble_eq_true rfl) rfl rfl rfl rfl (PJ.pass rfl (fun ρ a w h hag s => by have e := h 2 82 (by decide) rfl; exact exec_extract rfl e rfl)) ?_
  refine RXl.value (.ex (.int .i64 0)) (Free.ex _) rfl rfl rfl rfl (fun ρ w' j hj hI hag => ⟨_, (by obtain ⟨a, e⟩ := PJ.val (hag.so 82 _ rfl rfl rfl); exact exec_extract rfl e rfl), rfl⟩) ?_
  refine RXl.effV 4 20 rfl rfl rfl (Nat.le_of_ble_eq_true rfl) rfl rfl rfl rfl (PJ.pass rfl (fun ρ a w h hag s => by have e := h 3 89 (by decide) rfl; exact (exec_assign rfl).trans (by rw [e]; rfl))) ?_
  refine RXl.exact (.int .i64 0) rfl rfl rfl rfl rfl (fun _ _ _ _ _ => rfl) ?_
  refine RXl.nilV _ (AgrL.upd _ _ (AgrL.unk 20 _ rfl (AgrL.upd _ _ (AgrL.unk 89 _ rfl (AgrL.unk 82 _ rfl (AgrL.unk 88 _ rfl (AgrL.upd _ _ (AgrL.upd _ _ (AgrL.upd _ _ (AgrL.upd _ _ (AgrL.unk 83 _ rfl (AgrL.base _)))))))))))) (by decide) (by decide) fun vs w8 hJ => ?_
  simp only [puts, Act.put, List.setIfInBounds_toArray, List.set_cons_succ, List.set_cons_zero]
  obtain ⟨⟨fp, pp, gp, kp⟩, hv, s9⟩ := hJ
  rw [show vs 0 = NF 0 (fp, pp, gp, kp) from hv 0 (by decide), show vs 1 = NF 1 (fp, pp, gp, kp) from hv 1 (by decide), show vs 2 = NF 2 (fp, pp, gp, kp) from hv 2 (by decide), show vs 3 = .pointer (some ⟨pp, 0, none⟩) from hv 3 (by decide), show vs 4 = .pointer (some ⟨pp, 0, none⟩) from hv 4 (by decide)]
  generalize NF 0 (fp, pp, gp, kp) = y0
  generalize NF 1 (fp, pp, gp, kp) = y1
  generalize NF 2 (fp, pp, gp, kp) = y2
  clear S hv HRX vs
  have S := Lib.hid (show St w0.heap.size w0 w8 (mo pp gp kp fp (N) (K) (m1 K la) * (fx fp * (pts (bx) (.cells #[.int .i64 (N : Int), .int .i64 (K : Int), .slice (some ⟨gx, 0, none⟩) (N * K) kx] 50) * (pts (bx + 1) (.cells #[.int .i64 (K : Int), .int .i64 (L : Int), .slice (some ⟨gy, 0, none⟩) (K * L) ky] 50) * (pts (bx + 1 + 1) (.cells #[.int .i64 (L : Int), .int .i64 (O : Int), .slice (some ⟨gz, 0, none⟩) (L * O) kz] 50) * (row 5 1 (.slice (some ⟨gx, 0, none⟩) (N * K) kx) (N * K) (bvs (cl N K (m1 K la))) * (row 5 1 (.slice (some ⟨gy, 0, none⟩) (K * L) ky) (K * L) (bvs (cl K L (m1 L lb))) * (row 5 1 (.slice (some ⟨gz, 0, none⟩) (L * O) kz) (L * O) (bvs (cl L O (m1 O lc))) * emp)))))))) from s9)
  clear s9
  go_wp2_with fail
  have S2 := Lib.hid (S.out.eq (Q := pts (bx + 1) (.cells #[.int .i64 (K : Int), .int .i64 (L : Int), .slice (some ⟨gy, 0, none⟩) (K * L) ky] 50) * (mo pp gp kp fp N K (m1 K la) * (fx fp * (pts (bx) (.cells #[.int .i64 (N : Int), .int .i64 (K : Int), .slice (some ⟨gx, 0, none⟩) (N * K) kx] 50) * (pts (bx + 1 + 1) (.cells #[.int .i64 (L : Int), .int .i64 (O : Int), .slice (some ⟨gz, 0, none⟩) (L * O) kz] 50) * (row 5 1 (.slice (some ⟨gx, 0, none⟩) (N * K) kx) (N * K) (bvs (cl N K (m1 K la))) * (row 5 1 (.slice (some ⟨gy, 0, none⟩) (K * L) ky) (K * L) (bvs (cl K L (m1 L lb))) * (row 5 1 (.slice (some ⟨gz, 0, none⟩) (L * O) kz) (L * O) (bvs (cl L O (m1 O lc))) * emp)))))))) (by ac_rfl))
  clear S
  have S := Lib.hid S2.out
  clear S2
  have HRX := Lib.hid (show Reads w0.heap.size w0 (pts (bx + 1) (.cells #[.int .i64 (K : Int), .int .i64 (L : Int), .slice (some ⟨gy, 0, none⟩) (K * L) ky] 50) * (mo pp gp kp fp N K (m1 K la) * (fx fp * (pts (bx) (.cells #[.int .i64 (N : Int), .int .i64 (K : Int), .slice (some ⟨gx, 0, none⟩) (N * K) kx] 50) * (pts (bx + 1 + 1) (.cells #[.int .i64 (L : Int), .int .i64 (O : Int), .slice (some ⟨gz, 0, none⟩) (L * O) kz] 50) * (row 5 1 (.slice (some ⟨gx, 0, none⟩) (N * K) kx) (N * K) (bvs (cl N K (m1 K la))) * (row 5 1 (.slice (some ⟨gy, 0, none⟩) (K * L) ky) (K * L) (bvs (cl K L (m1 L lb))) * (row 5 1 (.slice (some ⟨gz, 0, none⟩) (L * O) kz) (L * O) (bvs (cl L O (m1 O lc))) * emp)))))))) (.slice (some ⟨gy, 0, none⟩) (K * L) ky) (cl K L (m1 L lb)) from fun w H s => (s.eq (Q := row 5 1 (.slice (some ⟨gy, 0, none⟩) (K * L) ky) (K * L) (bvs (cl K L (m1 L lb))) * (H * (pts (bx + 1) (.cells #[.int .i64 (K : Int), .int .i64 (L : Int), .slice (some ⟨gy, 0, none⟩) (K * L) ky] 50) * (mo pp gp kp fp N K (m1 K la) * (fx fp * (pts (bx) (.cells #[.int .i64 (N : Int), .int .i64 (K : Int), .slice (some ⟨gx, 0, none⟩) (N * K) kx] 50) * (pts (bx + 1 + 1) (.cells #[.int .i64 (L : Int), .int .i64 (O : Int), .slice (some ⟨gz, 0, none⟩) (L * O) kz] 50) * (row 5 1 (.slice (some ⟨gx, 0, none⟩) (N * K) kx) (N * K) (bvs (cl N K (m1 K la))) * (row 5 1 (.slice (some ⟨gz, 0, none⟩) (L * O) kz) (L * O) (bvs (cl L O (m1 O lc))) * emp))))))))) (by ac_rfl)).bs)
  refine wp_region_rv [92, 97, 91, 98, 22] (PJ w0.heap.size w0 (pts (bx + 1) (.cells #[.int .i64 (K : Int), .int .i64 (L : Int), .slice (some ⟨gy, 0, none⟩) (K * L) ky] 50) * (mo pp gp kp fp N K (m1 K la) * (fx fp * (pts (bx) (.cells #[.int .i64 (N : Int), .int .i64 (K : Int), .slice (some ⟨gx, 0, none⟩) (N * K) kx] 50) * (pts (bx + 1 + 1) (.cells #[.int .i64 (L : Int), .int .i64 (O : Int), .slice (some ⟨gz, 0, none⟩) (L * O) kz] 50) * (row 5 1 (.slice (some ⟨gx, 0, none⟩) (N * K) kx) (N * K) (bvs (cl N K (m1 K la))) * (row 5 1 (.slice (some ⟨gy, 0, none⟩) (K * L) ky) (K * L) (bvs (cl K L (m1 L lb))) * (row 5 1 (.slice (some ⟨gz, 0, none⟩) (L * O) kz) (L * O) (bvs (cl L O (m1 O lc))) * emp)))))))) NF (NH (K) (L) (m1 L lb) (pts (bx + 1) (.cells #[.int .i64 (K : Int), .int .i64 (L : Int), .slice (some ⟨gy, 0, none⟩) (K * L) ky] 50) * (mo pp gp kp fp N K (m1 K la) * (fx fp * (pts (bx) (.cells #[.int .i64 (N : Int), .int .i64 (K : Int), .slice (some ⟨gx, 0, none⟩) (N * K) kx] 50) * (pts (bx + 1 + 1) (.cells #[.int .i64 (L : Int), .int .i64 (O : Int), .slice (some ⟨gz, 0, none⟩) (L * O) kz] 50) * (row 5 1 (.slice (some ⟨gx, 0, none⟩) (N * K) kx) (N * K) (bvs (cl N K (m1 K la))) * (row 5 1 (.slice (some ⟨gy, 0, none⟩) (K * L) ky) (K * L) (bvs (cl K L (m1 L lb))) * (row 5 1 (.slice (some ⟨gz, 0, none⟩) (L * O) kz) (L * O) (bvs (cl L O (m1 O lc))) * emp)))))))))) [0, 5, 6, 7, 9] mixed (by kernel_rfl) (by kernel_rfl) (by kernel_rfl) (fun _ => S.out.drew) ?_
  refine RXl.callV 0 92 rfl rfl rfl (Nat.le_of_ble_eq_true rfl) _ [] _ rfl rfl rfl rfl rfl (PJ.first [] (fun ρ w hag => rfl) (fun _ => rfl) (fun w s => (newx w s).mono fun e w1 ⟨fb, h1, s1⟩ => ⟨(fb, 0, 0, 0), h1, s1⟩)) ?_
  refine RXl.exact (.int .i64 ((K : Nat) : Int)) rfl rfl rfl rfl rfl (fun _ _ _ _ _ => rfl) ?_
  refine RXl.exact (.int .i64 ((L : Nat) : Int)) rfl rfl rfl rfl rfl (fun _ _ _ _ _ => rfl) ?_
  refine RXl.exact (.pointer (some ⟨bx + 1, 2, none⟩)) rfl rfl rfl rfl rfl (fun j τ w' hj hJ => (by obtain ⟨vs, hv, hJ⟩ := hJ; exact (by simp [rho, upd, Spec.val, execOp, go_sem]))) ?_
  refine RXl.exact (.slice (some ⟨gy, 0, none⟩) ((K) * (L)) ky) rfl rfl rfl rfl rfl (fun j τ w' hj hJ => (by obtain ⟨vs, hv, hJ⟩ := hJ; exact (by obtain ⟨Z, q⟩ := NJ_x hJ; have c := (q.eq (sep_assoc _ _ _)).cell 2; simp at c; simp [rho, upd, Spec.val, execOp, go_sem, c]))) ?_
  refine RXl.callV 1 97 rfl rfl rfl (Nat.le_of_ble_eq_true rfl) _ [.tmp 92, .tmp 93, .tmp 94, .tmp 96] _ rfl rfl rfl rfl rfl (NJ_new (some ⟨gy, 0, none⟩) ((K) * (L)) ky (by omega) (by omega) HRX.out (fun ρ a w h hag => by simp [h 0 92 (by decide) rfl, hag.ex 93 _ rfl rfl rfl, hag.ex 94 _ rfl rfl rfl, hag.ex 96 _ rfl rfl rfl, NF])) ?_
  refine RXl.effV 2 91 rfl rfl rfl (Nat.le_of_ble_eq_true rfl) rfl rfl rfl rfl (PJ.pass rfl (fun ρ a w h hag s => by have e := h 1 97 (by decide) rfl; exact (exec_move rfl).trans (by rw [e]; rfl))) ?_
  refine RXl.effV 3 98 rfl rfl rfl (Nat.le_of_ble_eq_true rfl) rfl rfl rfl rfl (PJ.pass rfl (fun ρ a w h hag s => by have e := h 2 91 (by decide) rfl; exact exec_extract rfl e rfl)) ?_
  refine RXl.value (.ex (.int .i64 0)) (Free.ex _) rfl rfl rfl rfl (fun ρ w' j hj hI hag => ⟨_, (by obtain ⟨a, e⟩ := PJ.val (hag.so 91 _ rfl rfl rfl); exact exec_extract rfl e rfl), rfl⟩) ?_
  refine RXl.effV 4 22 rfl rfl rfl (Nat.le_of_ble_eq_true rfl) rfl rfl rfl rfl (PJ.pass rfl (fun ρ a w h hag s => by have e := h 3 98 (by decide) rfl; exact (exec_assign rfl).trans (by rw [e]; rfl))) ?_
  refine RXl.exact (.int .i64 0) rfl rfl rfl rfl rfl (fun _ _ _ _ _ => rfl) ?_
  refine RXl.nilV _ (AgrL.upd _ _ (AgrL.unk 22 _ rfl (AgrL.upd _ _ (AgrL.unk 98 _ rfl (AgrL.unk 91 _ rfl (AgrL.unk 97 _ rfl (AgrL.upd _ _ (AgrL.upd _ _ (AgrL.upd _ _ (AgrL.upd _ _ (AgrL.unk 92 _ rfl (AgrL.base _)))))))))))) (by decide) (by decide) fun vs w9 hJ => ?_
  simp only [puts, Act.put, List.setIfInBounds_toArray, List.set_cons_succ, List.set_cons_zero]
  obtain ⟨⟨fq, pq, gq, kq⟩, hv, s9⟩ := hJ
  rw [show vs 0 = NF 0 (fq, pq, gq, kq) from hv 0 (by decide), show vs 1 = NF 1 (fq, pq, gq, kq) from hv 1 (by decide), show vs 2 = NF 2 (fq, pq, gq, kq) from hv 2 (by decide), show vs 3 = .pointer (some ⟨pq, 0, none⟩) from hv 3 (by decide), show vs 4 = .pointer (some ⟨pq, 0, none⟩) from hv 4 (by decide)]
  generalize NF 0 (fq, pq, gq, kq) = y0
  generalize NF 1 (fq, pq, gq, kq) = y1
  generalize NF 2 (fq, pq, gq, kq) = y2
  clear S hv HRX vs
  have S := Lib.hid (show St w0.heap.size w0 w9 (mo pq gq kq fq (K) (L) (m1 L lb) * (fx fq * (pts (bx + 1) (.cells #[.int .i64 (K : Int), .int .i64 (L : Int), .slice (some ⟨gy, 0, none⟩) (K * L) ky] 50) * (mo pp gp kp fp N K (m1 K la) * (fx fp * (pts (bx) (.cells #[.int .i64 (N : Int), .int .i64 (K : Int), .slice (some ⟨gx, 0, none⟩) (N * K) kx] 50) * (pts (bx + 1 + 1) (.cells #[.int .i64 (L : Int), .int .i64 (O : Int), .slice (some ⟨gz, 0, none⟩) (L * O) kz] 50) * (row 5 1 (.slice (some ⟨gx, 0, none⟩) (N * K) kx) (N * K) (bvs (cl N K (m1 K la))) * (row 5 1 (.slice (some ⟨gy, 0, none⟩) (K * L) ky) (K * L) (bvs (cl K L (m1 L lb))) * (row 5 1 (.slice (some ⟨gz, 0, none⟩) (L * O) kz) (L * O) (bvs (cl L O (m1 O lc))) * emp)))))))))) from s9)
  clear s9
  go_wp2_with fail
  have S2 := Lib.hid (S.out.eq (Q := pts (bx + 1 + 1) (.cells #[.int .i64 (L : Int), .int .i64 (O : Int), .slice (some ⟨gz, 0, none⟩) (L * O) kz] 50) * (mo pq gq kq fq K L (m1 L lb) * (fx fq * (pts (bx + 1) (.cells #[.int .i64 (K : Int), .int .i64 (L : Int), .slice (some ⟨gy, 0, none⟩) (K * L) ky] 50) * (mo pp gp kp fp N K (m1 K la) * (fx fp * (pts (bx) (.cells #[.int .i64 (N : Int), .int .i64 (K : Int), .slice (some ⟨gx, 0, none⟩) (N * K) kx] 50) * (row 5 1 (.slice (some ⟨gx, 0, none⟩) (N * K) kx) (N * K) (bvs (cl N K (m1 K la))) * (row 5 1 (.slice (some ⟨gy, 0, none⟩) (K * L) ky) (K * L) (bvs (cl K L (m1 L lb))) * (row 5 1 (.slice (some ⟨gz, 0, none⟩) (L * O) kz) (L * O) (bvs (cl L O (m1 O lc))) * emp)))))))))) (by ac_rfl))
  clear S
  have S := Lib.hid S2.out
  clear S2
  have HRX := Lib.hid (show Reads w0.heap.size w0 (pts (bx + 1 + 1) (.cells #[.int .i64 (L : Int), .int .i64 (O : Int), .slice (some ⟨gz, 0, none⟩) (L * O) kz] 50) * (mo pq gq kq fq K L (m1 L lb) * (fx fq * (pts (bx + 1) (.cells #[.int .i64 (K : Int), .int .i64 (L : Int), .slice (some ⟨gy, 0, none⟩) (K * L) ky] 50) * (mo pp gp kp fp N K (m1 K la) * (fx fp * (pts (bx) (.cells #[.int .i64 (N : Int), .int .i64 (K : Int), .slice (some ⟨gx, 0, none⟩) (N * K) kx] 50) * (row 5 1 (.slice (some ⟨gx, 0, none⟩) (N * K) kx) (N * K) (bvs (cl N K (m1 K la))) * (row 5 1 (.slice (some ⟨gy, 0, none⟩) (K * L) ky) (K * L) (bvs (cl K L (m1 L lb))) * (row 5 1 (.slice (some ⟨gz, 0, none⟩) (L * O) kz) (L * O) (bvs (cl L O (m1 O lc))) * emp)))))))))) (.slice (some ⟨gz, 0, none⟩) (L * O) kz) (cl L O (m1 O lc)) from fun w H s => (s.eq (Q := row 5 1 (.slice (some ⟨gz, 0, none⟩) (L * O) kz) (L * O) (bvs (cl L O (m1 O lc))) * (H * (pts (bx + 1 + 1) (.cells #[.int .i64 (L : Int), .int .i64 (O : Int), .slice (some ⟨gz, 0, none⟩) (L * O) kz] 50) * (mo pq gq kq fq K L (m1 L lb) * (fx fq * (pts (bx + 1) (.cells #[.int .i64 (K : Int), .int .i64 (L : Int), .slice (some ⟨gy, 0, none⟩) (K * L) ky] 50) * (mo pp gp kp fp N K (m1 K la) * (fx fp * (pts (bx) (.cells #[.int .i64 (N : Int), .int .i64 (K : Int), .slice (some ⟨gx, 0, none⟩) (N * K) kx] 50) * (row 5 1 (.slice (some ⟨gx, 0, none⟩) (N * K) kx) (N * K) (bvs (cl N K (m1 K la))) * (row 5 1 (.slice (some ⟨gy, 0, none⟩) (K * L) ky) (K * L) (bvs (cl K L (m1 L lb))) * emp))))))))))) (by ac_rfl)).bs)
  refine wp_region_rv [101, 106, 100, 107, 24] (PJ w0.heap.size w0 (pts (bx + 1 + 1) (.cells #[.int .i64 (L : Int), .int .i64 (O : Int), .slice (some ⟨gz, 0, none⟩) (L * O) kz] 50) * (mo pq gq kq fq K L (m1 L lb) * (fx fq * (pts (bx + 1) (.cells #[.int .i64 (K : Int), .int .i64 (L : Int), .slice (some ⟨gy, 0, none⟩) (K * L) ky] 50) * (mo pp gp kp fp N K (m1 K la) * (fx fp * (pts (bx) (.cells #[.int .i64 (N : Int), .int .i64 (K : Int), .slice (some ⟨gx, 0, none⟩) (N * K) kx] 50) * (row 5 1 (.slice (some ⟨gx, 0, none⟩) (N * K) kx) (N * K) (bvs (cl N K (m1 K la))) * (row 5 1 (.slice (some ⟨gy, 0, none⟩) (K * L) ky) (K * L) (bvs (cl K L (m1 L lb))) * (row 5 1 (.slice (some ⟨gz, 0, none⟩) (L * O) kz) (L * O) (bvs (cl L O (m1 O lc))) * emp)))))))))) NF (NH (L) (O) (m1 O lc) (pts (bx + 1 + 1) (.cells #[.int .i64 (L : Int), .int .i64 (O : Int), .slice (some ⟨gz, 0, none⟩) (L * O) kz] 50) * (mo pq gq kq fq K L (m1 L lb) * (fx fq * (pts (bx + 1) (.cells #[.int .i64 (K : Int), .int .i64 (L : Int), .slice (some ⟨gy, 0, none⟩) (K * L) ky] 50) * (mo pp gp kp fp N K (m1 K la) * (fx fp * (pts (bx) (.cells #[.int .i64 (N : Int), .int .i64 (K : Int), .slice (some ⟨gx, 0, none⟩) (N * K) kx] 50) * (row 5 1 (.slice (some ⟨gx, 0, none⟩) (N * K) kx) (N * K) (bvs (cl N K (m1 K la))) * (row 5 1 (.slice (some ⟨gy, 0, none⟩) (K * L) ky) (K * L) (bvs (cl K L (m1 L lb))) * (row 5 1 (.slice (some ⟨gz, 0, none⟩) (L * O) kz) (L * O) (bvs (cl L O (m1 O lc))) * emp)))))))))))) [0, 5, 6, 7, 9] mixed (by kernel_rfl) (by kernel_rfl) (by kernel_rfl) (fun _ => S.out.drew) ?_
  refine RXl.callV 0 101 rfl rfl rfl (Nat.le_of_ble_eq_true rfl) _ [] _ rfl rfl rfl rfl rfl (PJ.first [] (fun ρ w hag => rfl) (fun _ => rfl) (fun w s => (newx w s).mono fun e w1 ⟨fb, h1, s1⟩ => ⟨(fb, 0, 0, 0), h1, s1⟩)) ?_
  refine RXl.exact (.int .i64 ((L : Nat) : Int)) rfl rfl rfl rfl rfl (fun _ _ _ _ _ => rfl) ?_
  refine RXl.exact (.int .i64 ((O : Nat) : Int)) rfl rfl rfl rfl rfl (fun _ _ _ _ _ => rfl) ?_
  refine RXl.exact (.pointer (some ⟨bx + 1 + 1, 2, none⟩)) rfl rfl rfl rfl rfl (fun j τ w' hj hJ => (by obtain ⟨vs, hv, hJ⟩ := hJ; exact (by simp [rho, upd, Spec.val, execOp, go_sem]))) ?_
  refine RXl.exact (.slice (some ⟨gz, 0, none⟩) ((L) * (O)) kz) rfl rfl rfl rfl rfl (fun j τ w' hj hJ => (by obtain ⟨vs, hv, hJ⟩ := hJ; exact (by obtain ⟨Z, q⟩ := NJ_x hJ; have c := (q.eq (sep_assoc _ _ _)).cell 2; simp at c; simp [rho, upd, Spec.val, execOp, go_sem, c]))) ?_
  refine RXl.callV 1 106 rfl rfl rfl (Nat.le_of_ble_eq_true rfl) _ [.tmp 101, .tmp 102, .tmp 103, .tmp 105] _ rfl rfl rfl rfl rfl (NJ_new (some ⟨gz, 0, none⟩) ((L) * (O)) kz (by omega) (by omega) HRX.out (fun ρ a w h hag => by simp [h 0 101 (by decide) rfl, hag.ex 102 _ rfl rfl rfl, hag.ex 103 _ rfl rfl rfl, hag.ex 105 _ rfl rfl rfl, NF])) ?_
  refine RXl.effV 2 100 rfl rfl rfl (Nat.le_of_ble_eq_true rfl) rfl rfl rfl rfl (PJ.pass rfl (fun ρ a w h hag s => by have e := h 1 106 (by decide) rfl; exact (exec_move rfl).trans (by rw [e]; rfl))) ?_
  refine RXl.effV 3 107 rfl rfl rfl (Nat.le_of_ble_eq_true rfl) rfl rfl rfl rfl (PJ.pass rfl (fun ρ a w h hag s => by have e := h 2 100 (by decide) rfl; exact exec_extract rfl e rfl)) ?_
  refine RXl.value (.ex (.int .i64 0)) (Free.ex _) rfl rfl rfl rfl (fun ρ w' j hj hI hag => ⟨_, (by obtain ⟨a, e⟩ := PJ.val (hag.so 100 _ rfl rfl rfl); exact exec_extract rfl e rfl), rfl⟩) ?_
  refine RXl.effV 4 24 rfl rfl rfl (Nat.le_of_ble_eq_true rfl) rfl rfl rfl rfl (PJ.pass rfl (fun ρ a w h hag s => by have e := h 3 107 (by decide) rfl; exact (exec_assign rfl).trans (by rw [e]; rfl))) ?_
  refine RXl.exact (.int .i64 0) rfl rfl rfl rfl rfl (fun _ _ _ _ _ => rfl) ?_
  refine RXl.nilV _ (AgrL.upd _ _ (AgrL.unk 24 _ rfl (AgrL.upd _ _ (AgrL.unk 107 _ rfl (AgrL.unk 100 _ rfl (AgrL.unk 106 _ rfl (AgrL.upd _ _ (AgrL.upd _ _ (AgrL.upd _ _ (AgrL.upd _ _ (AgrL.unk 101 _ rfl (AgrL.base _)))))))))))) (by decide) (by decide) fun vs w10 hJ => ?_
  simp only [puts, Act.put, List.setIfInBounds_toArray, List.set_cons_succ, List.set_cons_zero]
  obtain ⟨⟨fr, pr, gr, kr⟩, hv, s9⟩ := hJ
  rw [show vs 0 = NF 0 (fr, pr, gr, kr) from hv 0 (by decide), show vs 1 = NF 1 (fr, pr, gr, kr) from hv 1 (by decide), show vs 2 = NF 2 (fr, pr, gr, kr) from hv 2 (by decide), show vs 3 = .pointer (some ⟨pr, 0, none⟩) from hv 3 (by decide), show vs 4 = .pointer (some ⟨pr, 0, none⟩) from hv 4 (by decide)]
  generalize NF 0 (fr, pr, gr, kr) = y0
  generalize NF 1 (fr, pr, gr, kr) = y1
  generalize NF 2 (fr, pr, gr, kr) = y2
  clear S hv HRX vs
  have S := Lib.hid (show St w0.heap.size w0 w10 (mo pr gr kr fr (L) (O) (m1 O lc) * (fx fr * (pts (bx + 1 + 1) (.cells #[.int .i64 (L : Int), .int .i64 (O : Int), .slice (some ⟨gz, 0, none⟩) (L * O) kz] 50) * (mo pq gq kq fq K L (m1 L lb) * (fx fq * (pts (bx + 1) (.cells #[.int .i64 (K : Int), .int .i64 (L : Int), .slice (some ⟨gy, 0, none⟩) (K * L) ky] 50) * (mo pp gp kp fp N K (m1 K la) * (fx fp * (pts (bx) (.cells #[.int .i64 (N : Int), .int .i64 (K : Int), .slice (some ⟨gx, 0, none⟩) (N * K) kx] 50) * (row 5 1 (.slice (some ⟨gx, 0, none⟩) (N * K) kx) (N * K) (bvs (cl N K (m1 K la))) * (row 5 1 (.slice (some ⟨gy, 0, none⟩) (K * L) ky) (K * L) (bvs (cl K L (m1 L lb))) * (row 5 1 (.slice (some ⟨gz, 0, none⟩) (L * O) kz) (L * O) (bvs (cl L O (m1 O lc))) * emp)))))))))))) from s9)
  clear s9
  go_wp2_with fail
  have S2 := Lib.hid (((S.out.eq (Q := pts (bx) (.cells #[.int .i64 (N : Int), .int .i64 (K : Int), .slice (some ⟨gx, 0, none⟩) (N * K) kx] 50) * (pts (bx + 1) (.cells #[.int .i64 (K : Int), .int .i64 (L : Int), .slice (some ⟨gy, 0, none⟩) (K * L) ky] 50) * (pts (bx + 1 + 1) (.cells #[.int .i64 (L : Int), .int .i64 (O : Int), .slice (some ⟨gz, 0, none⟩) (L * O) kz] 50) * (row 5 1 (.slice (some ⟨gx, 0, none⟩) (N * K) kx) (N * K) (bvs (cl N K (m1 K la))) * (row 5 1 (.slice (some ⟨gy, 0, none⟩) (K * L) ky) (K * L) (bvs (cl K L (m1 L lb))) * (row 5 1 (.slice (some ⟨gz, 0, none⟩) (L * O) kz) (L * O) (bvs (cl L O (m1 O lc))) * (fx fr * (fx fp * (mo pp gp kp fp N K (m1 K la) * (mo pq gq kq fq K L (m1 L lb) * (fx fq * (mo pr gr kr fr L O (m1 O lc) * emp)))))))))))) (by ac_rfl)).right.right.right.right.right.right.right).eq (Q := fx fp * (mo pp gp kp fp N K (m1 K la) * (mo pq gq kq fq K L (m1 L lb) * (fx fq * (mo pr gr kr fr L O (m1 O lc) * emp))))) rfl)
  clear S
  have S := Lib.hid S2.out
  clear S2
  refine (mul_good pp gp kp fp N K (m1 K la) pq gq kq fq L (m1 L lb) (by omega) (by omega) (by omega) _ S.out).mono ?_
  rintro e w11 ⟨ppq, rfl, s⟩
  obtain ⟨gpq, kpq, s⟩ := mt_open s
  clear S
  have S := Lib.hid (s.eq (Q := fx fq * (mo pq gq kq fq K L (m1 L lb) * (mo pr gr kr fr L O (m1 O lc) * (fx fp * (mo pp gp kp fp N K (m1 K la) * (mo ppq gpq kpq fp N L (mmul K (m1 K la) (m1 L lb)) * emp)))))) (by ac_rfl))
  clear s
  
  go_wp2_with fail
  refine (mul_good pq gq kq fq K L (m1 L lb) pr gr kr fr O (m1 O lc) (by omega) (by omega) (by omega) _ S.out).mono ?_
  rintro e w12 ⟨pqr, rfl, s⟩
  obtain ⟨gqr, kqr, s⟩ := mt_open s
  clear S
  have S := Lib.hid (s.eq (Q := fx fp * (mo ppq gpq kpq fp N L (mmul K (m1 K la) (m1 L lb)) * (mo pr gr kr fr L O (m1 O lc) * (mo pq gq kq fq K L (m1 L lb) * (fx fq * (mo pp gp kp fp N K (m1 K la) * (mo pqr gqr kqr fq K O (mmul L (m1 L lb) (m1 O lc)) * emp))))))) (by ac_rfl))
  clear s
  
  go_wp2_with fail
  refine (mul_good ppq gpq kpq fp N L (mmul K (m1 K la) (m1 L lb)) pr gr kr fr O (m1 O lc) (by omega) (by omega) (by omega) _ S.out).mono ?_
  rintro e w13 ⟨ps, rfl, s⟩
  obtain ⟨gs, ks, s⟩ := mt_open s
  clear S
  have S := Lib.hid (s.eq (Q := fx fp * (mo pp gp kp fp N K (m1 K la) * (mo pqr gqr kqr fq K O (mmul L (m1 L lb) (m1 O lc)) * (mo ps gs ks fp N O (mmul L (mmul K (m1 K la) (m1 L lb)) (m1 O lc)) * (mo ppq gpq kpq fp N L (mmul K (m1 K la) (m1 L lb)) * (mo pr gr kr fr L O (m1 O lc) * (mo pq gq kq fq K L (m1 L lb) * (fx fq * emp)))))))) (by ac_rfl))
  clear s
  
  go_wp2_with fail
  refine (mul_good pp gp kp fp N K (m1 K la) pqr gqr kqr fq O (mmul L (m1 L lb) (m1 O lc)) (by omega) (by omega) (by omega) _ S.out).mono ?_
  rw [← mmul_assoc]
  rintro e w14 ⟨pt, rfl, s⟩
  obtain ⟨gt, kt, s⟩ := mt_open s
  clear S
  have S := Lib.hid (((s.eq (Q := mo pqr gqr kqr fq K O (mmul L (m1 L lb) (m1 O lc)) * (mo pr gr kr fr L O (m1 O lc) * (fx fq * (mo ps gs ks fp N O (mmul L (mmul K (m1 K la) (m1 L lb)) (m1 O lc)) * (mo pt gt kt fp N O (mmul L (mmul K (m1 K la) (m1 L lb)) (m1 O lc)) * (fx fp * (mo pp gp kp fp N K (m1 K la) * (mo pq gq kq fq K L (m1 L lb) * (mo ppq gpq kpq fp N L (mmul K (m1 K la) (m1 L lb)) * emp))))))))) (by ac_rfl)).right.right.right).eq (Q := mo ps gs ks fp N O (mmul L (mmul K (m1 K la) (m1 L lb)) (m1 O lc)) * (mo pt gt kt fp N O (mmul L (mmul K (m1 K la) (m1 L lb)) (m1 O lc)) * (fx fp * (mo pp gp kp fp N K (m1 K la) * (mo pq gq kq fq K L (m1 L lb) * (mo ppq gpq kpq fp N L (mmul K (m1 K la) (m1 L lb)) * emp)))))) rfl)
  clear s
  go_wp2_with fail
  refine wp_region_rv [185, 188] (PJ w0.heap.size w0 (mo ps gs ks fp N O (mmul L (mmul K (m1 K la) (m1 L lb)) (m1 O lc)) * (mo pt gt kt fp N O (mmul L (mmul K (m1 K la) (m1 L lb)) (m1 O lc)) * (fx fp * (mo pp gp kp fp N K (m1 K la) * (mo pq gq kq fq K L (m1 L lb) * (mo ppq gpq kpq fp N L (mmul K (m1 K la) (m1 L lb)) * emp)))))) (CF (N * O) (N * O)) (CH (N * O) (N * O) (cl N O (mmul L (mmul K (m1 K la) (m1 L lb)) (m1 O lc))) (cl N O (mmul L (mmul K (m1 K la) (m1 L lb)) (m1 O lc))) (mo ps gs ks fp N O (mmul L (mmul K (m1 K la) (m1 L lb)) (m1 O lc)) * (mo pt gt kt fp N O (mmul L (mmul K (m1 K la) (m1 L lb)) (m1 O lc)) * (fx fp * (mo pp gp kp fp N K (m1 K la) * (mo pq gq kq fq K L (m1 L lb) * (mo ppq gpq kpq fp N L (mmul K (m1 K la) (m1 L lb)) * emp)))))))) [16, 19] mixed (by kernel_rfl) (by kernel_rfl) (by kernel_rfl) (fun _ => S.out.drew) ?_
  refine RXl.exact (.pointer (some ⟨ps, 0, none⟩)) rfl rfl rfl rfl rfl (fun _ _ _ _ _ => rfl) ?_
  refine RXl.exact (.bool false) rfl rfl rfl rfl rfl (fun j τ w' hj hJ => (by obtain ⟨vs, hv, hJ⟩ := hJ; exact (by simp [rho, upd, Spec.val, execOp, go_sem]))) ?_
  refine RXl.exact (.bool false) rfl rfl rfl rfl rfl (fun _ _ _ _ _ => rfl) ?_
  refine RXl.exact (.pointer (some ⟨pt, 0, none⟩)) rfl rfl rfl rfl rfl (fun _ _ _ _ _ => rfl) ?_
  refine RXl.exact (.bool false) rfl rfl rfl rfl rfl (fun j τ w' hj hJ => (by obtain ⟨vs, hv, hJ⟩ := hJ; exact (by simp [rho, upd, Spec.val, execOp, go_sem]))) ?_
  refine RXl.exact (.bool false) rfl rfl rfl rfl rfl (fun _ _ _ _ _ => rfl) ?_
  refine RXl.exact (.bool false) rfl rfl rfl rfl rfl (fun _ _ _ _ _ => rfl) ?_
  refine RXl.exact (.int .i64 0) rfl rfl rfl rfl rfl (fun _ _ _ _ _ => rfl) ?_
  refine RXl.exact (.bool false) rfl rfl rfl rfl rfl (fun j τ w' hj hJ => (by obtain ⟨vs, hv, hJ⟩ := hJ; exact (by simp [rho, upd, Spec.val, execOp, go_sem]))) ?_
  refine RXl.exact (.bool false) rfl rfl rfl rfl rfl (fun _ _ _ _ _ => rfl) ?_
  refine RXl.exact (.bool false) rfl rfl rfl rfl rfl (fun _ _ _ _ _ => rfl) ?_
  refine RXl.exact (.int .i64 0) rfl rfl rfl rfl rfl (fun _ _ _ _ _ => rfl) ?_
  refine RXl.exact (.bool false) rfl rfl rfl rfl rfl (fun j τ w' hj hJ => (by obtain ⟨vs, hv, hJ⟩ := hJ; exact (by simp [rho, upd, Spec.val, execOp, go_sem]))) ?_
  refine RXl.exact (.bool false) rfl rfl rfl rfl rfl (fun _ _ _ _ _ => rfl) ?_
  refine RXl.exact (.bool false) rfl rfl rfl rfl rfl (fun _ _ _ _ _ => rfl) ?_
  refine RXl.exact (.pointer (some ⟨ps, 0, none⟩)) rfl rfl rfl rfl rfl (fun _ _ _ _ _ => rfl) ?_
  refine RXl.callV 0 185 rfl rfl rfl (Nat.le_of_ble_eq_true rfl) _ [.tmp 184] _ rfl rfl rfl rfl rfl (PJ.first [.pointer (some ⟨ps, 0, none⟩)] (fun ρ w hag => by simp [hag.ex 184 _ rfl rfl rfl]) (fun _ => rfl) (fun w s => by refine (cells_calls ps gs ks fp N O (mmul L (mmul K (m1 K la) (m1 L lb)) (m1 O lc)) (by omega) w s).mono ?_; rintro e w1 ⟨g1, k1, rfl, s1⟩; rw [cl_len] at s1 ⊢; exact ⟨((g1, k1), (0, 0)), rfl, s1⟩)) ?_
  refine RXl.valueA 0 16 rfl (by kernel_rfl) (str (cl N O (mmul L (mmul K (m1 K la) (m1 L lb)) (m1 O lc)))) rfl rfl rfl rfl (PJ.after (fun ρ a w j hj h hag s => by have e := h 0 185 (by omega) rfl; exact exec_convert rfl (by rw [e]; exact run_str Try.underlying36 Try.underlying5 Try.underlying9 (CH_1 s)))) ?_
  refine RXl.exact (.pointer (some ⟨pt, 0, none⟩)) rfl rfl rfl rfl rfl (fun _ _ _ _ _ => rfl) ?_
  refine RXl.callV 1 188 rfl rfl rfl (Nat.le_of_ble_eq_true rfl) _ [.tmp 187] _ rfl rfl rfl rfl rfl (PJ.call (fun _ => [.pointer (some ⟨pt, 0, none⟩)]) (fun ρ a w h hag => by simp [hag.ex 187 _ rfl rfl rfl]) (fun _ _ => rfl) (fun a w s => by have s : St w0.heap.size w0 w (row 5 1 (.slice (some ⟨a.1.1, 0, none⟩) (N * O) a.1.2) (N * O) (bvs (cl N O (mmul L (mmul K (m1 K la) (m1 L lb)) (m1 O lc)))) * (mo ps gs ks fp N O (mmul L (mmul K (m1 K la) (m1 L lb)) (m1 O lc)) * (mo pt gt kt fp N O (mmul L (mmul K (m1 K la) (m1 L lb)) (m1 O lc)) * (fx fp * (mo pp gp kp fp N K (m1 K la) * (mo pq gq kq fq K L (m1 L lb) * (mo ppq gpq kpq fp N L (mmul K (m1 K la) (m1 L lb)) * emp))))))) := s; refine (cells_calls pt gt kt fp N O (mmul L (mmul K (m1 K la) (m1 L lb)) (m1 O lc)) (by omega) w (s.eq (Q := mo pt gt kt fp N O (mmul L (mmul K (m1 K la) (m1 L lb)) (m1 O lc)) * (row 5 1 (.slice (some ⟨a.1.1, 0, none⟩) (N * O) a.1.2) (N * O) (bvs (cl N O (mmul L (mmul K (m1 K la) (m1 L lb)) (m1 O lc)))) * (mo ps gs ks fp N O (mmul L (mmul K (m1 K la) (m1 L lb)) (m1 O lc)) * (fx fp * (mo pp gp kp fp N K (m1 K la) * (mo pq gq kq fq K L (m1 L lb) * (mo ppq gpq kpq fp N L (mmul K (m1 K la) (m1 L lb)) * emp))))))) (by ac_rfl))).mono ?_; rintro e w1 ⟨g1, k1, rfl, s1⟩; rw [cl_len] at s1 ⊢; exact ⟨(a.1, (g1, k1)), rfl, fun k hk => by (match k, hk with | 0, _ => rfl), s1.eq (Q := row 5 1 (.slice (some ⟨a.1.1, 0, none⟩) (N * O) a.1.2) (N * O) (bvs (cl N O (mmul L (mmul K (m1 K la) (m1 L lb)) (m1 O lc)))) * (row 5 1 (.slice (some ⟨g1, 0, none⟩) (N * O) k1) (N * O) (bvs (cl N O (mmul L (mmul K (m1 K la) (m1 L lb)) (m1 O lc)))) * (mo ps gs ks fp N O (mmul L (mmul K (m1 K la) (m1 L lb)) (m1 O lc)) * (mo pt gt kt fp N O (mmul L (mmul K (m1 K la) (m1 L lb)) (m1 O lc)) * (fx fp * (mo pp gp kp fp N K (m1 K la) * (mo pq gq kq fq K L (m1 L lb) * (mo ppq gpq kpq fp N L (mmul K (m1 K la) (m1 L lb)) * emp)))))))) (by ac_rfl)⟩)) ?_
  refine RXl.valueA 1 19 rfl (by kernel_rfl) (str (cl N O (mmul L (mmul K (m1 K la) (m1 L lb)) (m1 O lc)))) rfl rfl rfl rfl (PJ.after (fun ρ a w j hj h hag s => by have e := h 1 188 (by omega) rfl; exact exec_convert rfl (by rw [e]; exact run_str Try.underlying36 Try.underlying5 Try.underlying9 (CH_2 hj s)))) ?_
  refine RXl.exact (.bool false) rfl rfl rfl rfl rfl (fun j τ w' hj hJ => (by obtain ⟨vs, hv, hJ⟩ := hJ; exact (by simp [rho, upd, Spec.val, execOp, go_sem]))) ?_
  refine RXl.exact (.bool false) rfl rfl rfl rfl rfl (fun _ _ _ _ _ => rfl) ?_
  refine RXl.nilV _ (AgrL.upd _ _ (AgrL.upd _ _ (AgrL.upd _ _ (AgrL.unk 188 _ rfl (AgrL.upd _ _ (AgrL.upd _ _ (AgrL.unk 185 _ rfl (AgrL.upd _ _ (AgrL.upd _ _ (AgrL.upd _ _ (AgrL.upd _ _ (AgrL.upd _ _ (AgrL.upd _ _ (AgrL.upd _ _ (AgrL.upd _ _ (AgrL.upd _ _ (AgrL.upd _ _ (AgrL.upd _ _ (AgrL.upd _ _ (AgrL.upd _ _ (AgrL.upd _ _ (AgrL.upd _ _ (AgrL.upd _ _ (AgrL.base _)))))))))))))))))))))))) (by decide) (by decide) fun vs w15 hJ => ?_
  simp only [puts, Act.put, List.setIfInBounds_toArray, List.set_cons_succ, List.set_cons_zero]
  obtain ⟨⟨⟨g1, k1⟩, ⟨g2, k2⟩⟩, hv, s9⟩ := hJ
  have s9 : St w0.heap.size w0 w15 (row 5 1 (.slice (some ⟨g1, 0, none⟩) (N * O) k1) (N * O) (bvs (cl N O (mmul L (mmul K (m1 K la) (m1 L lb)) (m1 O lc)))) * (row 5 1 (.slice (some ⟨g2, 0, none⟩) (N * O) k2) (N * O) (bvs (cl N O (mmul L (mmul K (m1 K la) (m1 L lb)) (m1 O lc)))) * (mo ps gs ks fp N O (mmul L (mmul K (m1 K la) (m1 L lb)) (m1 O lc)) * (mo pt gt kt fp N O (mmul L (mmul K (m1 K la) (m1 L lb)) (m1 O lc)) * (fx fp * (mo pp gp kp fp N K (m1 K la) * (mo pq gq kq fq K L (m1 L lb) * (mo ppq gpq kpq fp N L (mmul K (m1 K la) (m1 L lb)) * emp)))))))) := s9
  generalize vs 0 = y0
  generalize vs (0 + 1) = y1
  clear hv S vs
  have S := Lib.hid ((s9.right.right.right.right).eq (Q := fx fp * (mo pp gp kp fp N K (m1 K la) * (mo pq gq kq fq K L (m1 L lb) * (mo ppq gpq kpq fp N L (mmul K (m1 K la) (m1 L lb)) * emp)))) rfl)
  clear s9
  go_wp2_with fail
  have sl := S.out.alloc (.cells #[.int .i64 (i : Int)] 3)
  refine (pick_good pp gp kp fp N K (m1 K la) [((i : Nat) : Int)] (some ⟨w15.heap.size, 0, none⟩) 1 1 (by omega) (by omega) (by omega) (ireads_right _ (ireads_lit (ns := [((i : Nat) : Int)]) rfl rfl (by simp [maxLen]))) (HI1.out _ hiN) _ (sl.eq (Q := mo pp gp kp fp N K (m1 K la) * (pts w15.heap.size (.cells #[.int .i64 (i : Int)] 3) * (fx fp * (mo pq gq kq fq K L (m1 L lb) * (mo ppq gpq kpq fp N L (mmul K (m1 K la) (m1 L lb)) * emp))))) (by ac_rfl))).mono ?_
  rintro e wpu ⟨pu, rfl, s⟩
  obtain ⟨gu, ku, s⟩ := mt_open s
  clear S
  have S := Lib.hid (((s.eq (Q := pts w15.heap.size (.cells #[.int .i64 (i : Int)] 3) * (mo pu gu ku fp 1 K (pk (m1 K la) [((i : Nat) : Int)]) * (fx fp * (mo pp gp kp fp N K (m1 K la) * (mo pq gq kq fq K L (m1 L lb) * (mo ppq gpq kpq fp N L (mmul K (m1 K la) (m1 L lb)) * emp)))))) (by ac_rfl)).right))
  clear s sl
  go_wp2_with fail
  have sl := S.out.alloc (.cells #[.int .i64 (i : Int)] 3)
  refine (pick_good ppq gpq kpq fp N L (mmul K (m1 K la) (m1 L lb)) [((i : Nat) : Int)] (some ⟨wpu.heap.size, 0, none⟩) 1 1 (by omega) (by omega) (by omega) (ireads_right _ (ireads_lit (ns := [((i : Nat) : Int)]) rfl rfl (by simp [maxLen]))) (HI1.out _ hiN) _ (sl.eq (Q := mo ppq gpq kpq fp N L (mmul K (m1 K la) (m1 L lb)) * (pts wpu.heap.size (.cells #[.int .i64 (i : Int)] 3) * (mo pu gu ku fp 1 K (pk (m1 K la) [((i : Nat) : Int)]) * (fx fp * (mo pp gp kp fp N K (m1 K la) * (mo pq gq kq fq K L (m1 L lb) * emp)))))) (by ac_rfl))).mono ?_
  rintro e wpw ⟨pw, rfl, s⟩
  obtain ⟨gw, kw, s⟩ := mt_open s
  clear S
  have S := Lib.hid (((s.eq (Q := pts wpu.heap.size (.cells #[.int .i64 (i : Int)] 3) * (mo pp gp kp fp N K (m1 K la) * (mo ppq gpq kpq fp N L (mmul K (m1 K la) (m1 L lb)) * (fx fp * (mo pu gu ku fp 1 K (pk (m1 K la) [((i : Nat) : Int)]) * (mo pq gq kq fq K L (m1 L lb) * (mo pw gw kw fp 1 L (pk (mmul K (m1 K la) (m1 L lb)) [((i : Nat) : Int)]) * emp))))))) (by ac_rfl)).right.right.right).eq (Q := fx fp * (mo pu gu ku fp 1 K (pk (m1 K la) [((i : Nat) : Int)]) * (mo pq gq kq fq K L (m1 L lb) * (mo pw gw kw fp 1 L (pk (mmul K (m1 K la) (m1 L lb)) [((i : Nat) : Int)]) * emp)))) rfl)
  clear s sl
  go_wp2_with fail
  refine (mul_good pu gu ku fp 1 K (pk (m1 K la) [((i : Nat) : Int)]) pq gq kq fq L (m1 L lb) (by omega) (by omega) (by omega) _ S.out).mono ?_
  rintro e w16 ⟨puq, rfl, s⟩
  obtain ⟨guq, kuq, s⟩ := mt_open s
  have s : St w0.heap.size w0 w16 (mo puq guq kuq fp 1 L (pk (mmul K (m1 K la) (m1 L lb)) [((i : Nat) : Int)]) * (fx fp * (mo pu gu ku fp 1 K (pk (m1 K la) [((i : Nat) : Int)]) * (mo pq gq kq fq K L (m1 L lb) * (mo pw gw kw fp 1 L (pk (mmul K (m1 K la) (m1 L lb)) [((i : Nat) : Int)]) * emp))))) := s
  clear S
  have S := Lib.hid s
  clear s
  go_wp2_with fail
  refine wp_region_rv [240, 243] (PJ w0.heap.size w0 (mo puq guq kuq fp 1 L (pk (mmul K (m1 K la) (m1 L lb)) [((i : Nat) : Int)]) * (fx fp * (mo pu gu ku fp 1 K (pk (m1 K la) [((i : Nat) : Int)]) * (mo pq gq kq fq K L (m1 L lb) * (mo pw gw kw fp 1 L (pk (mmul K (m1 K la) (m1 L lb)) [((i : Nat) : Int)]) * emp))))) (CF (1 * L) (1 * L)) (CH (1 * L) (1 * L) (cl 1 L (pk (mmul K (m1 K la) (m1 L lb)) [((i : Nat) : Int)])) (cl 1 L (pk (mmul K (m1 K la) (m1 L lb)) [((i : Nat) : Int)])) (mo puq guq kuq fp 1 L (pk (mmul K (m1 K la) (m1 L lb)) [((i : Nat) : Int)]) * (fx fp * (mo pu gu ku fp 1 K (pk (m1 K la) [((i : Nat) : Int)]) * (mo pq gq kq fq K L (m1 L lb) * (mo pw gw kw fp 1 L (pk (mmul K (m1 K la) (m1 L lb)) [((i : Nat) : Int)]) * emp))))))) [8, 11] mixed (by kernel_rfl) (by kernel_rfl) (by kernel_rfl) (fun _ => S.out.drew) ?_
  refine RXl.exact (.pointer (some ⟨puq, 0, none⟩)) rfl rfl rfl rfl rfl (fun _ _ _ _ _ => rfl) ?_
  refine RXl.exact (.bool true) rfl rfl rfl rfl rfl (fun j τ w' hj hJ => (by obtain ⟨vs, hv, hJ⟩ := hJ; exact (by simp [rho, upd, Spec.val, execOp, go_sem]))) ?_
  refine RXl.exact (.bool true) rfl rfl rfl rfl rfl (fun _ _ _ _ _ => rfl) ?_
  refine RXl.exact (.int .i64 0) rfl rfl rfl rfl rfl (fun _ _ _ _ _ => rfl) ?_
  refine RXl.exact (.bool true) rfl rfl rfl rfl rfl (fun j τ w' hj hJ => (by obtain ⟨vs, hv, hJ⟩ := hJ; exact (by simp [rho, upd, Spec.val, execOp, go_sem]))) ?_
  refine RXl.exact (.bool true) rfl rfl rfl rfl rfl (fun _ _ _ _ _ => rfl) ?_
  refine RXl.exact (.bool true) rfl rfl rfl rfl rfl (fun _ _ _ _ _ => rfl) ?_
  refine RXl.exact (.pointer (some ⟨puq, 0, none⟩)) rfl rfl rfl rfl rfl (fun _ _ _ _ _ => rfl) ?_
  refine RXl.callV 0 240 rfl rfl rfl (Nat.le_of_ble_eq_true rfl) _ [.tmp 239] _ rfl rfl rfl rfl rfl (PJ.first [.pointer (some ⟨puq, 0, none⟩)] (fun ρ w hag => by simp [hag.ex 239 _ rfl rfl rfl]) (fun _ => rfl) (fun w s => by refine (cells_calls puq guq kuq fp 1 L (pk (mmul K (m1 K la) (m1 L lb)) [((i : Nat) : Int)]) (by omega) w s).mono ?_; rintro e w1 ⟨g1, k1, rfl, s1⟩; rw [cl_len] at s1 ⊢; exact ⟨((g1, k1), (0, 0)), rfl, s1⟩)) ?_
  refine RXl.valueA 0 8 rfl (by kernel_rfl) (str (cl 1 L (pk (mmul K (m1 K la) (m1 L lb)) [((i : Nat) : Int)]))) rfl rfl rfl rfl (PJ.after (fun ρ a w j hj h hag s => by have e := h 0 240 (by omega) rfl; exact exec_convert rfl (by rw [e]; exact run_str Try.underlying36 Try.underlying5 Try.underlying9 (CH_1 s)))) ?_
  refine RXl.exact (.pointer (some ⟨pw, 0, none⟩)) rfl rfl rfl rfl rfl (fun _ _ _ _ _ => rfl) ?_
  refine RXl.callV 1 243 rfl rfl rfl (Nat.le_of_ble_eq_true rfl) _ [.tmp 242] _ rfl rfl rfl rfl rfl (PJ.call (fun _ => [.pointer (some ⟨pw, 0, none⟩)]) (fun ρ a w h hag => by simp [hag.ex 242 _ rfl rfl rfl]) (fun _ _ => rfl) (fun a w s => by have s : St w0.heap.size w0 w (row 5 1 (.slice (some ⟨a.1.1, 0, none⟩) (1 * L) a.1.2) (1 * L) (bvs (cl 1 L (pk (mmul K (m1 K la) (m1 L lb)) [((i : Nat) : Int)]))) * (mo puq guq kuq fp 1 L (pk (mmul K (m1 K la) (m1 L lb)) [((i : Nat) : Int)]) * (fx fp * (mo pu gu ku fp 1 K (pk (m1 K la) [((i : Nat) : Int)]) * (mo pq gq kq fq K L (m1 L lb) * (mo pw gw kw fp 1 L (pk (mmul K (m1 K la) (m1 L lb)) [((i : Nat) : Int)]) * emp)))))) := s; refine (cells_calls pw gw kw fp 1 L (pk (mmul K (m1 K la) (m1 L lb)) [((i : Nat) : Int)]) (by omega) w (s.eq (Q := mo pw gw kw fp 1 L (pk (mmul K (m1 K la) (m1 L lb)) [((i : Nat) : Int)]) * (row 5 1 (.slice (some ⟨a.1.1, 0, none⟩) (1 * L) a.1.2) (1 * L) (bvs (cl 1 L (pk (mmul K (m1 K la) (m1 L lb)) [((i : Nat) : Int)]))) * (mo puq guq kuq fp 1 L (pk (mmul K (m1 K la) (m1 L lb)) [((i : Nat) : Int)]) * (fx fp * (mo pu gu ku fp 1 K (pk (m1 K la) [((i : Nat) : Int)]) * (mo pq gq kq fq K L (m1 L lb) * emp)))))) (by ac_rfl))).mono ?_; rintro e w1 ⟨g1, k1, rfl, s1⟩; rw [cl_len] at s1 ⊢; exact ⟨(a.1, (g1, k1)), rfl, fun k hk => by (match k, hk with | 0, _ => rfl), s1.eq (Q := row 5 1 (.slice (some ⟨a.1.1, 0, none⟩) (1 * L) a.1.2) (1 * L) (bvs (cl 1 L (pk (mmul K (m1 K la) (m1 L lb)) [((i : Nat) : Int)]))) * (row 5 1 (.slice (some ⟨g1, 0, none⟩) (1 * L) k1) (1 * L) (bvs (cl 1 L (pk (mmul K (m1 K la) (m1 L lb)) [((i : Nat) : Int)]))) * (mo puq guq kuq fp 1 L (pk (mmul K (m1 K la) (m1 L lb)) [((i : Nat) : Int)]) * (fx fp * (mo pu gu ku fp 1 K (pk (m1 K la) [((i : Nat) : Int)]) * (mo pq gq kq fq K L (m1 L lb) * (mo pw gw kw fp 1 L (pk (mmul K (m1 K la) (m1 L lb)) [((i : Nat) : Int)]) * emp))))))) (by ac_rfl)⟩)) ?_
  refine RXl.valueA 1 11 rfl (by kernel_rfl) (str (cl 1 L (pk (mmul K (m1 K la) (m1 L lb)) [((i : Nat) : Int)]))) rfl rfl rfl rfl (PJ.after (fun ρ a w j hj h hag s => by have e := h 1 243 (by omega) rfl; exact exec_convert rfl (by rw [e]; exact run_str Try.underlying36 Try.underlying5 Try.underlying9 (CH_2 hj s)))) ?_
  refine RXl.exact (.bool true) rfl rfl rfl rfl rfl (fun j τ w' hj hJ => (by obtain ⟨vs, hv, hJ⟩ := hJ; exact (by simp [rho, upd, Spec.val, execOp, go_sem]))) ?_
  refine RXl.exact (.bool true) rfl rfl rfl rfl rfl (fun _ _ _ _ _ => rfl) ?_
  refine RXl.exact (.bool true) rfl rfl rfl rfl rfl (fun _ _ _ _ _ => rfl) ?_
  refine RXl.callr (.bool true) _ [] [] _ rfl rfl rfl rfl rfl rfl (fun _ => rfl) (fun j τ w' hj hJ => (by obtain ⟨vs, hv, hJ⟩ := hJ; exact Calls.mono (PJ.callK hJ (awake_calls w')) fun _ _ hz => ⟨hz.1, vs, hv, hz.2⟩)) ?_
  refine RXl.exact (.bool true) rfl rfl rfl rfl rfl (fun _ _ _ _ _ => rfl) ?_
  refine RXl.exact (.bool true) rfl rfl rfl rfl rfl (fun _ _ _ _ _ => rfl) ?_
  refine RXl.nilV _ (AgrL.upd _ _ (AgrL.upd _ _ (AgrL.upd _ _ (AgrL.upd _ _ (AgrL.upd _ _ (AgrL.upd _ _ (AgrL.upd _ _ (AgrL.unk 243 _ rfl (AgrL.upd _ _ (AgrL.upd _ _ (AgrL.unk 240 _ rfl (AgrL.upd _ _ (AgrL.upd _ _ (AgrL.upd _ _ (AgrL.upd _ _ (AgrL.upd _ _ (AgrL.upd _ _ (AgrL.upd _ _ (AgrL.upd _ _ (AgrL.base _)))))))))))))))))))) (by decide) (by decide) fun vs w17 hJ => ?_
  simp only [puts, Act.put, List.setIfInBounds_toArray, List.set_cons_succ, List.set_cons_zero]
  obtain ⟨a9, hv, s9⟩ := hJ
  generalize vs 0 = y0
  generalize vs (0 + 1) = y1
  have S9 := Lib.hid s9.below
  clear hv S vs s9
  go_wp2_with fail
  go_ret
  exact ⟨rfl, S9.out⟩
theorem and5 (n : Int) : ∃ N : Nat, (bits .and .i64 n 255).tmod 5 = (N : Int) - 1 ∧ 1 ≤ N ∧ N ≤ 8 := ⟨(n % 256 % 5).toNat + 1, by rw [and_m8, Int.tmod_eq_emod_of_nonneg (by omega)]; omega, by omega, by omega⟩
set_option maxRecDepth 100000 in
set_option maxHeartbeats 4000000 in
theorem groups_walk (n k l o : Int) (a : Option Addr) (ca : Nat) (la : List UInt8) (a2 : Option Addr) (cb : Nat) (lb : List UInt8) (a3 : Option Addr) (cc : Nat) (lc : List UInt8) (rr : Int) (w0 : World) (_wn : (Lit.int .i64 n).wf = true) (_wk : (Lit.int .i64 k).wf = true) (_wl : (Lit.int .i64 l).wf = true) (_wo : (Lit.int .i64 o).wf = true)
    (ha : BS w0 (.slice a la.length ca) la) (_ya : la.length * 1 ≤ 140737488351232) (hb : BS w0 (.slice a2 lb.length cb) lb) (_yb : lb.length * 1 ≤ 140737488351232) (hv : BS w0 (.slice a3 lc.length cc) lc) (_yv : lc.length * 1 ≤ 140737488351232) (_wr : (Lit.int .i64 rr).wf = true) :
    Calls Try.prog 14 #[.int .i64 n, .int .i64 k, .int .i64 l, .int .i64 o, .slice a la.length ca, .slice a2 lb.length cb, .slice a3 lc.length cc, .int .i64 rr] w0 fun e w' => e = .returned (.bool true) ∧ Below w0.heap.size w0 w' := by
  obtain ⟨N, hN, bN⟩ := and5 n
  obtain ⟨K, hK, bK⟩ := and5 k
  obtain ⟨L, hL, bL⟩ := and5 l
  obtain ⟨O, hO, bO⟩ := and5 o
  have HA := Lib.hid ha
  have HB := Lib.hid hb
  have HC := Lib.hid hv
  clear ha hb hv
  have S := Lib.hid (St.init w0)
  by_cases h1 : 60 < la.length
  · have k1 : (60 : Int) < (la.length : Int) := by omega
    clear h1 hN hK hL hO
    go_enter Try.func14, Try.ntmps14
    go_wp2_with fail
    refine (awakex _ S.out).mono ?_
    rintro e wq ⟨rfl, sq⟩
    clear S
    have S := Lib.hid sq
    clear sq
    go_wp2_with fail
    go_ret
    exact ⟨rfl, S.out.below⟩
  · have k1 : (la.length : Int) ≤ 60 := by omega
    clear h1
    by_cases h2 : 60 < lb.length
    · have k2 : (60 : Int) < (lb.length : Int) := by omega
      clear h2 hN hK hL hO
      go_enter Try.func14, Try.ntmps14
      go_wp2_with fail
      refine (awakex _ S.out).mono ?_
      rintro e wq ⟨rfl, sq⟩
      clear S
      have S := Lib.hid sq
      clear sq
      go_wp2_with fail
      go_ret
      exact ⟨rfl, S.out.below⟩
    · have k2 : (lb.length : Int) ≤ 60 := by omega
      clear h2
      by_cases h3 : 60 < lc.length
      · have k3 : (60 : Int) < (lc.length : Int) := by omega
        clear h3 hN hK hL hO
        go_enter Try.func14, Try.ntmps14
        go_wp2_with fail
        refine (awakex _ S.out).mono ?_
        rintro e wq ⟨rfl, sq⟩
        clear S
        have S := Lib.hid sq
        clear sq
        go_wp2_with fail
        go_ret
        exact ⟨rfl, S.out.below⟩
      · have k3 : (lc.length : Int) ≤ 60 := by omega
        clear h3
        refine groups_in n k l o rr N K L O ((rr % 256) % N).toNat hN hK hL hO ?_ ?_ bN bK bL bO (mul_le8 bN bK) (mul_le8 bK bL) (mul_le8 bL bO) (mul_le8 bN bO).2 a ca la a2 cb lb a3 cc lc w0 HA HB HC k1 k2 k3
        · rw [and_m8, Int.tmod_eq_emod_of_nonneg (by omega)]
          have := Int.emod_nonneg (rr % 256) (show (N : Int) ≠ 0 by omega)
          omega
        · have h1 := Int.emod_nonneg (rr % 256) (show (N : Int) ≠ 0 by omega)
          have h2 := Int.emod_lt_of_pos (rr % 256) (show (0 : Int) < (N : Int) by omega)
          omega
end Go.Proofs.Ytfhphbpgiickfaa.Mt
