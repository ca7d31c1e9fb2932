/- law2's helpers, walked: same, the document's Unit, awake. -/
import Derived.Test.YtfhphbpgiickfaaMtL1
namespace Go.Proofs.Ytfhphbpgiickfaa.Mt
open Go Go.RowKit Go.Proofs.Ytfhphbpgiickfaa Go.Proofs.Ytfhphbpgiickfaa.Sp Go.Proofs.Ytfhphbpgiickfaa.Reg Go.Proofs.Ytfhphbpgiickfaa.Rd Go.Proofs.Ytfhphbpgiickfaa.Gf
section
variable {B : Nat} {w0 : World} {R : HP}
def SF (n : Nat) (xs : List UInt8) (k : Nat) (a : Nat × Nat) : Value := match k with
  | 0 => .slice (some ⟨a.1, 0, none⟩) n a.2
  | _ => str xs
set_option maxRecDepth 100000 in
set_option maxHeartbeats 8000000 in
theorem same_true (b g cap fb r c : Nat) (f : Mx) (hrc : r * c ≤ 1024) (g2 : Nat) (cap2 : Nat) (w : World) (hb : Reads B w0 R (.slice (some ⟨g2, 0, none⟩) (r * c) cap2) (cl r c f)) (s : St B w0 w (mo b g cap fb r c f * R)) :
    Calls Try.prog 30 #[.pointer (some ⟨b, 0, none⟩), rmv r c (r * c) g2 cap2] w (RetG B w0 (mo b g cap fb r c f * R) (.bool true)) := by
  have s1 := s.alloc (.cells #[.int .i64 (r : Int), .int .i64 (c : Int), .slice (some ⟨g2, 0, none⟩) (r * c) cap2] 50)
  have HB := Lib.hid hb
  have S := Lib.hid (s1.eq (Q := mo b g cap fb r c f * (pts w.heap.size (.cells #[.int .i64 (r : Int), .int .i64 (c : Int), .slice (some ⟨g2, 0, none⟩) (r * c) cap2] 50) * R)) (by ac_rfl))
  clear s s1 hb
  unfold rmv
  go_enter Try.func30, Try.ntmps30
  go_wp2_with fail
  generalize w.heap.size = b3 at *
  refine (size_calls b g cap fb r c f _ S.out).mono ?_
  rintro e w2 ⟨rfl, s⟩
  clear S
  have S := Lib.hid s
  clear s
  go_wp2_with fail
  have LC := Lib.hid fun (j : Nat) (vs : Nat → Value) (w' : World) (h : PJ B w0 (mo b g cap fb r c f * (pts b3 (.cells #[.int .i64 (r : Int), .int .i64 (c : Int), .slice (some ⟨g2, 0, none⟩) (r * c) cap2] 50) * R)) (SF (r * c) (cl r c f)) (fun (_ : Nat) (a : Nat × Nat) => row 5 1 (.slice (some ⟨a.1, 0, none⟩) (r * c) a.2) (r * c) (bvs (cl r c f)) * (mo b g cap fb r c f * (pts b3 (.cells #[.int .i64 (r : Int), .int .i64 (c : Int), .slice (some ⟨g2, 0, none⟩) (r * c) cap2] 50) * R))) j vs w') =>
    show ∃ Y, St B w0 w' (pts b3 (.cells #[.int .i64 (r : Int), .int .i64 (c : Int), .slice (some ⟨g2, 0, none⟩) (r * c) cap2] 50) * (Y * R)) from by
      obtain ⟨Z, ⟨Z', rfl⟩, s⟩ := PJ.any (Y := fun Z => ∃ Z', Z = (mo b g cap fb r c f * (pts b3 (.cells #[.int .i64 (r : Int), .int .i64 (c : Int), .slice (some ⟨g2, 0, none⟩) (r * c) cap2] 50) * R)) * Z') ⟨emp, (sep_emp _).symm⟩ (fun (_ : Nat) (a : Nat × Nat) => ⟨row 5 1 (.slice (some ⟨a.1, 0, none⟩) (r * c) a.2) (r * c) (bvs (cl r c f)), sep_comm _ _⟩) h
      exact ⟨mo b g cap fb r c f * Z', s.eq (by ac_rfl)⟩
  refine wp_region_rv [26, 27] (PJ B w0 (mo b g cap fb r c f * (pts b3 (.cells #[.int .i64 (r : Int), .int .i64 (c : Int), .slice (some ⟨g2, 0, none⟩) (r * c) cap2] 50) * R)) (SF (r * c) (cl r c f)) (fun (_ : Nat) (a : Nat × Nat) => row 5 1 (.slice (some ⟨a.1, 0, none⟩) (r * c) a.2) (r * c) (bvs (cl r c f)) * (mo b g cap fb r c f * (pts b3 (.cells #[.int .i64 (r : Int), .int .i64 (c : Int), .slice (some ⟨g2, 0, none⟩) (r * c) cap2] 50) * R)))) [12, 13] mixed (by kernel_rfl) (by kernel_rfl) (by kernel_rfl) (fun _ => S.out.drew) ?_
  refine RXl.exact (.int .i64 (r : Int)) rfl rfl rfl rfl rfl (fun _ _ _ _ _ => rfl) ?_
  refine RXl.exact (.pointer (some ⟨b3, 0, none⟩)) rfl rfl rfl rfl rfl (fun j τ w' hj hJ => (by obtain ⟨vs, hv, hJ⟩ := hJ; exact (by simp [rho, upd, Spec.val, execOp, go_sem]))) ?_
  refine RXl.exact (.int .i64 (r : Int)) rfl rfl rfl rfl rfl (fun j τ w' hj hJ => (by obtain ⟨vs, hv, hJ⟩ := hJ; exact (by obtain ⟨Y, q⟩ := LC.out _ _ _ hJ; have c := q.cell 0; simp at c; simp [rho, upd, Spec.val, execOp, go_sem, c]))) ?_
  refine RXl.exact (.bool true) rfl rfl rfl rfl rfl (fun j τ w' hj hJ => (by obtain ⟨vs, hv, hJ⟩ := hJ; exact (by simp [rho, upd, Spec.val, execOp, go_sem]))) ?_
  refine RXl.exact (.bool true) rfl rfl rfl rfl rfl (fun _ _ _ _ _ => rfl) ?_
  refine RXl.exact (.int .i64 (c : Int)) rfl rfl rfl rfl rfl (fun _ _ _ _ _ => rfl) ?_
  refine RXl.exact (.pointer (some ⟨b3, 1, none⟩)) rfl rfl rfl rfl rfl (fun j τ w' hj hJ => (by obtain ⟨vs, hv, hJ⟩ := hJ; exact (by simp [rho, upd, Spec.val, execOp, go_sem]))) ?_
  refine RXl.exact (.int .i64 (c : Int)) rfl rfl rfl rfl rfl (fun j τ w' hj hJ => (by obtain ⟨vs, hv, hJ⟩ := hJ; exact (by obtain ⟨Y, q⟩ := LC.out _ _ _ hJ; have c := q.cell 1; simp at c; simp [rho, upd, Spec.val, execOp, go_sem, c]))) ?_
  refine RXl.exact (.bool true) rfl rfl rfl rfl rfl (fun j τ w' hj hJ => (by obtain ⟨vs, hv, hJ⟩ := hJ; exact (by simp [rho, upd, Spec.val, execOp, go_sem]))) ?_
  refine RXl.exact (.bool true) rfl rfl rfl rfl rfl (fun _ _ _ _ _ => rfl) ?_
  refine RXl.exact (.bool true) rfl rfl rfl rfl rfl (fun _ _ _ _ _ => rfl) ?_
  refine RXl.exact (.pointer (some ⟨b, 0, none⟩)) rfl rfl rfl rfl rfl (fun _ _ _ _ _ => rfl) ?_
  refine RXl.callV 0 26 rfl rfl rfl (Nat.le_of_ble_eq_true rfl) _ [.tmp 25] _ rfl rfl rfl rfl rfl (PJ.first [.pointer (some ⟨b, 0, none⟩)] (fun ρ w hag => by simp [hag.ex 25 _ rfl rfl rfl]) (fun _ => rfl) (fun w s => by refine (cells_calls b g cap fb r c f (by omega) w s).mono ?_; rintro e w1 ⟨g1, k1, rfl, s1⟩; rw [cl_len] at s1 ⊢; exact ⟨(g1, k1), rfl, s1⟩)) ?_
  refine RXl.effV 1 27 rfl rfl rfl (Nat.le_of_ble_eq_true rfl) rfl rfl rfl rfl (PJ.pass rfl (fun ρ a w h hag s => by have e := h 0 26 (by decide) rfl; exact exec_convert rfl (by rw [e]; exact run_str Try.underlying36 Try.underlying5 Try.underlying9 s.bs))) ?_
  refine RXl.exact (.pointer (some ⟨b3, 2, none⟩)) rfl rfl rfl rfl rfl (fun j τ w' hj hJ => (by obtain ⟨vs, hv, hJ⟩ := hJ; exact (by simp [rho, upd, Spec.val, execOp, go_sem]))) ?_
  refine RXl.exact (.slice (some ⟨g2, 0, none⟩) (r * c) cap2) rfl rfl rfl rfl rfl (fun j τ w' hj hJ => (by obtain ⟨vs, hv, hJ⟩ := hJ; exact (by obtain ⟨Y, q⟩ := LC.out _ _ _ hJ; have c := q.cell 2; simp at c; simp [rho, upd, Spec.val, execOp, go_sem, c]))) ?_
  refine RXl.exact (str (cl r c f)) rfl rfl rfl rfl rfl (fun j τ w' hj hJ => (by obtain ⟨vs, hv, hJ⟩ := hJ; exact (by obtain ⟨Y, q⟩ := LC.out _ _ _ hJ; exact exec_convert rfl (run_str Try.underlying36 Try.underlying5 Try.underlying9 (HB.out _ (pts b3 (.cells #[.int .i64 (r : Int), .int .i64 (c : Int), .slice (some ⟨g2, 0, none⟩) (r * c) cap2] 50) * Y) (q.eq (by ac_rfl))))))) ?_
  refine RXl.value (.ex (.bool true)) (Free.ex _) rfl rfl rfl rfl (fun ρ w' j hj hI hag => ⟨_, (by obtain ⟨a, e⟩ := PJ.val (hag.so 27 _ rfl rfl rfl); have e2 := hag.ex 30 _ rfl rfl rfl; have e' : ρ (.tmp 27) = str (cl r c f) := e; simp [execOp, go_sem, e', e2]), rfl⟩) ?_
  refine RXl.exact (.bool true) rfl rfl rfl rfl rfl (fun _ _ _ _ _ => rfl) ?_
  refine RXl.exact (.bool true) rfl rfl rfl rfl rfl (fun _ _ _ _ _ => rfl) ?_
  refine RXl.nilV _ (AgrL.upd _ _ (AgrL.upd _ _ (AgrL.upd _ _ (AgrL.upd _ _ (AgrL.upd _ _ (AgrL.upd _ _ (AgrL.unk 27 _ rfl (AgrL.unk 26 _ rfl (AgrL.upd _ _ (AgrL.upd _ _ (AgrL.upd _ _ (AgrL.upd _ _ (AgrL.upd _ _ (AgrL.upd _ _ (AgrL.upd _ _ (AgrL.upd _ _ (AgrL.upd _ _ (AgrL.upd _ _ (AgrL.upd _ _ (AgrL.upd _ _ (AgrL.base _))))))))))))))))))))) (by decide) (by decide) fun vs w9 hJ => ?_
  simp only [puts, Act.put, List.setIfInBounds_toArray, List.set_cons_succ, List.set_cons_zero]
  obtain ⟨a, hv, s9⟩ := hJ
  have S9 := Lib.hid ((s9.right.eq (Q := pts b3 (.cells #[.int .i64 (r : Int), .int .i64 (c : Int), .slice (some ⟨g2, 0, none⟩) (r * c) cap2] 50) * (mo b g cap fb r c f * R)) (by ac_rfl)).right)
  generalize vs 0 = x1
  generalize vs (0 + 1) = x2
  clear s9 hv S LC
  go_wp2_with fail
  go_ret
  exact ⟨rfl, S9.out⟩
set_option maxRecDepth 100000 in
set_option maxHeartbeats 4000000 in
theorem runit_calls (n : Nat) (hn : 1 ≤ n ∧ n ≤ 32) (w : World) (s : St B w0 w R) :
    Calls Try.prog 31 #[.int .i64 (n : Int)] w fun e w' => ∃ g, e = .returned (rmv n n (n * n) g (n * n)) ∧ St B w0 w' (row 5 1 (.slice (some ⟨g, 0, none⟩) (n * n) (n * n)) (n * n) (bvs (cl n n unit)) * R) := by
  have hnn : n * n ≤ 32 * 32 := Nat.mul_le_mul hn.2 hn.2
  have wnn := wrapm hnn (by omega)
  have s1 := s.alloc (.cells #[.int .i64 0, .int .i64 0, .slice none 0 0] 50)
  have S := Lib.hid s1
  clear s s1
  go_enter Try.func31, Try.ntmps31
  go_wp2_with (at_make; go_must (refine wpl_make1 rfl _ _ rfl tB rfl S.out .i64 .i64 (n * n) (n * n) (by go_num) (by go_num) (Nat.le_refl _) (by unfold maxLen; omega) (by omega) ?_); intro g w2 s2; rw [bvs_zeros, ← cl_zero, ← pu_zero] at s2; clear S; have S := Lib.hid s2; clear s2)
  have s3 := S.out.alloc (.cells #[.int .i64 (n : Int), .int .i64 (n : Int), .slice (some ⟨g, 0, none⟩) (n * n) (n * n)] 50)
  clear S
  have S := Lib.hid s3
  clear s3
  generalize w2.heap.size = b7 at *
  generalize w.heap.size = b6 at *
  go_loopw [4] (fun i wr => ∃ k : Nat, k ≤ n ∧ i = .int .i64 k ∧ St B w0 wr (pts b7 (.cells #[.int .i64 (n : Int), .int .i64 (n : Int), .slice (some ⟨g, 0, none⟩) (n * n) (n * n)] 50) * (row 5 1 (.slice (some ⟨g, 0, none⟩) (n * n) (n * n)) (n * n) (bvs (cl n n (pu k))) * (pts b6 (.cells #[.int .i64 0, .int .i64 0, .slice none 0 0] 50) * R)))) (fun i _ => n - (intOf i).toNat)
  case atStart => exact ⟨0, Nat.zero_le _, rfl, S.out⟩
  case round =>
    obtain ⟨k, hk, rfl, s⟩ := hrel
    clear S
    by_cases hlt : k < n
    · have c2 := s.cell 2
      simp at c2
      obtain ⟨-, -, -, -, h1, h2, h3⟩ := (s.eq (Q := row 5 1 (.slice (some ⟨g, 0, none⟩) (n * n) (n * n)) (n * n) (bvs (cl n n (pu k))) * (pts b7 (.cells #[.int .i64 (n : Int), .int .i64 (n : Int), .slice (some ⟨g, 0, none⟩) (n * n) (n * n)] 50) * (pts b6 (.cells #[.int .i64 0, .int .i64 0, .slice none 0 0] 50) * R))) (by ac_rfl)).row1
      have hp := at_lt hlt hlt
      have c4 := h1 _ hp
      rw [bvs, List.getElem?_map, cl_get (pu k) hlt hlt] at c4
      simp only [Option.map_some] at c4
      have f4 := h2 (k * n + k)
      have q := h3 (k * n + k) (bv 1) hp
      rw [bvs, ← List.map_set, cl_set (pu k) hlt hlt, pu_step] at q
      obtain ⟨q1, q2, q3, q4, q5⟩ := spot hlt hlt (show n * n ≤ 1000000 by omega)
      generalize pu k k k = old at c4
      have S := Lib.hid q
      clear s q h1 h2 h3 hp
      go_wp2_with fail
      go_roundw
      case rel => exact ⟨k + 1, by omega, by go_num, S.out.eq (by unfold bvs; ac_rfl)⟩
      case measure => simp [intOf]; omega
    · obtain rfl : k = n := by omega
      have s := s.eq (Q := pts b6 (.cells #[.int .i64 0, .int .i64 0, .slice none 0 0] 50) * (pts b7 (.cells #[.int .i64 (k : Int), .int .i64 (k : Int), .slice (some ⟨g, 0, none⟩) (k * k) (k * k)] 50) * (row 5 1 (.slice (some ⟨g, 0, none⟩) (k * k) (k * k)) (k * k) (bvs (cl k k unit)) * R))) (by rw [pu_end]; ac_rfl)
      have sb := s.eq (sep_left_comm _ _ _)
      have d0 := sb.cell 0
      have d1 := sb.cell 1
      have d2 := sb.cell 2
      simp at d0 d1 d2
      have e0 := s.cell 0
      have e1 := s.cell 1
      have e2 := s.cell 2
      have f0 := s.free 0
      have f1 := s.free 1
      have f2 := s.free 2
      simp at e0 e1 e2
      have s9 := ((s.set 0 (.int .i64 (k : Int))).set 1 (.int .i64 (k : Int))).set 2 (.slice (some ⟨g, 0, none⟩) (k * k) (k * k))
      have z0 := s9.cell 0
      have z1 := s9.cell 1
      have z2 := s9.cell 2
      simp at z0 z1 z2
      have Z := Lib.hid (And.intro z0 (And.intro z1 z2))
      have S9 := Lib.hid s9.right.right
      clear s sb s9 z0 z1 z2
      go_wp2_with fail
      refine bodyPost_ret (v := rmv k k (k * k) g (k * k)) (by simp [results, Try.results31, go_sem, Z.out.1, Z.out.2.1, Z.out.2.2, rmv]) rfl ?_
      exact ⟨g, rfl, S9.out⟩
theorem two_gj : ∃ A Bm, gj 1 (ofl 1 [2]) 1 = some (A, Bm) ∧ Bm 0 0 = 142 := by
  have h := gj_next (n := 1) (f := ofl 1 [2]) (A := ofl 1 [2]) (Bm := unit) (k := 0) (p := 0) rfl (pv_eq (Nat.le_refl _) (by omega) (fun q h1 h2 => absurd h2 (by omega)) (fun _ => by decide +kernel)) (by decide)
  exact ⟨_, _, h, by decide +kernel⟩
set_option maxRecDepth 100000 in
set_option maxHeartbeats 4000000 in
theorem awake_calls (w : World) : Calls Try.prog 32 #[] w fun e w' => e = .returned (.bool true) ∧ Add w w' := by
  obtain ⟨A, Bm, hg, hb⟩ := two_gj
  have HG := Lib.hid hg
  have HB := Lib.hid hb
  clear hg hb
  go_enter Try.func32, Try.ntmps32
  go_wp2_with fail
  refine (newx w (St.init w)).mono ?_
  rintro e w1 ⟨fb, rfl, s⟩
  have s1 := s.alloc (.cells #[bv 2] 5)
  have HBS := Lib.hid (BS.lit w1 [2] 5 (0, 0) (by simp [maxLen]))
  have S := Lib.hid s1
  clear s s1
  go_wp2_with fail
  refine (new_good fb 1 1 (some ⟨w1.heap.size, 0, none⟩) 1 1 [2] (by omega) (by omega) rfl _ HBS.out S.out).mono ?_
  rintro e w2 ⟨b, rfl, s⟩
  obtain ⟨g, cap, s⟩ := mt_open s
  clear S HBS
  have S := Lib.hid (s.eq (Q := fx fb * (mo b g cap fb 1 1 (ofl 1 [2]) * (pts w1.heap.size (.cells #[bv 2] 5) * emp))) (by ac_rfl))
  clear s
  go_wp2_with fail
  refine (inv_calls b g cap fb 1 (ofl 1 [2]) (by omega) w2 S.out).mono ?_
  unfold InvP
  rw [HG.out]
  rintro e w3 ⟨b2, rfl, s⟩
  obtain ⟨g2, cap2, s⟩ := mt_open s
  clear S
  have S := Lib.hid s
  clear s
  go_wp2_with fail
  refine (at_in b2 g2 cap2 fb 1 1 Bm 0 0 (by omega) (by omega) (by omega) _ S.out).mono ?_
  rw [HB.out]
  rintro e w4 ⟨rfl, s⟩
  clear S
  have S := Lib.hid (s.eq (Q := mo b g cap fb 1 1 (ofl 1 [2]) * (mo b2 g2 cap2 fb 1 1 Bm * (fx fb * (pts w1.heap.size (.cells #[bv 2] 5) * emp)))) (by ac_rfl))
  clear s
  go_wp2_with fail
  refine (at_out b g cap fb 1 1 (ofl 1 [2]) 1 0 (by omega) _ S.out).mono ?_
  rintro e w4 ⟨rfl, s⟩
  clear S
  have S := Lib.hid s
  clear s
  go_wp2_with fail
  go_ret
  exact ⟨rfl, S.out.below⟩
end
end Go.Proofs.Ytfhphbpgiickfaa.Mt
