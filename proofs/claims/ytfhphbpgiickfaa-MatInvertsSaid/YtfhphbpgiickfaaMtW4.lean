/- mat's Mul where it refuses; Times, walked. -/
import Derived.Test.YtfhphbpgiickfaaMtW3
namespace Go.Proofs.Ytfhphbpgiickfaa.Mt
open Go Go.RowKit Go.Proofs.Ytfhphbpgiickfaa Go.Proofs.Ytfhphbpgiickfaa.Sp Go.Proofs.Ytfhphbpgiickfaa.Reg Go.Proofs.Ytfhphbpgiickfaa.Rd Go.Proofs.Ytfhphbpgiickfaa.Gf
section
variable {B : Nat} {w0 : World} {R : HP}
set_option maxRecDepth 100000 in
set_option maxHeartbeats 4000000 in
theorem mul_bad (b1 g1 k1 fb r n : Nat) (f : Mx) (b2 g2 k2 fb2 n2 c : Nat) (h : Mx) (hne : n2 ≠ n) (w : World) (s : St B w0 w (mo b1 g1 k1 fb r n f * (mo b2 g2 k2 fb2 n2 c h * R))) :
    Calls Try.prog 29 #[.pointer (some ⟨b1, 0, none⟩), .pointer (some ⟨b2, 0, none⟩)] w (RetG B w0 (mo b1 g1 k1 fb r n f * (mo b2 g2 k2 fb2 n2 c h * R)) (.tuple #[.pointer none, .int .i64 1])) := by
  have hn : ((n2 : Int) != (n : Int)) = true := by rw [bne_iff_ne]; omega
  clear hne
  have S := Lib.hid s
  clear s
  go_enter Try.func29, Try.ntmps29
  go_wp2_with fail
  refine wp_region_rx (fun _ w' => St B w0 w' (mo b1 g1 k1 fb r n f * (mo b2 g2 k2 fb2 n2 c h * R))) [] mixed (by kernel_rfl) (by kernel_rfl) S.out.drew ?_
  refine RXl.exact (.pointer (some ⟨b2, 0, none⟩)) rfl rfl rfl rfl rfl (fun _ _ _ _ _ => rfl) ?_
  refine RXl.exact (.bool false) rfl rfl rfl rfl rfl (fun j τ w' hj hJ => by simp [rho, upd, Spec.val, execOp, go_sem]) ?_
  refine RXl.exact (.bool false) rfl rfl rfl rfl rfl (fun _ _ _ _ _ => rfl) ?_
  refine RXl.exact (.pointer (some ⟨b2, 0, none⟩)) rfl rfl rfl rfl rfl (fun _ _ _ _ _ => rfl) ?_
  refine RXl.exact (.pointer (some ⟨b2, 0, none⟩)) rfl rfl rfl rfl rfl (fun j τ w' hj hJ => by simp [rho, upd, Spec.val, execOp, go_sem]) ?_
  refine RXl.exact (.pointer (some ⟨b2, 1, none⟩)) rfl rfl rfl rfl rfl (fun j τ w' hj hJ => by simp [rho, upd, Spec.val, execOp, go_sem]) ?_
  refine RXl.exact (.int .i64 (n2 : Int)) rfl rfl rfl rfl rfl (fun j τ w' hj hJ => by have c := (mo_cells (St.eq (sep_left_comm _ _ _) hJ)).2.1; simp [rho, upd, Spec.val, execOp, go_sem, c]) ?_
  refine RXl.exact (.pointer (some ⟨b1, 0, none⟩)) rfl rfl rfl rfl rfl (fun _ _ _ _ _ => rfl) ?_
  refine RXl.exact (.pointer (some ⟨b1, 0, none⟩)) rfl rfl rfl rfl rfl (fun j τ w' hj hJ => by simp [rho, upd, Spec.val, execOp, go_sem]) ?_
  refine RXl.exact (.pointer (some ⟨b1, 2, none⟩)) rfl rfl rfl rfl rfl (fun j τ w' hj hJ => by simp [rho, upd, Spec.val, execOp, go_sem]) ?_
  refine RXl.exact (.int .i64 (n : Int)) rfl rfl rfl rfl rfl (fun j τ w' hj hJ => by have c := (mo_cells hJ).2.2.1; simp [rho, upd, Spec.val, execOp, go_sem, c]) ?_
  refine RXl.exact (.bool true) rfl rfl rfl rfl rfl (fun j τ w' hj hJ => by simp only [rho, upd, Spec.val, execOp]; simp [go_sem]; simpa using hn) ?_
  refine RXl.exact (.bool true) rfl rfl rfl rfl rfl (fun _ _ _ _ _ => rfl) ?_
  refine RXl.nilx _ (Agr.upd _ _ (Agr.upd _ _ (Agr.upd _ _ (Agr.upd _ _ (Agr.upd _ _ (Agr.upd _ _ (Agr.upd _ _ (Agr.upd _ _ (Agr.upd _ _ (Agr.upd _ _ (Agr.upd _ _ (Agr.upd _ _ (Agr.upd _ _ (Agr.base _)))))))))))))) fun w8 hJ => ?_
  obtain ⟨_, hJ⟩ := hJ
  simp only [Act.put, List.setIfInBounds_toArray, List.set_cons_succ, List.set_cons_zero]
  have S8 := Lib.hid (show St B w0 w8 (mo b1 g1 k1 fb r n f * (mo b2 g2 k2 fb2 n2 c h * R)) from hJ)
  clear hJ S hn
  go_wp2_with fail
  go_ret2
  exact ⟨rfl, S8.out⟩
set_option maxRecDepth 100000 in
theorem mul_nil (b1 : Nat) (w : World) (s : St B w0 w R) : Calls Try.prog 29 #[.pointer (some ⟨b1, 0, none⟩), .pointer none] w (RetG B w0 R (.tuple #[.pointer none, .int .i64 1])) := by
  have S := Lib.hid s
  clear s
  go_enter Try.func29, Try.ntmps29
  go_wp2_with fail
  refine wp_region_rx (fun _ w' => St B w0 w' R) [] mixed (by kernel_rfl) (by kernel_rfl) S.out.drew ?_
  refine RXl.exact (.pointer none) rfl rfl rfl rfl rfl (fun _ _ _ _ _ => rfl) ?_
  refine RXl.exact (.bool true) rfl rfl rfl rfl rfl (fun j τ w' hj hJ => by simp [rho, upd, Spec.val, execOp, go_sem]) ?_
  refine RXl.exact (.bool true) rfl rfl rfl rfl rfl (fun _ _ _ _ _ => rfl) ?_
  refine RXl.skip rfl rfl rfl rfl ?_
  refine RXl.skip rfl rfl rfl rfl ?_
  refine RXl.skip rfl rfl rfl rfl ?_
  refine RXl.skip rfl rfl rfl rfl ?_
  refine RXl.skip rfl rfl rfl rfl ?_
  refine RXl.skip rfl rfl rfl rfl ?_
  refine RXl.skip rfl rfl rfl rfl ?_
  refine RXl.skip rfl rfl rfl rfl ?_
  refine RXl.skip rfl rfl rfl rfl ?_
  refine RXl.exact ((Value.bool true)) rfl rfl rfl rfl rfl (fun _ _ _ _ _ => rfl) ?_
  refine RXl.nilx _ (Agr.upd _ _ (Agr.upd _ _ (Agr.upd _ _ (Agr.upd _ _ (Agr.upd _ _ (Agr.upd _ _ (Agr.upd _ _ (Agr.upd _ _ (Agr.upd _ _ (Agr.upd _ _ (Agr.upd _ _ (Agr.upd _ _ (Agr.upd _ _ (Agr.base _)))))))))))))) fun w8 hJ => ?_
  obtain ⟨_, hJ⟩ := hJ
  simp only [Act.put, List.setIfInBounds_toArray, List.set_cons_succ, List.set_cons_zero]
  have S8 := Lib.hid (show St B w0 w8 R from hJ)
  clear hJ S
  go_wp2_with fail
  go_ret2
  exact ⟨rfl, S8.out⟩
/-- A product with a column, under way. -/
def tl (r n : Nat) (f : Mx) (v : List UInt8) (i : Nat) : List UInt8 := (List.range r).map fun a => if a < i then gdot (mrow n f a) v else 0
theorem tl_len (r n : Nat) (f : Mx) (v : List UInt8) (i : Nat) : (tl r n f v i).length = r := by simp [tl]
theorem tl_zero (r n : Nat) (f : Mx) (v : List UInt8) : tl r n f v 0 = List.replicate r 0 := by
  refine List.eq_replicate_iff.2 ⟨tl_len _ _ _ _ _, fun b hb => ?_⟩
  obtain ⟨q, _, rfl⟩ := List.mem_map.1 hb
  simp
theorem tl_set (r n : Nat) (f : Mx) (v : List UInt8) (i : Nat) : (tl r n f v i).set i (gdot (mrow n f i) v) = tl r n f v (i + 1) := by
  apply List.ext_getElem
  · simp [tl]
  · intro q h1 h2
    rw [List.getElem_set]
    simp only [tl, List.getElem_map, List.getElem_range]
    split
    · rename_i e; subst e; rw [if_pos (by omega)]
    · rename_i e
      by_cases e2 : q < i
      · rw [if_pos e2, if_pos (by omega)]
      · rw [if_neg e2, if_neg (by omega)]
theorem tl_end (r n : Nat) (f : Mx) (v : List UInt8) : tl r n f v r = (List.range r).map fun a => gdot (mrow n f a) v := by
  refine List.map_congr_left fun a ha => if_pos (List.mem_range.1 ha)
theorem times_bad (b1 g1 k1 fb r n : Nat) (f : Mx) (a : Option Addr) (m c : Nat) (hne : m ≠ n) (w : World) (s : St B w0 w (mo b1 g1 k1 fb r n f * R)) :
    Calls Try.prog 39 #[.pointer (some ⟨b1, 0, none⟩), .slice a m c] w (RetG B w0 (mo b1 g1 k1 fb r n f * R) (.tuple #[.slice none 0 0, .int .i64 1])) := by
  have hn : ((m : Int) != (n : Int)) = true := by rw [bne_iff_ne]; omega
  have c2 := (mo_cells s).2.2.1
  clear hne
  have S := Lib.hid s
  clear s
  go_enter Try.func39, Try.ntmps39
  go_wp2_with fail
  go_ret2
  exact ⟨rfl, S.out⟩
set_option maxRecDepth 100000 in
set_option maxHeartbeats 8000000 in
theorem times_good (b1 g1 k1 fb r n : Nat) (f : Mx) (a : Option Addr) (c : Nat) (lv : List UInt8) (hr : 1 ≤ r ∧ r ≤ 32) (hn : 1 ≤ n ∧ n ≤ 32) (hl : lv.length = n) (hv : Reads B w0 R (.slice a n c) lv) (w : World) (s : St B w0 w (fx fb * (mo b1 g1 k1 fb r n f * R))) :
    Calls Try.prog 39 #[.pointer (some ⟨b1, 0, none⟩), .slice a n c] w fun e w' => ∃ g, e = .returned (.tuple #[.slice (some ⟨g, 0, none⟩) r r, .int .i64 0]) ∧
      St B w0 w' (row 5 1 (.slice (some ⟨g, 0, none⟩) r r) r (bvs ((List.range r).map fun a => gdot (mrow n f a) lv)) * (fx fb * (mo b1 g1 k1 fb r n f * R))) := by
  have hrn : r * n ≤ 32 * 32 := Nat.mul_le_mul hr.2 hn.2
  have HV := Lib.hid hv
  have HL := Lib.hid hl
  obtain ⟨-, c1, c2, -⟩ := mo_cells (s.eq (sep_left_comm _ _ _))
  clear hv hl
  have S := Lib.hid s
  clear s
  go_enter Try.func39, Try.ntmps39
  go_wp2_with (at_make; go_must (refine wpl_make1 rfl _ _ rfl tB rfl S.out .i64 .i64 r r rfl rfl (Nat.le_refl _) (by unfold maxLen; omega) (by omega) ?_); intro g w2 s2; rw [bvs_zeros, ← tl_zero r n f lv] at s2; clear S c1 c2; have S := Lib.hid s2; clear s2)
  go_loopw [22] (fun i wr => ∃ k : Nat, k ≤ r ∧ i = .int .i64 k ∧ St B w0 wr (row 5 1 (.slice (some ⟨g, 0, none⟩) r r) r (bvs (tl r n f lv k)) * (fx fb * (mo b1 g1 k1 fb r n f * R)))) (fun i _ => r - (intOf i).toNat)
  case atStart => exact ⟨0, Nat.zero_le _, rfl, S.out⟩
  case round =>
    obtain ⟨k, hk, rfl, s⟩ := hrel
    clear S
    by_cases hlt : k < r
    · have S := Lib.hid s
      have HT := Lib.hid (tl_set r n f lv k)
      clear s
      go_wp2_with fail
      refine wp_region_rx (fun p w' => St B w0 w' (row 5 1 (.slice (some ⟨g, 0, none⟩) r r) r (bvs (tl r n f lv (if p = 0 then k else k + 1))) * (fx fb * (mo b1 g1 k1 fb r n f * R)))) [12] mixed (by kernel_rfl) (by kernel_rfl) S.out.drew ?_
      refine RXl.exact (.slice (some ⟨g, 0, none⟩) r r) rfl rfl rfl rfl rfl (fun _ _ _ _ _ => rfl) ?_
      refine RXl.exact (.int .i64 (k : Int)) rfl rfl rfl rfl rfl (fun _ _ _ _ _ => rfl) ?_
      refine RXl.exact (.pointer (some ⟨b1, 0, none⟩)) rfl rfl rfl rfl rfl (fun _ _ _ _ _ => rfl) ?_
      refine RXl.exact (.pointer (some ⟨b1, 0, none⟩)) rfl rfl rfl rfl rfl (fun j τ w' hj hJ => by simp [rho, upd, Spec.val, execOp, go_sem]) ?_
      refine RXl.exact (.pointer (some ⟨b1, 0, none⟩)) rfl rfl rfl rfl rfl (fun j τ w' hj hJ => by simp [rho, upd, Spec.val, execOp, go_sem]) ?_
      refine RXl.exact (.pointer (some ⟨fb, 0, none⟩)) rfl rfl rfl rfl rfl (fun j τ w' hj hJ => by have c := (mo_cells (St.eq (P := row 5 1 (.slice (some ⟨g, 0, none⟩) r r) r (bvs (tl r n f lv (if j = 0 then k else k + 1))) * (fx fb * (mo b1 g1 k1 fb r n f * R))) (Q := mo b1 g1 k1 fb r n f * (fx fb * (row 5 1 (.slice (some ⟨g, 0, none⟩) r r) r (bvs (tl r n f lv (if j = 0 then k else k + 1))) * R))) (by ac_rfl) hJ)).1; simp [rho, upd, Spec.val, execOp, go_sem, c]) ?_
      refine RXl.exact (.pointer (some ⟨b1, 0, none⟩)) rfl rfl rfl rfl rfl (fun _ _ _ _ _ => rfl) ?_
      refine RXl.exact (.int .i64 (k : Int)) rfl rfl rfl rfl rfl (fun _ _ _ _ _ => rfl) ?_
      refine RXl.callr (.slice (some ⟨g1, k * n, none⟩) n (k1 - k * n)) _ [.pointer (some ⟨b1, 0, none⟩), .int .i64 (k : Int)] [.tmp 31, .tmp 32] _ rfl rfl rfl rfl rfl rfl (fun _ => rfl) (fun j τ w' hj hJ => via (by ac_rfl) hJ (row_calls b1 g1 k1 fb r n f k hlt (by omega) (by omega) w' (R := row 5 1 (.slice (some ⟨g, 0, none⟩) r r) r (bvs (tl r n f lv (if j = 0 then k else k + 1))) * (fx fb * R)))) ?_
      refine RXl.exact (.slice a n c) rfl rfl rfl rfl rfl (fun _ _ _ _ _ => rfl) ?_
      refine RXl.callr (bv (gdot (mrow n f k) lv)) _ [.pointer (some ⟨fb, 0, none⟩), .slice (some ⟨g1, k * n, none⟩) n (k1 - k * n), .slice a n c] [.tmp 30, .tmp 33, .tmp 34] _ rfl rfl rfl rfl rfl rfl (fun _ => rfl) (fun j τ w' hj hJ => via (by ac_rfl) hJ (dotx fb (mrow n f k) lv (some ⟨g1, k * n, none⟩) n (k1 - k * n) a n c w' (R := row 5 1 (.slice (some ⟨g, 0, none⟩) r r) r (bvs (tl r n f lv (if j = 0 then k else k + 1))) * (mo b1 g1 k1 fb r n f * R)) (fun w H s => row_bs hlt (by omega) (s.eq (Q := mo b1 g1 k1 fb r n f * (H * (row 5 1 (.slice (some ⟨g, 0, none⟩) r r) r (bvs (tl r n f lv (if j = 0 then k else k + 1))) * (fx fb * R)))) (by ac_rfl))) (fun w H s => HV.out w (H * (fx fb * (row 5 1 (.slice (some ⟨g, 0, none⟩) r r) r (bvs (tl r n f lv (if j = 0 then k else k + 1))) * mo b1 g1 k1 fb r n f))) (s.eq (by ac_rfl))) (by rw [mrow_len]; omega) (by rw [HL.out]; omega))) ?_
      refine RXl.exact (.pointer (some ⟨g, k, none⟩)) rfl rfl rfl rfl rfl (fun j τ w' hj hJ => by have t1 : (k : Int) < (r : Int) := (by omega); simp [rho, upd, Spec.val, execOp, go_sem, t1]) ?_
      refine RXl.effj 0 rfl rfl rfl rfl rfl rfl (fun w' hJ => (let h := (St.row1 hJ).2.2.2.2; ⟨_, exec_store rfl rfl rfl rfl (by kernel_rfl) ((h.1 k hlt).trans (bvs_get (by rw [tl_len]; exact hlt))) (h.2.1 k), by have q := h.2.2 k (bv (gdot (mrow n f k) lv)) hlt; rw [if_pos rfl, bvs, ← List.map_set, HT.out] at q; exact q⟩)) ?_
      refine RXl.nilx _ (Agr.upd _ _ (Agr.upd _ _ (Agr.upd _ _ (Agr.upd _ _ (Agr.upd _ _ (Agr.upd _ _ (Agr.upd _ _ (Agr.upd _ _ (Agr.upd _ _ (Agr.upd _ _ (Agr.upd _ _ (Agr.upd _ _ (Agr.base _))))))))))))) fun w10 hJ => ?_
      obtain ⟨_, hJ⟩ := hJ
      simp only [Act.put, List.setIfInBounds_toArray, List.set_cons_succ, List.set_cons_zero]
      have S9 := Lib.hid (show St B w0 w10 (row 5 1 (.slice (some ⟨g, 0, none⟩) r r) r (bvs (tl r n f lv (k + 1))) * (fx fb * (mo b1 g1 k1 fb r n f * R))) from hJ)
      clear hJ S HT
      go_wp2_with fail
      go_roundw
      case rel => exact ⟨k + 1, by omega, by go_num, S9.out⟩
      case measure => simp [intOf]; omega
    · obtain rfl : k = r := by omega
      rw [tl_end] at s
      have S := Lib.hid s
      clear s
      go_wp2_with fail
      go_ret2
      exact ⟨g, rfl, S.out⟩
end
end Go.Proofs.Ytfhphbpgiickfaa.Mt
