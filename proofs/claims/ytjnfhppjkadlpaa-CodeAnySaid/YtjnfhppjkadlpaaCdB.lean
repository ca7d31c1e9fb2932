/- Codes: Size and Coef; packages conv: row, Narrow, Wide. No condition. -/
import Derived.Test.YtjnfhppjkadlpaaCdA
import Derived.Test.YtjnfhppjkadlpaaMgB
set_option linter.unusedSimpArgs false
set_option linter.unusedVariables false
namespace Go.Proofs.Ytjnfhppjkadlpaa.Cd
open Go Go.RowKit Go.Proofs.Ytjnfhppjkadlpaa Go.Proofs.Ytjnfhppjkadlpaa.Sp Go.Proofs.Ytjnfhppjkadlpaa.Reg Go.Proofs.Ytjnfhppjkadlpaa.SlW Go.Proofs.Ytjnfhppjkadlpaa.Rd Go.Proofs.Ytjnfhppjkadlpaa.Obr Go.Proofs.Ytjnfhppjkadlpaa.Gf
section
variable {B : Nat} {w0 : World} {R : HP}
theorem cd_open {p fb : Nat} {xs ys : List UInt8} {w : World} (s : St B w0 w (cd p fb xs ys * R)) : ∃ a1 c1 a2 c2, St B w0 w (cdo p fb (.slice a1 xs.length c1) (.slice a2 ys.length c2) xs ys * R) := by
  obtain ⟨⟨v1, v2⟩, s⟩ := St.ex.1 s
  obtain ⟨a1, c1, e1, -⟩ := (s.eq (Q := row 5 1 v1 xs.length (bvs xs) * (pts p (.cells #[pp fb, v1, v2] 95) * (row 5 1 v2 ys.length (bvs ys) * R))) (by unfold cdo; ac_rfl)).rowSlice
  obtain ⟨a2, c2, e2, -⟩ := (s.eq (Q := row 5 1 v2 ys.length (bvs ys) * (pts p (.cells #[pp fb, v1, v2] 95) * (row 5 1 v1 xs.length (bvs xs) * R))) (by unfold cdo; ac_rfl)).rowSlice
  cases e1
  cases e2
  exact ⟨a1, c1, a2, c2, s⟩
theorem cd_close {p fb : Nat} {v1 v2 : Value} {xs ys : List UInt8} {w : World} (s : St B w0 w (cdo p fb v1 v2 xs ys * R)) : St B w0 w (cd p fb xs ys * R) := St.ex.2 ⟨(v1, v2), s⟩
theorem cdo_cells {p fb : Nat} {v1 v2 : Value} {xs ys : List UInt8} {w : World} (s : St B w0 w (cdo p fb v1 v2 xs ys * R)) :
    w.cell? ⟨p, 0, none⟩ = some (pp fb) ∧ w.cell? ⟨p, 1, none⟩ = some v1 ∧ w.cell? ⟨p, 2, none⟩ = some v2 := by
  have t := s.eq (Q := pts p (.cells #[pp fb, v1, v2] 95) * (row 5 1 v1 xs.length (bvs xs) * row 5 1 v2 ys.length (bvs ys) * R)) (by unfold cdo; ac_rfl)
  exact ⟨t.cell 0, t.cell 1, t.cell 2⟩
theorem cdo_x {p fb : Nat} {v1 v2 : Value} {xs ys : List UInt8} {w : World} (s : St B w0 w (cdo p fb v1 v2 xs ys * R)) : BS w v1 xs :=
  (s.eq (Q := row 5 1 v1 xs.length (bvs xs) * (pts p (.cells #[pp fb, v1, v2] 95) * (row 5 1 v2 ys.length (bvs ys) * R))) (by unfold cdo; ac_rfl)).bs
theorem cdo_y {p fb : Nat} {v1 v2 : Value} {xs ys : List UInt8} {w : World} (s : St B w0 w (cdo p fb v1 v2 xs ys * R)) : BS w v2 ys :=
  (s.eq (Q := row 5 1 v2 ys.length (bvs ys) * (pts p (.cells #[pp fb, v1, v2] 95) * (row 5 1 v1 xs.length (bvs xs) * R))) (by unfold cdo; ac_rfl)).bs
set_option maxRecDepth 100000 in
set_option maxHeartbeats 4000000 in
theorem size_calls (p fb : Nat) (xs ys : List UInt8) (w : World) (s : St B w0 w (cd p fb xs ys * R)) :
    Calls Try.prog 31 #[pp p] w (RetG B w0 (cd p fb xs ys * R) (.tuple #[.int .i64 xs.length, .int .i64 ys.length])) := by
  obtain ⟨a1, c1, a2, c2, s1⟩ := cd_open s
  obtain ⟨k0, k1, k2⟩ := cdo_cells s1
  have S := Lib.hid s
  clear s
  clear s1
  go_enter Try.func31, Try.ntmps31
  go_wp2_with fail
  go_region
  all_goals go_wp2_with fail
  all_goals (go_ret2; exact ⟨rfl, S.out.drewN _⟩)
set_option maxRecDepth 100000 in
set_option maxHeartbeats 8000000 in
theorem coef_in (p fb : Nat) (xs ys : List UInt8) (k i : Nat) (hk : k < ys.length) (hi : i < xs.length) (w : World) (s : St B w0 w (fx fb * (cd p fb xs ys * R))) :
    Calls Try.prog 15 #[pp p, .int .i64 (k : Int), .int .i64 (i : Int)] w (RetG B w0 (fx fb * (cd p fb xs ys * R)) (bv (cf xs ys k i))) := by
  obtain ⟨a1, c1, a2, c2, s1⟩ := cd_open (s.eq (sep_left_comm _ _ _))
  obtain ⟨k0, k1, k2⟩ := cdo_cells s1
  obtain ⟨g1, o1, rfl⟩ := (cdo_x s1).head (by omega)
  obtain ⟨g2, o2, rfl⟩ := (cdo_y s1).head (by omega)
  have d1 := (cdo_x s1).cellAt i hi
  have d2 := (cdo_y s1).cellAt k hk
  have i1 : ¬ (k : Int) < 0 := by omega
  have i2 : (k : Int) < (ys.length : Int) := by omega
  have i3 : ¬ (i : Int) < 0 := by omega
  have i4 : (i : Int) < (xs.length : Int) := by omega
  have hcf : ginv (ys[k] ^^^ xs[i]) = cf xs ys k i := by simp [cf, List.getD, hk, hi]
  have HX := Lib.hid (bits_xor_u8' ys[k] xs[i])
  rw [← hcf]
  clear hcf
  have S := Lib.hid (s1.eq (sep_left_comm _ _ _))
  clear s s1 d1 d2
  go_enter Try.func15, Try.ntmps15
  go_wp2_with fail
  refine wp_region_rx (fun _ w' => St B w0 w' (fx fb * (cdo p fb (.slice (some ⟨g1, o1, none⟩) xs.length c1) (.slice (some ⟨g2, o2, none⟩) ys.length c2) xs ys * R))) [] Gf.mixed (by kernel_rfl) (by kernel_rfl) S.out.drew ?_
  clear k0 k1 k2
  refine RXl.exact (.pointer (some ⟨p, 0, none⟩)) rfl rfl rfl rfl rfl (fun _ _ _ _ _ => rfl) ?_
  refine RXl.exact (.pointer (some ⟨p, 0, none⟩)) rfl rfl rfl rfl rfl (fun j τ w' hj hJ => by simp [rho, upd, Spec.val, execOp, go_sem]) ?_
  refine RXl.exact (.pointer (some ⟨p, 0, none⟩)) rfl rfl rfl rfl rfl (fun j τ w' hj hJ => by simp [rho, upd, Spec.val, execOp, go_sem]) ?_
  refine RXl.exact (pp fb) rfl rfl rfl rfl rfl (fun j τ w' hj hJ => by have c := (cdo_cells (St.eq (sep_left_comm _ _ _) hJ)).1; simp [rho, upd, Spec.val, execOp, go_sem, c]) ?_
  refine RXl.exact (.pointer (some ⟨p, 0, none⟩)) rfl rfl rfl rfl rfl (fun _ _ _ _ _ => rfl) ?_
  refine RXl.exact (.pointer (some ⟨p, 0, none⟩)) rfl rfl rfl rfl rfl (fun j τ w' hj hJ => by simp [rho, upd, Spec.val, execOp, go_sem]) ?_
  refine RXl.exact (.pointer (some ⟨p, 2, none⟩)) rfl rfl rfl rfl rfl (fun j τ w' hj hJ => by simp [rho, upd, Spec.val, execOp, go_sem]) ?_
  refine RXl.exact (.slice (some ⟨g2, o2, none⟩) ys.length c2) rfl rfl rfl rfl rfl (fun j τ w' hj hJ => by have c := (cdo_cells (St.eq (sep_left_comm _ _ _) hJ)).2.2; simp [rho, upd, Spec.val, execOp, go_sem, c]) ?_
  refine RXl.exact (.int .i64 (k : Int)) rfl rfl rfl rfl rfl (fun _ _ _ _ _ => rfl) ?_
  refine RXl.exact (.pointer (some ⟨g2, o2 + k, none⟩)) rfl rfl rfl rfl rfl (fun j τ w' hj hJ => by have t1 : (k : Int) < (ys.length : Int) := (by omega); simp [rho, upd, Spec.val, execOp, go_sem, t1]) ?_
  refine RXl.exact (bv ys[k]) rfl rfl rfl rfl rfl (fun j τ w' hj hJ => by have c := (cdo_y (St.eq (sep_left_comm _ _ _) hJ)).cellAt k hk; simp [rho, upd, Spec.val, execOp, go_sem, c]) ?_
  refine RXl.exact (.pointer (some ⟨p, 0, none⟩)) rfl rfl rfl rfl rfl (fun _ _ _ _ _ => rfl) ?_
  refine RXl.exact (.pointer (some ⟨p, 0, none⟩)) rfl rfl rfl rfl rfl (fun j τ w' hj hJ => by simp [rho, upd, Spec.val, execOp, go_sem]) ?_
  refine RXl.exact (.pointer (some ⟨p, 1, none⟩)) rfl rfl rfl rfl rfl (fun j τ w' hj hJ => by simp [rho, upd, Spec.val, execOp, go_sem]) ?_
  refine RXl.exact (.slice (some ⟨g1, o1, none⟩) xs.length c1) rfl rfl rfl rfl rfl (fun j τ w' hj hJ => by have c := (cdo_cells (St.eq (sep_left_comm _ _ _) hJ)).2.1; simp [rho, upd, Spec.val, execOp, go_sem, c]) ?_
  refine RXl.exact (.int .i64 (i : Int)) rfl rfl rfl rfl rfl (fun _ _ _ _ _ => rfl) ?_
  refine RXl.exact (.pointer (some ⟨g1, o1 + i, none⟩)) rfl rfl rfl rfl rfl (fun j τ w' hj hJ => by have t1 : (i : Int) < (xs.length : Int) := (by omega); simp [rho, upd, Spec.val, execOp, go_sem, t1]) ?_
  refine RXl.exact (bv xs[i]) rfl rfl rfl rfl rfl (fun j τ w' hj hJ => by have c := (cdo_x (St.eq (sep_left_comm _ _ _) hJ)).cellAt i hi; simp [rho, upd, Spec.val, execOp, go_sem, c]) ?_
  refine RXl.exact (bv (ys[k] ^^^ xs[i])) rfl rfl rfl rfl rfl (fun j τ w' hj hJ => by have c := HX.out; simp [rho, upd, Spec.val, execOp, go_sem, c]) ?_
  refine RXl.callr (.tuple #[bv (ginv (ys[k] ^^^ xs[i])), .bool (gok (ys[k] ^^^ xs[i]))]) _ [pp fb, bv (ys[k] ^^^ xs[i])] [.tmp 37, .tmp 52] _ rfl rfl rfl rfl rfl rfl (fun _ => rfl) (fun j τ w' hj hJ => invx fb (ys[k] ^^^ xs[i]) w' hJ) ?_
  refine RXl.exact (.tuple #[bv (ginv (ys[k] ^^^ xs[i])), .bool (gok (ys[k] ^^^ xs[i]))]) rfl rfl rfl rfl rfl (fun _ _ _ _ _ => rfl) ?_
  refine RXl.exact (bv (ginv (ys[k] ^^^ xs[i]))) rfl rfl rfl rfl rfl (fun j τ w' hj hJ => by simp [rho, upd, Spec.val, execOp, go_sem]) ?_
  refine RXl.exact (.bool (gok (ys[k] ^^^ xs[i]))) rfl rfl rfl rfl rfl (fun j τ w' hj hJ => by simp [rho, upd, Spec.val, execOp, go_sem]) ?_
  refine RXl.exact (bv (ginv (ys[k] ^^^ xs[i]))) rfl rfl rfl rfl rfl (fun _ _ _ _ _ => rfl) ?_
  refine RXl.exact (.bool (gok (ys[k] ^^^ xs[i]))) rfl rfl rfl rfl rfl (fun _ _ _ _ _ => rfl) ?_
  refine RXl.nilx _ (Agr.upd _ _ (Agr.upd _ _ (Agr.upd _ _ (Agr.upd _ _ (Agr.upd _ _ (Agr.upd _ _ (Agr.upd _ _ (Agr.upd _ _ (Agr.upd _ _ (Agr.upd _ _ (Agr.upd _ _ (Agr.upd _ _ (Agr.upd _ _ (Agr.upd _ _ (Agr.upd _ _ (Agr.upd _ _ (Agr.upd _ _ (Agr.upd _ _ (Agr.upd _ _ (Agr.upd _ _ (Agr.upd _ _ (Agr.upd _ _ (Agr.upd _ _ (Agr.upd _ _ (Agr.upd _ _ (Agr.base _)))))))))))))))))))))))))) fun w8 hJ => ?_
  obtain ⟨_, hJ⟩ := hJ
  simp only [Act.put, List.setIfInBounds_toArray, List.set_cons_succ, List.set_cons_zero]
  have S9 := Lib.hid (cd_close ((show St B w0 w8 (fx fb * (cdo p fb (.slice (some ⟨g1, o1, none⟩) xs.length c1) (.slice (some ⟨g2, o2, none⟩) ys.length c2) xs ys * R)) from hJ).eq (sep_left_comm _ _ _)))
  clear hJ S HX
  go_wp2_with fail
  go_ret
  exact ⟨rfl, S9.out.eq (sep_left_comm _ _ _)⟩
set_option maxRecDepth 100000 in
set_option maxHeartbeats 8000000 in
theorem coef_out (p fb : Nat) (xs ys : List UInt8) (k i : Int) (h : k < 0 ∨ (ys.length : Int) ≤ k ∨ i < 0 ∨ (xs.length : Int) ≤ i) (w : World) (s : St B w0 w (cd p fb xs ys * R)) :
    Calls Try.prog 15 #[pp p, .int .i64 k, .int .i64 i] w (RetG B w0 (cd p fb xs ys * R) (bv 0)) := by
  obtain ⟨a1, c1, a2, c2, s1⟩ := cd_open s
  obtain ⟨k0, k1, k2⟩ := cdo_cells s1
  have S := Lib.hid s
  clear s
  clear s1
  by_cases h1 : k < 0
  · clear h
    go_enter Try.func15, Try.ntmps15
    go_wp2_with fail
    go_ret
    exact ⟨rfl, S.out⟩
  · by_cases h2 : (ys.length : Int) ≤ k
    · clear h
      go_enter Try.func15, Try.ntmps15
      go_wp2_with fail
      go_ret
      exact ⟨rfl, S.out⟩
    · by_cases h3 : i < 0
      · clear h
        go_enter Try.func15, Try.ntmps15
        go_wp2_with fail
        go_ret
        exact ⟨rfl, S.out⟩
      · have h4 : (xs.length : Int) ≤ i := by omega
        clear h
        go_enter Try.func15, Try.ntmps15
        go_wp2_with fail
        go_ret
        exact ⟨rfl, S.out⟩
/-- Bytes from one on. -/
def rg (f n : Nat) : List UInt8 := (List.range n).map fun i => UInt8.ofNat (f + i)
theorem rg_len (f n : Nat) : (rg f n).length = n := by simp [rg]
theorem rg_succ (f n : Nat) : rg f (n + 1) = rg f n ++ [UInt8.ofNat (f + n)] := by simp [rg, List.range_succ]
set_option maxRecDepth 100000 in
set_option maxHeartbeats 8000000 in
theorem crow_calls (f n : Nat) (h : f + n ≤ 256) (w : World) (s : St B w0 w R) :
    Calls Try.prog 39 #[.int .i64 (f : Int), .int .i64 (n : Int)] w fun e w' => ∃ v, e = .returned v ∧ St B w0 w' (row 5 1 v n (bvs (rg f n)) * R) := by
  have S := Lib.hid s
  clear s
  go_enter Try.func39, Try.ntmps39
  go_wp2_with fail
  go_loopw [5, 8] (fun v i wr => ∃ k : Nat, k ≤ n ∧ i = .int .i64 (k : Int) ∧ St B w0 wr (row 5 1 v k (bvs (rg f k)) * R)) (fun _ i _ => n - (intOf i).toNat)
  case atStart => exact ⟨0, Nat.zero_le _, rfl, S.out.rowNil _ _⟩
  case round =>
    obtain ⟨k, hk, rfl, s1⟩ := hrel
    clear S
    by_cases hlt : k < n
    · have hlI : (k : Int) < (n : Int) := by omega
      obtain ⟨a3, c3, rfl, hk3, hc3, -⟩ := s1.rowSlice
      have hb : IntKind.u8.wrap ((f : Int) + (k : Int)) = ((UInt8.ofNat (f + k)).toNat : Int) := by
        have h1 : (UInt8.ofNat (f + k)).toNat = f + k := by simp; omega
        rw [h1]
        have : IntKind.u8.wrap ((f : Int) + (k : Int)) = ((f : Int) + k) % 256 := by simp [IntKind.wrap, IntKind.signed, IntKind.bits]
        rw [this]; omega
      have HX := Lib.hid (show bvs (rg f k) ++ [bv (UInt8.ofNat (f + k))] = bvs (rg f (k + 1)) from by rw [rg_succ]; simp [bvs])
      generalize UInt8.ofNat (f + k) = x at *
      have S4 := Lib.hid ((s1.alloc (.cells #[bv x] 5)).eq (sep_left_comm _ _ _))
      have hrd := Lib.hid (Rd.new wr #[bv x] 5)
      clear s1
      go_wp2_with (at_builtin; go_must (refine wpl_append rfl _ _ rfl tB S4.out (some ⟨wr.heap.size, 0, none⟩) 1 1 [bv x] rfl rfl hrd.out (fun e => by cases e) (by simp) (by simp [Value.oneCell']) (by unfold maxLen; omega) (by omega) ?_); intro v5 w5 s5 _; rw [HX.out] at s5; have S6 := Lib.hid ((s5.eq (sep_left_comm _ _ _)).right); clear s5 S4 hrd HX)
      go_roundw
      case rel => exact ⟨k + 1, by omega, by go_num, S6.out⟩
      case measure => simp [intOf]; omega
    · obtain rfl : k = n := by omega
      have S1 := Lib.hid s1
      clear s1
      go_wp2_with fail
      go_ret
      exact ⟨_, rfl, S1.out⟩
end
end Go.Proofs.Ytjnfhppjkadlpaa.Cd
