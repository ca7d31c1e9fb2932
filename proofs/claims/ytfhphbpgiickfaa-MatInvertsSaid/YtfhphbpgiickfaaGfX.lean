/- The field's methods as calls that leave all that is owned as it is (the tables' state behind an 'exists'); Dot, walked. -/
import Derived.Test.YtfhphbpgiickfaaGfR
import Derived.Test.YtfhphbpgiickfaaRo
import Derived.Test.YtfhphbpgiickfaaRd
namespace Go.Proofs.Ytfhphbpgiickfaa.Gf
open Go Go.RowKit Go.Proofs.Ytfhphbpgiickfaa Go.Proofs.Ytfhphbpgiickfaa.Sp Go.Proofs.Ytfhphbpgiickfaa.Reg Go.Proofs.Ytfhphbpgiickfaa.Rd
/-- A field, its tables made or not. -/
def fx (b : Nat) : HP := exi fun m => fo b m
/-- A value, and all that is owned as it was. -/
def RetG (B : Nat) (w0 : World) (H : HP) (v : Value) (e : Ending) (w' : World) : Prop := e = .returned v ∧ St B w0 w' H
section
variable {B : Nat} {w0 : World} {R : HP}
theorem retF {b : Nat} {v : Value} {e : Ending} {w' : World} (h : RetF B w0 b R v e w') : RetG B w0 (fx b * R) v e w' := ⟨h.1, St.ex.2 h.2⟩
theorem newx (w : World) (s : St B w0 w R) : Calls Try.prog 15 #[] w fun e w' => ∃ b, e = .returned (.pointer (some ⟨b, 0, none⟩)) ∧ St B w0 w' (fx b * R) :=
  (new_calls w s).mono fun _ _ ⟨b, h1, h2⟩ => ⟨b, h1, St.ex.2 ⟨false, h2⟩⟩
theorem mulx (b : Nat) (x y : UInt8) (w : World) (s : St B w0 w (fx b * R)) : Calls Try.prog 16 #[.pointer (some ⟨b, 0, none⟩), bv x, bv y] w (RetG B w0 (fx b * R) (bv (gmul x y))) := by
  obtain ⟨m, s⟩ := St.ex.1 s
  exact (mul_calls b m x y w s).mono fun _ _ => retF
theorem invx (b : Nat) (x : UInt8) (w : World) (s : St B w0 w (fx b * R)) : Calls Try.prog 17 #[.pointer (some ⟨b, 0, none⟩), bv x] w (RetG B w0 (fx b * R) (.tuple #[bv (ginv x), .bool (gok x)])) := by
  obtain ⟨m, s⟩ := St.ex.1 s
  exact (inv_calls b m x w s).mono fun _ _ => retF
theorem divx (b : Nat) (x y : UInt8) (w : World) (s : St B w0 w (fx b * R)) : Calls Try.prog 20 #[.pointer (some ⟨b, 0, none⟩), bv x, bv y] w (RetG B w0 (fx b * R) (.tuple #[bv (gmul x (ginv y)), .bool (gok y)])) := by
  obtain ⟨m, s⟩ := St.ex.1 s
  exact (div_calls b m x y w s).mono fun _ _ => retF
theorem powx (b : Nat) (x : UInt8) (n : Int) (w : World) (hn : -9223372036854775808 ≤ n ∧ n ≤ 9223372036854775807) (s : St B w0 w (fx b * R)) : Calls Try.prog 18 #[.pointer (some ⟨b, 0, none⟩), bv x, .int .i64 n] w (RetG B w0 (fx b * R) (bv (gpow x n))) := by
  obtain ⟨m, s⟩ := St.ex.1 s
  exact (pow_calls b m x n w hn s).mono fun _ _ => retF
theorem bits_xor_u8' (a b : UInt8) : bits .xor .u8 (a.toNat : Int) (b.toNat : Int) = ((a ^^^ b).toNat : Int) := by
  have ha : a.toNat < 256 := a.toNat_lt
  have hb : b.toNat < 256 := b.toNat_lt
  have e1 : ∀ n : Nat, n < 256 → (BitVec.ofInt 8 (n : Int)).toNat = n := fun n h => by rw [BitVec.toNat_ofInt]; omega
  have hx : a.toNat ^^^ b.toNat < 2 ^ 8 := Nat.xor_lt_two_pow (by omega) (by omega)
  show IntKind.u8.wrap ((BitVec.ofInt 8 (a.toNat : Int) ^^^ BitVec.ofInt 8 (b.toNat : Int)).toNat : Nat) = _
  rw [BitVec.toNat_xor, e1 _ ha, e1 _ hb, UInt8.toNat_xor]
  rw [IntKind.wrap_u8]
  omega
set_option maxRecDepth 100000 in
set_option maxHeartbeats 4000000 in
theorem dotx (b : Nat) (la lb : List UInt8) (a1 : Option Addr) (n1 c1 : Nat) (a2 : Option Addr) (n2 c2 : Nat) (w : World) (h1 : Reads B w0 (fx b * R) (.slice a1 n1 c1) la) (h2 : Reads B w0 (fx b * R) (.slice a2 n2 c2) lb)
    (hl1 : la.length ≤ 9223372036854775807) (hl2 : lb.length ≤ 9223372036854775807)
    (s : St B w0 w (fx b * R)) : Calls Try.prog 24 #[.pointer (some ⟨b, 0, none⟩), .slice a1 n1 c1, .slice a2 n2 c2] w (RetG B w0 (fx b * R) (bv (gdot la lb))) := by
  obtain rfl := (h1 w emp (s.eq (emp_sep _).symm)).rd.1
  obtain rfl := (h2 w emp (s.eq (emp_sep _).symm)).rd.1
  have hmin := fun w : World => run_min2 (P := Try.prog) w .i64 #[3, 3] 3 (la.length : Int) (lb.length : Int)
  have emn : min (la.length : Int) (lb.length : Int) = ((min la.length lb.length : Nat) : Int) := by omega
  rw [emn] at hmin
  have HM := Lib.hid (show min la.length lb.length ≤ la.length ∧ min la.length lb.length ≤ lb.length by omega)
  have HT := Lib.hid (gdot_take la lb (min la.length lb.length) (Nat.le_refl _))
  generalize min la.length lb.length = N at hmin HM HT
  clear emn
  have S := Lib.hid s
  have H1 := Lib.hid h1
  have H2 := Lib.hid h2
  clear s h1 h2
  go_enter Try.func24, Try.ntmps24
  go_wp2_with fail
  go_loopw [7, 14] (fun x i wr => ∃ k : Nat, k ≤ N ∧ i = .int .i64 k ∧ x = bv (gdot (la.take k) (lb.take k)) ∧ St B w0 wr (fx b * R)) (fun _ i _ => N - (intOf i).toNat)
  case atStart => exact ⟨0, Nat.zero_le _, rfl, rfl, S.out⟩
  case round =>
    obtain ⟨k, hk, rfl, rfl, s⟩ := hrel
    clear S
    have S := Lib.hid s
    clear s
    have hm := HM.out
    have hN : N ≤ 9223372036854775807 := by omega
    clear hm
    by_cases hlt : k < N
    · have k1 : k < la.length := by have := HM.out; omega
      have k2 : k < lb.length := by have := HM.out; omega
      have r1 := fun (w' : World) (s' : St B w0 w' (fx b * R)) => H1.out w' emp (s'.eq (emp_sep _).symm)
      have r2 := fun (w' : World) (s' : St B w0 w' (fx b * R)) => H2.out w' emp (s'.eq (emp_sep _).symm)
      obtain ⟨b1, o1, rfl⟩ := (r1 _ S.out).head (by omega)
      obtain ⟨b2, o2, rfl⟩ := (r2 _ S.out).head (by omega)
      have R1 := Lib.hid fun (w' : World) (s' : St B w0 w' (fx b * R)) => (r1 w' s').cellAt k k1
      have R2 := Lib.hid fun (w' : World) (s' : St B w0 w' (fx b * R)) => (r2 w' s').cellAt k k2
      have HS := Lib.hid (gdot_step la lb k k1 k2)
      have HX := Lib.hid (bits_xor_u8' (gdot (la.take k) (lb.take k)) (gmul la[k] lb[k]))
      clear r1 r2
      generalize la[k] = x at R1 HS HX
      generalize lb[k] = y at R2 HS HX
      go_wp2_with fail
      refine wp_region_rx (fun _ w' => St B w0 w' (fx b * R)) [] mixed (by kernel_rfl) (by kernel_rfl) S.out.drew ?_
      refine RXl.exact (bv (gdot (la.take k) (lb.take k))) rfl rfl rfl rfl rfl (fun _ _ _ _ _ => rfl) ?_
      refine RXl.exact (.pointer (some ⟨b, 0, none⟩)) rfl rfl rfl rfl rfl (fun _ _ _ _ _ => rfl) ?_
      refine RXl.exact (.slice (some ⟨b1, o1, none⟩) la.length c1) rfl rfl rfl rfl rfl (fun _ _ _ _ _ => rfl) ?_
      refine RXl.exact (.int .i64 (k : Int)) rfl rfl rfl rfl rfl (fun _ _ _ _ _ => rfl) ?_
      refine RXl.exact (.pointer (some ⟨b1, o1 + k, none⟩)) rfl rfl rfl rfl rfl (fun j τ w' hj hJ => by have t1 : (k : Int) < (la.length : Int) := (by omega); simp [rho, upd, Spec.val, execOp, go_sem, t1]) ?_
      refine RXl.exact (bv x) rfl rfl rfl rfl rfl (fun j τ w' hj hJ => by have c := R1.out w' hJ; simp [rho, upd, Spec.val, execOp, go_sem, c]) ?_
      refine RXl.exact (.slice (some ⟨b2, o2, none⟩) lb.length c2) rfl rfl rfl rfl rfl (fun _ _ _ _ _ => rfl) ?_
      refine RXl.exact (.int .i64 (k : Int)) rfl rfl rfl rfl rfl (fun _ _ _ _ _ => rfl) ?_
      refine RXl.exact (.pointer (some ⟨b2, o2 + k, none⟩)) rfl rfl rfl rfl rfl (fun j τ w' hj hJ => by have t1 : (k : Int) < (lb.length : Int) := (by omega); simp [rho, upd, Spec.val, execOp, go_sem, t1]) ?_
      refine RXl.exact (bv y) rfl rfl rfl rfl rfl (fun j τ w' hj hJ => by have c := R2.out w' hJ; simp [rho, upd, Spec.val, execOp, go_sem, c]) ?_
      refine RXl.callr (bv (gmul x y)) _ [.pointer (some ⟨b, 0, none⟩), bv x, bv y] [.tmp 18, .tmp 22, .tmp 26] _ rfl rfl rfl rfl rfl rfl (fun _ => rfl) (fun j τ w' hj hJ => mulx b x y w' hJ) ?_
      refine RXl.exact (bv (gdot (la.take (k + 1)) (lb.take (k + 1)))) rfl rfl rfl rfl rfl (fun j τ w' hj hJ => by have c := HX.out; rw [HS.out]; simp [rho, upd, Spec.val, execOp, go_sem, c]) ?_
      refine RXl.exact (bv (gdot (la.take (k + 1)) (lb.take (k + 1)))) rfl rfl rfl rfl rfl (fun _ _ _ _ _ => rfl) ?_
      refine RXl.nilx _ (Agr.upd _ _ (Agr.upd _ _ (Agr.upd _ _ (Agr.upd _ _ (Agr.upd _ _ (Agr.upd _ _ (Agr.upd _ _ (Agr.upd _ _ (Agr.upd _ _ (Agr.upd _ _ (Agr.upd _ _ (Agr.upd _ _ (Agr.upd _ _ (Agr.base _)))))))))))))) fun w8 hJ => ?_
      obtain ⟨_, hJ⟩ := hJ
      simp only [Act.put, List.setIfInBounds_toArray, List.set_cons_succ, List.set_cons_zero]
      have S8 := Lib.hid (show St B w0 w8 (fx b * R) from hJ)
      clear hJ S
      go_wp2_with fail
      go_roundw
      case rel => exact ⟨k + 1, by omega, by go_num, rfl, S8.out⟩
      case measure => simp [intOf]; omega
    · obtain rfl : k = N := by omega
      go_wp2_with fail
      go_ret
      exact ⟨by rw [HT.out]; rfl, S.out⟩
end
end Go.Proofs.Ytfhphbpgiickfaa.Gf
