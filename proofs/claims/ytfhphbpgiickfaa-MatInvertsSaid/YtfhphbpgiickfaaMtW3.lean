/- mat's Mul, walked. -/
import Derived.Test.YtfhphbpgiickfaaMtW2
namespace Go.Proofs.Ytfhphbpgiickfaa.Mt
open Go Go.RowKit Go.Proofs.Ytfhphbpgiickfaa Go.Proofs.Ytfhphbpgiickfaa.Sp Go.Proofs.Ytfhphbpgiickfaa.Reg Go.Proofs.Ytfhphbpgiickfaa.Rd Go.Proofs.Ytfhphbpgiickfaa.Gf
theorem exec_make1 {P : Program} {ρ : Operand → Value} {o : Oper} {w : World} {t e : TypeId} {l c : Operand} {bytes : Nat} {z : Value} (hop : o.op = .makeSlice t l c) (T : SlT P t e 1 bytes z) (n : Nat) (hl : ρ l = .int .i64 (n : Int)) (hc : ρ c = .int .i64 (n : Int))
    (h63 : n ≤ maxLen) (hb : bytes * n ≤ 281474976710656) : (execOp ρ o).run P w = .ok (.value (.slice (some ⟨w.heap.size, 0, none⟩) n n)) (w.alloc (.cells (madeCells z.cells (n * 1)) e)) := by
  obtain ⟨hrun, -⟩ := run_makeSlice_st (P := P) (w0 := w) T .i64 .i64 n n (Nat.le_refl _) h63 hb (St.init w)
  simp [execOp, hop, hl, hc, hrun, Result.andThen]
section
variable {B : Nat} {w0 : World} {R : HP}
/-- While the product's struct is made. -/
def MJ (B : Nat) (w0 : World) (H fb r c : Nat) (X : HP) (j : Nat) (w : World) : Prop := match j with
  | 0 => w.heap.size = H ∧ St B w0 w X
  | 1 => w.heap.size = H + 1 ∧ St B w0 w (row 5 1 (.slice (some ⟨H, 0, none⟩) (r * c) (r * c)) (r * c) (bvs (cl r c fun _ _ => 0)) * X)
  | _ => St B w0 w (mo (H + 1) H (r * c) fb r c (fun _ _ => 0) * X)
theorem MJ_x {H fb r c : Nat} {X : HP} {j : Nat} {w : World} (h : MJ B w0 H fb r c X j w) : ∃ Y, St B w0 w (X * Y) := by
  match j, h with
  | 0, h => exact ⟨emp, h.2.eq (sep_emp _).symm⟩
  | 1, h => exact ⟨_, h.2.eq (sep_comm _ _)⟩
  | _ + 2, h => exact ⟨_, St.eq (sep_comm _ _) h⟩
theorem via {g : FuncId} {args : Array Value} {v : Value} {w : World} {P Q : HP} (e : P = Q) (s : St B w0 w P) (hc : St B w0 w Q → Calls Try.prog g args w (RetG B w0 Q v)) : Calls Try.prog g args w (RetG B w0 P v) :=
  (hc (s.eq e)).mono fun _ _ ⟨h1, h2⟩ => ⟨h1, h2.eq e.symm⟩
theorem cells2 {b1 g1 k1 fb r n : Nat} {f : Mx} {b2 g2 k2 fb2 c : Nat} {h : Mx} {Z Y : HP} {w : World} (s : St B w0 w (fx fb * (mo b1 g1 k1 fb r n f * (mo b2 g2 k2 fb2 n c h * Z)) * Y)) :
    (∃ Y', St B w0 w (mo b1 g1 k1 fb r n f * Y')) ∧ ∃ Y', St B w0 w (mo b2 g2 k2 fb2 n c h * Y') :=
  ⟨⟨fx fb * (mo b2 g2 k2 fb2 n c h * Z) * Y, s.eq (by ac_rfl)⟩, ⟨fx fb * (mo b1 g1 k1 fb r n f * Z) * Y, s.eq (by ac_rfl)⟩⟩
set_option maxRecDepth 100000 in
set_option maxHeartbeats 8000000 in
theorem mul_good (b1 g1 k1 fb r n : Nat) (f : Mx) (b2 g2 k2 fb2 c : Nat) (h : Mx) (hr : 1 ≤ r ∧ r ≤ 32) (hn : 1 ≤ n ∧ n ≤ 32) (hc : 1 ≤ c ∧ c ≤ 32) (w : World) (s : St B w0 w (fx fb * (mo b1 g1 k1 fb r n f * (mo b2 g2 k2 fb2 n c h * R)))) :
    Calls Try.prog 29 #[.pointer (some ⟨b1, 0, none⟩), .pointer (some ⟨b2, 0, none⟩)] w fun e w' => ∃ b, e = .returned (.tuple #[.pointer (some ⟨b, 0, none⟩), .int .i64 0]) ∧ St B w0 w' (mt b fb r c (mmul n f h) * (fx fb * (mo b1 g1 k1 fb r n f * (mo b2 g2 k2 fb2 n c h * R)))) := by
  have hrc : r * c ≤ 32 * 32 := Nat.mul_le_mul hr.2 hc.2
  have hrn : r * n ≤ 32 * 32 := Nat.mul_le_mul hr.2 hn.2
  have hnc : n * c ≤ 32 * 32 := Nat.mul_le_mul hn.2 hc.2
  have wrc := wrapm hrc (by omega)
  have S := Lib.hid s
  clear s
  go_enter Try.func29, Try.ntmps29
  go_wp2_with fail
  refine wp_region_rx (fun _ w' => St B w0 w' (fx fb * (mo b1 g1 k1 fb r n f * (mo b2 g2 k2 fb2 n c h * R)))) [] mixed (by kernel_rfl) (by kernel_rfl) S.out.drew ?_
  refine RXl.exact (.pointer (some ⟨b2, 0, none⟩)) rfl rfl rfl rfl rfl (fun _ _ _ _ _ => rfl) ?_
  refine RXl.exact (.bool false) rfl rfl rfl rfl rfl (fun j τ w' hj hJ => by simp [rho, upd, Spec.val, execOp, go_sem]) ?_
  refine RXl.exact (.bool false) rfl rfl rfl rfl rfl (fun _ _ _ _ _ => rfl) ?_
  refine RXl.exact (.pointer (some ⟨b2, 0, none⟩)) rfl rfl rfl rfl rfl (fun _ _ _ _ _ => rfl) ?_
  refine RXl.exact (.pointer (some ⟨b2, 0, none⟩)) rfl rfl rfl rfl rfl (fun j τ w' hj hJ => by simp [rho, upd, Spec.val, execOp, go_sem]) ?_
  refine RXl.exact (.pointer (some ⟨b2, 1, none⟩)) rfl rfl rfl rfl rfl (fun j τ w' hj hJ => by simp [rho, upd, Spec.val, execOp, go_sem]) ?_
  refine RXl.exact (.int .i64 (n : Int)) rfl rfl rfl rfl rfl (fun j τ w' hj hJ => by obtain ⟨-, Y, q⟩ := cells2 (St.eq (sep_emp _).symm hJ); have c := (mo_cells q).2.1; simp [rho, upd, Spec.val, execOp, go_sem, c]) ?_
  refine RXl.exact (.pointer (some ⟨b1, 0, none⟩)) rfl rfl rfl rfl rfl (fun _ _ _ _ _ => rfl) ?_
  refine RXl.exact (.pointer (some ⟨b1, 0, none⟩)) rfl rfl rfl rfl rfl (fun j τ w' hj hJ => by simp [rho, upd, Spec.val, execOp, go_sem]) ?_
  refine RXl.exact (.pointer (some ⟨b1, 2, none⟩)) rfl rfl rfl rfl rfl (fun j τ w' hj hJ => by simp [rho, upd, Spec.val, execOp, go_sem]) ?_
  refine RXl.exact (.int .i64 (n : Int)) rfl rfl rfl rfl rfl (fun j τ w' hj hJ => by obtain ⟨⟨Y, q⟩, -⟩ := cells2 (St.eq (sep_emp _).symm hJ); have c := (mo_cells q).2.2.1; simp [rho, upd, Spec.val, execOp, go_sem, c]) ?_
  refine RXl.exact (.bool false) rfl rfl rfl rfl rfl (fun j τ w' hj hJ => by simp [rho, upd, Spec.val, execOp, go_sem]) ?_
  refine RXl.exact (.bool false) rfl rfl rfl rfl rfl (fun _ _ _ _ _ => rfl) ?_
  refine RXl.nilx _ (Agr.upd _ _ (Agr.upd _ _ (Agr.upd _ _ (Agr.upd _ _ (Agr.upd _ _ (Agr.upd _ _ (Agr.upd _ _ (Agr.upd _ _ (Agr.upd _ _ (Agr.upd _ _ (Agr.upd _ _ (Agr.upd _ _ (Agr.upd _ _ (Agr.base _)))))))))))))) fun w8 hJ => ?_
  obtain ⟨_, hJ⟩ := hJ
  simp only [Act.put, List.setIfInBounds_toArray, List.set_cons_succ, List.set_cons_zero]
  have S8 := Lib.hid (show St B w0 w8 (fx fb * (mo b1 g1 k1 fb r n f * (mo b2 g2 k2 fb2 n c h * R))) from hJ)
  clear hJ S
  go_wp2_with fail
  refine wp_region_rx (MJ B w0 w8.drew.heap.size fb r c (fx fb * (mo b1 g1 k1 fb r n f * (mo b2 g2 k2 fb2 n c h * R)))) [21, 23] mixed (by kernel_rfl) (by kernel_rfl) ⟨rfl, S8.out.drew⟩ ?_
  generalize w8.drew.heap.size = H
  refine RXl.exact (.pointer (some ⟨b1, 0, none⟩)) rfl rfl rfl rfl rfl (fun _ _ _ _ _ => rfl) ?_
  refine RXl.exact (.pointer (some ⟨b1, 0, none⟩)) rfl rfl rfl rfl rfl (fun j τ w' hj hJ => by simp [rho, upd, Spec.val, execOp, go_sem]) ?_
  refine RXl.exact (.pointer (some ⟨b1, 0, none⟩)) rfl rfl rfl rfl rfl (fun j τ w' hj hJ => by simp [rho, upd, Spec.val, execOp, go_sem]) ?_
  refine RXl.exact (.pointer (some ⟨fb, 0, none⟩)) rfl rfl rfl rfl rfl (fun j τ w' hj hJ => by obtain ⟨Y0, q0⟩ := MJ_x hJ; obtain ⟨⟨Y, q⟩, -⟩ := cells2 q0; have c := (mo_cells q).1; simp [rho, upd, Spec.val, execOp, go_sem, c]) ?_
  refine RXl.exact (.pointer (some ⟨b1, 0, none⟩)) rfl rfl rfl rfl rfl (fun _ _ _ _ _ => rfl) ?_
  refine RXl.exact (.pointer (some ⟨b1, 0, none⟩)) rfl rfl rfl rfl rfl (fun j τ w' hj hJ => by simp [rho, upd, Spec.val, execOp, go_sem]) ?_
  refine RXl.exact (.pointer (some ⟨b1, 1, none⟩)) rfl rfl rfl rfl rfl (fun j τ w' hj hJ => by simp [rho, upd, Spec.val, execOp, go_sem]) ?_
  refine RXl.exact (.int .i64 (r : Int)) rfl rfl rfl rfl rfl (fun j τ w' hj hJ => by obtain ⟨Y0, q0⟩ := MJ_x hJ; obtain ⟨⟨Y, q⟩, -⟩ := cells2 q0; have c := (mo_cells q).2.1; simp [rho, upd, Spec.val, execOp, go_sem, c]) ?_
  refine RXl.exact (.pointer (some ⟨b2, 0, none⟩)) rfl rfl rfl rfl rfl (fun _ _ _ _ _ => rfl) ?_
  refine RXl.exact (.pointer (some ⟨b2, 0, none⟩)) rfl rfl rfl rfl rfl (fun j τ w' hj hJ => by simp [rho, upd, Spec.val, execOp, go_sem]) ?_
  refine RXl.exact (.pointer (some ⟨b2, 2, none⟩)) rfl rfl rfl rfl rfl (fun j τ w' hj hJ => by simp [rho, upd, Spec.val, execOp, go_sem]) ?_
  refine RXl.exact (.int .i64 (c : Int)) rfl rfl rfl rfl rfl (fun j τ w' hj hJ => by obtain ⟨Y0, q0⟩ := MJ_x hJ; obtain ⟨-, Y, q⟩ := cells2 q0; have c := (mo_cells q).2.2.1; simp [rho, upd, Spec.val, execOp, go_sem, c]) ?_
  refine RXl.exact (.pointer (some ⟨b1, 0, none⟩)) rfl rfl rfl rfl rfl (fun _ _ _ _ _ => rfl) ?_
  refine RXl.exact (.pointer (some ⟨b1, 0, none⟩)) rfl rfl rfl rfl rfl (fun j τ w' hj hJ => by simp [rho, upd, Spec.val, execOp, go_sem]) ?_
  refine RXl.exact (.pointer (some ⟨b1, 1, none⟩)) rfl rfl rfl rfl rfl (fun j τ w' hj hJ => by simp [rho, upd, Spec.val, execOp, go_sem]) ?_
  refine RXl.exact (.int .i64 (r : Int)) rfl rfl rfl rfl rfl (fun j τ w' hj hJ => by obtain ⟨Y0, q0⟩ := MJ_x hJ; obtain ⟨⟨Y, q⟩, -⟩ := cells2 q0; have c := (mo_cells q).2.1; simp [rho, upd, Spec.val, execOp, go_sem, c]) ?_
  refine RXl.exact (.pointer (some ⟨b2, 0, none⟩)) rfl rfl rfl rfl rfl (fun _ _ _ _ _ => rfl) ?_
  refine RXl.exact (.pointer (some ⟨b2, 0, none⟩)) rfl rfl rfl rfl rfl (fun j τ w' hj hJ => by simp [rho, upd, Spec.val, execOp, go_sem]) ?_
  refine RXl.exact (.pointer (some ⟨b2, 2, none⟩)) rfl rfl rfl rfl rfl (fun j τ w' hj hJ => by simp [rho, upd, Spec.val, execOp, go_sem]) ?_
  refine RXl.exact (.int .i64 (c : Int)) rfl rfl rfl rfl rfl (fun j τ w' hj hJ => by obtain ⟨Y0, q0⟩ := MJ_x hJ; obtain ⟨-, Y, q⟩ := cells2 q0; have c := (mo_cells q).2.2.1; simp [rho, upd, Spec.val, execOp, go_sem, c]) ?_
  refine RXl.exact (.int .i64 ((r * c : Nat) : Int)) rfl rfl rfl rfl rfl (fun j τ w' hj hJ => by simp [rho, upd, Spec.val, execOp, go_sem, wrc]) ?_
  refine RXl.effk 0 (.slice (some ⟨H, 0, none⟩) (r * c) (r * c)) rfl rfl rfl rfl rfl (fun w' hJ => ⟨_, by rw [← hJ.1]; exact exec_make1 rfl tB (r * c) rfl rfl (by unfold maxLen; omega) (by omega), by simp [hJ.1], by have q := (hJ.2.alloc (.cells (madeCells (Value.int .u8 0).cells (r * c * 1)) 5)).rowMade (n := r * c) (c := r * c) rfl (Nat.le_refl _) (by unfold maxLen; omega); rw [bvs_zeros, ← cl_zero, hJ.1] at q; exact q⟩) ?_
  refine RXl.exact (.agg #[.pointer (some ⟨fb, 0, none⟩), .int .i64 (r : Int), .int .i64 (c : Int), .slice (some ⟨H, 0, none⟩) (r * c) (r * c)]) rfl rfl rfl rfl rfl (fun j τ w' hj hJ => by simp [rho, upd, Spec.val, execOp, go_sem]) ?_
  refine RXl.effk 1 (.pointer (some ⟨H + 1, 0, none⟩)) rfl rfl rfl rfl rfl (fun w' hJ => ⟨w'.alloc (.cells (mc H (r * c) fb r c) 93), by rw [← hJ.1]; simp [rho, upd, Spec.val, execOp, go_sem, mc], by have q := hJ.2.alloc (.cells (mc H (r * c) fb r c) 93); rw [hJ.1] at q; exact q.eq (by unfold mo; ac_rfl)⟩) ?_
  refine RXl.exact (.pointer (some ⟨H + 1, 0, none⟩)) rfl rfl rfl rfl rfl (fun _ _ _ _ _ => rfl) ?_
  refine RXl.nilx _ (Agr.upd _ _ (Agr.upd _ _ (Agr.upd _ _ (Agr.upd _ _ (Agr.upd _ _ (Agr.upd _ _ (Agr.upd _ _ (Agr.upd _ _ (Agr.upd _ _ (Agr.upd _ _ (Agr.upd _ _ (Agr.upd _ _ (Agr.upd _ _ (Agr.upd _ _ (Agr.upd _ _ (Agr.upd _ _ (Agr.upd _ _ (Agr.upd _ _ (Agr.upd _ _ (Agr.upd _ _ (Agr.upd _ _ (Agr.upd _ _ (Agr.upd _ _ (Agr.upd _ _ (Agr.upd _ _ (Agr.base _)))))))))))))))))))))))))) fun w9 hJ => ?_
  obtain ⟨_, hJ⟩ := hJ
  simp only [Act.put, List.setIfInBounds_toArray, List.set_cons_succ, List.set_cons_zero]
  have S9 := Lib.hid (show St B w0 w9 (mo (H + 1) H (r * c) fb r c (fun _ _ => 0) * (fx fb * (mo b1 g1 k1 fb r n f * (mo b2 g2 k2 fb2 n c h * R)))) from hJ)
  clear hJ S8
  obtain ⟨⟨Y1, z1⟩, Y2, z2⟩ := cells2 (S9.out.eq (sep_comm _ _))
  have c1 := (mo_cells z1).2.1
  clear z1 z2
  have S := Lib.hid (show St B w0 w9 (mo (H + 1) H (r * c) fb r c (pm n f h 0 0 0) * (fx fb * (mo b1 g1 k1 fb r n f * (mo b2 g2 k2 fb2 n c h * R)))) from by rw [pm_zero]; exact S9.out)
  clear S9
  go_wp2_with fail
  clear c1
  go_loopw [51] (fun i wr => ∃ p : Nat, p ≤ r ∧ i = .int .i64 p ∧ St B w0 wr (mo (H + 1) H (r * c) fb r c (pm n f h p 0 0) * (fx fb * (mo b1 g1 k1 fb r n f * (mo b2 g2 k2 fb2 n c h * R))))) (fun i _ => r - (intOf i).toNat)
  case atStart => exact ⟨0, Nat.zero_le _, rfl, S.out⟩
  case round =>
    obtain ⟨p, hp, rfl, s⟩ := hrel
    clear S
    by_cases hlt : p < r
    · obtain ⟨-, Y2, z2⟩ := cells2 (s.eq (sep_comm _ _))
      have c1 := (mo_cells z2).2.2.1
      have S := Lib.hid s
      clear s z2
      go_wp2_with fail
      clear c1
      go_loopw [58] (fun i wr => ∃ q : Nat, q ≤ c ∧ i = .int .i64 q ∧ St B w0 wr (mo (H + 1) H (r * c) fb r c (pm n f h p q 0) * (fx fb * (mo b1 g1 k1 fb r n f * (mo b2 g2 k2 fb2 n c h * R))))) (fun i _ => c - (intOf i).toNat)
      case atStart => exact ⟨0, Nat.zero_le _, rfl, S.out⟩
      case round =>
        obtain ⟨q, hq, rfl, s⟩ := hrel
        clear S
        by_cases hlt2 : q < c
        · obtain ⟨⟨Y1, z1⟩, -⟩ := cells2 (s.eq (sep_comm _ _))
          have c1 := (mo_cells z1).2.2.1
          have S := Lib.hid s
          clear s z1
          go_wp2_with fail
          clear c1
          go_loopw [65] (fun i wr => ∃ k : Nat, k ≤ n ∧ i = .int .i64 k ∧ St B w0 wr (mo (H + 1) H (r * c) fb r c (pm n f h p q k) * (fx fb * (mo b1 g1 k1 fb r n f * (mo b2 g2 k2 fb2 n c h * R))))) (fun i _ => n - (intOf i).toNat)
          case atStart => exact ⟨0, Nat.zero_le _, rfl, S.out⟩
          case round =>
            obtain ⟨k, hk, rfl, s⟩ := hrel
            clear S
            by_cases hlt3 : k < n
            · have S := Lib.hid s
              have Q := Lib.hid (spot hlt hlt2 (show r * c ≤ 1000000 by omega))
              have HK := Lib.hid (pm_k n f h p q k)
              have HX := Lib.hid (bits_xor_u8' (pm n f h p q k p q) (gmul (f p k) (h k q)))
              clear s
              go_wp2_with fail
              refine wp_region_rx (fun j w' => St B w0 w' (mo (H + 1) H (r * c) fb r c (pm n f h p q (if j = 0 then k else k + 1)) * (fx fb * (mo b1 g1 k1 fb r n f * (mo b2 g2 k2 fb2 n c h * R))))) [29] mixed (by kernel_rfl) (by kernel_rfl) S.out.drew ?_
              refine RXl.exact (.pointer (some ⟨H + 1, 0, none⟩)) rfl rfl rfl rfl rfl (fun _ _ _ _ _ => rfl) ?_
              refine RXl.exact (.pointer (some ⟨H + 1, 0, none⟩)) rfl rfl rfl rfl rfl (fun j τ w' hj hJ => by simp [rho, upd, Spec.val, execOp, go_sem]) ?_
              refine RXl.exact (.pointer (some ⟨H + 1, 3, none⟩)) rfl rfl rfl rfl rfl (fun j τ w' hj hJ => by simp [rho, upd, Spec.val, execOp, go_sem]) ?_
              refine RXl.exactB 0 29 rfl (by kernel_rfl) (.slice (some ⟨H, 0, none⟩) (r * c) (r * c)) rfl rfl rfl rfl rfl (fun j τ w' hj hJ => by have c := (mo_cells hJ).2.2.2; simp [rho, upd, Spec.val, execOp, go_sem, c]) ?_
              refine RXl.exact (.int .i64 (p : Int)) rfl rfl rfl rfl rfl (fun _ _ _ _ _ => rfl) ?_
              refine RXl.exact (.pointer (some ⟨b2, 0, none⟩)) rfl rfl rfl rfl rfl (fun _ _ _ _ _ => rfl) ?_
              refine RXl.exact (.pointer (some ⟨b2, 0, none⟩)) rfl rfl rfl rfl rfl (fun j τ w' hj hJ => by simp [rho, upd, Spec.val, execOp, go_sem]) ?_
              refine RXl.exact (.pointer (some ⟨b2, 2, none⟩)) rfl rfl rfl rfl rfl (fun j τ w' hj hJ => by simp [rho, upd, Spec.val, execOp, go_sem]) ?_
              refine RXl.exactB 0 29 rfl (by kernel_rfl) (.int .i64 (c : Int)) rfl rfl rfl rfl rfl (fun j τ w' hj hJ => by obtain ⟨-, Y2, z2⟩ := cells2 (St.eq (sep_comm _ _) hJ); have c := (mo_cells z2).2.2.1; simp [rho, upd, Spec.val, execOp, go_sem, c]) ?_
              refine RXl.exact (.int .i64 ((p : Int) * (c : Int))) rfl rfl rfl rfl rfl (fun j τ w' hj hJ => by simp [rho, upd, Spec.val, execOp, go_sem, Q.out.1]) ?_
              refine RXl.exact (.int .i64 (q : Int)) rfl rfl rfl rfl rfl (fun _ _ _ _ _ => rfl) ?_
              refine RXl.exact (.int .i64 ((p : Int) * (c : Int) + (q : Int))) rfl rfl rfl rfl rfl (fun j τ w' hj hJ => by simp [rho, upd, Spec.val, execOp, go_sem, Q.out.2.1]) ?_
              refine RXl.exact (.pointer (some ⟨H, p * c + q, none⟩)) rfl rfl rfl rfl rfl (fun j τ w' hj hJ => by simp [rho, upd, Spec.val, execOp, go_sem, Q.out.2.2.1, Q.out.2.2.2.1, Q.out.2.2.2.2]) ?_
              refine RXl.exactB 0 29 rfl (by kernel_rfl) (bv (pm n f h p q k p q)) rfl rfl rfl rfl rfl (fun j τ w' hj hJ => by obtain rfl : j = 0 := (by omega); have c := mo_at hJ hlt hlt2; simp only [if_true] at c; simp [rho, upd, Spec.val, execOp, go_sem, c]) ?_
              refine RXl.exact (.pointer (some ⟨b1, 0, none⟩)) rfl rfl rfl rfl rfl (fun _ _ _ _ _ => rfl) ?_
              refine RXl.exact (.pointer (some ⟨b1, 0, none⟩)) rfl rfl rfl rfl rfl (fun j τ w' hj hJ => by simp [rho, upd, Spec.val, execOp, go_sem]) ?_
              refine RXl.exact (.pointer (some ⟨b1, 0, none⟩)) rfl rfl rfl rfl rfl (fun j τ w' hj hJ => by simp [rho, upd, Spec.val, execOp, go_sem]) ?_
              refine RXl.exactB 0 29 rfl (by kernel_rfl) (.pointer (some ⟨fb, 0, none⟩)) rfl rfl rfl rfl rfl (fun j τ w' hj hJ => by obtain ⟨⟨Y1, z1⟩, -⟩ := cells2 (St.eq (sep_comm _ _) hJ); have c := (mo_cells z1).1; simp [rho, upd, Spec.val, execOp, go_sem, c]) ?_
              refine RXl.exact (.pointer (some ⟨b1, 0, none⟩)) rfl rfl rfl rfl rfl (fun _ _ _ _ _ => rfl) ?_
              refine RXl.exact (.int .i64 (p : Int)) rfl rfl rfl rfl rfl (fun _ _ _ _ _ => rfl) ?_
              refine RXl.exact (.int .i64 (k : Int)) rfl rfl rfl rfl rfl (fun _ _ _ _ _ => rfl) ?_
              refine RXl.callr (bv (f p k)) _ [.pointer (some ⟨b1, 0, none⟩), .int .i64 (p : Int), .int .i64 (k : Int)] [.tmp 86, .tmp 87, .tmp 88] _ rfl rfl rfl rfl rfl rfl (fun _ => rfl) (fun j τ w' hj hJ => via (by ac_rfl) hJ (at_in b1 g1 k1 fb r n f p k hlt hlt3 (by omega) w' (R := mo (H + 1) H (r * c) fb r c (pm n f h p q (if j = 0 then k else k + 1)) * (fx fb * (mo b2 g2 k2 fb2 n c h * R))))) ?_
              refine RXl.exact (.pointer (some ⟨b2, 0, none⟩)) rfl rfl rfl rfl rfl (fun _ _ _ _ _ => rfl) ?_
              refine RXl.exact (.int .i64 (k : Int)) rfl rfl rfl rfl rfl (fun _ _ _ _ _ => rfl) ?_
              refine RXl.exact (.int .i64 (q : Int)) rfl rfl rfl rfl rfl (fun _ _ _ _ _ => rfl) ?_
              refine RXl.callr (bv (h k q)) _ [.pointer (some ⟨b2, 0, none⟩), .int .i64 (k : Int), .int .i64 (q : Int)] [.tmp 90, .tmp 91, .tmp 92] _ rfl rfl rfl rfl rfl rfl (fun _ => rfl) (fun j τ w' hj hJ => via (by ac_rfl) hJ (at_in b2 g2 k2 fb2 n c h k q hlt3 hlt2 (by omega) w' (R := mo (H + 1) H (r * c) fb r c (pm n f h p q (if j = 0 then k else k + 1)) * (fx fb * (mo b1 g1 k1 fb r n f * R))))) ?_
              refine RXl.callr (bv (gmul (f p k) (h k q))) _ [.pointer (some ⟨fb, 0, none⟩), bv (f p k), bv (h k q)] [.tmp 85, .tmp 89, .tmp 93] _ rfl rfl rfl rfl rfl rfl (fun _ => rfl) (fun j τ w' hj hJ => via (by ac_rfl) hJ (mulx fb (f p k) (h k q) w' (R := mo (H + 1) H (r * c) fb r c (pm n f h p q (if j = 0 then k else k + 1)) * (mo b1 g1 k1 fb r n f * (mo b2 g2 k2 fb2 n c h * R))))) ?_
              refine RXl.exact (bv (pm n f h p q k p q ^^^ gmul (f p k) (h k q))) rfl rfl rfl rfl rfl (fun j τ w' hj hJ => by have c := HX.out; simp [rho, upd, Spec.val, execOp, go_sem, c]) ?_
              refine RXl.exact (.pointer (some ⟨H, p * c + q, none⟩)) rfl rfl rfl rfl rfl (fun j τ w' hj hJ => by simp [rho, upd, Spec.val, execOp, go_sem, Q.out.2.2.1, Q.out.2.2.2.1, Q.out.2.2.2.2]) ?_
              refine RXl.effj 0 rfl rfl rfl rfl rfl rfl (fun w' hJ => (let h := mo_set hJ hlt hlt2 (pm n f h p q k p q ^^^ gmul (f p k) (h k q)); ⟨_, exec_store rfl rfl rfl rfl (by kernel_rfl) (mo_at hJ hlt hlt2) h.1, by have q := h.2; rw [if_pos rfl, HK.out] at q; exact q⟩)) ?_
              refine RXl.nilx _ (Agr.upd _ _ (Agr.upd _ _ (Agr.upd _ _ (Agr.upd _ _ (Agr.upd _ _ (Agr.upd _ _ (Agr.upd _ _ (Agr.upd _ _ (Agr.upd _ _ (Agr.upd _ _ (Agr.upd _ _ (Agr.upd _ _ (Agr.upd _ _ (Agr.upd _ _ (Agr.upd _ _ (Agr.upd _ _ (Agr.upd _ _ (Agr.upd _ _ (Agr.upd _ _ (Agr.upd _ _ (Agr.upd _ _ (Agr.upd _ _ (Agr.upd _ _ (Agr.upd _ _ (Agr.upd _ _ (Agr.upd _ _ (Agr.upd _ _ (Agr.upd _ _ (Agr.upd _ _ (Agr.base _)))))))))))))))))))))))))))))) fun w10 hJ => ?_
              obtain ⟨_, hJ⟩ := hJ
              simp only [Act.put, List.setIfInBounds_toArray, List.set_cons_succ, List.set_cons_zero]
              have S9 := Lib.hid (show St B w0 w10 (mo (H + 1) H (r * c) fb r c (pm n f h p q (k + 1)) * (fx fb * (mo b1 g1 k1 fb r n f * (mo b2 g2 k2 fb2 n c h * R)))) from hJ)
              clear hJ S Q HK HX
              go_wp2_with fail
              go_roundw
              case rel => exact ⟨k + 1, by omega, by go_num, S9.out⟩
              case measure => simp [intOf]; omega
            · obtain rfl : k = n := by omega
              rw [pm_j] at s
              have S := Lib.hid s
              clear s
              go_wp2_with fail
              go_roundw
              case rel => exact ⟨q + 1, by omega, by go_num, S.out⟩
              case measure => simp [intOf]; omega
        · obtain rfl : q = c := by omega
          have S := Lib.hid (mo_congr s (pm_i n f h p r q))
          clear s
          go_wp2_with fail
          go_roundw
          case rel => exact ⟨p + 1, by omega, by go_num, S.out⟩
          case measure => simp [intOf]; omega
    · obtain rfl : p = r := by omega
      have S := Lib.hid (mo_congr s (pm_end n f h p c))
      clear s
      go_wp2_with fail
      go_ret2
      exact ⟨_, rfl, mt_close S.out⟩
end
end Go.Proofs.Ytfhphbpgiickfaa.Mt
