/- The document's Invert, walked. -/
import Derived.Test.YtfhphbpgiickfaaMtR
import Derived.Test.YtfhphbpgiickfaaMtA
namespace Go.Proofs.Ytfhphbpgiickfaa.Mt
open Go Go.RowKit Go.Proofs.Ytfhphbpgiickfaa Go.Proofs.Ytfhphbpgiickfaa.Sp Go.Proofs.Ytfhphbpgiickfaa.Reg Go.Proofs.Ytfhphbpgiickfaa.Rd Go.Proofs.Ytfhphbpgiickfaa.Gf
/-- Square cells in a row of their own. -/
def rr (g cap n : Nat) (f : Mx) : HP := row 5 1 (.slice (some ⟨g, 0, none⟩) (n * n) cap) (n * n) (bvs (cl n n f))
theorem elm_nil (A D : Mx) (c i : Nat) (h : D i c = 0) : elm A D c i = elm A D c (i + 1) := by
  funext a b
  unfold elm
  by_cases e : a < i ∧ a ≠ c
  · rw [if_pos e, if_pos ⟨by omega, e.2⟩]
  · rw [if_neg e]
    by_cases e2 : a < i + 1 ∧ a ≠ c
    · rw [if_pos e2]
      obtain rfl : a = i := by omega
      rw [h, gmul_zero, UInt8.xor_zero]
    · rw [if_neg e2]
theorem sw_pk (p k : Nat) : sw p k k = p := by
  unfold sw
  by_cases h : k = p
  · rw [if_pos h, h]
  · rw [if_neg h, if_pos rfl]
section
variable {B : Nat} {w0 : World} {R : HP}
theorem rr_at {g cap n : Nat} {f : Mx} {w : World} (s : St B w0 w (rr g cap n f * R)) {i j : Nat} (hi : i < n) (hj : j < n) : w.cell? ⟨g, i * n + j, none⟩ = some (bv (f i j)) := by
  obtain ⟨-, -, -, -, h, -⟩ := St.row1 s
  rw [h _ (at_lt hi hj), bvs, List.getElem?_map, cl_get f hi hj]
  rfl
theorem rr_set {g cap n : Nat} {f : Mx} {w : World} (s : St B w0 w (rr g cap n f * R)) {i j : Nat} (hi : i < n) (hj : j < n) (v : UInt8) :
    w.frozen? ⟨g, i * n + j, none⟩ = false ∧ St B w0 (w.setCell ⟨g, i * n + j, none⟩ (bv v)) (rr g cap n (upm f i j v) * R) := by
  obtain ⟨-, -, -, -, -, h1, h2⟩ := St.row1 s
  refine ⟨h1 _, ?_⟩
  have q := h2 (i * n + j) (bv v) (at_lt hi hj)
  unfold rr
  rw [← cl_set f hi hj v]
  simpa [bvs, List.map_set] using q
theorem rr_congr {g cap n : Nat} {f f' : Mx} {w : World} (s : St B w0 w (rr g cap n f * R)) (h : cl n n f = cl n n f') : St B w0 w (rr g cap n f' * R) := by
  unfold rr at s ⊢
  rw [← h]; exact s
/-- Stages of a region with two stores. -/
def st1 (q j : Nat) : Nat := match j with
  | 0 => q
  | _ + 1 => q + 1
def st2 (q j : Nat) : Nat := match j with
  | 0 => q
  | 1 => q
  | _ + 2 => q + 1
theorem rr_c2 {g cap g2 cap2 n : Nat} {f f' h h' : Mx} {w : World} (s : St B w0 w (rr g cap n f * (rr g2 cap2 n h * R))) (e : cl n n f = cl n n f') (e2 : cl n n h = cl n n h') : St B w0 w (rr g cap n f' * (rr g2 cap2 n h' * R)) := by
  unfold rr at s ⊢
  rw [← e, ← e2]; exact s
/-- What the document's Invert hands back. -/
def RInvP (B : Nat) (w0 : World) (n : Nat) (f : Mx) (Y : HP) (e : Ending) (w' : World) : Prop := match gj n f n with
  | some x => ∃ g, e = .returned (.tuple #[rmv n n (n * n) g (n * n), .bool true]) ∧ St B w0 w' (rr g (n * n) n x.2 * Y)
  | none => e = .returned (.tuple #[.agg #[.int .i64 0, .int .i64 0, .slice none 0 0], .bool false]) ∧ St B w0 w' Y
theorem RInvP.some {n : Nat} {f A Bm : Mx} {Y : HP} {w' : World} {g : Nat} (h : gj n f n = some (A, Bm)) (s : St B w0 w' (rr g (n * n) n Bm * Y)) : RInvP B w0 n f Y (.returned (.tuple #[rmv n n (n * n) g (n * n), .bool true])) w' := by
  unfold RInvP; rw [h]; exact ⟨g, rfl, s⟩
theorem RInvP.none {n : Nat} {f : Mx} {Y : HP} {w' : World} (h : gj n f n = none) (s : St B w0 w' Y) : RInvP B w0 n f Y (.returned (.tuple #[.agg #[.int .i64 0, .int .i64 0, .slice none 0 0], .bool false])) w' := by
  unfold RInvP; rw [h]; exact ⟨rfl, s⟩
set_option maxRecDepth 100000 in
set_option maxHeartbeats 64000000 in
theorem rinvert_calls (n gx kx : Nat) (f : Mx) (hn : 1 ≤ n ∧ n ≤ 32) (w : World) (hr : Reads B w0 R (.slice (some ⟨gx, 0, none⟩) (n * n) kx) (cl n n f)) (s : St B w0 w R) :
    Calls Try.prog 34 #[rmv n n (n * n) gx kx] w (RInvP B w0 n f R) := by
  have hnn : n * n ≤ 32 * 32 := Nat.mul_le_mul hn.2 hn.2
  have hn1 : 1 * 1 ≤ n * n := Nat.mul_le_mul hn.1 hn.1
  have s1 := s.alloc (.cells #[.int .i64 (n : Int), .int .i64 (n : Int), .slice (some ⟨gx, 0, none⟩) (n * n) kx] 50)
  have s2 := s1.alloc (.cells #[.int .i64 0, .int .i64 0, .slice none 0 0] 50)
  have e2 : (w.alloc (.cells #[.int .i64 (n : Int), .int .i64 (n : Int), .slice (some ⟨gx, 0, none⟩) (n * n) kx] 50)).heap.size = w.heap.size + 1 := by simp
  rw [e2] at s2
  have s3 := s2.alloc (.cells #[] 5)
  rw [show ((w.alloc (.cells #[.int .i64 (n : Int), .int .i64 (n : Int), .slice (some ⟨gx, 0, none⟩) (n * n) kx] 50)).alloc (.cells #[.int .i64 0, .int .i64 0, .slice none 0 0] 50)).heap.size = w.heap.size + 1 + 1 by simp] at s3
  have S3 := Lib.hid (s3.rowMk (size := 1) (n := 0) (cap := 0) (xs := []) (Nat.le_refl _) (Nat.zero_le _) (by simp) rfl)
  have HR := Lib.hid hr
  have HB := Lib.hid (hr _ _ (s3.eq (sep_assoc _ _ _).symm |>.eq (sep_assoc _ _ _).symm))
  clear s s1 s2 s3 e2 hr
  unfold rmv
  go_enter Try.func34, Try.ntmps34
  go_wp2_with (at_builtin; go_must (refine wpl_append rfl _ _ rfl tB S3.out (some ⟨gx, 0, none⟩) (n * n) kx (bvs (cl n n f)) rfl rfl HB.out.rd.2.2.2.2 (fun e => by cases e) (by simp [cl_len]) (bvs_one _) (by unfold maxLen; omega) (by omega) ?_); intro v5 w5 s5 hv5; rw [List.nil_append, Nat.zero_add] at s5; obtain ⟨ga, ka, rfl, -⟩ := s5.rowSome (fun e => by have := (hv5.1 e).1; cases this); clear hv5 S3 HB; have S := Lib.hid s5; clear s5)
  go_wp2_with fail
  refine (runit_calls n hn _ S.out).mono ?_
  rintro e w3 ⟨gb, rfl, s⟩
  clear S
  generalize w.heap.size = b1 at *
  have S := Lib.hid (s.eq (Q := (rr ga ka n (f) * (rr gb (n * n) n (unit) * (pts b1 (.cells #[.int .i64 (n : Int), .int .i64 (n : Int), .slice (some ⟨gx, 0, none⟩) (n * n) kx] 50) * (pts (b1 + 1) (.cells #[.int .i64 0, .int .i64 0, .slice none 0 0] 50) * R))))) (by unfold rr; ac_rfl))
  clear s
  unfold rmv
  go_wp2_with fail
  rw [show Sem.run Try.prog (Instr.field 50 (.agg #[.int .i64 (n : Int), .int .i64 (n : Int), .slice (some ⟨gb, 0, none⟩) (n * n) (n * n)]) 2) w3 = .ok (.slice (some ⟨gb, 0, none⟩) (n * n) (n * n)) w3 from rfl]
  simp only [Result.andThen]
  go_wp2_with fail
  go_loopw [7] (fun i wr => ∃ (k : Nat) (A Bm : Mx), k ≤ n ∧ i = .int .i64 k ∧ gj n f k = some (A, Bm) ∧ St B w0 wr (rr ga ka n (A) * (rr gb (n * n) n (Bm) * (pts b1 (.cells #[.int .i64 (n : Int), .int .i64 (n : Int), .slice (some ⟨gx, 0, none⟩) (n * n) kx] 50) * (pts (b1 + 1) (.cells #[.int .i64 0, .int .i64 0, .slice none 0 0] 50) * R))))) (fun i _ => n - (intOf i).toNat)
  case atStart => exact ⟨0, f, unit, Nat.zero_le _, rfl, rfl, S.out⟩
  case round =>
    obtain ⟨k, A, Bm, hk, rfl, hg, s⟩ := hrel
    have HG := Lib.hid hg
    clear S hg
    have S := Lib.hid s
    clear s
    by_cases hlt : k < n
    · skip
      go_wp2_with fail
      go_loopw [8] (fun i wr => ∃ p : Nat, k ≤ p ∧ p ≤ n ∧ i = .int .i64 p ∧ (∀ q, k ≤ q → q < p → A q k = 0) ∧ St B w0 wr (rr ga ka n (A) * (rr gb (n * n) n (Bm) * (pts b1 (.cells #[.int .i64 (n : Int), .int .i64 (n : Int), .slice (some ⟨gx, 0, none⟩) (n * n) kx] 50) * (pts (b1 + 1) (.cells #[.int .i64 0, .int .i64 0, .slice none 0 0] 50) * R))))) (fun i _ => n - (intOf i).toNat)
      case atStart => exact ⟨k, Nat.le_refl _, by omega, rfl, fun q h1 h2 => absurd h2 (by omega), S.out⟩
      case round =>
        obtain ⟨p, hp1, hp2, rfl, hz, s⟩ := hrel
        have HZ := Lib.hid hz
        clear S hz
        by_cases hpn : p < n
        · obtain ⟨q1, q2, q3, q4, q5⟩ := spot hpn hlt (show n * n ≤ 1000000 by omega)
          have c4 := rr_at s hpn hlt
          by_cases hap : A p k = 0
          · have hd0 : ((((A p k).toNat : Nat) : Int) == 0) = true := by rw [hap]; rfl
            have S := Lib.hid s
            have HA := Lib.hid hap
            clear s hap
            go_wp2_with fail
            go_roundw
            case rel => exact ⟨p + 1, by omega, by omega, by go_num, fun q h1 h2 => by by_cases e : q = p; (subst e; exact HA.out); exact HZ.out q h1 (by omega), S.out⟩
            case measure => simp [intOf]; omega
          · have HP := Lib.hid (gj_next HG.out (pv_eq hp1 hp2 HZ.out (fun _ => hap)) (by omega))
            have S := Lib.hid s
            have hx0 := u8_pos hap
            have hx1 : ((((A p k).toNat : Nat) : Int) == 0) = false := by simpa using hx0
            have hne : ((p : Int) == (n : Int)) = false := by rw [beq_eq_false_iff_ne]; omega
            clear s hap hx0 HZ HG
            go_wp2_with fail
            clear q1 q2 q3 q4 q5 c4 hx1
            have S2 := Lib.hid (S.out.eq (Q := rr ga ka n (upto A (rsw A p k) 0) * (rr gb (n * n) n (upto Bm (rsw Bm p k) 0) * (pts b1 (.cells #[.int .i64 (n : Int), .int .i64 (n : Int), .slice (some ⟨gx, 0, none⟩) (n * n) kx] 50) * (pts (b1 + 1) (.cells #[.int .i64 0, .int .i64 0, .slice none 0 0] 50) * R)))) (by rw [upto_zero, upto_zero]))
            clear S
            go_loopw [9] (fun i wr => ∃ q : Nat, q ≤ n ∧ i = .int .i64 q ∧ St B w0 wr (rr ga ka n (upto A (rsw A p k) q) * (rr gb (n * n) n (upto Bm (rsw Bm p k) q) * (pts b1 (.cells #[.int .i64 (n : Int), .int .i64 (n : Int), .slice (some ⟨gx, 0, none⟩) (n * n) kx] 50) * (pts (b1 + 1) (.cells #[.int .i64 0, .int .i64 0, .slice none 0 0] 50) * R))))) (fun i _ => n - (intOf i).toNat)
            case atStart => exact ⟨0, Nat.zero_le _, rfl, S2.out⟩
            case round =>
              obtain ⟨q, hq, rfl, s⟩ := hrel
              clear S2
              have S := Lib.hid s
              clear s
              by_cases hlt3 : q < n
              · have Q1 := Lib.hid (spot hpn hlt3 (show n * n ≤ 1000000 by omega))
                have Q2 := Lib.hid (spot hlt hlt3 (show n * n ≤ 1000000 by omega))
                go_wp2_with fail
                refine wp_region_rx (fun j w' => St B w0 w' (rr ga ka n (sj A p k q j) * (rr gb (n * n) n (upto Bm (rsw Bm p k) q) * (pts b1 (.cells #[.int .i64 (n : Int), .int .i64 (n : Int), .slice (some ⟨gx, 0, none⟩) (n * n) kx] 50) * (pts (b1 + 1) (.cells #[.int .i64 0, .int .i64 0, .slice none 0 0] 50) * R))))) [29, 31] mixed (by kernel_rfl) (by kernel_rfl) S.out.drew ?_
                refine RXl.exact (.slice (some ⟨ga, 0, none⟩) (n * n) ka) rfl rfl rfl rfl rfl (fun _ _ _ _ _ => rfl) ?_
                refine RXl.exact (.int .i64 (p : Int)) rfl rfl rfl rfl rfl (fun _ _ _ _ _ => rfl) ?_
                refine RXl.exact (.int .i64 (n : Int)) rfl rfl rfl rfl rfl (fun _ _ _ _ _ => rfl) ?_
                refine RXl.exact (.int .i64 ((p : Int) * (n : Int))) rfl rfl rfl rfl rfl (fun j τ w' hj hJ => by simp [rho, upd, Spec.val, execOp, go_sem, Q1.out.1]) ?_
                refine RXl.exact (.int .i64 (q : Int)) rfl rfl rfl rfl rfl (fun _ _ _ _ _ => rfl) ?_
                refine RXl.exact (.int .i64 ((p : Int) * (n : Int) + (q : Int))) rfl rfl rfl rfl rfl (fun j τ w' hj hJ => by simp [rho, upd, Spec.val, execOp, go_sem, Q1.out.2.1]) ?_
                refine RXl.exact (.slice (some ⟨ga, 0, none⟩) (n * n) ka) rfl rfl rfl rfl rfl (fun _ _ _ _ _ => rfl) ?_
                refine RXl.exact (.int .i64 (k : Int)) rfl rfl rfl rfl rfl (fun _ _ _ _ _ => rfl) ?_
                refine RXl.exact (.int .i64 (n : Int)) rfl rfl rfl rfl rfl (fun _ _ _ _ _ => rfl) ?_
                refine RXl.exact (.int .i64 ((k : Int) * (n : Int))) rfl rfl rfl rfl rfl (fun j τ w' hj hJ => by simp [rho, upd, Spec.val, execOp, go_sem, Q2.out.1]) ?_
                refine RXl.exact (.int .i64 (q : Int)) rfl rfl rfl rfl rfl (fun _ _ _ _ _ => rfl) ?_
                refine RXl.exact (.int .i64 ((k : Int) * (n : Int) + (q : Int))) rfl rfl rfl rfl rfl (fun j τ w' hj hJ => by simp [rho, upd, Spec.val, execOp, go_sem, Q2.out.2.1]) ?_
                refine RXl.exact (.slice (some ⟨ga, 0, none⟩) (n * n) ka) rfl rfl rfl rfl rfl (fun _ _ _ _ _ => rfl) ?_
                refine RXl.exact (.int .i64 (k : Int)) rfl rfl rfl rfl rfl (fun _ _ _ _ _ => rfl) ?_
                refine RXl.exact (.int .i64 (n : Int)) rfl rfl rfl rfl rfl (fun _ _ _ _ _ => rfl) ?_
                refine RXl.exact (.int .i64 ((k : Int) * (n : Int))) rfl rfl rfl rfl rfl (fun j τ w' hj hJ => by simp [rho, upd, Spec.val, execOp, go_sem, Q2.out.1]) ?_
                refine RXl.exact (.int .i64 (q : Int)) rfl rfl rfl rfl rfl (fun _ _ _ _ _ => rfl) ?_
                refine RXl.exact (.int .i64 ((k : Int) * (n : Int) + (q : Int))) rfl rfl rfl rfl rfl (fun j τ w' hj hJ => by simp [rho, upd, Spec.val, execOp, go_sem, Q2.out.2.1]) ?_
                refine RXl.exact (.pointer (some ⟨ga, k * n + q, none⟩)) rfl rfl rfl rfl rfl (fun j τ w' hj hJ => by simp [rho, upd, Spec.val, execOp, go_sem, Q2.out.2.2.1, Q2.out.2.2.2.1, Q2.out.2.2.2.2]) ?_
                refine RXl.exactB 0 29 rfl (by kernel_rfl) (bv (A k q)) rfl rfl rfl rfl rfl (fun j τ w' hj hJ => by obtain rfl : j = 0 := (by omega); have c := rr_at (f := upto A (rsw A p k) q) hJ hlt hlt3; rw [show upto A (rsw A p k) q k q = A k q from if_neg (Nat.lt_irrefl q)] at c; simp [rho, upd, Spec.val, execOp, go_sem, c]) ?_
                refine RXl.exact (.slice (some ⟨ga, 0, none⟩) (n * n) ka) rfl rfl rfl rfl rfl (fun _ _ _ _ _ => rfl) ?_
                refine RXl.exact (.int .i64 (p : Int)) rfl rfl rfl rfl rfl (fun _ _ _ _ _ => rfl) ?_
                refine RXl.exact (.int .i64 (n : Int)) rfl rfl rfl rfl rfl (fun _ _ _ _ _ => rfl) ?_
                refine RXl.exact (.int .i64 ((p : Int) * (n : Int))) rfl rfl rfl rfl rfl (fun j τ w' hj hJ => by simp [rho, upd, Spec.val, execOp, go_sem, Q1.out.1]) ?_
                refine RXl.exact (.int .i64 (q : Int)) rfl rfl rfl rfl rfl (fun _ _ _ _ _ => rfl) ?_
                refine RXl.exact (.int .i64 ((p : Int) * (n : Int) + (q : Int))) rfl rfl rfl rfl rfl (fun j τ w' hj hJ => by simp [rho, upd, Spec.val, execOp, go_sem, Q1.out.2.1]) ?_
                refine RXl.exact (.pointer (some ⟨ga, p * n + q, none⟩)) rfl rfl rfl rfl rfl (fun j τ w' hj hJ => by simp [rho, upd, Spec.val, execOp, go_sem, Q1.out.2.2.1, Q1.out.2.2.2.1, Q1.out.2.2.2.2]) ?_
                refine RXl.exactB 0 29 rfl (by kernel_rfl) (bv (A p q)) rfl rfl rfl rfl rfl (fun j τ w' hj hJ => by obtain rfl : j = 0 := (by omega); have c := rr_at (f := upto A (rsw A p k) q) hJ hpn hlt3; rw [show upto A (rsw A p k) q p q = A p q from if_neg (Nat.lt_irrefl q)] at c; simp [rho, upd, Spec.val, execOp, go_sem, c]) ?_
                refine RXl.exact (.pointer (some ⟨ga, p * n + q, none⟩)) rfl rfl rfl rfl rfl (fun j τ w' hj hJ => by simp [rho, upd, Spec.val, execOp, go_sem, Q1.out.2.2.1, Q1.out.2.2.2.1, Q1.out.2.2.2.2]) ?_
                refine RXl.effj 0 rfl rfl rfl rfl rfl rfl (fun w' hJ => (let h := rr_set (f := sj A p k q 0) hJ hpn hlt3 (A k q); ⟨_, exec_store rfl rfl rfl rfl (by kernel_rfl) (rr_at (f := sj A p k q 0) hJ hpn hlt3) h.1, h.2⟩)) ?_
                refine RXl.exact (.pointer (some ⟨ga, k * n + q, none⟩)) rfl rfl rfl rfl rfl (fun j τ w' hj hJ => by simp [rho, upd, Spec.val, execOp, go_sem, Q2.out.2.2.1, Q2.out.2.2.2.1, Q2.out.2.2.2.2]) ?_
                refine RXl.effj 1 rfl rfl rfl rfl rfl rfl (fun w' hJ => (let h := rr_set (f := sj A p k q 1) hJ hlt hlt3 (A p q); ⟨_, exec_store rfl rfl rfl rfl (by kernel_rfl) (rr_at (f := sj A p k q 1) hJ hlt hlt3) h.1, by have y := h.2; rw [show upm (sj A p k q 1) k q (A p q) = sj A p k q 2 from upto_sw A p k q] at y; exact y⟩)) ?_
                refine RXl.nilx _ (Agr.upd _ _ (Agr.upd _ _ (Agr.upd _ _ (Agr.upd _ _ (Agr.upd _ _ (Agr.upd _ _ (Agr.upd _ _ (Agr.upd _ _ (Agr.upd _ _ (Agr.upd _ _ (Agr.upd _ _ (Agr.upd _ _ (Agr.upd _ _ (Agr.upd _ _ (Agr.upd _ _ (Agr.upd _ _ (Agr.upd _ _ (Agr.upd _ _ (Agr.upd _ _ (Agr.upd _ _ (Agr.upd _ _ (Agr.upd _ _ (Agr.upd _ _ (Agr.upd _ _ (Agr.upd _ _ (Agr.upd _ _ (Agr.upd _ _ (Agr.upd _ _ (Agr.upd _ _ (Agr.upd _ _ (Agr.base _))))))))))))))))))))))))))))))) fun w8 hJ => ?_
                obtain ⟨_, hJ⟩ := hJ
                simp only [Act.put, List.setIfInBounds_toArray, List.set_cons_succ, List.set_cons_zero]
                clear S
                have S := Lib.hid (St.eq (P := rr ga ka n (upto A (rsw A p k) (q + 1)) * (rr gb (n * n) n (upto Bm (rsw Bm p k) q) * (pts b1 (.cells #[.int .i64 (n : Int), .int .i64 (n : Int), .slice (some ⟨gx, 0, none⟩) (n * n) kx] 50) * (pts (b1 + 1) (.cells #[.int .i64 0, .int .i64 0, .slice none 0 0] 50) * R)))) (Q := rr gb (n * n) n (upto Bm (rsw Bm p k) q) * (rr ga ka n (upto A (rsw A p k) (q + 1)) * (pts b1 (.cells #[.int .i64 (n : Int), .int .i64 (n : Int), .slice (some ⟨gx, 0, none⟩) (n * n) kx] 50) * (pts (b1 + 1) (.cells #[.int .i64 0, .int .i64 0, .slice none 0 0] 50) * R)))) (by ac_rfl) hJ)
                clear hJ
                go_wp2_with fail
                refine wp_region_rx (fun j w' => St B w0 w' (rr gb (n * n) n (sj Bm p k q j) * (rr ga ka n (upto A (rsw A p k) (q + 1)) * (pts b1 (.cells #[.int .i64 (n : Int), .int .i64 (n : Int), .slice (some ⟨gx, 0, none⟩) (n * n) kx] 50) * (pts (b1 + 1) (.cells #[.int .i64 0, .int .i64 0, .slice none 0 0] 50) * R))))) [29, 31] mixed (by kernel_rfl) (by kernel_rfl) S.out.drew ?_
                refine RXl.exact (.slice (some ⟨gb, 0, none⟩) (n * n) (n * n)) rfl rfl rfl rfl rfl (fun _ _ _ _ _ => rfl) ?_
                refine RXl.exact (.int .i64 (p : Int)) rfl rfl rfl rfl rfl (fun _ _ _ _ _ => rfl) ?_
                refine RXl.exact (.int .i64 (n : Int)) rfl rfl rfl rfl rfl (fun _ _ _ _ _ => rfl) ?_
                refine RXl.exact (.int .i64 ((p : Int) * (n : Int))) rfl rfl rfl rfl rfl (fun j τ w' hj hJ => by simp [rho, upd, Spec.val, execOp, go_sem, Q1.out.1]) ?_
                refine RXl.exact (.int .i64 (q : Int)) rfl rfl rfl rfl rfl (fun _ _ _ _ _ => rfl) ?_
                refine RXl.exact (.int .i64 ((p : Int) * (n : Int) + (q : Int))) rfl rfl rfl rfl rfl (fun j τ w' hj hJ => by simp [rho, upd, Spec.val, execOp, go_sem, Q1.out.2.1]) ?_
                refine RXl.exact (.slice (some ⟨gb, 0, none⟩) (n * n) (n * n)) rfl rfl rfl rfl rfl (fun _ _ _ _ _ => rfl) ?_
                refine RXl.exact (.int .i64 (k : Int)) rfl rfl rfl rfl rfl (fun _ _ _ _ _ => rfl) ?_
                refine RXl.exact (.int .i64 (n : Int)) rfl rfl rfl rfl rfl (fun _ _ _ _ _ => rfl) ?_
                refine RXl.exact (.int .i64 ((k : Int) * (n : Int))) rfl rfl rfl rfl rfl (fun j τ w' hj hJ => by simp [rho, upd, Spec.val, execOp, go_sem, Q2.out.1]) ?_
                refine RXl.exact (.int .i64 (q : Int)) rfl rfl rfl rfl rfl (fun _ _ _ _ _ => rfl) ?_
                refine RXl.exact (.int .i64 ((k : Int) * (n : Int) + (q : Int))) rfl rfl rfl rfl rfl (fun j τ w' hj hJ => by simp [rho, upd, Spec.val, execOp, go_sem, Q2.out.2.1]) ?_
                refine RXl.exact (.slice (some ⟨gb, 0, none⟩) (n * n) (n * n)) rfl rfl rfl rfl rfl (fun _ _ _ _ _ => rfl) ?_
                refine RXl.exact (.int .i64 (k : Int)) rfl rfl rfl rfl rfl (fun _ _ _ _ _ => rfl) ?_
                refine RXl.exact (.int .i64 (n : Int)) rfl rfl rfl rfl rfl (fun _ _ _ _ _ => rfl) ?_
                refine RXl.exact (.int .i64 ((k : Int) * (n : Int))) rfl rfl rfl rfl rfl (fun j τ w' hj hJ => by simp [rho, upd, Spec.val, execOp, go_sem, Q2.out.1]) ?_
                refine RXl.exact (.int .i64 (q : Int)) rfl rfl rfl rfl rfl (fun _ _ _ _ _ => rfl) ?_
                refine RXl.exact (.int .i64 ((k : Int) * (n : Int) + (q : Int))) rfl rfl rfl rfl rfl (fun j τ w' hj hJ => by simp [rho, upd, Spec.val, execOp, go_sem, Q2.out.2.1]) ?_
                refine RXl.exact (.pointer (some ⟨gb, k * n + q, none⟩)) rfl rfl rfl rfl rfl (fun j τ w' hj hJ => by simp [rho, upd, Spec.val, execOp, go_sem, Q2.out.2.2.1, Q2.out.2.2.2.1, Q2.out.2.2.2.2]) ?_
                refine RXl.exactB 0 29 rfl (by kernel_rfl) (bv (Bm k q)) rfl rfl rfl rfl rfl (fun j τ w' hj hJ => by obtain rfl : j = 0 := (by omega); have c := rr_at (f := upto Bm (rsw Bm p k) q) hJ hlt hlt3; rw [show upto Bm (rsw Bm p k) q k q = Bm k q from if_neg (Nat.lt_irrefl q)] at c; simp [rho, upd, Spec.val, execOp, go_sem, c]) ?_
                refine RXl.exact (.slice (some ⟨gb, 0, none⟩) (n * n) (n * n)) rfl rfl rfl rfl rfl (fun _ _ _ _ _ => rfl) ?_
                refine RXl.exact (.int .i64 (p : Int)) rfl rfl rfl rfl rfl (fun _ _ _ _ _ => rfl) ?_
                refine RXl.exact (.int .i64 (n : Int)) rfl rfl rfl rfl rfl (fun _ _ _ _ _ => rfl) ?_
                refine RXl.exact (.int .i64 ((p : Int) * (n : Int))) rfl rfl rfl rfl rfl (fun j τ w' hj hJ => by simp [rho, upd, Spec.val, execOp, go_sem, Q1.out.1]) ?_
                refine RXl.exact (.int .i64 (q : Int)) rfl rfl rfl rfl rfl (fun _ _ _ _ _ => rfl) ?_
                refine RXl.exact (.int .i64 ((p : Int) * (n : Int) + (q : Int))) rfl rfl rfl rfl rfl (fun j τ w' hj hJ => by simp [rho, upd, Spec.val, execOp, go_sem, Q1.out.2.1]) ?_
                refine RXl.exact (.pointer (some ⟨gb, p * n + q, none⟩)) rfl rfl rfl rfl rfl (fun j τ w' hj hJ => by simp [rho, upd, Spec.val, execOp, go_sem, Q1.out.2.2.1, Q1.out.2.2.2.1, Q1.out.2.2.2.2]) ?_
                refine RXl.exactB 0 29 rfl (by kernel_rfl) (bv (Bm p q)) rfl rfl rfl rfl rfl (fun j τ w' hj hJ => by obtain rfl : j = 0 := (by omega); have c := rr_at (f := upto Bm (rsw Bm p k) q) hJ hpn hlt3; rw [show upto Bm (rsw Bm p k) q p q = Bm p q from if_neg (Nat.lt_irrefl q)] at c; simp [rho, upd, Spec.val, execOp, go_sem, c]) ?_
                refine RXl.exact (.pointer (some ⟨gb, p * n + q, none⟩)) rfl rfl rfl rfl rfl (fun j τ w' hj hJ => by simp [rho, upd, Spec.val, execOp, go_sem, Q1.out.2.2.1, Q1.out.2.2.2.1, Q1.out.2.2.2.2]) ?_
                refine RXl.effj 0 rfl rfl rfl rfl rfl rfl (fun w' hJ => (let h := rr_set (f := sj Bm p k q 0) hJ hpn hlt3 (Bm k q); ⟨_, exec_store rfl rfl rfl rfl (by kernel_rfl) (rr_at (f := sj Bm p k q 0) hJ hpn hlt3) h.1, h.2⟩)) ?_
                refine RXl.exact (.pointer (some ⟨gb, k * n + q, none⟩)) rfl rfl rfl rfl rfl (fun j τ w' hj hJ => by simp [rho, upd, Spec.val, execOp, go_sem, Q2.out.2.2.1, Q2.out.2.2.2.1, Q2.out.2.2.2.2]) ?_
                refine RXl.effj 1 rfl rfl rfl rfl rfl rfl (fun w' hJ => (let h := rr_set (f := sj Bm p k q 1) hJ hlt hlt3 (Bm p q); ⟨_, exec_store rfl rfl rfl rfl (by kernel_rfl) (rr_at (f := sj Bm p k q 1) hJ hlt hlt3) h.1, by have y := h.2; rw [show upm (sj Bm p k q 1) k q (Bm p q) = sj Bm p k q 2 from upto_sw Bm p k q] at y; exact y⟩)) ?_
                refine RXl.nilx _ (Agr.upd _ _ (Agr.upd _ _ (Agr.upd _ _ (Agr.upd _ _ (Agr.upd _ _ (Agr.upd _ _ (Agr.upd _ _ (Agr.upd _ _ (Agr.upd _ _ (Agr.upd _ _ (Agr.upd _ _ (Agr.upd _ _ (Agr.upd _ _ (Agr.upd _ _ (Agr.upd _ _ (Agr.upd _ _ (Agr.upd _ _ (Agr.upd _ _ (Agr.upd _ _ (Agr.upd _ _ (Agr.upd _ _ (Agr.upd _ _ (Agr.upd _ _ (Agr.upd _ _ (Agr.upd _ _ (Agr.upd _ _ (Agr.upd _ _ (Agr.upd _ _ (Agr.upd _ _ (Agr.upd _ _ (Agr.base _))))))))))))))))))))))))))))))) fun w9 hJ => ?_
                obtain ⟨_, hJ⟩ := hJ
                simp only [Act.put, List.setIfInBounds_toArray, List.set_cons_succ, List.set_cons_zero]
                clear S
                have S := Lib.hid (St.eq (P := rr gb (n * n) n (upto Bm (rsw Bm p k) (q + 1)) * (rr ga ka n (upto A (rsw A p k) (q + 1)) * (pts b1 (.cells #[.int .i64 (n : Int), .int .i64 (n : Int), .slice (some ⟨gx, 0, none⟩) (n * n) kx] 50) * (pts (b1 + 1) (.cells #[.int .i64 0, .int .i64 0, .slice none 0 0] 50) * R)))) (Q := rr ga ka n (upto A (rsw A p k) (q + 1)) * (rr gb (n * n) n (upto Bm (rsw Bm p k) (q + 1)) * (pts b1 (.cells #[.int .i64 (n : Int), .int .i64 (n : Int), .slice (some ⟨gx, 0, none⟩) (n * n) kx] 50) * (pts (b1 + 1) (.cells #[.int .i64 0, .int .i64 0, .slice none 0 0] 50) * R)))) (by ac_rfl) hJ)
                clear hJ Q1 Q2
                go_wp2_with fail
                go_roundw
                case rel => exact ⟨q + 1, by omega, by go_num, S.out⟩
                case measure => simp [intOf]; omega
              · have e9 : n = q := by omega
                subst e9
                have HS := Lib.hid (rr_c2 S.out (upto_end A (rsw A p k) n n) (upto_end Bm (rsw Bm p k) n n))
                clear S
                have S := Lib.hid HS.out
                clear HS
                obtain ⟨q1, q2, q3, q4, q5⟩ := spot hlt hlt (show n * n ≤ 1000000 by omega)
                have c4 := rr_at S.out hlt hlt
                rw [show rsw A p k k k = A p k from by unfold rsw; rw [sw_pk]] at c4
                go_wp2_with fail
                refine (rinv_calls (A p k) _).mono ?_
                rintro e wq ⟨rfl, rfl⟩
                go_wp2_with fail
                clear q1 q2 q3 q4 q5 c4
                have HS := Lib.hid (S.out.eq (Q := rr ga ka n (upto (rsw A p k) (rsc (rsw A p k) k (ginv (A p k))) 0) * (rr gb (n * n) n (upto (rsw Bm p k) (rsc (rsw Bm p k) k (ginv (A p k))) 0) * (pts b1 (.cells #[.int .i64 (n : Int), .int .i64 (n : Int), .slice (some ⟨gx, 0, none⟩) (n * n) kx] 50) * (pts (b1 + 1) (.cells #[.int .i64 0, .int .i64 0, .slice none 0 0] 50) * R)))) (by rw [upto_zero, upto_zero]))
                clear S
                have S := Lib.hid HS.out
                clear HS
                go_loopw [11] (fun i wr => ∃ q : Nat, q ≤ n ∧ i = .int .i64 q ∧ St B w0 wr (rr ga ka n (upto (rsw A p k) (rsc (rsw A p k) k (ginv (A p k))) q) * (rr gb (n * n) n (upto (rsw Bm p k) (rsc (rsw Bm p k) k (ginv (A p k))) q) * (pts b1 (.cells #[.int .i64 (n : Int), .int .i64 (n : Int), .slice (some ⟨gx, 0, none⟩) (n * n) kx] 50) * (pts (b1 + 1) (.cells #[.int .i64 0, .int .i64 0, .slice none 0 0] 50) * R))))) (fun i _ => n - (intOf i).toNat)
                case atStart => exact ⟨0, Nat.zero_le _, rfl, S.out⟩
                case round =>
                  clear hlt3 hq
                  obtain ⟨q, hq, rfl, s⟩ := hrel
                  clear S
                  have S := Lib.hid s
                  clear s
                  by_cases hlt3 : q < n
                  · have Q2 := Lib.hid (spot hlt hlt3 (show n * n ≤ 1000000 by omega))
                    go_wp2_with fail
                    refine wp_region_rx (fun j w' => St B w0 w' (rr ga ka n (upto (rsw A p k) (rsc (rsw A p k) k (ginv (A p k))) (st1 q j)) * (rr gb (n * n) n (upto (rsw Bm p k) (rsc (rsw Bm p k) k (ginv (A p k))) (st2 q j)) * (pts b1 (.cells #[.int .i64 (n : Int), .int .i64 (n : Int), .slice (some ⟨gx, 0, none⟩) (n * n) kx] 50) * (pts (b1 + 1) (.cells #[.int .i64 0, .int .i64 0, .slice none 0 0] 50) * R))))) [33, 35] mixed (by kernel_rfl) (by kernel_rfl) S.out.drew ?_
                    refine RXl.exact (.slice (some ⟨ga, 0, none⟩) (n * n) ka) rfl rfl rfl rfl rfl (fun _ _ _ _ _ => rfl) ?_
                    refine RXl.exact (.int .i64 (k : Int)) rfl rfl rfl rfl rfl (fun _ _ _ _ _ => rfl) ?_
                    refine RXl.exact (.int .i64 (n : Int)) rfl rfl rfl rfl rfl (fun _ _ _ _ _ => rfl) ?_
                    refine RXl.exact (.int .i64 ((k : Int) * (n : Int))) rfl rfl rfl rfl rfl (fun j τ w' hj hJ => by simp [rho, upd, Spec.val, execOp, go_sem, Q2.out.1]) ?_
                    refine RXl.exact (.int .i64 (q : Int)) rfl rfl rfl rfl rfl (fun _ _ _ _ _ => rfl) ?_
                    refine RXl.exact (.int .i64 ((k : Int) * (n : Int) + (q : Int))) rfl rfl rfl rfl rfl (fun j τ w' hj hJ => by simp [rho, upd, Spec.val, execOp, go_sem, Q2.out.2.1]) ?_
                    refine RXl.exact (.slice (some ⟨gb, 0, none⟩) (n * n) (n * n)) rfl rfl rfl rfl rfl (fun _ _ _ _ _ => rfl) ?_
                    refine RXl.exact (.int .i64 (k : Int)) rfl rfl rfl rfl rfl (fun _ _ _ _ _ => rfl) ?_
                    refine RXl.exact (.int .i64 (n : Int)) rfl rfl rfl rfl rfl (fun _ _ _ _ _ => rfl) ?_
                    refine RXl.exact (.int .i64 ((k : Int) * (n : Int))) rfl rfl rfl rfl rfl (fun j τ w' hj hJ => by simp [rho, upd, Spec.val, execOp, go_sem, Q2.out.1]) ?_
                    refine RXl.exact (.int .i64 (q : Int)) rfl rfl rfl rfl rfl (fun _ _ _ _ _ => rfl) ?_
                    refine RXl.exact (.int .i64 ((k : Int) * (n : Int) + (q : Int))) rfl rfl rfl rfl rfl (fun j τ w' hj hJ => by simp [rho, upd, Spec.val, execOp, go_sem, Q2.out.2.1]) ?_
                    refine RXl.exact (.slice (some ⟨ga, 0, none⟩) (n * n) ka) rfl rfl rfl rfl rfl (fun _ _ _ _ _ => rfl) ?_
                    refine RXl.exact (.int .i64 (k : Int)) rfl rfl rfl rfl rfl (fun _ _ _ _ _ => rfl) ?_
                    refine RXl.exact (.int .i64 (n : Int)) rfl rfl rfl rfl rfl (fun _ _ _ _ _ => rfl) ?_
                    refine RXl.exact (.int .i64 ((k : Int) * (n : Int))) rfl rfl rfl rfl rfl (fun j τ w' hj hJ => by simp [rho, upd, Spec.val, execOp, go_sem, Q2.out.1]) ?_
                    refine RXl.exact (.int .i64 (q : Int)) rfl rfl rfl rfl rfl (fun _ _ _ _ _ => rfl) ?_
                    refine RXl.exact (.int .i64 ((k : Int) * (n : Int) + (q : Int))) rfl rfl rfl rfl rfl (fun j τ w' hj hJ => by simp [rho, upd, Spec.val, execOp, go_sem, Q2.out.2.1]) ?_
                    refine RXl.exact (.pointer (some ⟨ga, k * n + q, none⟩)) rfl rfl rfl rfl rfl (fun j τ w' hj hJ => by simp [rho, upd, Spec.val, execOp, go_sem, Q2.out.2.2.1, Q2.out.2.2.2.1, Q2.out.2.2.2.2]) ?_
                    refine RXl.exactB 0 33 rfl (by kernel_rfl) (bv (rsw A p k k q)) rfl rfl rfl rfl rfl (fun j τ w' hj hJ => by obtain rfl : j = 0 := (by omega); have c := rr_at (f := upto (rsw A p k) (rsc (rsw A p k) k (ginv (A p k))) q) hJ hlt hlt3; rw [show (upto (rsw A p k) (rsc (rsw A p k) k (ginv (A p k))) q) k q = rsw A p k k q from if_neg (Nat.lt_irrefl q)] at c; simp [rho, upd, Spec.val, execOp, go_sem, c]) ?_
                    refine RXl.exact (bv (ginv (A p k))) rfl rfl rfl rfl rfl (fun _ _ _ _ _ => rfl) ?_
                    refine RXl.callr (bv (gmul (rsw A p k k q) (ginv (A p k)))) _ [bv (rsw A p k k q), bv (ginv (A p k))] [.tmp 148, .tmp 149] _ rfl rfl rfl rfl rfl rfl (fun _ => rfl) (fun j τ w' hj hJ => (rmul_calls (rsw A p k k q) (ginv (A p k)) w').mono fun _ _ ⟨h1, h2⟩ => ⟨h1, h2 ▸ hJ⟩) ?_
                    refine RXl.exact (.slice (some ⟨gb, 0, none⟩) (n * n) (n * n)) rfl rfl rfl rfl rfl (fun _ _ _ _ _ => rfl) ?_
                    refine RXl.exact (.int .i64 (k : Int)) rfl rfl rfl rfl rfl (fun _ _ _ _ _ => rfl) ?_
                    refine RXl.exact (.int .i64 (n : Int)) rfl rfl rfl rfl rfl (fun _ _ _ _ _ => rfl) ?_
                    refine RXl.exact (.int .i64 ((k : Int) * (n : Int))) rfl rfl rfl rfl rfl (fun j τ w' hj hJ => by simp [rho, upd, Spec.val, execOp, go_sem, Q2.out.1]) ?_
                    refine RXl.exact (.int .i64 (q : Int)) rfl rfl rfl rfl rfl (fun _ _ _ _ _ => rfl) ?_
                    refine RXl.exact (.int .i64 ((k : Int) * (n : Int) + (q : Int))) rfl rfl rfl rfl rfl (fun j τ w' hj hJ => by simp [rho, upd, Spec.val, execOp, go_sem, Q2.out.2.1]) ?_
                    refine RXl.exact (.pointer (some ⟨gb, k * n + q, none⟩)) rfl rfl rfl rfl rfl (fun j τ w' hj hJ => by simp [rho, upd, Spec.val, execOp, go_sem, Q2.out.2.2.1, Q2.out.2.2.2.1, Q2.out.2.2.2.2]) ?_
                    refine RXl.exactB 0 33 rfl (by kernel_rfl) (bv (rsw Bm p k k q)) rfl rfl rfl rfl rfl (fun j τ w' hj hJ => by obtain rfl : j = 0 := (by omega); have c := rr_at (f := upto (rsw Bm p k) (rsc (rsw Bm p k) k (ginv (A p k))) q) (St.eq (sep_left_comm _ _ _) hJ) hlt hlt3; rw [show (upto (rsw Bm p k) (rsc (rsw Bm p k) k (ginv (A p k))) q) k q = rsw Bm p k k q from if_neg (Nat.lt_irrefl q)] at c; simp [rho, upd, Spec.val, execOp, go_sem, c]) ?_
                    refine RXl.exact (bv (ginv (A p k))) rfl rfl rfl rfl rfl (fun _ _ _ _ _ => rfl) ?_
                    refine RXl.callr (bv (gmul (rsw Bm p k k q) (ginv (A p k)))) _ [bv (rsw Bm p k k q), bv (ginv (A p k))] [.tmp 158, .tmp 159] _ rfl rfl rfl rfl rfl rfl (fun _ => rfl) (fun j τ w' hj hJ => (rmul_calls (rsw Bm p k k q) (ginv (A p k)) w').mono fun _ _ ⟨h1, h2⟩ => ⟨h1, h2 ▸ hJ⟩) ?_
                    refine RXl.exact (.pointer (some ⟨ga, k * n + q, none⟩)) rfl rfl rfl rfl rfl (fun j τ w' hj hJ => by simp [rho, upd, Spec.val, execOp, go_sem, Q2.out.2.2.1, Q2.out.2.2.2.1, Q2.out.2.2.2.2]) ?_
                    refine RXl.effj 0 rfl rfl rfl rfl rfl rfl (fun w' hJ => (let h := rr_set (f := upto (rsw A p k) (rsc (rsw A p k) k (ginv (A p k))) q) hJ hlt hlt3 (gmul (rsw A p k k q) (ginv (A p k))); ⟨_, exec_store rfl rfl rfl rfl (by kernel_rfl) (rr_at (f := upto (rsw A p k) (rsc (rsw A p k) k (ginv (A p k))) q) hJ hlt hlt3) h.1, by have y := h.2; rw [upto_sc (rsw A p k) k q (ginv (A p k))] at y; exact y⟩)) ?_
                    refine RXl.exact (.pointer (some ⟨gb, k * n + q, none⟩)) rfl rfl rfl rfl rfl (fun j τ w' hj hJ => by simp [rho, upd, Spec.val, execOp, go_sem, Q2.out.2.2.1, Q2.out.2.2.2.1, Q2.out.2.2.2.2]) ?_
                    refine RXl.effj 1 rfl rfl rfl rfl rfl rfl (fun w' hJ => (let h := rr_set (f := upto (rsw Bm p k) (rsc (rsw Bm p k) k (ginv (A p k))) q) (St.eq (sep_left_comm _ _ _) hJ) hlt hlt3 (gmul (rsw Bm p k k q) (ginv (A p k))); ⟨_, exec_store rfl rfl rfl rfl (by kernel_rfl) (rr_at (f := upto (rsw Bm p k) (rsc (rsw Bm p k) k (ginv (A p k))) q) (St.eq (sep_left_comm _ _ _) hJ) hlt hlt3) h.1, by have y := h.2; rw [upto_sc (rsw Bm p k) k q (ginv (A p k))] at y; exact y.eq (sep_left_comm _ _ _)⟩)) ?_
                    refine RXl.nilx _ (Agr.upd _ _ (Agr.upd _ _ (Agr.upd _ _ (Agr.upd _ _ (Agr.upd _ _ (Agr.upd _ _ (Agr.upd _ _ (Agr.upd _ _ (Agr.upd _ _ (Agr.upd _ _ (Agr.upd _ _ (Agr.upd _ _ (Agr.upd _ _ (Agr.upd _ _ (Agr.upd _ _ (Agr.upd _ _ (Agr.upd _ _ (Agr.upd _ _ (Agr.upd _ _ (Agr.upd _ _ (Agr.upd _ _ (Agr.upd _ _ (Agr.upd _ _ (Agr.upd _ _ (Agr.upd _ _ (Agr.upd _ _ (Agr.upd _ _ (Agr.upd _ _ (Agr.upd _ _ (Agr.upd _ _ (Agr.upd _ _ (Agr.upd _ _ (Agr.upd _ _ (Agr.upd _ _ (Agr.base _))))))))))))))))))))))))))))))))))) fun w8 hJ => ?_
                    obtain ⟨_, hJ⟩ := hJ
                    simp only [Act.put, List.setIfInBounds_toArray, List.set_cons_succ, List.set_cons_zero]
                    clear S
                    have S := Lib.hid (show St B w0 w8 (rr ga ka n (upto (rsw A p k) (rsc (rsw A p k) k (ginv (A p k))) (q + 1)) * (rr gb (n * n) n (upto (rsw Bm p k) (rsc (rsw Bm p k) k (ginv (A p k))) (q + 1)) * (pts b1 (.cells #[.int .i64 (n : Int), .int .i64 (n : Int), .slice (some ⟨gx, 0, none⟩) (n * n) kx] 50) * (pts (b1 + 1) (.cells #[.int .i64 0, .int .i64 0, .slice none 0 0] 50) * R)))) from hJ)
                    clear hJ Q2
                    go_wp2_with fail
                    go_roundw
                    case rel => exact ⟨q + 1, by omega, by go_num, S.out⟩
                    case measure => simp [intOf]; omega
                  · have e9 : n = q := by omega
                    subst e9
                    have HS := Lib.hid (rr_c2 S.out (upto_end (rsw A p k) (rsc (rsw A p k) k (ginv (A p k))) n n) (upto_end (rsw Bm p k) (rsc (rsw Bm p k) k (ginv (A p k))) n n))
                    clear S
                    obtain ⟨A2, hA2⟩ : ∃ x, x = rsc (rsw A p k) k (ginv (A p k)) := ⟨_, rfl⟩
                    obtain ⟨B2, hB2⟩ : ∃ x, x = rsc (rsw Bm p k) k (ginv (A p k)) := ⟨_, rfl⟩
                    rw [← hA2, ← hB2] at HS
                    rw [← hA2, ← hB2] at HP
                    clear hA2 hB2
                    have S := Lib.hid (HS.out.eq (Q := rr ga ka n (elm A2 A2 k 0) * (rr gb (n * n) n (elm B2 A2 k 0) * (pts b1 (.cells #[.int .i64 (n : Int), .int .i64 (n : Int), .slice (some ⟨gx, 0, none⟩) (n * n) kx] 50) * (pts (b1 + 1) (.cells #[.int .i64 0, .int .i64 0, .slice none 0 0] 50) * R)))) (by rw [elm_zero, elm_zero]))
                    clear HS
                    generalize ginv (A p k) = vv
                    go_wp2_with fail
                    go_loopw [12] (fun i wr => ∃ i' : Nat, i' ≤ n ∧ i = .int .i64 i' ∧ St B w0 wr (rr ga ka n (elm A2 A2 k i') * (rr gb (n * n) n (elm B2 A2 k i') * (pts b1 (.cells #[.int .i64 (n : Int), .int .i64 (n : Int), .slice (some ⟨gx, 0, none⟩) (n * n) kx] 50) * (pts (b1 + 1) (.cells #[.int .i64 0, .int .i64 0, .slice none 0 0] 50) * R))))) (fun i _ => n - (intOf i).toNat)
                    case atStart => exact ⟨0, Nat.zero_le _, rfl, S.out⟩
                    case round =>
                      obtain ⟨i, hi, rfl, s⟩ := hrel
                      clear S
                      have S := Lib.hid s
                      clear s
                      by_cases hin : i < n
                      · by_cases hik : i = k
                        · subst hik
                          obtain ⟨q1, q2, q3, q4, q5⟩ := spot hlt hlt (show n * n ≤ 1000000 by omega)
                          have c4 := rr_at S.out hin hlt
                          rw [elm_at] at c4
                          go_wp2_with fail
                          go_roundw
                          case rel => exact ⟨i + 1, by omega, by go_num, by have s := S.out; rw [elm_skip, elm_skip] at s; exact s⟩
                          case measure => simp [intOf]; omega
                        · obtain ⟨q1, q2, q3, q4, q5⟩ := spot hin hlt (show n * n ≤ 1000000 by omega)
                          have c4 := rr_at S.out hin hlt
                          rw [elm_at] at c4
                          have hx : ((i : Int) == (k : Int)) = false := by rw [beq_eq_false_iff_ne]; omega
                          by_cases hw : A2 i k = 0
                          · have hx2 : ((((A2 i k).toNat : Nat) : Int) == 0) = true := by rw [hw]; rfl
                            have HW := Lib.hid hw
                            clear hw
                            go_wp2_with fail
                            go_roundw
                            case rel => exact ⟨i + 1, by omega, by go_num, by have s := S.out; rw [elm_nil A2 A2 k i HW.out, elm_nil B2 A2 k i HW.out] at s; exact s⟩
                            case measure => simp [intOf]; omega
                          · have hx0 := u8_pos hw
                            have hx2 : ((((A2 i k).toNat : Nat) : Int) == 0) = false := by simpa using hx0
                            clear hw hx0
                            go_wp2_with fail
                            clear q1 q2 q3 q4 q5 c4 hx hx2
                            have HS := Lib.hid (S.out.eq (Q := rr ga ka n (upto (elm A2 A2 k i) (rad (elm A2 A2 k i) k i (A2 i k)) 0) * (rr gb (n * n) n (upto (elm B2 A2 k i) (rad (elm B2 A2 k i) k i (A2 i k)) 0) * (pts b1 (.cells #[.int .i64 (n : Int), .int .i64 (n : Int), .slice (some ⟨gx, 0, none⟩) (n * n) kx] 50) * (pts (b1 + 1) (.cells #[.int .i64 0, .int .i64 0, .slice none 0 0] 50) * R)))) (by rw [upto_zero, upto_zero]))
                            clear S
                            have S := Lib.hid HS.out
                            clear HS
                            go_loopw [14] (fun i1 wr => ∃ q : Nat, q ≤ n ∧ i1 = .int .i64 q ∧ St B w0 wr (rr ga ka n (upto (elm A2 A2 k i) (rad (elm A2 A2 k i) k i (A2 i k)) q) * (rr gb (n * n) n (upto (elm B2 A2 k i) (rad (elm B2 A2 k i) k i (A2 i k)) q) * (pts b1 (.cells #[.int .i64 (n : Int), .int .i64 (n : Int), .slice (some ⟨gx, 0, none⟩) (n * n) kx] 50) * (pts (b1 + 1) (.cells #[.int .i64 0, .int .i64 0, .slice none 0 0] 50) * R))))) (fun i1 _ => n - (intOf i1).toNat)
                            case atStart => exact ⟨0, Nat.zero_le _, rfl, S.out⟩
                            case round =>
                              clear hlt3 hq
                              obtain ⟨q, hq, rfl, s⟩ := hrel
                              clear S
                              have S := Lib.hid s
                              clear s
                              by_cases hlt3 : q < n
                              · have Q1 := Lib.hid (spot hin hlt3 (show n * n ≤ 1000000 by omega))
                                have Q2 := Lib.hid (spot hlt hlt3 (show n * n ≤ 1000000 by omega))
                                go_wp2_with fail
                                refine wp_region_rx (fun j w' => St B w0 w' (rr ga ka n (upto (elm A2 A2 k i) (rad (elm A2 A2 k i) k i (A2 i k)) (st1 q j)) * (rr gb (n * n) n (upto (elm B2 A2 k i) (rad (elm B2 A2 k i) k i (A2 i k)) q) * (pts b1 (.cells #[.int .i64 (n : Int), .int .i64 (n : Int), .slice (some ⟨gx, 0, none⟩) (n * n) kx] 50) * (pts (b1 + 1) (.cells #[.int .i64 0, .int .i64 0, .slice none 0 0] 50) * R))))) [26] mixed (by kernel_rfl) (by kernel_rfl) S.out.drew ?_
                                refine RXl.exact (.slice (some ⟨ga, 0, none⟩) (n * n) ka) rfl rfl rfl rfl rfl (fun _ _ _ _ _ => rfl) ?_
                                refine RXl.exact (.int .i64 (i : Int)) rfl rfl rfl rfl rfl (fun _ _ _ _ _ => rfl) ?_
                                refine RXl.exact (.int .i64 (n : Int)) rfl rfl rfl rfl rfl (fun _ _ _ _ _ => rfl) ?_
                                refine RXl.exact (.int .i64 ((i : Int) * (n : Int))) rfl rfl rfl rfl rfl (fun j τ w' hj hJ => by simp [rho, upd, Spec.val, execOp, go_sem, Q1.out.1]) ?_
                                refine RXl.exact (.int .i64 (q : Int)) rfl rfl rfl rfl rfl (fun _ _ _ _ _ => rfl) ?_
                                refine RXl.exact (.int .i64 ((i : Int) * (n : Int) + (q : Int))) rfl rfl rfl rfl rfl (fun j τ w' hj hJ => by simp [rho, upd, Spec.val, execOp, go_sem, Q1.out.2.1]) ?_
                                refine RXl.exact (.slice (some ⟨ga, 0, none⟩) (n * n) ka) rfl rfl rfl rfl rfl (fun _ _ _ _ _ => rfl) ?_
                                refine RXl.exact (.int .i64 (i : Int)) rfl rfl rfl rfl rfl (fun _ _ _ _ _ => rfl) ?_
                                refine RXl.exact (.int .i64 (n : Int)) rfl rfl rfl rfl rfl (fun _ _ _ _ _ => rfl) ?_
                                refine RXl.exact (.int .i64 ((i : Int) * (n : Int))) rfl rfl rfl rfl rfl (fun j τ w' hj hJ => by simp [rho, upd, Spec.val, execOp, go_sem, Q1.out.1]) ?_
                                refine RXl.exact (.int .i64 (q : Int)) rfl rfl rfl rfl rfl (fun _ _ _ _ _ => rfl) ?_
                                refine RXl.exact (.int .i64 ((i : Int) * (n : Int) + (q : Int))) rfl rfl rfl rfl rfl (fun j τ w' hj hJ => by simp [rho, upd, Spec.val, execOp, go_sem, Q1.out.2.1]) ?_
                                refine RXl.exact (.pointer (some ⟨ga, i * n + q, none⟩)) rfl rfl rfl rfl rfl (fun j τ w' hj hJ => by simp [rho, upd, Spec.val, execOp, go_sem, Q1.out.2.2.1, Q1.out.2.2.2.1, Q1.out.2.2.2.2]) ?_
                                refine RXl.exactB 0 26 rfl (by kernel_rfl) (bv ((elm A2 A2 k i) i q)) rfl rfl rfl rfl rfl (fun j τ w' hj hJ => by obtain rfl : j = 0 := (by omega); have c := rr_at (f := upto (elm A2 A2 k i) (rad (elm A2 A2 k i) k i (A2 i k)) q) hJ hin hlt3; rw [show (upto (elm A2 A2 k i) (rad (elm A2 A2 k i) k i (A2 i k)) q) i q = (elm A2 A2 k i) i q from if_neg (Nat.lt_irrefl q)] at c; simp [rho, upd, Spec.val, execOp, go_sem, c]) ?_
                                refine RXl.exact (bv (A2 i k)) rfl rfl rfl rfl rfl (fun _ _ _ _ _ => rfl) ?_
                                refine RXl.exact (.slice (some ⟨ga, 0, none⟩) (n * n) ka) rfl rfl rfl rfl rfl (fun _ _ _ _ _ => rfl) ?_
                                refine RXl.exact (.int .i64 (k : Int)) rfl rfl rfl rfl rfl (fun _ _ _ _ _ => rfl) ?_
                                refine RXl.exact (.int .i64 (n : Int)) rfl rfl rfl rfl rfl (fun _ _ _ _ _ => rfl) ?_
                                refine RXl.exact (.int .i64 ((k : Int) * (n : Int))) rfl rfl rfl rfl rfl (fun j τ w' hj hJ => by simp [rho, upd, Spec.val, execOp, go_sem, Q2.out.1]) ?_
                                refine RXl.exact (.int .i64 (q : Int)) rfl rfl rfl rfl rfl (fun _ _ _ _ _ => rfl) ?_
                                refine RXl.exact (.int .i64 ((k : Int) * (n : Int) + (q : Int))) rfl rfl rfl rfl rfl (fun j τ w' hj hJ => by simp [rho, upd, Spec.val, execOp, go_sem, Q2.out.2.1]) ?_
                                refine RXl.exact (.pointer (some ⟨ga, k * n + q, none⟩)) rfl rfl rfl rfl rfl (fun j τ w' hj hJ => by simp [rho, upd, Spec.val, execOp, go_sem, Q2.out.2.2.1, Q2.out.2.2.2.1, Q2.out.2.2.2.2]) ?_
                                refine RXl.exactB 0 26 rfl (by kernel_rfl) (bv ((elm A2 A2 k i) k q)) rfl rfl rfl rfl rfl (fun j τ w' hj hJ => by obtain rfl : j = 0 := (by omega); have c := rr_at (f := upto (elm A2 A2 k i) (rad (elm A2 A2 k i) k i (A2 i k)) q) hJ hlt hlt3; rw [show (upto (elm A2 A2 k i) (rad (elm A2 A2 k i) k i (A2 i k)) q) k q = (elm A2 A2 k i) k q from if_neg (Nat.lt_irrefl q)] at c; simp [rho, upd, Spec.val, execOp, go_sem, c]) ?_
                                refine RXl.callr (bv (gmul (A2 i k) ((elm A2 A2 k i) k q))) _ [bv (A2 i k), bv ((elm A2 A2 k i) k q)] [.tmp 202, .tmp 210] _ rfl rfl rfl rfl rfl rfl (fun _ => rfl) (fun j τ w' hj hJ => (rmul_calls (A2 i k) ((elm A2 A2 k i) k q) w').mono fun _ _ ⟨h1, h2⟩ => ⟨h1, h2 ▸ hJ⟩) ?_
                                refine RXl.exact (bv ((elm A2 A2 k i) i q ^^^ gmul ((elm A2 A2 k i) k q) (A2 i k))) rfl rfl rfl rfl rfl (fun j τ w' hj hJ => by rw [gmul_comm ((elm A2 A2 k i) k q) (A2 i k)]; have c := bits_xor_u8' ((elm A2 A2 k i) i q) (gmul (A2 i k) ((elm A2 A2 k i) k q)); simp [rho, upd, Spec.val, execOp, go_sem, c]) ?_
                                refine RXl.exact (.pointer (some ⟨ga, i * n + q, none⟩)) rfl rfl rfl rfl rfl (fun j τ w' hj hJ => by simp [rho, upd, Spec.val, execOp, go_sem, Q1.out.2.2.1, Q1.out.2.2.2.1, Q1.out.2.2.2.2]) ?_
                                refine RXl.effj 0 rfl rfl rfl rfl rfl rfl (fun w' hJ => (let h := rr_set (f := upto (elm A2 A2 k i) (rad (elm A2 A2 k i) k i (A2 i k)) q) hJ hin hlt3 ((elm A2 A2 k i) i q ^^^ gmul ((elm A2 A2 k i) k q) (A2 i k)); ⟨_, exec_store rfl rfl rfl rfl (by kernel_rfl) (rr_at (f := upto (elm A2 A2 k i) (rad (elm A2 A2 k i) k i (A2 i k)) q) hJ hin hlt3) h.1, by have y := h.2; rw [upto_ad (elm A2 A2 k i) k i q (A2 i k)] at y; exact y⟩)) ?_
                                refine RXl.nilx _ (Agr.upd _ _ (Agr.upd _ _ (Agr.upd _ _ (Agr.upd _ _ (Agr.upd _ _ (Agr.upd _ _ (Agr.upd _ _ (Agr.upd _ _ (Agr.upd _ _ (Agr.upd _ _ (Agr.upd _ _ (Agr.upd _ _ (Agr.upd _ _ (Agr.upd _ _ (Agr.upd _ _ (Agr.upd _ _ (Agr.upd _ _ (Agr.upd _ _ (Agr.upd _ _ (Agr.upd _ _ (Agr.upd _ _ (Agr.upd _ _ (Agr.upd _ _ (Agr.upd _ _ (Agr.upd _ _ (Agr.upd _ _ (Agr.base _))))))))))))))))))))))))))) fun w8 hJ => ?_
                                obtain ⟨_, hJ⟩ := hJ
                                simp only [Act.put, List.setIfInBounds_toArray, List.set_cons_succ, List.set_cons_zero]
                                clear S
                                have S := Lib.hid (St.eq (P := rr ga ka n (upto (elm A2 A2 k i) (rad (elm A2 A2 k i) k i (A2 i k)) (q + 1)) * (rr gb (n * n) n (upto (elm B2 A2 k i) (rad (elm B2 A2 k i) k i (A2 i k)) q) * (pts b1 (.cells #[.int .i64 (n : Int), .int .i64 (n : Int), .slice (some ⟨gx, 0, none⟩) (n * n) kx] 50) * (pts (b1 + 1) (.cells #[.int .i64 0, .int .i64 0, .slice none 0 0] 50) * R)))) (Q := rr gb (n * n) n (upto (elm B2 A2 k i) (rad (elm B2 A2 k i) k i (A2 i k)) q) * (rr ga ka n (upto (elm A2 A2 k i) (rad (elm A2 A2 k i) k i (A2 i k)) (q + 1)) * (pts b1 (.cells #[.int .i64 (n : Int), .int .i64 (n : Int), .slice (some ⟨gx, 0, none⟩) (n * n) kx] 50) * (pts (b1 + 1) (.cells #[.int .i64 0, .int .i64 0, .slice none 0 0] 50) * R)))) (by ac_rfl) hJ)
                                clear hJ
                                go_wp2_with fail
                                refine wp_region_rx (fun j w' => St B w0 w' (rr gb (n * n) n (upto (elm B2 A2 k i) (rad (elm B2 A2 k i) k i (A2 i k)) (st1 q j)) * (rr ga ka n (upto (elm A2 A2 k i) (rad (elm A2 A2 k i) k i (A2 i k)) (q + 1)) * (pts b1 (.cells #[.int .i64 (n : Int), .int .i64 (n : Int), .slice (some ⟨gx, 0, none⟩) (n * n) kx] 50) * (pts (b1 + 1) (.cells #[.int .i64 0, .int .i64 0, .slice none 0 0] 50) * R))))) [26] mixed (by kernel_rfl) (by kernel_rfl) S.out.drew ?_
                                refine RXl.exact (.slice (some ⟨gb, 0, none⟩) (n * n) (n * n)) rfl rfl rfl rfl rfl (fun _ _ _ _ _ => rfl) ?_
                                refine RXl.exact (.int .i64 (i : Int)) rfl rfl rfl rfl rfl (fun _ _ _ _ _ => rfl) ?_
                                refine RXl.exact (.int .i64 (n : Int)) rfl rfl rfl rfl rfl (fun _ _ _ _ _ => rfl) ?_
                                refine RXl.exact (.int .i64 ((i : Int) * (n : Int))) rfl rfl rfl rfl rfl (fun j τ w' hj hJ => by simp [rho, upd, Spec.val, execOp, go_sem, Q1.out.1]) ?_
                                refine RXl.exact (.int .i64 (q : Int)) rfl rfl rfl rfl rfl (fun _ _ _ _ _ => rfl) ?_
                                refine RXl.exact (.int .i64 ((i : Int) * (n : Int) + (q : Int))) rfl rfl rfl rfl rfl (fun j τ w' hj hJ => by simp [rho, upd, Spec.val, execOp, go_sem, Q1.out.2.1]) ?_
                                refine RXl.exact (.slice (some ⟨gb, 0, none⟩) (n * n) (n * n)) rfl rfl rfl rfl rfl (fun _ _ _ _ _ => rfl) ?_
                                refine RXl.exact (.int .i64 (i : Int)) rfl rfl rfl rfl rfl (fun _ _ _ _ _ => rfl) ?_
                                refine RXl.exact (.int .i64 (n : Int)) rfl rfl rfl rfl rfl (fun _ _ _ _ _ => rfl) ?_
                                refine RXl.exact (.int .i64 ((i : Int) * (n : Int))) rfl rfl rfl rfl rfl (fun j τ w' hj hJ => by simp [rho, upd, Spec.val, execOp, go_sem, Q1.out.1]) ?_
                                refine RXl.exact (.int .i64 (q : Int)) rfl rfl rfl rfl rfl (fun _ _ _ _ _ => rfl) ?_
                                refine RXl.exact (.int .i64 ((i : Int) * (n : Int) + (q : Int))) rfl rfl rfl rfl rfl (fun j τ w' hj hJ => by simp [rho, upd, Spec.val, execOp, go_sem, Q1.out.2.1]) ?_
                                refine RXl.exact (.pointer (some ⟨gb, i * n + q, none⟩)) rfl rfl rfl rfl rfl (fun j τ w' hj hJ => by simp [rho, upd, Spec.val, execOp, go_sem, Q1.out.2.2.1, Q1.out.2.2.2.1, Q1.out.2.2.2.2]) ?_
                                refine RXl.exactB 0 26 rfl (by kernel_rfl) (bv ((elm B2 A2 k i) i q)) rfl rfl rfl rfl rfl (fun j τ w' hj hJ => by obtain rfl : j = 0 := (by omega); have c := rr_at (f := upto (elm B2 A2 k i) (rad (elm B2 A2 k i) k i (A2 i k)) q) hJ hin hlt3; rw [show (upto (elm B2 A2 k i) (rad (elm B2 A2 k i) k i (A2 i k)) q) i q = (elm B2 A2 k i) i q from if_neg (Nat.lt_irrefl q)] at c; simp [rho, upd, Spec.val, execOp, go_sem, c]) ?_
                                refine RXl.exact (bv (A2 i k)) rfl rfl rfl rfl rfl (fun _ _ _ _ _ => rfl) ?_
                                refine RXl.exact (.slice (some ⟨gb, 0, none⟩) (n * n) (n * n)) rfl rfl rfl rfl rfl (fun _ _ _ _ _ => rfl) ?_
                                refine RXl.exact (.int .i64 (k : Int)) rfl rfl rfl rfl rfl (fun _ _ _ _ _ => rfl) ?_
                                refine RXl.exact (.int .i64 (n : Int)) rfl rfl rfl rfl rfl (fun _ _ _ _ _ => rfl) ?_
                                refine RXl.exact (.int .i64 ((k : Int) * (n : Int))) rfl rfl rfl rfl rfl (fun j τ w' hj hJ => by simp [rho, upd, Spec.val, execOp, go_sem, Q2.out.1]) ?_
                                refine RXl.exact (.int .i64 (q : Int)) rfl rfl rfl rfl rfl (fun _ _ _ _ _ => rfl) ?_
                                refine RXl.exact (.int .i64 ((k : Int) * (n : Int) + (q : Int))) rfl rfl rfl rfl rfl (fun j τ w' hj hJ => by simp [rho, upd, Spec.val, execOp, go_sem, Q2.out.2.1]) ?_
                                refine RXl.exact (.pointer (some ⟨gb, k * n + q, none⟩)) rfl rfl rfl rfl rfl (fun j τ w' hj hJ => by simp [rho, upd, Spec.val, execOp, go_sem, Q2.out.2.2.1, Q2.out.2.2.2.1, Q2.out.2.2.2.2]) ?_
                                refine RXl.exactB 0 26 rfl (by kernel_rfl) (bv ((elm B2 A2 k i) k q)) rfl rfl rfl rfl rfl (fun j τ w' hj hJ => by obtain rfl : j = 0 := (by omega); have c := rr_at (f := upto (elm B2 A2 k i) (rad (elm B2 A2 k i) k i (A2 i k)) q) hJ hlt hlt3; rw [show (upto (elm B2 A2 k i) (rad (elm B2 A2 k i) k i (A2 i k)) q) k q = (elm B2 A2 k i) k q from if_neg (Nat.lt_irrefl q)] at c; simp [rho, upd, Spec.val, execOp, go_sem, c]) ?_
                                refine RXl.callr (bv (gmul (A2 i k) ((elm B2 A2 k i) k q))) _ [bv (A2 i k), bv ((elm B2 A2 k i) k q)] [.tmp 228, .tmp 236] _ rfl rfl rfl rfl rfl rfl (fun _ => rfl) (fun j τ w' hj hJ => (rmul_calls (A2 i k) ((elm B2 A2 k i) k q) w').mono fun _ _ ⟨h1, h2⟩ => ⟨h1, h2 ▸ hJ⟩) ?_
                                refine RXl.exact (bv ((elm B2 A2 k i) i q ^^^ gmul ((elm B2 A2 k i) k q) (A2 i k))) rfl rfl rfl rfl rfl (fun j τ w' hj hJ => by rw [gmul_comm ((elm B2 A2 k i) k q) (A2 i k)]; have c := bits_xor_u8' ((elm B2 A2 k i) i q) (gmul (A2 i k) ((elm B2 A2 k i) k q)); simp [rho, upd, Spec.val, execOp, go_sem, c]) ?_
                                refine RXl.exact (.pointer (some ⟨gb, i * n + q, none⟩)) rfl rfl rfl rfl rfl (fun j τ w' hj hJ => by simp [rho, upd, Spec.val, execOp, go_sem, Q1.out.2.2.1, Q1.out.2.2.2.1, Q1.out.2.2.2.2]) ?_
                                refine RXl.effj 0 rfl rfl rfl rfl rfl rfl (fun w' hJ => (let h := rr_set (f := upto (elm B2 A2 k i) (rad (elm B2 A2 k i) k i (A2 i k)) q) hJ hin hlt3 ((elm B2 A2 k i) i q ^^^ gmul ((elm B2 A2 k i) k q) (A2 i k)); ⟨_, exec_store rfl rfl rfl rfl (by kernel_rfl) (rr_at (f := upto (elm B2 A2 k i) (rad (elm B2 A2 k i) k i (A2 i k)) q) hJ hin hlt3) h.1, by have y := h.2; rw [upto_ad (elm B2 A2 k i) k i q (A2 i k)] at y; exact y⟩)) ?_
                                refine RXl.nilx _ (Agr.upd _ _ (Agr.upd _ _ (Agr.upd _ _ (Agr.upd _ _ (Agr.upd _ _ (Agr.upd _ _ (Agr.upd _ _ (Agr.upd _ _ (Agr.upd _ _ (Agr.upd _ _ (Agr.upd _ _ (Agr.upd _ _ (Agr.upd _ _ (Agr.upd _ _ (Agr.upd _ _ (Agr.upd _ _ (Agr.upd _ _ (Agr.upd _ _ (Agr.upd _ _ (Agr.upd _ _ (Agr.upd _ _ (Agr.upd _ _ (Agr.upd _ _ (Agr.upd _ _ (Agr.upd _ _ (Agr.upd _ _ (Agr.base _))))))))))))))))))))))))))) fun w9 hJ => ?_
                                obtain ⟨_, hJ⟩ := hJ
                                simp only [Act.put, List.setIfInBounds_toArray, List.set_cons_succ, List.set_cons_zero]
                                clear S
                                have S := Lib.hid (St.eq (P := rr gb (n * n) n (upto (elm B2 A2 k i) (rad (elm B2 A2 k i) k i (A2 i k)) (q + 1)) * (rr ga ka n (upto (elm A2 A2 k i) (rad (elm A2 A2 k i) k i (A2 i k)) (q + 1)) * (pts b1 (.cells #[.int .i64 (n : Int), .int .i64 (n : Int), .slice (some ⟨gx, 0, none⟩) (n * n) kx] 50) * (pts (b1 + 1) (.cells #[.int .i64 0, .int .i64 0, .slice none 0 0] 50) * R)))) (Q := rr ga ka n (upto (elm A2 A2 k i) (rad (elm A2 A2 k i) k i (A2 i k)) (q + 1)) * (rr gb (n * n) n (upto (elm B2 A2 k i) (rad (elm B2 A2 k i) k i (A2 i k)) (q + 1)) * (pts b1 (.cells #[.int .i64 (n : Int), .int .i64 (n : Int), .slice (some ⟨gx, 0, none⟩) (n * n) kx] 50) * (pts (b1 + 1) (.cells #[.int .i64 0, .int .i64 0, .slice none 0 0] 50) * R)))) (by ac_rfl) hJ)
                                clear hJ Q1 Q2
                                go_wp2_with fail
                                go_roundw
                                case rel => exact ⟨q + 1, by omega, by go_num, S.out⟩
                                case measure => simp [intOf]; omega
                              · have e9 : n = q := by omega
                                subst e9
                                have HS := Lib.hid (rr_c2 S.out (upto_end (elm A2 A2 k i) (rad (elm A2 A2 k i) k i (A2 i k)) n n) (upto_end (elm B2 A2 k i) (rad (elm B2 A2 k i) k i (A2 i k)) n n))
                                clear S
                                rw [elm_step A2 A2 k i hik, elm_step B2 A2 k i hik] at HS
                                have S := Lib.hid HS.out
                                clear HS
                                go_wp2_with fail
                                go_roundw
                                case rel => exact ⟨i + 1, by omega, by go_num, S.out⟩
                                case measure => simp [intOf]; omega
                      · have e9 : n = i := by omega
                        subst e9
                        go_wp2_with fail
                        go_roundw
                        case rel => exact ⟨k + 1, _, _, by omega, by go_num, HP.out, S.out⟩
                        case measure => simp [intOf]; omega
        · obtain rfl : p = n := by omega
          have HN := Lib.hid (gj_none (gj_sing HG.out (pv_eq hp1 hp2 HZ.out (fun h => absurd h hpn))) (p - (k + 1)))
          rw [show k + 1 + (p - (k + 1)) = p by omega] at HN
          have s9 := s.right.right.eq (sep_left_comm _ _ _)
          have e0 := s9.cell 0
          have e1 := s9.cell 1
          have e2 := s9.cell 2
          have f0 := s9.free 0
          have f1 := s9.free 1
          have f2 := s9.free 2
          simp at e0 e1 e2
          have sz := (((s9.set 0 (.int .i64 0)).set 1 (.int .i64 0)).set 2 (.slice none 0 0))
          have z0 := sz.cell 0
          have z1 := sz.cell 1
          have z2 := sz.cell 2
          simp at z0 z1 z2
          have Z := Lib.hid (And.intro z0 (And.intro z1 z2))
          have S := Lib.hid (sz.right.right)
          clear s s9 sz z0 z1 z2 HZ HG
          go_wp2_with fail
          refine bodyPost_ret (v := .tuple #[.agg #[.int .i64 0, .int .i64 0, .slice none 0 0], .bool false]) (by simp [results, Try.results34, go_sem, Z.out.1, Z.out.2.1, Z.out.2.2]) rfl ?_
          exact RInvP.none HN.out S.out
    · have e9 : n = k := by omega
      subst e9
      have s9 := S.out.eq (Q := pts (b1 + 1) (.cells #[.int .i64 0, .int .i64 0, .slice none 0 0] 50) * (rr gb (n * n) n Bm * (rr ga ka n A * (pts b1 (.cells #[.int .i64 (n : Int), .int .i64 (n : Int), .slice (some ⟨gx, 0, none⟩) (n * n) kx] 50) * R)))) (by ac_rfl)
      clear S
      have e0 := s9.cell 0
      have e1 := s9.cell 1
      have e2 := s9.cell 2
      have f0 := s9.free 0
      have f1 := s9.free 1
      have f2 := s9.free 2
      simp at e0 e1 e2
      have sz := (((s9.set 0 (.int .i64 n)).set 1 (.int .i64 n)).set 2 (.slice (some ⟨gb, 0, none⟩) (n * n) (n * n)))
      have z0 := sz.cell 0
      have z1 := sz.cell 1
      have z2 := sz.cell 2
      simp at z0 z1 z2
      have Z := Lib.hid (And.intro z0 (And.intro z1 z2))
      have S := Lib.hid (sz.eq (Q := rr gb (n * n) n Bm * R * _) (by rw [show ∀ a b c d r : HP, a * (b * (c * (d * r))) = b * r * (a * (c * d)) from fun a b c d r => by ac_rfl]) |>.left)
      clear s9 sz z0 z1 z2
      go_wp2_with fail
      refine bodyPost_ret (v := .tuple #[.agg #[.int .i64 n, .int .i64 n, .slice (some ⟨gb, 0, none⟩) (n * n) (n * n)], .bool true]) (by simp [results, Try.results34, go_sem, Z.out.1, Z.out.2.1, Z.out.2.2]) rfl ?_
      exact RInvP.some HG.out S.out
end
end Go.Proofs.Ytfhphbpgiickfaa.Mt
