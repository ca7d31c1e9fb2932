/- The document's product of matrices, walked. -/
import Derived.Test.YtfhphbpgiickfaaMtL2
namespace Go.Proofs.Ytfhphbpgiickfaa.Mt
open Go Go.RowKit Go.Proofs.Ytfhphbpgiickfaa Go.Proofs.Ytfhphbpgiickfaa.Sp Go.Proofs.Ytfhphbpgiickfaa.Reg Go.Proofs.Ytfhphbpgiickfaa.Rd Go.Proofs.Ytfhphbpgiickfaa.Gf
def fm (c : Nat) (f : Mx) (q : Nat) : UInt8 := f (q / c) (q % c)
theorem fm_at {c i j : Nat} (f : Mx) (hj : j < c) : fm c f (i * c + j) = f i j := by
  unfold fm
  rw [(at_div hj).1, (at_div hj).2]
section
variable {B : Nat} {w0 : World} {R : HP}
theorem cell_rd {xs : List UInt8} {g m k : Nat} {H : HP} {w : World} (h : Reads B w0 R (.slice (some ⟨g, 0, none⟩) m k) xs) (s : St B w0 w (H * R)) (j : Nat) (x : UInt8) (hx : xs[j]? = some x) : w.cell? ⟨g, j, none⟩ = some (bv x) := by
  obtain ⟨hj, rfl⟩ := List.getElem?_eq_some_iff.1 hx
  have := (h w H s).cellAt j hj
  simpa using this
set_option maxRecDepth 100000 in
set_option maxHeartbeats 16000000 in
theorem rmm_calls (r n c : Nat) (f h : Mx) (g1 k1 g2 k2 : Nat) (hr : 1 ≤ r ∧ r ≤ 32) (hn : 1 ≤ n ∧ n ≤ 32) (hc : 1 ≤ c ∧ c ≤ 32) (w : World) (h1 : Reads B w0 R (.slice (some ⟨g1, 0, none⟩) (r * n) k1) (cl r n f)) (h2 : Reads B w0 R (.slice (some ⟨g2, 0, none⟩) (n * c) k2) (cl n c h)) (s : St B w0 w R) :
    Calls Try.prog 38 #[rmv r n (r * n) g1 k1, rmv n c (n * c) g2 k2] w fun e w' => ∃ g cap, e = .returned (rmv r c (r * c) g cap) ∧ St B w0 w' (row 5 1 (.slice (some ⟨g, 0, none⟩) (r * c) cap) (r * c) (bvs (cl r c (mmul n f h))) * R) := by
  have hrc : r * c ≤ 32 * 32 := Nat.mul_le_mul hr.2 hc.2
  have hrn : r * n ≤ 32 * 32 := Nat.mul_le_mul hr.2 hn.2
  have hnc : n * c ≤ 32 * 32 := Nat.mul_le_mul hn.2 hc.2
  have s1 := s.alloc (.cells #[.int .i64 (r : Int), .int .i64 (n : Int), .slice (some ⟨g1, 0, none⟩) (r * n) k1] 50)
  have s2 := s1.alloc (.cells #[.int .i64 (n : Int), .int .i64 (c : Int), .slice (some ⟨g2, 0, none⟩) (n * c) k2] 50)
  have s3 := s2.alloc (.cells #[.int .i64 0, .int .i64 0, .slice none 0 0] 50)
  have e2 : (w.alloc (.cells #[.int .i64 (r : Int), .int .i64 (n : Int), .slice (some ⟨g1, 0, none⟩) (r * n) k1] 50)).heap.size = w.heap.size + 1 := by simp
  have e3 : ((w.alloc (.cells #[.int .i64 (r : Int), .int .i64 (n : Int), .slice (some ⟨g1, 0, none⟩) (r * n) k1] 50)).alloc (.cells #[.int .i64 (n : Int), .int .i64 (c : Int), .slice (some ⟨g2, 0, none⟩) (n * c) k2] 50)).heap.size = w.heap.size + 1 + 1 := by simp
  rw [e2] at s2 s3
  rw [e3] at s3
  have s4 := s3.alloc (.cells #[.int .i64 (r : Int), .int .i64 (c : Int), .slice none 0 0] 50)
  rw [show (((w.alloc (.cells #[.int .i64 (r : Int), .int .i64 (n : Int), .slice (some ⟨g1, 0, none⟩) (r * n) k1] 50)).alloc (.cells #[.int .i64 (n : Int), .int .i64 (c : Int), .slice (some ⟨g2, 0, none⟩) (n * c) k2] 50)).alloc (.cells #[.int .i64 0, .int .i64 0, .slice none 0 0] 50)).heap.size = w.heap.size + 1 + 1 + 1 by simp] at s4
  have s5 := s4.rowNil 5 1
  have H1 := Lib.hid h1
  have H2 := Lib.hid h2
  have CM := Lib.hid (show ∀ m, m = r * c → (List.range m).map (fm c (mmul n f h)) = cl r c (mmul n f h) from fun m e => by rw [e]; rfl)
  clear s s1 s2 s3 s4 h1 h2 e2 e3
  have S := Lib.hid (show St B w0 _ (row 5 1 (.slice none 0 0) 0 [] * (pts (w.heap.size + 1 + 1 + 1) (.cells #[.int .i64 (r : Int), .int .i64 (c : Int), .slice none 0 0] 50) * (pts (w.heap.size + 1 + 1) (.cells #[.int .i64 0, .int .i64 0, .slice none 0 0] 50) * (pts (w.heap.size + 1) (.cells #[.int .i64 (n : Int), .int .i64 (c : Int), .slice (some ⟨g2, 0, none⟩) (n * c) k2] 50) * (pts w.heap.size (.cells #[.int .i64 (r : Int), .int .i64 (n : Int), .slice (some ⟨g1, 0, none⟩) (r * n) k1] 50) * R))))) from s5)
  clear s5
  unfold rmv
  go_enter Try.func38, Try.ntmps38
  go_wp2_with fail
  generalize w.heap.size = b at *
  go_loopw [6] (fun i wr => ∃ (p : Nat) (v : Value), p ≤ r ∧ i = .int .i64 p ∧ St B w0 wr (pts b (.cells #[.int .i64 (r : Int), .int .i64 (n : Int), .slice (some ⟨g1, 0, none⟩) (r * n) k1] 50) * (pts (b + 1) (.cells #[.int .i64 (n : Int), .int .i64 (c : Int), .slice (some ⟨g2, 0, none⟩) (n * c) k2] 50) * (pts (b + 1 + 1) (.cells #[.int .i64 0, .int .i64 0, .slice none 0 0] 50) * (pts (b + 1 + 1 + 1) (.cells #[.int .i64 (r : Int), .int .i64 (c : Int), v] 50) * (row 5 1 v (p * c + 0) (bvs ((List.range (p * c + 0)).map (fm c (mmul n f h)))) * R)))))) (fun i _ => r - (intOf i).toNat)
  case atStart => exact ⟨0, .slice none 0 0, Nat.zero_le _, rfl, S.out.eq (by simp only [Nat.zero_mul]; simp only [List.range_zero, List.map_nil, bvs]; ac_rfl)⟩
  case round =>
    obtain ⟨p, v, hp, rfl, s⟩ := hrel
    clear S
    obtain ⟨a5, c5, rfl, -⟩ := (s.eq (Q := row 5 1 v (p * c + 0) (bvs ((List.range (p * c + 0)).map (fm c (mmul n f h)))) * (pts b (.cells #[.int .i64 (r : Int), .int .i64 (n : Int), .slice (some ⟨g1, 0, none⟩) (r * n) k1] 50) * (pts (b + 1) (.cells #[.int .i64 (n : Int), .int .i64 (c : Int), .slice (some ⟨g2, 0, none⟩) (n * c) k2] 50) * (pts (b + 1 + 1) (.cells #[.int .i64 0, .int .i64 0, .slice none 0 0] 50) * (pts (b + 1 + 1 + 1) (.cells #[.int .i64 (r : Int), .int .i64 (c : Int), v] 50) * R))))) (by ac_rfl)).rowSlice
    have kf0 := s.cell 0
    simp at kf0
    by_cases hlt : p < r
    · have S := Lib.hid s
      clear s
      go_wp2_with fail
      clear kf0
      go_loopw [7] (fun i wr => ∃ (q : Nat) (v : Value), q ≤ c ∧ i = .int .i64 q ∧ St B w0 wr (pts b (.cells #[.int .i64 (r : Int), .int .i64 (n : Int), .slice (some ⟨g1, 0, none⟩) (r * n) k1] 50) * (pts (b + 1) (.cells #[.int .i64 (n : Int), .int .i64 (c : Int), .slice (some ⟨g2, 0, none⟩) (n * c) k2] 50) * (pts (b + 1 + 1) (.cells #[.int .i64 0, .int .i64 0, .slice none 0 0] 50) * (pts (b + 1 + 1 + 1) (.cells #[.int .i64 (r : Int), .int .i64 (c : Int), v] 50) * (row 5 1 v (p * c + q) (bvs ((List.range (p * c + q)).map (fm c (mmul n f h)))) * R)))))) (fun i _ => c - (intOf i).toNat)
      case atStart => exact ⟨0, _, Nat.zero_le _, rfl, S.out⟩
      case round =>
        obtain ⟨q, v, hq, rfl, s⟩ := hrel
        clear S
        obtain ⟨a5, c5, rfl, -⟩ := (s.eq (Q := row 5 1 v (p * c + q) (bvs ((List.range (p * c + q)).map (fm c (mmul n f h)))) * (pts b (.cells #[.int .i64 (r : Int), .int .i64 (n : Int), .slice (some ⟨g1, 0, none⟩) (r * n) k1] 50) * (pts (b + 1) (.cells #[.int .i64 (n : Int), .int .i64 (c : Int), .slice (some ⟨g2, 0, none⟩) (n * c) k2] 50) * (pts (b + 1 + 1) (.cells #[.int .i64 0, .int .i64 0, .slice none 0 0] 50) * (pts (b + 1 + 1 + 1) (.cells #[.int .i64 (r : Int), .int .i64 (c : Int), v] 50) * R))))) (by ac_rfl)).rowSlice
        have kf1 := (s.eq (Q := pts (b + 1) (.cells #[.int .i64 (n : Int), .int .i64 (c : Int), .slice (some ⟨g2, 0, none⟩) (n * c) k2] 50) * (pts b (.cells #[.int .i64 (r : Int), .int .i64 (n : Int), .slice (some ⟨g1, 0, none⟩) (r * n) k1] 50) * (pts (b + 1 + 1) (.cells #[.int .i64 0, .int .i64 0, .slice none 0 0] 50) * (pts (b + 1 + 1 + 1) (.cells #[.int .i64 (r : Int), .int .i64 (c : Int), (.slice a5 (p * c + q) c5)] 50) * (row 5 1 (.slice a5 (p * c + q) c5) (p * c + q) (bvs ((List.range (p * c + q)).map (fm c (mmul n f h)))) * R))))) (by ac_rfl)).cell 1
        simp at kf1
        by_cases hlt2 : q < c
        · have S := Lib.hid s
          clear s
          go_wp2_with fail
          clear kf1
          go_loopw [8, 9] (fun sv i wr => ∃ k : Nat, k ≤ n ∧ i = .int .i64 k ∧ sv = bv (sm k fun z => gmul (f p z) (h z q)) ∧ St B w0 wr (pts b (.cells #[.int .i64 (r : Int), .int .i64 (n : Int), .slice (some ⟨g1, 0, none⟩) (r * n) k1] 50) * (pts (b + 1) (.cells #[.int .i64 (n : Int), .int .i64 (c : Int), .slice (some ⟨g2, 0, none⟩) (n * c) k2] 50) * (pts (b + 1 + 1) (.cells #[.int .i64 0, .int .i64 0, .slice none 0 0] 50) * (pts (b + 1 + 1 + 1) (.cells #[.int .i64 (r : Int), .int .i64 (c : Int), (.slice a5 (p * c + q) c5)] 50) * (row 5 1 (.slice a5 (p * c + q) c5) (p * c + q) (bvs ((List.range (p * c + q)).map (fm c (mmul n f h)))) * R)))))) (fun _ i _ => n - (intOf i).toNat)
          case atStart => exact ⟨0, Nat.zero_le _, rfl, rfl, S.out⟩
          case round =>
            obtain ⟨k, hk, rfl, rfl, s⟩ := hrel
            clear S
            have kf1 := s.cell 1
            simp at kf1
            by_cases hlt3 : k < n
            · have S := Lib.hid s
              clear s
              have Q1 := Lib.hid (spot hlt hlt3 (show r * n ≤ 1000000 by omega))
              have Q2 := Lib.hid (spot hlt3 hlt2 (show n * c ≤ 1000000 by omega))
              have HX := Lib.hid (bits_xor_u8' (sm k fun z => gmul (f p z) (h z q)) (gmul (f p k) (h k q)))
              have G1 := Lib.hid (cl_get f hlt hlt3)
              have G2 := Lib.hid (cl_get h hlt3 hlt2)
              have e8 : sm (k + 1) (fun z => gmul (f p z) (h z q)) = (sm k fun z => gmul (f p z) (h z q)) ^^^ gmul (f p k) (h k q) := rfl
              have E8 := Lib.hid e8
              clear e8
              go_wp2_with fail
              clear kf1
              refine wp_region_rx (fun _ w' => St B w0 w' (pts b (.cells #[.int .i64 (r : Int), .int .i64 (n : Int), .slice (some ⟨g1, 0, none⟩) (r * n) k1] 50) * (pts (b + 1) (.cells #[.int .i64 (n : Int), .int .i64 (c : Int), .slice (some ⟨g2, 0, none⟩) (n * c) k2] 50) * (pts (b + 1 + 1) (.cells #[.int .i64 0, .int .i64 0, .slice none 0 0] 50) * (pts (b + 1 + 1 + 1) (.cells #[.int .i64 (r : Int), .int .i64 (c : Int), (.slice a5 (p * c + q) c5)] 50) * (row 5 1 (.slice a5 (p * c + q) c5) (p * c + q) (bvs ((List.range (p * c + q)).map (fm c (mmul n f h)))) * R)))))) [] mixed (by kernel_rfl) (by kernel_rfl) S.out.drew ?_
              refine RXl.exact (bv (sm k fun z => gmul (f p z) (h z q))) rfl rfl rfl rfl rfl (fun _ _ _ _ _ => rfl) ?_
              refine RXl.exact (.pointer (some ⟨b, 2, none⟩)) rfl rfl rfl rfl rfl (fun j τ w' hj hJ => by simp [rho, upd, Spec.val, execOp, go_sem]) ?_
              refine RXl.exact (.slice (some ⟨g1, 0, none⟩) (r * n) k1) rfl rfl rfl rfl rfl (fun j τ w' hj hJ => by have c := St.cell hJ 2; simp at c; simp [rho, upd, Spec.val, execOp, go_sem, c]) ?_
              refine RXl.exact (.int .i64 (p : Int)) rfl rfl rfl rfl rfl (fun _ _ _ _ _ => rfl) ?_
              refine RXl.exact (.pointer (some ⟨b, 1, none⟩)) rfl rfl rfl rfl rfl (fun j τ w' hj hJ => by simp [rho, upd, Spec.val, execOp, go_sem]) ?_
              refine RXl.exact (.int .i64 (n : Int)) rfl rfl rfl rfl rfl (fun j τ w' hj hJ => by have c := St.cell hJ 1; simp at c; simp [rho, upd, Spec.val, execOp, go_sem, c]) ?_
              refine RXl.exact (.int .i64 ((p : Int) * (n : Int))) rfl rfl rfl rfl rfl (fun j τ w' hj hJ => by simp [rho, upd, Spec.val, execOp, go_sem, Q1.out.1]) ?_
              refine RXl.exact (.int .i64 (k : Int)) rfl rfl rfl rfl rfl (fun _ _ _ _ _ => rfl) ?_
              refine RXl.exact (.int .i64 ((p : Int) * (n : Int) + (k : Int))) rfl rfl rfl rfl rfl (fun j τ w' hj hJ => by simp [rho, upd, Spec.val, execOp, go_sem, Q1.out.2.1]) ?_
              refine RXl.exact (.pointer (some ⟨g1, p * n + k, none⟩)) rfl rfl rfl rfl rfl (fun j τ w' hj hJ => by simp [rho, upd, Spec.val, execOp, go_sem, Q1.out.2.2.1, Q1.out.2.2.2.1, Q1.out.2.2.2.2]) ?_
              refine RXl.exact (bv (f p k)) rfl rfl rfl rfl rfl (fun j τ w' hj hJ => by have c := cell_rd H1.out (St.eq (Q := (pts b (.cells #[.int .i64 (r : Int), .int .i64 (n : Int), .slice (some ⟨g1, 0, none⟩) (r * n) k1] 50) * (pts (b + 1) (.cells #[.int .i64 (n : Int), .int .i64 (c : Int), .slice (some ⟨g2, 0, none⟩) (n * c) k2] 50) * (pts (b + 1 + 1) (.cells #[.int .i64 0, .int .i64 0, .slice none 0 0] 50) * (pts (b + 1 + 1 + 1) (.cells #[.int .i64 (r : Int), .int .i64 (c : Int), (.slice a5 (p * c + q) c5)] 50) * row 5 1 (.slice a5 (p * c + q) c5) (p * c + q) (bvs ((List.range (p * c + q)).map (fm c (mmul n f h)))))))) * R) (by ac_rfl) hJ) _ _ G1.out; simp [rho, upd, Spec.val, execOp, go_sem, c]) ?_
              refine RXl.exact (.pointer (some ⟨b + 1, 2, none⟩)) rfl rfl rfl rfl rfl (fun j τ w' hj hJ => by simp [rho, upd, Spec.val, execOp, go_sem]) ?_
              refine RXl.exact (.slice (some ⟨g2, 0, none⟩) (n * c) k2) rfl rfl rfl rfl rfl (fun j τ w' hj hJ => by have c := St.cell (St.eq (Q := pts (b + 1) (.cells #[.int .i64 (n : Int), .int .i64 (c : Int), .slice (some ⟨g2, 0, none⟩) (n * c) k2] 50) * (pts b (.cells #[.int .i64 (r : Int), .int .i64 (n : Int), .slice (some ⟨g1, 0, none⟩) (r * n) k1] 50) * (pts (b + 1 + 1) (.cells #[.int .i64 0, .int .i64 0, .slice none 0 0] 50) * (pts (b + 1 + 1 + 1) (.cells #[.int .i64 (r : Int), .int .i64 (c : Int), (.slice a5 (p * c + q) c5)] 50) * (row 5 1 (.slice a5 (p * c + q) c5) (p * c + q) (bvs ((List.range (p * c + q)).map (fm c (mmul n f h)))) * R))))) (by ac_rfl) hJ) 2; simp at c; simp [rho, upd, Spec.val, execOp, go_sem, c]) ?_
              refine RXl.exact (.int .i64 (k : Int)) rfl rfl rfl rfl rfl (fun _ _ _ _ _ => rfl) ?_
              refine RXl.exact (.pointer (some ⟨b + 1, 1, none⟩)) rfl rfl rfl rfl rfl (fun j τ w' hj hJ => by simp [rho, upd, Spec.val, execOp, go_sem]) ?_
              refine RXl.exact (.int .i64 (c : Int)) rfl rfl rfl rfl rfl (fun j τ w' hj hJ => by have c := St.cell (St.eq (Q := pts (b + 1) (.cells #[.int .i64 (n : Int), .int .i64 (c : Int), .slice (some ⟨g2, 0, none⟩) (n * c) k2] 50) * (pts b (.cells #[.int .i64 (r : Int), .int .i64 (n : Int), .slice (some ⟨g1, 0, none⟩) (r * n) k1] 50) * (pts (b + 1 + 1) (.cells #[.int .i64 0, .int .i64 0, .slice none 0 0] 50) * (pts (b + 1 + 1 + 1) (.cells #[.int .i64 (r : Int), .int .i64 (c : Int), (.slice a5 (p * c + q) c5)] 50) * (row 5 1 (.slice a5 (p * c + q) c5) (p * c + q) (bvs ((List.range (p * c + q)).map (fm c (mmul n f h)))) * R))))) (by ac_rfl) hJ) 1; simp at c; simp [rho, upd, Spec.val, execOp, go_sem, c]) ?_
              refine RXl.exact (.int .i64 ((k : Int) * (c : Int))) rfl rfl rfl rfl rfl (fun j τ w' hj hJ => by simp [rho, upd, Spec.val, execOp, go_sem, Q2.out.1]) ?_
              refine RXl.exact (.int .i64 (q : Int)) rfl rfl rfl rfl rfl (fun _ _ _ _ _ => rfl) ?_
              refine RXl.exact (.int .i64 ((k : Int) * (c : Int) + (q : Int))) rfl rfl rfl rfl rfl (fun j τ w' hj hJ => by simp [rho, upd, Spec.val, execOp, go_sem, Q2.out.2.1]) ?_
              refine RXl.exact (.pointer (some ⟨g2, k * c + q, none⟩)) rfl rfl rfl rfl rfl (fun j τ w' hj hJ => by simp [rho, upd, Spec.val, execOp, go_sem, Q2.out.2.2.1, Q2.out.2.2.2.1, Q2.out.2.2.2.2]) ?_
              refine RXl.exact (bv (h k q)) rfl rfl rfl rfl rfl (fun j τ w' hj hJ => by have c := cell_rd H2.out (St.eq (Q := (pts b (.cells #[.int .i64 (r : Int), .int .i64 (n : Int), .slice (some ⟨g1, 0, none⟩) (r * n) k1] 50) * (pts (b + 1) (.cells #[.int .i64 (n : Int), .int .i64 (c : Int), .slice (some ⟨g2, 0, none⟩) (n * c) k2] 50) * (pts (b + 1 + 1) (.cells #[.int .i64 0, .int .i64 0, .slice none 0 0] 50) * (pts (b + 1 + 1 + 1) (.cells #[.int .i64 (r : Int), .int .i64 (c : Int), (.slice a5 (p * c + q) c5)] 50) * row 5 1 (.slice a5 (p * c + q) c5) (p * c + q) (bvs ((List.range (p * c + q)).map (fm c (mmul n f h)))))))) * R) (by ac_rfl) hJ) _ _ G2.out; simp [rho, upd, Spec.val, execOp, go_sem, c]) ?_
              refine RXl.callr (bv (gmul (f p k) (h k q))) _ [bv (f p k), bv (h k q)] [.tmp 43, .tmp 53] _ rfl rfl rfl rfl rfl rfl (fun _ => rfl) (fun j τ w' hj hJ => (rmul_calls (f p k) (h k q) w').mono fun _ _ ⟨h1, h2⟩ => ⟨h1, h2 ▸ hJ⟩) ?_
              refine RXl.exact (bv (sm (k + 1) fun z => gmul (f p z) (h z q))) rfl rfl rfl rfl rfl (fun j τ w' hj hJ => by have c := HX.out; rw [E8.out]; simp [rho, upd, Spec.val, execOp, go_sem, c]) ?_
              refine RXl.exact (bv (sm (k + 1) fun z => gmul (f p z) (h z q))) rfl rfl rfl rfl rfl (fun _ _ _ _ _ => rfl) ?_
              refine RXl.nilx _ (Agr.upd _ _ (Agr.upd _ _ (Agr.upd _ _ (Agr.upd _ _ (Agr.upd _ _ (Agr.upd _ _ (Agr.upd _ _ (Agr.upd _ _ (Agr.upd _ _ (Agr.upd _ _ (Agr.upd _ _ (Agr.upd _ _ (Agr.upd _ _ (Agr.upd _ _ (Agr.upd _ _ (Agr.upd _ _ (Agr.upd _ _ (Agr.upd _ _ (Agr.upd _ _ (Agr.upd _ _ (Agr.upd _ _ (Agr.upd _ _ (Agr.upd _ _ (Agr.upd _ _ (Agr.base _))))))))))))))))))))))))) fun w8 hJ => ?_
              obtain ⟨_, hJ⟩ := hJ
              simp only [Act.put, List.setIfInBounds_toArray, List.set_cons_succ, List.set_cons_zero]
              clear S
              have S := Lib.hid (show St B w0 w8 (pts b (.cells #[.int .i64 (r : Int), .int .i64 (n : Int), .slice (some ⟨g1, 0, none⟩) (r * n) k1] 50) * (pts (b + 1) (.cells #[.int .i64 (n : Int), .int .i64 (c : Int), .slice (some ⟨g2, 0, none⟩) (n * c) k2] 50) * (pts (b + 1 + 1) (.cells #[.int .i64 0, .int .i64 0, .slice none 0 0] 50) * (pts (b + 1 + 1 + 1) (.cells #[.int .i64 (r : Int), .int .i64 (c : Int), (.slice a5 (p * c + q) c5)] 50) * (row 5 1 (.slice a5 (p * c + q) c5) (p * c + q) (bvs ((List.range (p * c + q)).map (fm c (mmul n f h)))) * R))))) from hJ)
              clear hJ HX G1 G2 E8 Q1 Q2
              go_wp2_with fail
              go_roundw
              case rel => exact ⟨k + 1, by omega, by go_num, rfl, S.out⟩
              case measure => simp [intOf]; omega
            · obtain rfl : k = n := by omega
              have kf5 := (s.eq (Q := pts (b + 1 + 1 + 1) (.cells #[.int .i64 (r : Int), .int .i64 (c : Int), (.slice a5 (p * c + q) c5)] 50) * (pts b (.cells #[.int .i64 (r : Int), .int .i64 (k : Int), .slice (some ⟨g1, 0, none⟩) (r * k) k1] 50) * (pts (b + 1) (.cells #[.int .i64 (k : Int), .int .i64 (c : Int), .slice (some ⟨g2, 0, none⟩) (k * c) k2] 50) * (pts (b + 1 + 1) (.cells #[.int .i64 0, .int .i64 0, .slice none 0 0] 50) * (row 5 1 (.slice a5 (p * c + q) c5) (p * c + q) (bvs ((List.range (p * c + q)).map (fm c (mmul k f h)))) * R))))) (by ac_rfl)).cell 2
              simp at kf5
              have s4 := (s.alloc (.cells #[bv (mmul k f h p q)] 5)).eq (Q := row 5 1 (.slice a5 (p * c + q) c5) (p * c + q) (bvs ((List.range (p * c + q)).map (fm c (mmul k f h)))) * (pts wr.heap.size (.cells #[bv (mmul k f h p q)] 5) * (pts b (.cells #[.int .i64 (r : Int), .int .i64 (k : Int), .slice (some ⟨g1, 0, none⟩) (r * k) k1] 50) * (pts (b + 1) (.cells #[.int .i64 (k : Int), .int .i64 (c : Int), .slice (some ⟨g2, 0, none⟩) (k * c) k2] 50) * (pts (b + 1 + 1) (.cells #[.int .i64 0, .int .i64 0, .slice none 0 0] 50) * (pts (b + 1 + 1 + 1) (.cells #[.int .i64 (r : Int), .int .i64 (c : Int), (.slice a5 (p * c + q) c5)] 50) * R)))))) (by ac_rfl)
              have S4 := Lib.hid s4
              have hrd := Lib.hid (Rd.new wr #[bv (mmul k f h p q)] 5)
              have HX := Lib.hid (show bvs ((List.range (p * c + q)).map (fm c (mmul k f h))) ++ [bv (mmul k f h p q)] = bvs ((List.range (p * c + (q + 1))).map (fm c (mmul k f h))) by
                rw [← Nat.add_assoc, List.range_succ, List.map_append, bvs, bvs, List.map_append]
                simp only [List.map_cons, List.map_nil]
                rw [fm_at _ hlt2])
              have hpq := at_lt hlt hlt2
              have es : (sm k fun z => gmul (f p z) (h z q)) = mmul k f h p q := rfl
              rw [es]
              clear s s4 es
              generalize mmul k f h p q = xx at S4 hrd HX
              go_wp2_with (at_builtin; go_must (refine wpl_append rfl _ _ rfl tB S4.out (some ⟨wr.heap.size, 0, none⟩) 1 1 [bv xx] rfl rfl hrd.out (fun e => by cases e) (by simp) (by simp [Value.oneCell']) (by unfold maxLen; omega) (by omega) ?_); intro v5 w5 s5 _; rw [HX.out, Nat.add_assoc] at s5; obtain ⟨a6, c6, rfl, -⟩ := s5.rowSlice; have s6 := s5.eq (Q := pts (b + 1 + 1 + 1) (.cells #[.int .i64 (r : Int), .int .i64 (c : Int), (.slice a5 (p * c + q) c5)] 50) * (pts wr.heap.size (.cells #[bv xx] 5) * (pts b (.cells #[.int .i64 (r : Int), .int .i64 (k : Int), .slice (some ⟨g1, 0, none⟩) (r * k) k1] 50) * (pts (b + 1) (.cells #[.int .i64 (k : Int), .int .i64 (c : Int), .slice (some ⟨g2, 0, none⟩) (k * c) k2] 50) * (pts (b + 1 + 1) (.cells #[.int .i64 0, .int .i64 0, .slice none 0 0] 50) * (row 5 1 (.slice a6 (p * c + (q + 1)) c6) (p * c + (q + 1)) (bvs ((List.range (p * c + (q + 1))).map (fm c (mmul k f h)))) * R)))))) (by ac_rfl); have c2_ := s6.cell 2; have f2_ := s6.free 2; simp at c2_; have S6 := Lib.hid ((s6.set 2 (.slice a6 (p * c + (q + 1)) c6)).eq (Q := pts wr.heap.size (.cells #[bv xx] 5) * (pts b (.cells #[.int .i64 (r : Int), .int .i64 (k : Int), .slice (some ⟨g1, 0, none⟩) (r * k) k1] 50) * (pts (b + 1) (.cells #[.int .i64 (k : Int), .int .i64 (c : Int), .slice (some ⟨g2, 0, none⟩) (k * c) k2] 50) * (pts (b + 1 + 1) (.cells #[.int .i64 0, .int .i64 0, .slice none 0 0] 50) * (pts (b + 1 + 1 + 1) (.cells #[.int .i64 (r : Int), .int .i64 (c : Int), (.slice a6 (p * c + (q + 1)) c6)] 50) * (row 5 1 (.slice a6 (p * c + (q + 1)) c6) (p * c + (q + 1)) (bvs ((List.range (p * c + (q + 1))).map (fm c (mmul k f h)))) * R)))))) (by simp; ac_rfl)).right; clear s5 s6 S4 hrd HX kf1 kf5)
              go_roundw
              case rel => exact ⟨q + 1, (.slice a6 (p * c + (q + 1)) c6), by omega, by go_num, S6.out⟩
              case measure => simp [intOf]; omega
        · obtain rfl : q = c := by omega
          rw [show p * q + q = (p + 1) * q from (Nat.succ_mul p q).symm] at s
          have S := Lib.hid s
          clear s
          go_wp2_with fail
          go_roundw
          case rel => exact ⟨p + 1, _, by omega, by go_num, S.out⟩
          case measure => simp [intOf]; omega
    · obtain rfl : p = r := by omega
      have hpc : 0 < p * c := Nat.mul_pos (by omega) (by omega)
      obtain ⟨g, cap, hv, -⟩ := (s.eq (Q := row 5 1 (.slice a5 (p * c + 0) c5) (p * c + 0) (bvs ((List.range (p * c + 0)).map (fm c (mmul n f h)))) * (pts b (.cells #[.int .i64 (p : Int), .int .i64 (n : Int), .slice (some ⟨g1, 0, none⟩) (p * n) k1] 50) * (pts (b + 1) (.cells #[.int .i64 (n : Int), .int .i64 (c : Int), .slice (some ⟨g2, 0, none⟩) (n * c) k2] 50) * (pts (b + 1 + 1) (.cells #[.int .i64 0, .int .i64 0, .slice none 0 0] 50) * (pts (b + 1 + 1 + 1) (.cells #[.int .i64 (p : Int), .int .i64 (c : Int), (.slice a5 (p * c + 0) c5)] 50) * R))))) (by ac_rfl)).rowSome (by intro e; have e : Value.slice a5 (p * c + 0) c5 = .slice none 0 0 := e; simp at e; omega)
      obtain ⟨rfl, -, rfl⟩ : a5 = some ⟨g, 0, none⟩ ∧ True ∧ c5 = cap := by simpa using hv
      clear hv
      rw [CM.out (p * c + 0) (Nat.add_zero _)] at s
      rw [Nat.add_zero] at s
      have sb := s.eq (Q := pts (b + 1 + 1 + 1) (.cells #[.int .i64 (p : Int), .int .i64 (c : Int), (.slice (some ⟨g, 0, none⟩) (p * c) c5)] 50) * (pts b (.cells #[.int .i64 (p : Int), .int .i64 (n : Int), .slice (some ⟨g1, 0, none⟩) (p * n) k1] 50) * (pts (b + 1) (.cells #[.int .i64 (n : Int), .int .i64 (c : Int), .slice (some ⟨g2, 0, none⟩) (n * c) k2] 50) * (pts (b + 1 + 1) (.cells #[.int .i64 0, .int .i64 0, .slice none 0 0] 50) * (row 5 1 (.slice (some ⟨g, 0, none⟩) (p * c) c5) (p * c) (bvs (cl p c (mmul n f h))) * R))))) (by ac_rfl)
      have d0 := sb.cell 0
      have d1 := sb.cell 1
      have d2 := sb.cell 2
      simp at d0 d1 d2
      have s := s.eq (Q := pts (b + 1 + 1) (.cells #[.int .i64 0, .int .i64 0, .slice none 0 0] 50) * (pts b (.cells #[.int .i64 (p : Int), .int .i64 (n : Int), .slice (some ⟨g1, 0, none⟩) (p * n) k1] 50) * (pts (b + 1) (.cells #[.int .i64 (n : Int), .int .i64 (c : Int), .slice (some ⟨g2, 0, none⟩) (n * c) k2] 50) * (pts (b + 1 + 1 + 1) (.cells #[.int .i64 (p : Int), .int .i64 (c : Int), (.slice (some ⟨g, 0, none⟩) (p * c) c5)] 50) * (row 5 1 (.slice (some ⟨g, 0, none⟩) (p * c) c5) (p * c) (bvs (cl p c (mmul n f h))) * R))))) (by ac_rfl)
      have e0 := s.cell 0
      have e1 := s.cell 1
      have e2 := s.cell 2
      have f0 := s.free 0
      have f1 := s.free 1
      have f2 := s.free 2
      simp at e0 e1 e2
      have s9 := ((s.set 0 (.int .i64 (p : Int))).set 1 (.int .i64 (c : Int))).set 2 (.slice (some ⟨g, 0, none⟩) (p * c) c5)
      have z0 := s9.cell 0
      have z1 := s9.cell 1
      have z2 := s9.cell 2
      simp at z0 z1 z2
      have Z := Lib.hid (And.intro z0 (And.intro z1 z2))
      have S9 := Lib.hid s9.right.right.right.right
      clear s sb s9 z0 z1 z2
      go_wp2_with fail
      refine bodyPost_ret (v := rmv p c (p * c) g c5) (by simp [results, Try.results38, go_sem, Z.out.1, Z.out.2.1, Z.out.2.2, rmv]) rfl ?_
      exact ⟨g, c5, rfl, S9.out⟩
end
end Go.Proofs.Ytfhphbpgiickfaa.Mt
