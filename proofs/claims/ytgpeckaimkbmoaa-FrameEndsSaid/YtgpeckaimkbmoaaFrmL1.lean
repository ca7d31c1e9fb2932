/- The law FrameEnds, walked. -/
import Derived.Test.YtgpeckaimkbmoaaFrmW5
namespace Go.Proofs.Ytgpeckaimkbmoaa.FrmL1
open Go Go.RowKit Go.Proofs.Ytgpeckaimkbmoaa Go.Proofs.Ytgpeckaimkbmoaa.Sp Go.Proofs.Ytgpeckaimkbmoaa.Reg Go.Proofs.Ytgpeckaimkbmoaa.CrcW Go.Proofs.Ytgpeckaimkbmoaa.CrcM Go.Proofs.Ytgpeckaimkbmoaa.FrmW
open Go.Proofs.Ytgpeckaimkbmoaa.SlW (RetBS RetBSok RetNo)

set_option maxHeartbeats 1600000 in
theorem walkRow (n0 id0 : Int) (w : World) (wn : (Lit.int .i64 n0).wf = true) (wi : (Lit.int .i64 id0).wf = true) :
    Calls Try.prog 9 #[.int .i64 n0, .int .i64 id0] w fun e w' => e = .returned (.bool true) ∧ Below w.heap.size w w' := by
  clear wn wi
  have k1 := and_m3 n0
  have k2 := and_m1 id0
  obtain ⟨k, hk, hk1, hk2⟩ : ∃ k : Nat, n0 % 8 + 61 = (k : Int) ∧ 61 ≤ k ∧ k ≤ 68 := ⟨(n0 % 8 + 61).toNat, by omega, by omega, by omega⟩
  obtain ⟨j, hj, hj1⟩ : ∃ j : Nat, id0 % 2 = (j : Int) ∧ j < 4294967296 := ⟨(id0 % 2).toNat, by omega, by omega⟩
  by_cases h64 : k ≤ 64
  · have h64' : (k : Int) ≤ 64 := by omega
    have hd : decide ((k : Int) ≤ 64) = true := by simp; omega
    go_enter Try.func9, Try.ntmps9
    go_wp2_with (at_make; go_must (refine wpl_make1 rfl _ _ rfl tB rfl (St.init w) .i64 .i64 k k rfl rfl (Nat.le_refl _) (by unfold maxLen; omega) (by omega) ?_); intro g0 w0 s0; rw [bvs_zeros] at s0; have h0 : Add w w0 := s0.below; have H0 := Lib.hid h0; clear h0; have B0 := Lib.hid s0.bs; clear s0)
    have B0' : BS w0 (.slice (some ⟨g0, 0, none⟩) (List.replicate k (0 : UInt8)).length k) (List.replicate k 0) := by rw [List.length_replicate]; exact B0.out
    have q := put_ok j hj1 _ _ (List.replicate k (0 : UInt8)) (by rw [List.length_replicate]; exact h64) w0 B0'
    rw [List.length_replicate] at q
    have hdl : (List.replicate k (0 : UInt8)).length = k := List.length_replicate
    generalize List.replicate k (0 : UInt8) = Z at q hdl
    refine q.mono ?_
    clear q B0' B0
    rintro e w1 ⟨g, rfl, h1, b1⟩
    have H1 := Lib.hid h1
    have B1 := Lib.hid b1
    have HDL := Lib.hid hdl
    clear h1 b1 hdl
    go_wp2_with fail
    refine (put_ok 4294967295 (by omega) none 0 [] (by simp) w1 (BS.nil w1)).mono ?_
    rintro e w2 ⟨g2, rfl, h2, -⟩
    have H2 := Lib.hid h2
    clear h2
    go_wp2_with fail
    refine (put_no 4294967296 none 0 0 w2 (by omega)).mono ?_
    rintro e w3 ⟨rfl, h3⟩
    have H3 := Lib.hid h3
    clear h3
    go_wp2_with fail
    refine (put_no (-1) none 0 0 w3 (by omega)).mono ?_
    rintro e w4 ⟨rfl, h4⟩
    have B4 := Lib.hid ((((B1.out.below H2.out).below H3.out)).below h4)
    have H4 := Lib.hid ((((H0.out.trans H1.out).trans H2.out).trans H3.out).trans h4)
    clear h4 H0 H1 H2 H3 B1
    go_wp2_with fail
    refine (take_frm g 0 96 j hj1 Z (by rw [HDL.out]; exact h64) w4 B4.out).mono ?_
    rintro e w5 ⟨v5, rfl, h5, b5⟩
    obtain ⟨a5, c5, rfl, -⟩ := bs_val b5
    rw [HDL.out]
    have B5 := Lib.hid (B4.out.below h5)
    have H5 := Lib.hid (H4.out.trans h5)
    clear h5 b5 H4 B4
    have hs : ∀ w, (Instr.sliceAt 22 (.slice (some ⟨g, 0, none⟩) 96 96) none (some (.int .i64 95)) none).run Try.prog w = .ok (.slice (some ⟨g, 0, none⟩) 95 96) w := fun w =>
      run_slice_sl tB w (some ⟨g, 0, none⟩) 96 96 none (some (.int .i64 95)) 0 95 (.inl ⟨rfl, rfl⟩) (.inr ⟨_, rfl⟩) (by omega) (by omega)
    go_wp2_with fail
    refine (take_short (some ⟨g, 0, none⟩) 95 96 w5 (by omega) (by unfold maxLen; omega)).mono ?_
    rintro e w6 ⟨rfl, h6⟩
    have B6 := Lib.hid (B5.out.below h6)
    have H6 := Lib.hid (H5.out.trans h6)
    clear h6 B5 H5 hs
    have hfl : (frm j Z).length = 96 := frm_len j Z (by rw [HDL.out]; exact h64)
    have HFL := Lib.hid hfl
    have s7 := Lib.hid ((St.init w6).alloc (.cells #[] 5))
    have r7 := Lib.hid (B6.out.st rfl s7.out).rd.2.2.2.2
    clear hfl B6
    have hz : bvs (frm j Z) ++ [Value.int .u8 0] = bvs (frm j Z ++ [0]) := by rw [show bvs (frm j Z ++ [0]) = bvs (frm j Z) ++ bvs [0] from List.map_append]; rfl
    have HZ := Lib.hid hz
    have hq : (frm j Z ++ [(0 : UInt8)]).length = 97 := by rw [List.length_append, HFL.out]; rfl
    have HQ := Lib.hid hq
    clear hz hq
    go_wp2_with (first | (at_builtin; (have q7 := s7); clear q7; go_loud (refine wpl_append rfl _ _ rfl tB (s7.out.rowMk (n := 0) (cap := 0) (xs := []) (Nat.le_refl _) (Nat.zero_le _) rfl rfl) (some ⟨g, 0, none⟩) 96 96 (bvs (frm j Z)) rfl rfl r7.out (fun e => by cases e) (by rw [List.length_map, HFL.out]) (bvs_one _) (by unfold maxLen; omega) (by omega) ?_); intro v8 w8 s8 hv8; have r9 := Lib.hid (Rd.new w8 #[.int .u8 0] 5); have s9 := Lib.hid (St.eq (Q := row 5 1 v8 (0 + 96) ([] ++ bvs (frm j Z)) * (pts w8.heap.size (.cells #[.int .u8 0] 5) * emp)) (by ac_rfl) (s8.alloc (.cells #[.int .u8 0] 5))); clear s8 hv8 s7 r7) | (at_builtin; (have q9 := s9); clear q9; refine wpl_append rfl _ _ rfl tB s9.out (some ⟨w8.heap.size, 0, none⟩) 1 1 [.int .u8 0] rfl rfl r9.out (fun e => by cases e) rfl (by simp [Value.oneCell']) (by unfold maxLen; omega) (by omega) ?_; intro v10 w10 s10 hv10; have h10 : Add w6 w10 := s10.below; have H10 := Lib.hid (H6.out.trans h10); rw [List.nil_append, HZ.out] at s10; have S10 := Lib.hid s10; clear h10 s10 hv10 s9 r9))
    obtain ⟨-, a10, c10, e10, -, -⟩ := S10.out.rowBS (frm j Z ++ [0]) rfl
    rw [HQ.out] at e10
    subst e10
    refine (take_short a10 97 c10 w10 (by omega) (by unfold maxLen; omega)).mono ?_
    rintro e w11 ⟨rfl, h11⟩
    have H11 := Lib.hid (H10.out.trans h11)
    clear h11
    go_wp2_with fail
    refine (FrmW.awake_calls _).mono ?_
    rintro e w12 ⟨rfl, h12⟩
    have H12 := Lib.hid (H11.out.trans h12)
    clear h12
    go_wp2_with fail
    go_ret
    exact ⟨rfl, H12.out⟩
  · have hd : decide ((k : Int) ≤ 64) = false := by simp; omega
    go_enter Try.func9, Try.ntmps9
    go_wp2_with (at_make; go_must (refine wpl_make1 rfl _ _ rfl tB rfl (St.init w) .i64 .i64 k k rfl rfl (Nat.le_refl _) (by unfold maxLen; omega) (by omega) ?_); intro g0 w0 s0; have h0 : Add w w0 := s0.below; have H0 := Lib.hid h0; clear h0 s0)
    refine (put_no (j : Int) _ k k w0 (by omega)).mono ?_
    rintro e w1 ⟨rfl, h1⟩
    have H1 := Lib.hid (H0.out.trans h1)
    clear h1 H0
    go_wp2_with fail
    refine (put_ok 4294967295 (by omega) none 0 [] (by simp) w1 (BS.nil w1)).mono ?_
    rintro e w2 ⟨g2, rfl, h2, -⟩
    have H2 := Lib.hid (H1.out.trans h2)
    clear h2 H1
    go_wp2_with fail
    refine (put_no 4294967296 none 0 0 w2 (by omega)).mono ?_
    rintro e w3 ⟨rfl, h3⟩
    have H3 := Lib.hid (H2.out.trans h3)
    clear h3 H2
    go_wp2_with fail
    refine (put_no (-1) none 0 0 w3 (by omega)).mono ?_
    rintro e w4 ⟨rfl, h4⟩
    have H4 := Lib.hid (H3.out.trans h4)
    clear h4 H3
    go_wp2_with fail
    refine (FrmW.awake_calls _).mono ?_
    rintro e w5 ⟨rfl, h5⟩
    have H5 := Lib.hid (H4.out.trans h5)
    clear h5
    go_wp2_with fail
    go_ret
    exact ⟨rfl, H5.out⟩
end Go.Proofs.Ytgpeckaimkbmoaa.FrmL1
