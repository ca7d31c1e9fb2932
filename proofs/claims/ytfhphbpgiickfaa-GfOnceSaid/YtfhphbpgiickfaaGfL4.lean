/- GfPowers, walked. -/
import Derived.Test.YtfhphbpgiickfaaGfL3
namespace Go.Proofs.Ytfhphbpgiickfaa.Gf
open Go Go.RowKit Go.Proofs.Ytfhphbpgiickfaa Go.Proofs.Ytfhphbpgiickfaa.Sp Go.Proofs.Ytfhphbpgiickfaa.Reg Go.Proofs.Ytfhphbpgiickfaa.Rd
set_option maxRecDepth 100000 in
set_option maxHeartbeats 8000000 in
theorem powers_nz (x x0 : UInt8) (n k N K : Int) (h1 : bits .and .i64 n 2047 = N) (h2 : bits .and .i64 k 2047 = K) (hN : 0 ≤ N ∧ N < 2048) (hK : 0 ≤ K ∧ K < 2048) (hx : x ≠ 0) (w0 : World) (h0 : (x0 = x ∧ ((x0.toNat : Int) == 0) = false) ∨ (x = 1 ∧ x0 = 0)) :
    Calls Try.prog 4 #[bv x0, .int .i64 n, .int .i64 k] w0 fun e w' => e = .returned (.bool true) ∧ Below w0.heap.size w0 w' := by
  have E1 := Lib.hid (gpow_add hx (N - 1000) (K - 1000))
  have E2 := Lib.hid (gpow_255 hx)
  clear hx
  rcases h0 with ⟨rfl, h0⟩ | ⟨rfl, rfl⟩
  · skip
    go_enter Try.func4, Try.ntmps4
    go_wp2_with fail
    refine (newx _ (St.init w0)).mono ?_
    rintro e w1 ⟨b, rfl, s⟩
    have S := Lib.hid s
    clear s
    go_wp2_with (at_make; go_must (refine wpl_make1 rfl _ _ rfl tBo rfl S.out .i64 .i64 256 256 rfl rfl (Nat.le_refl _) (by unfold maxLen; omega) (by omega) ?_); intro g w2 s2; rw [marks0 fp] at s2; clear S; have S := Lib.hid s2; clear s2)
    go_loopw [9, 10] (fun o i wr => ∃ k : Nat, k ≤ 255 ∧ i = .int .i64 k ∧ o = bv (UInt8.ofNat (gexp k)) ∧ St w0.heap.size w0 wr (row 4 1 (.slice (some ⟨g, 0, none⟩) 256 256) 256 (bos (bl fp k)) * (fx b * emp))) (fun _ i _ => 255 - (intOf i).toNat)
    case atStart => exact ⟨0, Nat.zero_le _, rfl, rfl, S.out⟩
    case round =>
      obtain ⟨k, hk, rfl, rfl, s⟩ := hrel
      clear S
      have S := Lib.hid s
      clear s
      by_cases hlt : k < 255
      · have lp : (UInt8.ofNat (gexp k)).toNat < 256 := UInt8.toNat_lt _
        obtain ⟨c1, f1, hst⟩ := marks S.out (UInt8.ofNat (gexp k)).toNat lp
        have e1 : fp (UInt8.ofNat (gexp k)).toNat = k := by rw [ofN]; exact fp_exp hlt
        have e2 : ∀ q, q < 256 → fp q = k → q = (UInt8.ofNat (gexp k)).toNat := fun q hq h => by rw [ofN]; exact fp_inj hlt hq h
        rw [show decide (fp (UInt8.ofNat (gexp k)).toNat < k) = false by rw [e1]; simp] at c1
        have HST := Lib.hid ((hst e1 e2).eq (Q := fx b * (row 4 1 (.slice (some ⟨g, 0, none⟩) 256 256) 256 (bos (bl fp (k + 1))) * emp)) (by ac_rfl))
        have HG := Lib.hid (gexp_step k)
        clear hst S e1 e2
        generalize UInt8.ofNat (gexp k) = p at lp c1 f1 HST HG
        go_wp2_with fail
        refine (mulx b p 2 _ HST.out).mono ?_
        rw [HG.out]
        rintro e w3 ⟨rfl, s3⟩
        have S := Lib.hid s3
        clear s3 HST HG
        go_wp2_with fail
        go_roundw
        case rel => exact ⟨k + 1, by omega, by go_num, rfl, S.out.eq (by ac_rfl)⟩
        case measure => simp [intOf]; omega
      · obtain rfl : k = 255 := by omega
        rw [show UInt8.ofNat (gexp 255) = 1 by rw [gexp_255]; rfl]
        have S2 := Lib.hid (S.out.eq (Q := fx b * (row 4 1 (.slice (some ⟨g, 0, none⟩) 256 256) 256 (bos (bl fp 255)) * emp)) (by ac_rfl))
        clear S
        have S := Lib.hid S2.out
        clear S2
        go_wp2_with fail
        refine (powx b x0 (N - 1000) _ (by omega) S.out).mono ?_
        rintro e wq ⟨rfl, sq⟩
        clear S
        have S := Lib.hid sq
        clear sq
        go_wp2_with fail
        refine (powx b x0 (K - 1000) _ (by omega) S.out).mono ?_
        rintro e wq ⟨rfl, sq⟩
        clear S
        have S := Lib.hid sq
        clear sq
        go_wp2_with fail
        refine (mulx b (gpow x0 (N - 1000)) (gpow x0 (K - 1000)) _ S.out).mono ?_
        rw [E1.out]
        rintro e wq ⟨rfl, sq⟩
        clear S
        have S := Lib.hid sq
        clear sq
        go_wp2_with fail
        refine (powx b x0 (N - 1000 + (K - 1000)) _ (by omega) S.out).mono ?_
        rintro e wq ⟨rfl, sq⟩
        clear S
        have S := Lib.hid sq
        clear sq
        go_wp2_with fail
        refine (powx b x0 255 _ (by omega) S.out).mono ?_
        rw [E2.out]
        rintro e wq ⟨rfl, sq⟩
        clear S
        have S := Lib.hid sq
        clear sq
        go_wp2_with fail
        refine (awakex _ S.out).mono ?_
        rintro e wq ⟨rfl, sq⟩
        clear S
        have S := Lib.hid sq
        clear sq
        go_wp2_with fail
        go_ret
        exact ⟨rfl, S.out.below⟩
  · skip
    go_enter Try.func4, Try.ntmps4
    go_wp2_with fail
    refine (newx _ (St.init w0)).mono ?_
    rintro e w1 ⟨b, rfl, s⟩
    have S := Lib.hid s
    clear s
    go_wp2_with (at_make; go_must (refine wpl_make1 rfl _ _ rfl tBo rfl S.out .i64 .i64 256 256 rfl rfl (Nat.le_refl _) (by unfold maxLen; omega) (by omega) ?_); intro g w2 s2; rw [marks0 fp] at s2; clear S; have S := Lib.hid s2; clear s2)
    go_loopw [9, 10] (fun o i wr => ∃ k : Nat, k ≤ 255 ∧ i = .int .i64 k ∧ o = bv (UInt8.ofNat (gexp k)) ∧ St w0.heap.size w0 wr (row 4 1 (.slice (some ⟨g, 0, none⟩) 256 256) 256 (bos (bl fp k)) * (fx b * emp))) (fun _ i _ => 255 - (intOf i).toNat)
    case atStart => exact ⟨0, Nat.zero_le _, rfl, rfl, S.out⟩
    case round =>
      obtain ⟨k, hk, rfl, rfl, s⟩ := hrel
      clear S
      have S := Lib.hid s
      clear s
      by_cases hlt : k < 255
      · have lp : (UInt8.ofNat (gexp k)).toNat < 256 := UInt8.toNat_lt _
        obtain ⟨c1, f1, hst⟩ := marks S.out (UInt8.ofNat (gexp k)).toNat lp
        have e1 : fp (UInt8.ofNat (gexp k)).toNat = k := by rw [ofN]; exact fp_exp hlt
        have e2 : ∀ q, q < 256 → fp q = k → q = (UInt8.ofNat (gexp k)).toNat := fun q hq h => by rw [ofN]; exact fp_inj hlt hq h
        rw [show decide (fp (UInt8.ofNat (gexp k)).toNat < k) = false by rw [e1]; simp] at c1
        have HST := Lib.hid ((hst e1 e2).eq (Q := fx b * (row 4 1 (.slice (some ⟨g, 0, none⟩) 256 256) 256 (bos (bl fp (k + 1))) * emp)) (by ac_rfl))
        have HG := Lib.hid (gexp_step k)
        clear hst S e1 e2
        generalize UInt8.ofNat (gexp k) = p at lp c1 f1 HST HG
        go_wp2_with fail
        refine (mulx b p 2 _ HST.out).mono ?_
        rw [HG.out]
        rintro e w3 ⟨rfl, s3⟩
        have S := Lib.hid s3
        clear s3 HST HG
        go_wp2_with fail
        go_roundw
        case rel => exact ⟨k + 1, by omega, by go_num, rfl, S.out.eq (by ac_rfl)⟩
        case measure => simp [intOf]; omega
      · obtain rfl : k = 255 := by omega
        rw [show UInt8.ofNat (gexp 255) = 1 by rw [gexp_255]; rfl]
        have S2 := Lib.hid (S.out.eq (Q := fx b * (row 4 1 (.slice (some ⟨g, 0, none⟩) 256 256) 256 (bos (bl fp 255)) * emp)) (by ac_rfl))
        clear S
        have S := Lib.hid S2.out
        clear S2
        go_wp2_with fail
        refine (powx b 1 (N - 1000) _ (by omega) S.out).mono ?_
        rintro e wq ⟨rfl, sq⟩
        clear S
        have S := Lib.hid sq
        clear sq
        go_wp2_with fail
        refine (powx b 1 (K - 1000) _ (by omega) S.out).mono ?_
        rintro e wq ⟨rfl, sq⟩
        clear S
        have S := Lib.hid sq
        clear sq
        go_wp2_with fail
        refine (mulx b (gpow 1 (N - 1000)) (gpow 1 (K - 1000)) _ S.out).mono ?_
        rw [E1.out]
        rintro e wq ⟨rfl, sq⟩
        clear S
        have S := Lib.hid sq
        clear sq
        go_wp2_with fail
        refine (powx b 1 (N - 1000 + (K - 1000)) _ (by omega) S.out).mono ?_
        rintro e wq ⟨rfl, sq⟩
        clear S
        have S := Lib.hid sq
        clear sq
        go_wp2_with fail
        refine (powx b 1 255 _ (by omega) S.out).mono ?_
        rw [E2.out]
        rintro e wq ⟨rfl, sq⟩
        clear S
        have S := Lib.hid sq
        clear sq
        go_wp2_with fail
        refine (awakex _ S.out).mono ?_
        rintro e wq ⟨rfl, sq⟩
        clear S
        have S := Lib.hid sq
        clear sq
        go_wp2_with fail
        go_ret
        exact ⟨rfl, S.out.below⟩
theorem powers_walk (x : UInt8) (n k : Int) (w0 : World) (_wn : (Lit.int .i64 n).wf = true) (_wk : (Lit.int .i64 k).wf = true) :
    Calls Try.prog 4 #[bv x, .int .i64 n, .int .i64 k] w0 fun e w' => e = .returned (.bool true) ∧ Below w0.heap.size w0 w' := by
  by_cases hx : x = 0
  · exact powers_nz 1 x n k _ _ (and_m11 n) (and_m11 k) (by omega) (by omega) (by decide) w0 (.inr ⟨rfl, hx⟩)
  · exact powers_nz x x n k _ _ (and_m11 n) (and_m11 k) (by omega) (by omega) hx w0 (.inl ⟨rfl, by simpa using u8_pos hx⟩)
end Go.Proofs.Ytfhphbpgiickfaa.Gf
