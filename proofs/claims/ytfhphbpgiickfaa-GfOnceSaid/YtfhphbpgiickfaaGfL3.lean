/- GfInverses, GfPowers, walked. -/
import Derived.Test.YtfhphbpgiickfaaGfL2
namespace Go.Proofs.Ytfhphbpgiickfaa.Gf
open Go Go.RowKit Go.Proofs.Ytfhphbpgiickfaa Go.Proofs.Ytfhphbpgiickfaa.Sp Go.Proofs.Ytfhphbpgiickfaa.Reg Go.Proofs.Ytfhphbpgiickfaa.Rd
theorem tBo : SlT Try.prog 24 4 1 1 (.bool false) := ⟨Try.underlying24, info_parts (by kernel_rfl), rfl, by decide⟩
/-- A row of marks: the p-th read, and set. -/
theorem marks {B : Nat} {w0 w : World} {R : HP} {g : Nat} {f : Nat → Nat} {i : Nat} (s : St B w0 w (row 4 1 (.slice (some ⟨g, 0, none⟩) 256 256) 256 (bos (bl f i)) * R)) (p : Nat) (hp : p < 256) :
    w.cell? ⟨g, p, none⟩ = some (.bool (decide (f p < i))) ∧ w.frozen? ⟨g, p, none⟩ = false ∧
    (f p = i → (∀ q, q < 256 → f q = i → q = p) → St B w0 (w.setCell ⟨g, p, none⟩ (.bool true)) (row 4 1 (.slice (some ⟨g, 0, none⟩) 256 256) 256 (bos (bl f (i + 1))) * R)) := by
  obtain ⟨-, -, -, -, h1, h2, h3⟩ := s.row1
  refine ⟨?_, h2 p, fun e hu => ?_⟩
  · rw [h1 p hp]
    simp [bos, bl_get f i p hp]
  · have q := h3 p (.bool true) hp
    rw [← bl_set f i p e hu]
    simpa [bos, List.map_set] using q
theorem marks0 (f : Nat → Nat) : List.replicate 256 (Value.bool false) = bos (bl f 0) := by rw [bl_zero, bos, List.map_replicate]
theorem ones_step (a : UInt8) (ha : a ≠ 0) (k : Nat) (hk : k < 256) : ones a (k + 1) = if gmul a (UInt8.ofNat k) = 1 then ones a k + 1 else ones a k := by
  have e : gmul a (UInt8.ofNat k) = 1 ↔ (ginv a).toNat = k := by
    constructor
    · intro h
      have := ginv_mul ha (UInt8.ofNat k)
      rw [h, gmul_one] at this
      rw [this, UInt8.toNat_ofNat', Nat.mod_eq_of_lt hk]
    · intro h
      rw [← h, UInt8.ofNat_toNat, gmul_inv ha]
  unfold ones
  by_cases h : (ginv a).toNat = k
  · rw [if_pos (e.2 h), if_pos (by omega), if_neg (by omega)]
  · rw [if_neg (fun q => h (e.1 q))]
    by_cases h2 : (ginv a).toNat < k
    · rw [if_pos h2, if_pos (by omega)]
    · rw [if_neg h2, if_neg (by omega)]
theorem ones_le (a : UInt8) (k : Nat) : ones a k ≤ 1 := by unfold ones; split <;> omega
theorem ones_256 (a : UInt8) : ones a 256 = 1 := if_pos (ginv a).toNat_lt
theorem bv_nat {k : Nat} (hk : k < 256) : bv (UInt8.ofNat k) = .int .u8 (k : Int) := by
  show Value.int .u8 (((UInt8.ofNat k).toNat : Nat) : Int) = _
  rw [UInt8.toNat_ofNat', Nat.mod_eq_of_lt hk]
set_option maxRecDepth 100000 in
set_option maxHeartbeats 8000000 in
theorem inverses_nz (x x0 : UInt8) (hx : x ≠ 0) (w0 : World) (h0 : (x0 = x ∧ ((x0.toNat : Int) == 0) = false) ∨ (x = 7 ∧ x0 = 0)) : Calls Try.prog 3 #[bv x0] w0 fun e w' => e = .returned (.bool true) ∧ Below w0.heap.size w0 w' := by
  have gi := ginv_ginv hx
  have E1 := Lib.hid gi.2
  have E2 := Lib.hid (gpow_m1 hx)
  have E3 := Lib.hid (gpow_254 hx)
  have E4 := Lib.hid (show gok x = true by simp [gok, hx])
  have E5 := Lib.hid (show gok (ginv x) = true by simp [gok, gi.1])
  have E6 := Lib.hid (ones_256 x)
  have HI := Lib.hid (fun k (hk : k < 256) => ones_step x hx k hk)
  have HF := Lib.hid (fun k : UInt8 => fi_mul hx k)
  have HJ := Lib.hid (fun (k : UInt8) (q : Nat) (hq : q < 256) h => fi_inj hx k q hq h)
  clear gi hx
  rcases h0 with ⟨rfl, h0⟩ | ⟨rfl, rfl⟩
  · skip
    go_enter Try.func3, Try.ntmps3
    go_wp2_with fail
    refine (newx _ (St.init w0)).mono ?_
    rintro e w1 ⟨b, rfl, s⟩
    have S := Lib.hid s
    clear s
    go_wp2_with (at_make; go_must (refine wpl_make1 rfl _ _ rfl tBo rfl S.out .i64 .i64 256 256 rfl rfl (Nat.le_refl _) (by unfold maxLen; omega) (by omega) ?_); intro g w2 s2; rw [marks0 (fi x0)] at s2; clear S; have S := Lib.hid s2; clear s2)
    go_loopw [5, 6] (fun o i wr => ∃ k : Nat, k ≤ 256 ∧ i = .int .i64 k ∧ o = .int .i64 (ones x0 k : Nat) ∧ St w0.heap.size w0 wr (row 4 1 (.slice (some ⟨g, 0, none⟩) 256 256) 256 (bos (bl (fi x0) k)) * (fx b * emp))) (fun _ i _ => 256 - (intOf i).toNat)
    case atStart => exact ⟨0, Nat.zero_le _, rfl, rfl, S.out⟩
    case round =>
      obtain ⟨k, hk, rfl, rfl, s⟩ := hrel
      clear S
      have S := Lib.hid s
      clear s
      by_cases hlt : k < 256
      · have hm : ∀ w, St w0.heap.size w0 w (fx b * (row 4 1 (.slice (some ⟨g, 0, none⟩) 256 256) 256 (bos (bl (fi x0) k)) * emp)) → Calls Try.prog 16 #[.pointer (some ⟨b, 0, none⟩), bv x0, .int .u8 (k : Int)] w (RetG w0.heap.size w0 (fx b * (row 4 1 (.slice (some ⟨g, 0, none⟩) 256 256) 256 (bos (bl (fi x0) k)) * emp)) (bv (gmul x0 (UInt8.ofNat k)))) := by
          intro w s
          rw [← bv_nat hlt]
          exact mulx b x0 (UInt8.ofNat k) w s
        have h1 := HI.out k hlt
        have h2 := HF.out (UInt8.ofNat k)
        have h3 := HJ.out (UInt8.ofNat k)
        have h4 : (UInt8.ofNat k).toNat = k := by rw [UInt8.toNat_ofNat', Nat.mod_eq_of_lt hlt]
        have ho := ones_le x0 k
        rw [h4] at h2 h3
        clear h4
        generalize gmul x0 (UInt8.ofNat k) = p at hm h1 h2 h3
        have HM := Lib.hid hm
        have H1 := Lib.hid h1
        have H2 := Lib.hid h2
        have H3 := Lib.hid h3
        clear hm h1 h2 h3
        have lp : p.toNat < 256 := p.toNat_lt
        go_wp2_with fail
        refine (HM.out _ (S.out.eq (by ac_rfl))).mono ?_
        rintro e w3 ⟨rfl, s3⟩
        have s3 : St _ _ _ _ := s3.eq (Q := row 4 1 (.slice (some ⟨g, 0, none⟩) 256 256) 256 (bos (bl (fi x0) k)) * (fx b * emp)) (by ac_rfl)
        obtain ⟨c1, f1, hst⟩ := marks s3 p.toNat lp
        rw [show decide (fi x0 p.toNat < k) = false by rw [H2.out]; simp] at c1
        have HST := Lib.hid (hst H2.out H3.out)
        clear hst s3 S
        by_cases hp1 : p = 1
        · have hp : ((p.toNat : Int) == 1) = true := by rw [hp1]; rfl
          have HO := Lib.hid (show ones x0 (k + 1) = ones x0 k + 1 by rw [H1.out, if_pos hp1])
          clear hp1
          go_wp2_with fail
          go_roundw
          case rel => exact ⟨k + 1, by omega, by go_num, by rw [HO.out]; go_num, HST.out⟩
          case measure => simp [intOf]; omega
        · have hp : ((p.toNat : Int) == 1) = false := by rw [beq_eq_false_iff_ne]; intro h; exact hp1 (UInt8.toNat_inj.1 (by simp; omega))
          have HO := Lib.hid (show ones x0 (k + 1) = ones x0 k by rw [H1.out, if_neg hp1])
          clear hp1
          go_wp2_with fail
          go_roundw
          case rel => exact ⟨k + 1, by omega, by go_num, by rw [HO.out], HST.out⟩
          case measure => simp [intOf]; omega
      · obtain rfl : k = 256 := by omega
        rw [E6.out]
        have S2 := Lib.hid (S.out.eq (Q := fx b * (row 4 1 (.slice (some ⟨g, 0, none⟩) 256 256) 256 (bos (bl (fi x0) 256)) * emp)) (by ac_rfl))
        clear S
        have S := Lib.hid S2.out
        clear S2
        go_wp2_with fail
        refine (invx b x0 _ S.out).mono ?_
        rw [E4.out]
        rintro e wq ⟨rfl, sq⟩
        clear S
        have S := Lib.hid sq
        clear sq
        go_wp2_with fail
        refine (invx b (ginv x0) _ S.out).mono ?_
        rw [E5.out, E1.out]
        rintro e wq ⟨rfl, sq⟩
        clear S
        have S := Lib.hid sq
        clear sq
        go_wp2_with fail
        refine (powx b x0 (-1) _ (by omega) S.out).mono ?_
        rw [E2.out]
        rintro e wq ⟨rfl, sq⟩
        clear S
        have S := Lib.hid sq
        clear sq
        go_wp2_with fail
        refine (powx b x0 254 _ (by omega) S.out).mono ?_
        rw [E3.out]
        rintro e wq ⟨rfl, sq⟩
        clear S
        have S := Lib.hid sq
        clear sq
        go_wp2_with fail
        refine (awakex _ S.out).mono ?_
        rintro e wq ⟨rfl, sq⟩
        clear S
        have S := Lib.hid sq
        clear sq
        go_wp2_with fail
        go_ret
        exact ⟨rfl, S.out.below⟩
  · skip
    go_enter Try.func3, Try.ntmps3
    go_wp2_with fail
    refine (newx _ (St.init w0)).mono ?_
    rintro e w1 ⟨b, rfl, s⟩
    have S := Lib.hid s
    clear s
    go_wp2_with (at_make; go_must (refine wpl_make1 rfl _ _ rfl tBo rfl S.out .i64 .i64 256 256 rfl rfl (Nat.le_refl _) (by unfold maxLen; omega) (by omega) ?_); intro g w2 s2; rw [marks0 (fi 7)] at s2; clear S; have S := Lib.hid s2; clear s2)
    go_loopw [5, 6] (fun o i wr => ∃ k : Nat, k ≤ 256 ∧ i = .int .i64 k ∧ o = .int .i64 (ones 7 k : Nat) ∧ St w0.heap.size w0 wr (row 4 1 (.slice (some ⟨g, 0, none⟩) 256 256) 256 (bos (bl (fi 7) k)) * (fx b * emp))) (fun _ i _ => 256 - (intOf i).toNat)
    case atStart => exact ⟨0, Nat.zero_le _, rfl, rfl, S.out⟩
    case round =>
      obtain ⟨k, hk, rfl, rfl, s⟩ := hrel
      clear S
      have S := Lib.hid s
      clear s
      by_cases hlt : k < 256
      · have hm : ∀ w, St w0.heap.size w0 w (fx b * (row 4 1 (.slice (some ⟨g, 0, none⟩) 256 256) 256 (bos (bl (fi 7) k)) * emp)) → Calls Try.prog 16 #[.pointer (some ⟨b, 0, none⟩), bv 7, .int .u8 (k : Int)] w (RetG w0.heap.size w0 (fx b * (row 4 1 (.slice (some ⟨g, 0, none⟩) 256 256) 256 (bos (bl (fi 7) k)) * emp)) (bv (gmul 7 (UInt8.ofNat k)))) := by
          intro w s
          rw [← bv_nat hlt]
          exact mulx b 7 (UInt8.ofNat k) w s
        have h1 := HI.out k hlt
        have h2 := HF.out (UInt8.ofNat k)
        have h3 := HJ.out (UInt8.ofNat k)
        have h4 : (UInt8.ofNat k).toNat = k := by rw [UInt8.toNat_ofNat', Nat.mod_eq_of_lt hlt]
        have ho := ones_le 7 k
        rw [h4] at h2 h3
        clear h4
        generalize gmul 7 (UInt8.ofNat k) = p at hm h1 h2 h3
        have HM := Lib.hid hm
        have H1 := Lib.hid h1
        have H2 := Lib.hid h2
        have H3 := Lib.hid h3
        clear hm h1 h2 h3
        have lp : p.toNat < 256 := p.toNat_lt
        go_wp2_with fail
        refine (HM.out _ (S.out.eq (by ac_rfl))).mono ?_
        rintro e w3 ⟨rfl, s3⟩
        have s3 : St _ _ _ _ := s3.eq (Q := row 4 1 (.slice (some ⟨g, 0, none⟩) 256 256) 256 (bos (bl (fi 7) k)) * (fx b * emp)) (by ac_rfl)
        obtain ⟨c1, f1, hst⟩ := marks s3 p.toNat lp
        rw [show decide (fi 7 p.toNat < k) = false by rw [H2.out]; simp] at c1
        have HST := Lib.hid (hst H2.out H3.out)
        clear hst s3 S
        by_cases hp1 : p = 1
        · have hp : ((p.toNat : Int) == 1) = true := by rw [hp1]; rfl
          have HO := Lib.hid (show ones 7 (k + 1) = ones 7 k + 1 by rw [H1.out, if_pos hp1])
          clear hp1
          go_wp2_with fail
          go_roundw
          case rel => exact ⟨k + 1, by omega, by go_num, by rw [HO.out]; go_num, HST.out⟩
          case measure => simp [intOf]; omega
        · have hp : ((p.toNat : Int) == 1) = false := by rw [beq_eq_false_iff_ne]; intro h; exact hp1 (UInt8.toNat_inj.1 (by simp; omega))
          have HO := Lib.hid (show ones 7 (k + 1) = ones 7 k by rw [H1.out, if_neg hp1])
          clear hp1
          go_wp2_with fail
          go_roundw
          case rel => exact ⟨k + 1, by omega, by go_num, by rw [HO.out], HST.out⟩
          case measure => simp [intOf]; omega
      · obtain rfl : k = 256 := by omega
        rw [E6.out]
        have S2 := Lib.hid (S.out.eq (Q := fx b * (row 4 1 (.slice (some ⟨g, 0, none⟩) 256 256) 256 (bos (bl (fi 7) 256)) * emp)) (by ac_rfl))
        clear S
        have S := Lib.hid S2.out
        clear S2
        go_wp2_with fail
        refine (invx b 7 _ S.out).mono ?_
        rw [E4.out]
        rintro e wq ⟨rfl, sq⟩
        clear S
        have S := Lib.hid sq
        clear sq
        go_wp2_with fail
        refine (invx b (ginv 7) _ S.out).mono ?_
        rw [E5.out, E1.out]
        rintro e wq ⟨rfl, sq⟩
        clear S
        have S := Lib.hid sq
        clear sq
        go_wp2_with fail
        refine (powx b 7 (-1) _ (by omega) S.out).mono ?_
        rw [E2.out]
        rintro e wq ⟨rfl, sq⟩
        clear S
        have S := Lib.hid sq
        clear sq
        go_wp2_with fail
        refine (powx b 7 254 _ (by omega) S.out).mono ?_
        rw [E3.out]
        rintro e wq ⟨rfl, sq⟩
        clear S
        have S := Lib.hid sq
        clear sq
        go_wp2_with fail
        refine (awakex _ S.out).mono ?_
        rintro e wq ⟨rfl, sq⟩
        clear S
        have S := Lib.hid sq
        clear sq
        go_wp2_with fail
        go_ret
        exact ⟨rfl, S.out.below⟩
theorem inverses_walk (x : UInt8) (w0 : World) : Calls Try.prog 3 #[bv x] w0 fun e w' => e = .returned (.bool true) ∧ Below w0.heap.size w0 w' := by
  by_cases hx : x = 0
  · exact inverses_nz 7 x (by decide) w0 (.inr ⟨rfl, hx⟩)
  · exact inverses_nz x x hx w0 (.inl ⟨rfl, by simpa using u8_pos hx⟩)
end Go.Proofs.Ytfhphbpgiickfaa.Gf
