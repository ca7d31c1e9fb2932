/- The disk's law file: Full, Blank, awake. No condition. -/
import Derived.Test.YteikpbangjpilaaDskV
import Derived.Test.YteikpbangjpilaaDskU
namespace Go.Proofs.Yteikpbangjpilaa.DskL
open Go Go.RowKit Go.Proofs.Yteikpbangjpilaa Go.Proofs.Yteikpbangjpilaa.Sp Go.Proofs.Yteikpbangjpilaa.Reg Go.Proofs.Yteikpbangjpilaa.SlW Go.Proofs.Yteikpbangjpilaa.Fus Go.Proofs.Yteikpbangjpilaa.DskN Go.Proofs.Yteikpbangjpilaa.Rd Go.Proofs.Yteikpbangjpilaa.DskW

/-- A slot's bytes, all made of one. -/
def full (c : UInt8) : List UInt8 := (List.range 96).map fun i => c + UInt8.ofNat i * 3
theorem full_len (c : UInt8) : (full c).length = 96 := by simp [full]
def fullK (c : UInt8) (k : Nat) : List UInt8 := (List.range 96).map fun i => if i < k then c + UInt8.ofNat i * 3 else 0
theorem fullK_len (c : UInt8) (k : Nat) : (fullK c k).length = 96 := by simp [fullK]
theorem fullK_zero (c : UInt8) : fullK c 0 = List.replicate 96 0 := by
  apply List.ext_getElem
  · simp [fullK]
  · intro i h1 h2
    rw [List.getElem_replicate]
    simp only [fullK, List.getElem_map, if_neg (Nat.not_lt_zero _)]
theorem fullK_end (c : UInt8) : fullK c 96 = full c := by
  apply List.ext_getElem
  · simp [fullK, full]
  · intro i h1 h2
    have : i < 96 := by simpa [fullK] using h1
    simp [fullK, full, this]
theorem fullK_set (c : UInt8) (k : Nat) : (fullK c k).set k (c + UInt8.ofNat k * 3) = fullK c (k + 1) := by
  apply List.ext_getElem
  · simp [fullK]
  · intro i h1 h2
    rw [List.getElem_set]
    by_cases h : k = i
    · subst h; simp [fullK]
    · rw [if_neg h]
      simp only [fullK, List.getElem_map, List.getElem_range]
      by_cases h2 : i < k
      · rw [if_pos h2, if_pos (by omega)]
      · rw [if_neg h2, if_neg (by omega)]
theorem full_val (c : UInt8) (k : Nat) (hk : k < 96) : ((c + UInt8.ofNat k * 3).toNat : Int) = ((c.toNat : Int) + (k : Int) * 3) % 256 := by
  have e : (UInt8.ofNat k).toNat = k := by rw [UInt8.toNat_ofNat']; omega
  rw [UInt8.toNat_add, UInt8.toNat_mul, e]
  have : (3 : UInt8).toNat = 3 := rfl
  rw [this]
  omega
section
variable {B : Nat} {w0 : World} {R : HP}
set_option maxHeartbeats 1000000 in
theorem full_calls (c : UInt8) (w : World) (s : St B w0 w R) : Calls Try.prog 35 #[bv c] w (fun e w' => ∃ g, e = .returned (.slice (some ⟨g, 0, none⟩) 96 96) ∧ St B w0 w' (row 5 1 (.slice (some ⟨g, 0, none⟩) 96 96) 96 (bvs (full c)) * R)) := by
  have S := Lib.hid s
  clear s
  go_enter Try.func35, Try.ntmps35
  go_wp2_with (at_make; go_must (refine wpl_make1 rfl _ _ rfl tB rfl S.out .i64 .i64 96 96 rfl rfl (Nat.le_refl _) (by unfold maxLen; omega) (by omega) ?_); intro g w1 s1; rw [bvs_zeros, ← fullK_zero c] at s1; have S1 := Lib.hid s1; clear s1)
  go_loopw [8] (fun i wr => ∃ k : Nat, k ≤ 96 ∧ i = .int .i64 k ∧ St B w0 wr (row 5 1 (.slice (some ⟨g, 0, none⟩) 96 96) 96 (bvs (fullK c k)) * R)) (fun i _ => 96 - (intOf i).toNat)
  case atStart => exact ⟨0, Nat.zero_le _, rfl, S1.out⟩
  case round =>
    obtain ⟨k, hk, rfl, s2⟩ := hrel
    clear S S1
    by_cases hlt : k < 96
    · obtain ⟨_, _, _, _, _, hcell, hfr, _, hset⟩ := s2.rowB'
      have c0 := hcell k (by rw [fullK_len]; exact hlt)
      have f0 := hfr k
      have HST := Lib.hid (hset k (c + UInt8.ofNat k * 3) (by rw [fullK_len]; exact hlt))
      have HV := Lib.hid (full_val c k hlt)
      have hc : (c.toNat : Int) ≤ 255 := by have := c.toNat_lt; omega
      clear s2 hcell hfr hset
      go_wp2_with fail
      go_roundw
      case rel =>
        refine ⟨k + 1, by omega, by go_num, ?_⟩
        have q := HST.out
        rw [fullK_set c k, show bv (c + UInt8.ofNat k * 3) = .int .u8 (((c + UInt8.ofNat k * 3).toNat : Nat) : Int) from rfl, HV.out] at q
        exact q
      case measure => simp [intOf]; omega
    · obtain rfl : k = 96 := by omega
      have S2 := Lib.hid s2
      clear s2
      go_wp2_with fail
      go_ret
      exact ⟨g, rfl, by rw [← fullK_end]; exact S2.out⟩
set_option maxHeartbeats 400000 in
theorem blank_calls (w : World) : Calls Try.prog 41 #[] w fun e w' => e = .returned (str blk0) ∧ Add w w' := by
  go_enter Try.func41, Try.ntmps41
  go_wp2_with (at_make; go_must (refine wpl_make1 rfl _ _ rfl tB rfl (St.init w) .i64 .i64 96 96 rfl rfl (Nat.le_refl _) (by unfold maxLen; omega) (by omega) ?_); intro g w1 s1; rw [bvs_zeros] at s1; have hcv := run_str (P := Try.prog) Try.underlying25 Try.underlying5 Try.underlying9 s1.bs; have S1 := Lib.hid s1.below; clear s1)
  go_ret
  exact ⟨rfl, S1.out⟩
theorem fz_nil {w : World} (s : St B w0 w R) : St B w0 w (fz (.pointer none) none * R) := by
  show St B w0 w (pur (Value.pointer none = .pointer none) * R)
  rw [St.pu]
  exact ⟨rfl, s⟩
theorem fz_nil2 {X : HP} {w : World} (s : St B w0 w (X * R)) : St B w0 w (X * (fz (.pointer none) none * R)) := (fz_nil s).eq (by ac_rfl)
theorem fz_nil3 {X : HP} {w : World} (s : St B w0 w (X * (fz (.pointer none) none * R))) : St B w0 w (X * R) := (fz_none (s.eq (Q := fz (.pointer none) none * (X * R)) (by ac_rfl))).2
theorem write0 (D : Dk) (i : Int) (bs : List UInt8) (p : Value) (a : Option Addr) (n c : Nat) (w : World) (hpf : D.pend.length < 1000000) (hb : Reads B w0 R (.slice a n c) bs) (hn : n ≤ 4611686018427387904) (s : St B w0 w (dk p (.pointer none) D * R)) :
    Calls Try.prog 34 #[p, .int .i64 i, .slice a n c] w (RetS B w0 (dk p (.pointer none) (dWrite none D i bs).2.2 * R) (.int .i64 (dWrite none D i bs).1)) := by
  refine (write_calls none D i bs p none a n c w hpf hb hn (fz_nil2 s)).mono ?_
  rintro e w' ⟨rfl, s'⟩
  have h : (dWrite none D i bs).2.1 = none := by unfold dWrite; repeat (first | split | rfl)
  rw [h] at s'
  exact ⟨rfl, fz_nil3 s'⟩
theorem sync0 (D : Dk) (p : Value) (w : World) (s : St B w0 w (dk p (.pointer none) D * R)) :
    Calls Try.prog 36 #[p] w (RetS B w0 (dk p (.pointer none) (dSync none D).2 * R) (.int .i64 (dSync none D).1)) := by
  refine (sync_calls none D p none w (fz_nil2 s)).mono ?_
  rintro e w' ⟨rfl, s'⟩
  exact ⟨rfl, fz_nil3 s'⟩
set_option maxRecDepth 100000 in
set_option maxHeartbeats 4000000 in
theorem awake_calls (w : World) : Calls Try.prog 39 #[] w fun e w' => e = .returned (.bool true) ∧ Add w w' := by
  go_enter Try.func39, Try.ntmps39
  go_wp2_with fail
  refine (newFuse_calls 1 _ (by omega) (St.init w)).mono ?_
  rintro e w1 ⟨p, rfl, s1⟩
  obtain ⟨fb, rfl, -, -⟩ := fz_some s1
  have S1 := Lib.hid s1
  clear s1
  go_wp2_with fail
  refine (new_calls 2 (some ⟨fb, 0, none⟩) _ S1.out).mono ?_
  rintro e w2 ⟨p, rfl, s2⟩
  obtain ⟨db, _, _, _, _, rfl, -⟩ := dk_open s2
  have s2 : St w.heap.size w w2 (dk (.pointer (some ⟨db, 0, none⟩)) (.pointer (some ⟨fb, 0, none⟩)) ⟨[blk0, blk0], [], false⟩ * (fz (.pointer (some ⟨fb, 0, none⟩)) (some ⟨1, true⟩) * emp)) := s2
  have S2 := Lib.hid s2
  clear s2
  clear S1
  go_wp2_with fail
  refine (full_calls 1 _ S2.out).mono ?_
  rintro e w3 ⟨g, rfl, s3⟩
  have S3 := Lib.hid (s3.eq (Q := dk (.pointer (some ⟨db, 0, none⟩)) (.pointer (some ⟨fb, 0, none⟩)) ⟨[blk0, blk0], [], false⟩ * (fz (.pointer (some ⟨fb, 0, none⟩)) (some ⟨1, true⟩) * (row 5 1 (.slice (some ⟨g, 0, none⟩) 96 96) 96 (bvs (full 1)) * emp))) (by ac_rfl))
  clear s3 S2
  go_wp2_with fail
  refine (write_calls (some ⟨1, true⟩) ⟨[blk0, blk0], [], false⟩ 0 (full 1) _ (some ⟨fb, 0, none⟩) _ 96 96 w3 (by simp) (reads_right _ reads_row) (by omega) S3.out).mono ?_
  rw [show dWrite (some ⟨1, true⟩) ⟨[blk0, blk0], [], false⟩ 0 (full 1) = (0, some ⟨0, true⟩, ⟨[blk0, blk0], [(0, full 1)], false⟩) from by unfold dWrite; rw [if_neg (by simp [full_len])]; rfl]
  rintro e w4 ⟨rfl, s4⟩
  have S4 := Lib.hid (s4.eq (Q := fz (.pointer (some ⟨fb, 0, none⟩)) (some ⟨0, true⟩) * (dk (.pointer (some ⟨db, 0, none⟩)) (.pointer (some ⟨fb, 0, none⟩)) ⟨[blk0, blk0], [(0, full 1)], false⟩ * (row 5 1 (.slice (some ⟨g, 0, none⟩) 96 96) 96 (bvs (full 1)) * emp))) (by ac_rfl))
  clear s4 S3
  go_wp2_with fail
  refine (dead_calls (some ⟨0, true⟩) _ w4 S4.out).mono ?_
  rintro e w5 ⟨he, s5⟩
  obtain rfl : e = .returned (.bool true) := he
  have S5 := Lib.hid (s5.eq (Q := dk (.pointer (some ⟨db, 0, none⟩)) (.pointer (some ⟨fb, 0, none⟩)) ⟨[blk0, blk0], [(0, full 1)], false⟩ * (fz (.pointer (some ⟨fb, 0, none⟩)) (some ⟨0, true⟩) * (row 5 1 (.slice (some ⟨g, 0, none⟩) 96 96) 96 (bvs (full 1)) * emp))) (by ac_rfl))
  clear s5 S4
  go_wp2_with fail
  refine (full_calls 2 _ S5.out).mono ?_
  rintro e w6 ⟨g2, rfl, s6⟩
  have S6 := Lib.hid (s6.eq (Q := dk (.pointer (some ⟨db, 0, none⟩)) (.pointer (some ⟨fb, 0, none⟩)) ⟨[blk0, blk0], [(0, full 1)], false⟩ * (fz (.pointer (some ⟨fb, 0, none⟩)) (some ⟨0, true⟩) * (row 5 1 (.slice (some ⟨g2, 0, none⟩) 96 96) 96 (bvs (full 2)) * (row 5 1 (.slice (some ⟨g, 0, none⟩) 96 96) 96 (bvs (full 1)) * emp)))) (by ac_rfl))
  clear s6 S5
  go_wp2_with fail
  refine (write_calls (some ⟨0, true⟩) ⟨[blk0, blk0], [(0, full 1)], false⟩ 1 (full 2) _ (some ⟨fb, 0, none⟩) _ 96 96 w6 (by simp) (reads_right _ reads_row) (by omega) S6.out).mono ?_
  rw [show dWrite (some ⟨0, true⟩) ⟨[blk0, blk0], [(0, full 1)], false⟩ 1 (full 2) = (4, some ⟨0, true⟩, ⟨[blk0, blk0], [(0, full 1)], false⟩) from by unfold dWrite; rw [if_neg (by simp [full_len])]; rfl]
  rintro e w7 ⟨rfl, s7⟩
  have S7 := Lib.hid s7
  clear s7
  clear S6
  go_wp2_with fail
  refine (crash_calls _ _ _ 0 0 (by omega) (by omega) w7 S7.out).mono ?_
  rintro e w8 ⟨rfl, s8⟩
  have s8 : St w.heap.size w w8 (dk (.pointer (some ⟨db, 0, none⟩)) (.pointer (some ⟨fb, 0, none⟩)) ⟨[blk0, blk0], [], false⟩ * (fz (.pointer (some ⟨fb, 0, none⟩)) (some ⟨0, true⟩) * (row 5 1 (.slice (some ⟨g2, 0, none⟩) 96 96) 96 (bvs (full 2)) * (row 5 1 (.slice (some ⟨g, 0, none⟩) 96 96) 96 (bvs (full 1)) * emp)))) := s8
  have S8 := Lib.hid s8
  clear s8
  clear S7
  go_wp2_with fail
  refine (read_calls _ _ _ 0 w8 S8.out).mono ?_
  rintro e w9 ⟨a9, c9, he, s9⟩
  have e9 : dRead ⟨[blk0, blk0], [], false⟩ 0 = blk0 := rfl
  rw [e9] at he s9
  have he : e = .returned (.tuple #[.slice a9 blk0.length c9, .int .i64 0]) := he
  rw [blk0_len] at he s9
  subst he
  have S9 := Lib.hid s9
  clear s9 e9 S8
  go_wp2_with fail
  refine wp_region_rx (fun _ w' => St w.heap.size w w' (row 5 1 (.slice a9 96 c9) 96 (bvs blk0) * (dk (.pointer (some ⟨db, 0, none⟩)) (.pointer (some ⟨fb, 0, none⟩)) ⟨[blk0, blk0], [], false⟩ * (fz (.pointer (some ⟨fb, 0, none⟩)) (some ⟨0, true⟩) * (row 5 1 (.slice (some ⟨g2, 0, none⟩) 96 96) 96 (bvs (full 2)) * (row 5 1 (.slice (some ⟨g, 0, none⟩) 96 96) 96 (bvs (full 1)) * emp)))))) [] mixed (by kernel_rfl) (by kernel_rfl) S9.out.drew ?_
  refine RXl.exact (.int .i64 0) rfl rfl rfl rfl rfl (fun _ _ _ _ _ => rfl) ?_
  refine RXl.exact (.bool true) rfl rfl rfl rfl rfl (fun j τ w' hj hJ => by simp [rho, upd, Spec.val, execOp, go_sem]) ?_
  refine RXl.exact (.bool true) rfl rfl rfl rfl rfl (fun _ _ _ _ _ => rfl) ?_
  refine RXl.exact (.bool true) rfl rfl rfl rfl rfl (fun _ _ _ _ _ => rfl) ?_
  refine RXl.exact (.bool true) rfl rfl rfl rfl rfl (fun _ _ _ _ _ => rfl) ?_
  refine RXl.exact (.bool true) rfl rfl rfl rfl rfl (fun _ _ _ _ _ => rfl) ?_
  refine RXl.exact (.int .i64 4) rfl rfl rfl rfl rfl (fun _ _ _ _ _ => rfl) ?_
  refine RXl.exact (.bool true) rfl rfl rfl rfl rfl (fun j τ w' hj hJ => by simp [rho, upd, Spec.val, execOp, go_sem]) ?_
  refine RXl.exact (.bool true) rfl rfl rfl rfl rfl (fun _ _ _ _ _ => rfl) ?_
  refine RXl.exact (.bool true) rfl rfl rfl rfl rfl (fun _ _ _ _ _ => rfl) ?_
  refine RXl.exact (.slice a9 96 c9) rfl rfl rfl rfl rfl (fun _ _ _ _ _ => rfl) ?_
  refine RXl.exact (str blk0) rfl rfl rfl rfl rfl (fun j τ w' hj hJ => exec_convert rfl (run_str Try.underlying25 Try.underlying5 Try.underlying9 (St.bs hJ))) ?_
  refine RXl.callr (str blk0) _ [] [] _ rfl rfl rfl rfl rfl rfl (fun _ => rfl) (fun j τ w' hj hJ => (blank_calls w').mono fun _ _ ⟨h1, h2⟩ => ⟨h1, St.keep hJ h2⟩) ?_
  refine RXl.exact (.bool true) rfl rfl rfl rfl rfl (fun j τ w' hj hJ => by simp [rho, upd, Spec.val, execOp, go_sem]) ?_
  refine RXl.exact (.bool true) rfl rfl rfl rfl rfl (fun _ _ _ _ _ => rfl) ?_
  refine RXl.exact (.bool true) rfl rfl rfl rfl rfl (fun _ _ _ _ _ => rfl) ?_
  refine RXl.exact (.int .i64 0) rfl rfl rfl rfl rfl (fun _ _ _ _ _ => rfl) ?_
  refine RXl.exact (.bool true) rfl rfl rfl rfl rfl (fun j τ w' hj hJ => by simp [rho, upd, Spec.val, execOp, go_sem]) ?_
  refine RXl.exact (.bool true) rfl rfl rfl rfl rfl (fun _ _ _ _ _ => rfl) ?_
  refine RXl.exact (.bool true) rfl rfl rfl rfl rfl (fun _ _ _ _ _ => rfl) ?_
  refine RXl.exact (.pointer (some ⟨db, 0, none⟩)) rfl rfl rfl rfl rfl (fun _ _ _ _ _ => rfl) ?_
  refine RXl.callr (.int .i64 2) _ [.pointer (some ⟨db, 0, none⟩)] [.tmp 52] _ rfl rfl rfl rfl rfl rfl (fun _ => rfl) (fun j τ w' hj hJ => (slots_calls ⟨[blk0, blk0], [], false⟩ (.pointer (some ⟨db, 0, none⟩)) (.pointer (some ⟨fb, 0, none⟩)) w' (St.eq (sep_left_comm _ _ _) hJ)).mono fun _ _ ⟨h1, h2⟩ => ⟨h1, St.eq (sep_left_comm _ _ _) h2⟩) ?_
  refine RXl.exact (.bool true) rfl rfl rfl rfl rfl (fun j τ w' hj hJ => by simp [rho, upd, Spec.val, execOp, go_sem]) ?_
  refine RXl.exact (.bool true) rfl rfl rfl rfl rfl (fun _ _ _ _ _ => rfl) ?_
  refine RXl.exact (.bool true) rfl rfl rfl rfl rfl (fun _ _ _ _ _ => rfl) ?_
  refine RXl.nilx _ (Agr.upd _ _ (Agr.upd _ _ (Agr.upd _ _ (Agr.upd _ _ (Agr.upd _ _ (Agr.upd _ _ (Agr.upd _ _ (Agr.upd _ _ (Agr.upd _ _ (Agr.upd _ _ (Agr.upd _ _ (Agr.upd _ _ (Agr.upd _ _ (Agr.upd _ _ (Agr.upd _ _ (Agr.upd _ _ (Agr.upd _ _ (Agr.upd _ _ (Agr.upd _ _ (Agr.upd _ _ (Agr.upd _ _ (Agr.upd _ _ (Agr.upd _ _ (Agr.upd _ _ (Agr.upd _ _ (Agr.base _)))))))))))))))))))))))))) fun w10 hJ => ?_
  obtain ⟨_, hJ⟩ := hJ
  simp only [Act.put, List.setIfInBounds_toArray, List.set_cons_succ, List.set_cons_zero]
  have HB := Lib.hid (St.below hJ)
  clear hJ
  go_wp2_with fail
  go_ret
  exact ⟨rfl, HB.out⟩
end
end Go.Proofs.Yteikpbangjpilaa.DskL
