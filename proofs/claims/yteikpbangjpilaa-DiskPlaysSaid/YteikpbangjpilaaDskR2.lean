/- The document's disk, walked: Write, Replace, NewDisk. No condition. -/
import Derived.Test.YteikpbangjpilaaDskR
set_option linter.unusedSimpArgs false
set_option linter.unusedVariables false
namespace Go.Proofs.Yteikpbangjpilaa.DskR
open Go Go.RowKit Go.Proofs.Yteikpbangjpilaa Go.Proofs.Yteikpbangjpilaa.Sp Go.Proofs.Yteikpbangjpilaa.Reg Go.Proofs.Yteikpbangjpilaa.SlW Go.Proofs.Yteikpbangjpilaa.Fus Go.Proofs.Yteikpbangjpilaa.TapR Go.Proofs.Yteikpbangjpilaa.DskN Go.Proofs.Yteikpbangjpilaa.DskW
section
variable {B : Nat} {w0 w : World} {R : HP} {p : Nat} {fv : Value} {M : Rk}
theorem blk0_len : blk0.length = 96 := rfl
set_option maxRecDepth 100000 in
set_option maxHeartbeats 4000000 in
theorem rdwrite_calls (F : Fu) (fb : Nat) (i : Int) (bs : List UInt8) (hl : F.left ≤ 9223372036854775807) (hw : M.wait.length < 1000000) (w : World) (s : St B w0 w (rdk p (.pointer (some ⟨fb, 0, none⟩)) M * (rfz fb F * R))) :
    Calls Try.prog 50 #[.pointer (some ⟨p, 0, none⟩), .int .i64 i, str bs] w (RetS B w0 (rdk p (.pointer (some ⟨fb, 0, none⟩)) (rkWrite F M i bs).2.2 * (rfz fb (rkWrite F M i bs).2.1 * R)) (.int .i64 (rkWrite F M i bs).1)) := by
  have Q := Lib.hid (rslot_calls i w s)
  have S := Lib.hid s
  clear s
  have hsz : (⟨bs.toArray⟩ : ByteArray).size = bs.length := by simp [ByteArray.size]
  by_cases hc : 0 ≤ i ∧ i < (M.slots.length : Int)
  case neg =>
    rw [decide_eq_false hc] at Q
    have e : rkWrite F M i bs = (1, F, M) := by unfold rkWrite; rw [if_pos (fun h => hc h.1)]
    rw [e]
    clear e hc
    go_enter Try.func50, Try.ntmps50
    go_wp2_with fail
    refine Q.out.mono ?_
    rintro e w1 ⟨rfl, s1⟩
    have S1 := Lib.hid s1
    clear s1 Q S
    go_wp2_with fail
    go_ret
    exact ⟨rfl, S1.out⟩
  rw [decide_eq_true hc] at Q
  by_cases h96 : bs.length = 96
  case neg =>
    have e : rkWrite F M i bs = (1, F, M) := by unfold rkWrite; rw [if_pos (fun h => h96 h.2)]
    rw [e]
    have h96' : ((bs.length : Int) != 96) = true := by rw [bne_iff_ne]; omega
    clear e hc h96
    go_enter Try.func50, Try.ntmps50
    go_wp2_with fail
    refine Q.out.mono ?_
    rintro e w1 ⟨rfl, s1⟩
    have S1 := Lib.hid s1
    clear s1 Q S
    go_wp2_with fail
    go_ret
    exact ⟨rfl, S1.out⟩
  have h96' : ((bs.length : Int) != 96) = false := by rw [h96]; rfl
  have HC := Lib.hid hc
  have H96 := Lib.hid h96
  cases hlv : M.live
  · have e : rkWrite F M i bs = (5, F, M) := by unfold rkWrite; rw [if_neg (not_not_intro ⟨hc, h96⟩), if_pos hlv]
    rw [e]
    have Hl := Lib.hid hlv
    clear e hc h96 hlv
    go_enter Try.func50, Try.ntmps50
    go_wp2_with fail
    refine Q.out.mono ?_
    rintro e w1 ⟨rfl, s1⟩
    obtain ⟨a1, c1, a2, c2, hok, h1, h2, h3, h4, s2⟩ := rdk_open s1
    have d1 := (rdkO_d s2).cell 1
    rw [Hl.out] at d1
    simp at d1
    have S1 := Lib.hid s1
    clear s1 s2 Q S
    go_wp2_with fail
    go_ret
    exact ⟨rfl, S1.out⟩
  have Hl := Lib.hid hlv
  cases hd : fdead (some F)
  case true =>
    have e : rkWrite F M i bs = (4, F, M) := by unfold rkWrite; rw [if_neg (not_not_intro ⟨hc, h96⟩), if_neg (by simp [hlv]), if_pos hd]
    rw [e]
    have Hd := Lib.hid hd
    clear e hc h96 hlv hd
    go_enter Try.func50, Try.ntmps50
    go_wp2_with fail
    refine Q.out.mono ?_
    rintro e w1 ⟨rfl, s1⟩
    obtain ⟨a1, c1, a2, c2, hok, h1, h2, h3, h4, s2⟩ := rdk_open s1
    have d1 := (rdkO_d s2).cell 1
    have d3 := (rdkO_d s2).cell 3
    rw [Hl.out] at d1
    simp at d1 d3
    have QF := Lib.hid (rspend_no F fb w1 Hd.out (R := rdk p (.pointer (some ⟨fb, 0, none⟩)) M * R) (s1.eq (by ac_rfl)))
    clear s1 s2 Q S
    go_wp2_with fail
    refine QF.out.mono ?_
    rintro e w2 ⟨rfl, s3⟩
    have S3 := Lib.hid s3
    clear s3 QF d1 d3
    go_wp2_with fail
    go_ret
    exact ⟨rfl, S3.out.eq (by ac_rfl)⟩
  case false =>
    have Hd := Lib.hid hd
    obtain ⟨k, rfl⟩ : ∃ k : Nat, i = (k : Int) := ⟨i.toNat, by omega⟩
    have hk : k < M.slots.length := by omega
    have hkI : (k : Int) < (M.slots.length : Int) := by omega
    have e : rkWrite F M k bs = (0, (fspend (some F)).getD F, ⟨M.slots.set k bs, M.live, M.wait ++ [⟨k, M.slots.getD k [], bs⟩]⟩) := by unfold rkWrite; rw [if_neg (not_not_intro ⟨hc, h96⟩), if_neg (by simp [hlv]), if_neg (by simp [hd])]; rfl
    rw [e]
    have e3 : M.slots.getD k [] = M.slots[k] := by simp [List.getD_eq_getElem?_getD, hk]
    rw [e3]
    have hx : (M.slots.map str)[k]? = some (str M.slots[k]) := by rw [List.getElem?_map, List.getElem?_eq_getElem hk]; rfl
    have hyl : M.ok → M.slots[k].length = 96 := fun h => h.len _ (List.getElem_mem _)
    clear e e3 hc h96 hlv hd
    generalize M.slots[k] = y at *
    have HX := Lib.hid hx
    have HY := Lib.hid hyl
    have HK := Lib.hid hk
    clear hx hyl
    go_enter Try.func50, Try.ntmps50
    go_wp2_with fail
    refine Q.out.mono ?_
    rintro e w1 ⟨rfl, s1⟩
    obtain ⟨a1, c1, a2, c2, hok, h1, h2, h3, h4, s2⟩ := rdk_open s1
    have d1 := (rdkO_d s2).cell 1
    have d3 := (rdkO_d s2).cell 3
    rw [Hl.out] at d1
    simp at d1 d3
    have QF := Lib.hid (rspend_yes F fb w1 Hd.out hl (R := rdk p (.pointer (some ⟨fb, 0, none⟩)) M * R) (s1.eq (by ac_rfl)))
    clear s1 s2 Q S h1 h2 h3 h4
    go_wp2_with fail
    refine QF.out.mono ?_
    rintro e w2 ⟨rfl, s3⟩
    have s4 := s3.eq (Q := rdk p (.pointer (some ⟨fb, 0, none⟩)) M * (rfz fb (if F.bound = true then { F with left := F.left - 1 } else F) * R)) (by ac_rfl)
    obtain ⟨a1, c1, a2, c2, hok, h1, h2, h3, h4, s5⟩ := rdk_open s4
    obtain ⟨g, c, hv, -, -, -, -⟩ := (rdkO_s s5).rowCells (by omega)
    cases hv
    generalize hRR : rfz fb (if F.bound = true then { F with left := F.left - 1 } else F) * R = RR at s5
    have HRR := Lib.hid hRR
    have S5 := Lib.hid s5
    have HOK := Lib.hid hok
    have hwl : M.wait.length ≤ 1000000 := by omega
    have hkc : (k : Int) < (c1 : Int) := by omega
    clear s3 s4 s5 hok QF d1 d3 hRR
    go_wp2_with fail
    refine wp_region_rv [52, 53] (WJ B w0 p (.pointer (some ⟨fb, 0, none⟩)) (.slice (some ⟨g, 0, none⟩) M.slots.length c1) (.slice a2 M.wait.length c2) M ⟨k, y, bs⟩ RR) [15, 16, 19] mixed (by kernel_rfl) (by kernel_rfl) rfl (fun _ => St.drew S5.out) ?_
    refine RXl.exact (.pointer (some ⟨p, 0, none⟩)) rfl rfl rfl rfl rfl (fun _ _ _ _ _ => rfl) ?_
    refine RXl.exact (.pointer (some ⟨p, 0, none⟩)) rfl rfl rfl rfl rfl (fun _ _ _ _ _ => rfl) ?_
    refine RXl.exact (.pointer (some ⟨p, 0, none⟩)) rfl rfl rfl rfl rfl (fun j τ w' hj hJ => (by obtain ⟨vs, hv, hJ⟩ := hJ; exact (by simp [rho, upd, Spec.val, execOp, go_sem]))) ?_
    refine RXl.exact (.pointer (some ⟨p, 2, none⟩)) rfl rfl rfl rfl rfl (fun j τ w' hj hJ => (by obtain ⟨vs, hv, hJ⟩ := hJ; exact (by simp [rho, upd, Spec.val, execOp, go_sem]))) ?_
    refine RXl.exactB 2 19 rfl (by kernel_rfl) (.slice a2 M.wait.length c2) rfl rfl rfl rfl rfl (fun j τ w' hj hJ => (by obtain ⟨vs, hv, hJ⟩ := hJ; exact (by obtain ⟨Z, z⟩ := WJ.d (by omega) hJ; have c := z.cell 2; simp at c; simp [rho, upd, Spec.val, execOp, go_sem, c]))) ?_
    refine RXl.exact (.int .i64 k) rfl rfl rfl rfl rfl (fun _ _ _ _ _ => rfl) ?_
    refine RXl.exact (.pointer (some ⟨p, 0, none⟩)) rfl rfl rfl rfl rfl (fun _ _ _ _ _ => rfl) ?_
    refine RXl.exact (.pointer (some ⟨p, 0, none⟩)) rfl rfl rfl rfl rfl (fun j τ w' hj hJ => (by obtain ⟨vs, hv, hJ⟩ := hJ; exact (by simp [rho, upd, Spec.val, execOp, go_sem]))) ?_
    refine RXl.exact (.pointer (some ⟨p, 0, none⟩)) rfl rfl rfl rfl rfl (fun j τ w' hj hJ => (by obtain ⟨vs, hv, hJ⟩ := hJ; exact (by simp [rho, upd, Spec.val, execOp, go_sem]))) ?_
    refine RXl.exact (.slice (some ⟨g, 0, none⟩) M.slots.length c1) rfl rfl rfl rfl rfl (fun j τ w' hj hJ => (by obtain ⟨vs, hv, hJ⟩ := hJ; exact (by obtain ⟨⟨_, _, Z, z⟩, _⟩ := WJ.sl hJ; have c := z.cell 0; simp at c; simp [rho, upd, Spec.val, execOp, go_sem, c]))) ?_
    refine RXl.exact (.int .i64 k) rfl rfl rfl rfl rfl (fun _ _ _ _ _ => rfl) ?_
    refine RXl.exact (.pointer (some ⟨g, k, none⟩)) rfl rfl rfl rfl rfl (fun j τ w' hj hJ => (by obtain ⟨vs, hv, hJ⟩ := hJ; exact (by simp [rho, upd, Spec.val, execOp, go_sem, hkI, hkc]))) ?_
    refine RXl.exact (str y) rfl rfl rfl rfl rfl (fun j τ w' hj hJ => (by obtain ⟨vs, hv, hJ⟩ := hJ; exact (by obtain ⟨_, Z, z⟩ := WJ.sl hJ; obtain ⟨g', c', hv', -, -, -, hcl⟩ := z.rowCells (by omega); cases hv'; have c := (hcl k (by omega)).trans HX.out; simp [rho, upd, Spec.val, execOp, go_sem, c]))) ?_
    refine RXl.exact (str bs) rfl rfl rfl rfl rfl (fun _ _ _ _ _ => rfl) ?_
    refine RXl.exact (.agg #[.int .i64 k, str y, str bs]) rfl rfl rfl rfl rfl (fun j τ w' hj hJ => (by obtain ⟨vs, hv, hJ⟩ := hJ; exact (by simp [rho, upd, Spec.val, execOp, go_sem, str]))) ?_
    refine RXl.effV 0 52 rfl rfl rfl (Nat.le_of_ble_eq_true rfl) rfl rfl rfl rfl (fun ρ vs w hv hJ hag => WJ.lit rfl (hag.ex 51 _ rfl rfl rfl) hJ) ?_
    refine RXl.effV 1 53 rfl rfl rfl (Nat.le_of_ble_eq_true rfl) rfl rfl rfl rfl (fun ρ vs w hv hJ hag => WJ.app rfl (hag.ex 41 _ rfl rfl rfl) (hv 0 52 (by decide) rfl) hwl hJ) ?_
    refine RXl.exact (.pointer (some ⟨p, 0, none⟩)) rfl rfl rfl rfl rfl (fun j τ w' hj hJ => (by obtain ⟨vs, hv, hJ⟩ := hJ; exact (by simp [rho, upd, Spec.val, execOp, go_sem]))) ?_
    refine RXl.exact (.pointer (some ⟨p, 2, none⟩)) rfl rfl rfl rfl rfl (fun j τ w' hj hJ => (by obtain ⟨vs, hv, hJ⟩ := hJ; exact (by simp [rho, upd, Spec.val, execOp, go_sem]))) ?_
    refine RXl.effS 2 rfl rfl rfl rfl rfl rfl (fun ρ vs w hv hJ hag => WJ.sto rfl (hag.ex 55 _ rfl rfl rfl) (hv 1 53 (by decide) rfl) hJ) ?_
    refine RXl.nilV _ (AgrL.upd _ _ (AgrL.upd _ _ (AgrL.unk 53 _ rfl (AgrL.unk 52 _ rfl (AgrL.upd _ _ (AgrL.upd _ _ (AgrL.upd _ _ (AgrL.upd _ _ (AgrL.upd _ _ (AgrL.upd _ _ (AgrL.upd _ _ (AgrL.upd _ _ (AgrL.upd _ _ (AgrL.upd _ _ (AgrL.upd _ _ (AgrL.upd _ _ (AgrL.upd _ _ (AgrL.upd _ _ (AgrL.upd _ _ (AgrL.base _)))))))))))))))))))) (by decide) (by decide) fun vs w8 hJ => ?_
    simp only [puts, Act.put, List.setIfInBounds_toArray, List.set_cons_succ, List.set_cons_zero]
    obtain ⟨wv', s8⟩ := hJ
    have d0 := s8.cell 0
    simp at d0
    have s9 := s8.eq (Q := row 9 1 (.slice (some ⟨g, 0, none⟩) M.slots.length c1) M.slots.length (M.slots.map str) * (pts p (.cells #[.slice (some ⟨g, 0, none⟩) M.slots.length c1, .bool M.live, wv', .pointer (some ⟨fb, 0, none⟩)] 75 (0, 0)) * (row 95 3 wv' (M.wait.length + 1) (M.wait.flatMap wtC ++ wtC ⟨k, y, bs⟩) * RR))) (by ac_rfl)
    obtain ⟨g', c', hv', -, -, -, hcl⟩ := s9.rowCells (by omega)
    cases hv'
    have xk := (hcl k (by omega)).trans HX.out
    obtain ⟨fk, s10⟩ := row_set s9 (j := k) (by omega) (str bs)
    have S10 := Lib.hid s10
    clear s8 s9 hcl S5
    go_wp2_with fail
    go_ret
    refine ⟨rfl, rdk_mk (sv := .slice (some ⟨g, 0, none⟩) M.slots.length c1) (wv := wv') ⟨by simpa using HOK.out.few, ?_, ?_, ?_, ?_⟩ ?_⟩
    · intro b hb
      rcases List.mem_or_eq_of_mem_set hb with h | rfl
      · exact HOK.out.len _ h
      · exact H96.out
    · intro x hx
      rcases List.mem_append.1 hx with h | h
      · exact HOK.out.wlen _ h
      · simp at h; subst h; exact ⟨HY.out HOK.out, H96.out⟩
    · intro x hx
      show x.slot < (M.slots.set k bs).length
      rw [List.length_set]
      rcases List.mem_append.1 hx with h | h
      · exact HOK.out.wslot _ h
      · simp at h; subst h; exact HK.out
    · show (M.wait ++ _).length ≤ 1000000
      rw [List.length_append, List.length_singleton]; omega
    · have s11 := S10.out
      rw [← HRR.out] at s11
      refine s11.eq ?_
      have e4 : (fspend (some F)).getD F = (if F.bound = true then { F with left := F.left - 1 } else F) := rfl
      rw [e4]
      unfold rdkO
      simp only [List.length_set, List.length_append, List.length_singleton, List.flatMap_append, List.flatMap_cons, List.flatMap_nil, List.append_nil, List.map_set]
      ac_rfl
end
end Go.Proofs.Yteikpbangjpilaa.DskR
