/- The document's disk, walked: Crash. No condition. -/
import Derived.Test.YteikpbangjpilaaDskR5
import Derived.Deep.DeepCutAuto
import Derived.Deep.CutRange
set_option linter.unusedSimpArgs false
set_option linter.unusedVariables false
namespace Go.Proofs.Yteikpbangjpilaa.DskR
open Go Go.RowKit Go.Proofs.Yteikpbangjpilaa Go.Proofs.Yteikpbangjpilaa.Sp Go.Proofs.Yteikpbangjpilaa.Reg Go.Proofs.Yteikpbangjpilaa.SlW Go.Proofs.Yteikpbangjpilaa.Fus Go.Proofs.Yteikpbangjpilaa.TapR Go.Proofs.Yteikpbangjpilaa.DskN Go.Proofs.Yteikpbangjpilaa.DskW
section
variable {B : Nat} {w0 w : World} {R : HP} {p : Nat} {fv : Value} {M : Rk}
theorem undo_96 {l : List Wt} {S : List (List UInt8)} (h1 : ∀ x ∈ l, x.was.length = 96) (hS : ∀ b ∈ S, b.length = 96) : ∀ d, d ≤ l.length → ∀ b ∈ undo l S d, b.length = 96
  | 0, _ => hS
  | d + 1, h => fun b hb => by
    unfold undo at hb
    rcases List.mem_or_eq_of_mem_set hb with h2 | rfl
    · exact undo_96 h1 hS d (by omega) b h2
    · have e : l.getD (l.length - 1 - d) ⟨0, [], []⟩ = l[l.length - 1 - d]'(by omega) := by simp [List.getD_eq_getElem?_getD, show l.length - 1 - d < l.length by omega]
      rw [e]
      exact h1 _ (List.getElem_mem _)
theorem run_strFrom {P : Program} {t : TypeId} (ht : P.underlying t = some .string) (w : World) (bs : List UInt8) (k : IntKind) (l : Nat) (h : l ≤ bs.length) :
    (Instr.sliceAt t (str bs) (some (.int k (l : Int))) none none).run P w = .ok (str (bs.drop l)) w := by
  have hsz : (⟨bs.toArray⟩ : ByteArray).size = bs.length := by simp [ByteArray.size]
  have he : (⟨bs.toArray⟩ : ByteArray).extract l bs.length = ⟨(bs.drop l).toArray⟩ := by
    apply ByteArray.ext
    simp [ByteArray.data_extract]
    exact List.take_of_length_le (by simp)
  rw [run_sliceAt_string w t _ _ _ _ ht]
  unfold str
  simp [Instr.slice, run_underlying ht, Instr.sliceBounds, run_sliceBound, hsz, h, he]
/-- d.Wait = nil, at the end. -/
theorem fin_wait {L : List (List UInt8)} {lv : Bool} {W : List Wt} {sv wv : Value} (h1 : L.length ≤ 64) (h2 : ∀ b ∈ L, b.length = 96) (s : St B w0 w (rdkO p fv sv wv ⟨L, lv, W⟩ * R)) : St B w0 (w.setCell ⟨p, 2, none⟩ (.slice none 0 0)) (rdk p fv ⟨L, lv, []⟩ * R) := by
  have s2 := (rdkO_d s).set 2 (.slice none 0 0)
  have s3 := s2.eq (Q := row 95 3 wv W.length (W.flatMap wtC) * (pts p (.cells #[sv, .bool lv, .slice none 0 0, fv] 75 (0, 0)) * (row 9 1 sv L.length (L.map str) * R))) (by
    show pts p (.cells #[sv, .bool lv, .slice none 0 0, fv] 75 (0, 0)) * _ = _
    ac_rfl)
  exact rdk_mk (sv := sv) (wv := .slice none 0 0) ⟨h1, h2, by simp, by simp, by simp⟩ ((s3.right.rowNil 95 3).eq (by unfold rdkO; simp only [List.length_nil, List.flatMap_nil]; ac_rfl))
set_option maxRecDepth 100000 in
set_option maxHeartbeats 8000000 in
theorem rdcrash_calls (keep torn : Int) (hk : keep ≤ 9223372036854775807) (ht : torn ≤ 9223372036854775807) (w : World) (s : St B w0 w (rdk p fv M * R)) :
    Calls Try.prog 55 #[.pointer (some ⟨p, 0, none⟩), .int .i64 keep, .int .i64 torn] w (RetS B w0 (rdk p fv (rkCrash M keep torn) * R) (.tuple #[])) := by
  obtain ⟨a1, c1, a2, c2, hok, h1, h2, h3, h4, s1⟩ := rdk_open s
  have d2 := (rdkO_d s1).cell 2
  simp at d2
  have m1 := fun w : World => run_max2 (P := Try.prog) w .i64 #[3, 3] 3 keep 0
  have m2 := fun w : World => run_min2 (P := Try.prog) w .i64 #[3, 3] 3 (max keep 0) M.wait.length
  have m3 := fun w : World => run_max2 (P := Try.prog) w .i64 #[3, 3] 3 torn 0
  have m4 := fun w : World => run_min2 (P := Try.prog) w .i64 #[3, 3] 3 (max torn 0) 96
  obtain ⟨k, hk1, hk2⟩ : ∃ k : Nat, min (max keep 0) (M.wait.length : Int) = (k : Int) ∧ k = min keep.toNat M.wait.length := ⟨min keep.toNat M.wait.length, by omega, rfl⟩
  obtain ⟨t, ht1, ht2⟩ : ∃ t : Nat, min (max torn 0) (96 : Int) = (t : Int) ∧ t = min torn.toNat 96 := ⟨min torn.toNat 96, by omega, rfl⟩
  have hkl : k ≤ M.wait.length := by omega
  have htl : t ≤ 96 := by omega
  have hcr : rkCrash M keep torn = ⟨if k < M.wait.length then (undo M.wait M.slots (M.wait.length - k)).set (M.wait.getD k ⟨0, [], []⟩).slot ((M.wait.getD k ⟨0, [], []⟩).now.take t ++ (M.wait.getD k ⟨0, [], []⟩).was.drop t) else undo M.wait M.slots (M.wait.length - k), M.live, []⟩ := by
    unfold rkCrash
    rw [← hk2, ← ht2]
  have HCR := Lib.hid hcr
  rw [hk1] at m2
  rw [ht1] at m4
  have HOK := Lib.hid hok
  have S1 := Lib.hid (show St B w0 w (rdkO p fv (.slice a1 M.slots.length c1) (.slice a2 M.wait.length c2) ⟨undo M.wait M.slots 0, M.live, M.wait⟩ * R) from s1)
  have hwl : M.wait.length ≤ 9223372036854775807 := by have := hok.wfew; omega
  clear s s1 hok hk1 hk2 ht1 ht2 hcr hk ht
  go_enter Try.func55, Try.ntmps55
  go_wp2_with fail
  go_loopw [6] (fun i wr => ∃ d : Nat, d ≤ M.wait.length - k ∧ i = .int .i64 ((M.wait.length : Int) - 1 - d) ∧ St B w0 wr (rdkO p fv (.slice a1 M.slots.length c1) (.slice a2 M.wait.length c2) ⟨undo M.wait M.slots d, M.live, M.wait⟩ * R)) (fun i => fun _ => (intOf i + 1).toNat)
  case atStart => exact ⟨0, Nat.zero_le _, by first | rfl | (congr 1; omega), S1.out⟩
  case round =>
    obtain ⟨d, hd, rfl, s⟩ := hrel
    clear S1 d2 m1 m2 m3 m4
    have S := Lib.hid s
    have d2 := (rdkO_d s).cell 2
    simp at d2
    by_cases hlt : d < M.wait.length - k
    · obtain ⟨q, hq⟩ : ∃ q : Nat, q = M.wait.length - 1 - d := ⟨_, rfl⟩
      rw [show (M.wait.length : Int) - 1 - (d : Int) = (q : Int) by omega]
      have hqk : (k : Int) ≤ (q : Int) := by omega
      have hqI : (q : Int) < (M.wait.length : Int) := by omega
      have hqc : (q : Int) < (c2 : Int) := by omega
      have hql : q < M.wait.length := by omega
      have hun : undo M.wait M.slots (d + 1) = (undo M.wait M.slots d).set (M.wait[q]'hql).slot (M.wait[q]'hql).was := by
        show (undo M.wait M.slots d).set (M.wait.getD (M.wait.length - 1 - d) ⟨0, [], []⟩).slot (M.wait.getD (M.wait.length - 1 - d) ⟨0, [], []⟩).was = _
        rw [← hq]
        have e : M.wait.getD q ⟨0, [], []⟩ = (M.wait[q]'hql) := by simp [List.getD_eq_getElem?_getD, hql]
        rw [e]
      have hqd : d + 1 ≤ M.wait.length - k ∧ (M.wait.length : Int) - 1 - ((d + 1 : Nat) : Int) = (q : Int) - 1 := by omega
      have HQD := Lib.hid hqd
      have HQ := Lib.hid hq
      clear hq hqd
      have hsl : M.wait[q].slot < M.slots.length := HOK.out.wslot _ (List.getElem_mem _)
      have hlu := undo_len M.wait M.slots d
      obtain ⟨gw, cw, hv, -, -, -, -⟩ := (rdkO_w s).rowCells (by show 0 < M.wait.length; omega)
      obtain ⟨ha2, hc2⟩ : a2 = some ⟨gw, 0, none⟩ ∧ c2 = cw := by
        injection hv with e1 e2 e3
        exact ⟨e1, e3⟩
      subst ha2
      obtain ⟨gs, cs, hv2, -, -, -, -⟩ := (rdkO_s s).rowCells (by show 0 < (undo M.wait M.slots d).length; omega)
      obtain ⟨ha1, hc1⟩ : a1 = some ⟨gs, 0, none⟩ ∧ c1 = cs := by
        injection hv2 with e1 e2 e3
        exact ⟨e1, e3⟩
      subst ha1
      have hslI : (M.wait[q].slot : Int) < (M.slots.length : Int) := by omega
      have hslc : (M.wait[q].slot : Int) < (c1 : Int) := by omega
      have HU := Lib.hid hun
      have HLU := Lib.hid hlu
      have HSL := Lib.hid hsl
      clear s hv hv2 hun hlu hsl
      generalize undo M.wait M.slots d = L at *
      go_wp2_with fail
      refine wp_region_rx (TJ B w0 p fv (.slice (some ⟨gs, 0, none⟩) M.slots.length c1) (.slice (some ⟨gw, 0, none⟩) M.wait.length c2) L M.live M.wait M.wait[q].slot M.wait[q].was R) [21] mixed (by kernel_rfl) (by kernel_rfl) (St.drew S.out) ?_
      refine RXl.exact (.pointer (some ⟨p, 0, none⟩)) rfl rfl rfl rfl rfl (fun _ _ _ _ _ => rfl) ?_
      refine RXl.exact (.pointer (some ⟨p, 0, none⟩)) rfl rfl rfl rfl rfl (fun j τ w' hj hJ => by simp [rho, upd, Spec.val, execOp, go_sem]) ?_
      refine RXl.exact (.pointer (some ⟨p, 0, none⟩)) rfl rfl rfl rfl rfl (fun j τ w' hj hJ => by simp [rho, upd, Spec.val, execOp, go_sem]) ?_
      refine RXl.exact (.slice (some ⟨gs, 0, none⟩) M.slots.length c1) rfl rfl rfl rfl rfl (fun j τ w' hj hJ => by obtain ⟨L', z⟩ := TJ.st hJ; have c := (rdkO_d z).cell 0; simp at c; simp [rho, upd, Spec.val, execOp, go_sem, c]) ?_
      refine RXl.exact (.pointer (some ⟨p, 0, none⟩)) rfl rfl rfl rfl rfl (fun _ _ _ _ _ => rfl) ?_
      refine RXl.exact (.pointer (some ⟨p, 0, none⟩)) rfl rfl rfl rfl rfl (fun j τ w' hj hJ => by simp [rho, upd, Spec.val, execOp, go_sem]) ?_
      refine RXl.exact (.pointer (some ⟨p, 2, none⟩)) rfl rfl rfl rfl rfl (fun j τ w' hj hJ => by simp [rho, upd, Spec.val, execOp, go_sem]) ?_
      refine RXl.exact (.slice (some ⟨gw, 0, none⟩) M.wait.length c2) rfl rfl rfl rfl rfl (fun j τ w' hj hJ => by obtain ⟨L', z⟩ := TJ.st hJ; have c := (rdkO_d z).cell 2; simp at c; simp [rho, upd, Spec.val, execOp, go_sem, c]) ?_
      refine RXl.exact (.int .i64 q) rfl rfl rfl rfl rfl (fun _ _ _ _ _ => rfl) ?_
      refine RXl.exact (.pointer (some ⟨gw, q * 3, none⟩)) rfl rfl rfl rfl rfl (fun j τ w' hj hJ => by simp [rho, upd, Spec.val, execOp, go_sem, hqI, hqc]) ?_
      refine RXl.exact (.pointer (some ⟨gw, q * 3, none⟩)) rfl rfl rfl rfl rfl (fun j τ w' hj hJ => by simp [rho, upd, Spec.val, execOp, go_sem]) ?_
      refine RXl.exact (.int .i64 M.wait[q].slot) rfl rfl rfl rfl rfl (fun j τ w' hj hJ => by obtain ⟨L', z⟩ := TJ.st hJ; have c := (wait_cell (q := q) rfl (by show q < M.wait.length; omega) (rdkO_w z)).1; simp [rho, upd, Spec.val, execOp, go_sem, c]) ?_
      refine RXl.exact (.pointer (some ⟨p, 0, none⟩)) rfl rfl rfl rfl rfl (fun _ _ _ _ _ => rfl) ?_
      refine RXl.exact (.pointer (some ⟨p, 0, none⟩)) rfl rfl rfl rfl rfl (fun j τ w' hj hJ => by simp [rho, upd, Spec.val, execOp, go_sem]) ?_
      refine RXl.exact (.pointer (some ⟨p, 2, none⟩)) rfl rfl rfl rfl rfl (fun j τ w' hj hJ => by simp [rho, upd, Spec.val, execOp, go_sem]) ?_
      refine RXl.exact (.slice (some ⟨gw, 0, none⟩) M.wait.length c2) rfl rfl rfl rfl rfl (fun j τ w' hj hJ => by obtain ⟨L', z⟩ := TJ.st hJ; have c := (rdkO_d z).cell 2; simp at c; simp [rho, upd, Spec.val, execOp, go_sem, c]) ?_
      refine RXl.exact (.int .i64 q) rfl rfl rfl rfl rfl (fun _ _ _ _ _ => rfl) ?_
      refine RXl.exact (.pointer (some ⟨gw, q * 3, none⟩)) rfl rfl rfl rfl rfl (fun j τ w' hj hJ => by simp [rho, upd, Spec.val, execOp, go_sem, hqI, hqc]) ?_
      refine RXl.exact (.pointer (some ⟨gw, q * 3 + 1, none⟩)) rfl rfl rfl rfl rfl (fun j τ w' hj hJ => by simp [rho, upd, Spec.val, execOp, go_sem]) ?_
      refine RXl.exact (str M.wait[q].was) rfl rfl rfl rfl rfl (fun j τ w' hj hJ => by obtain ⟨L', z⟩ := TJ.st hJ; have c := (wait_cell (q := q) rfl (by show q < M.wait.length; omega) (rdkO_w z)).2.1; simp [rho, upd, Spec.val, execOp, go_sem, c]) ?_
      refine RXl.exact (.pointer (some ⟨gs, M.wait[q].slot, none⟩)) rfl rfl rfl rfl rfl (fun j τ w' hj hJ => by simp [rho, upd, Spec.val, execOp, go_sem, hslI, hslc]) ?_
      refine RXl.effj 0 rfl rfl rfl rfl rfl rfl (fun w' hJ => (let z := rdkO_s (show St B w0 w' (rdkO p fv (.slice (some ⟨gs, 0, none⟩) M.slots.length c1) (.slice (some ⟨gw, 0, none⟩) M.wait.length c2) ⟨L, M.live, M.wait⟩ * R) from hJ); ⟨_, exec_store rfl rfl rfl rfl (by kernel_rfl) (slot_cell HLU.out HSL.out z).choose_spec (slot_set HLU.out HSL.out z (str M.wait[q].was)).1, slot_back HLU.out (slot_set HLU.out HSL.out z (str M.wait[q].was)).2⟩)) ?_
      refine RXl.nilx _ (Agr.upd _ _ (Agr.upd _ _ (Agr.upd _ _ (Agr.upd _ _ (Agr.upd _ _ (Agr.upd _ _ (Agr.upd _ _ (Agr.upd _ _ (Agr.upd _ _ (Agr.upd _ _ (Agr.upd _ _ (Agr.upd _ _ (Agr.upd _ _ (Agr.upd _ _ (Agr.upd _ _ (Agr.upd _ _ (Agr.upd _ _ (Agr.upd _ _ (Agr.upd _ _ (Agr.upd _ _ (Agr.upd _ _ (Agr.base _)))))))))))))))))))))) fun w8 hJ => ?_
      obtain ⟨_, hJ⟩ := hJ
      simp only [Act.put, List.setIfInBounds_toArray, List.set_cons_succ, List.set_cons_zero]
      have S8 := Lib.hid (show St B w0 w8 (rdkO p fv (.slice (some ⟨gs, 0, none⟩) M.slots.length c1) (.slice (some ⟨gw, 0, none⟩) M.wait.length c2) ⟨undo M.wait M.slots (d + 1), M.live, M.wait⟩ * R) from by rw [HU.out]; exact hJ)
      clear hJ S
      go_wp2_with fail
      go_roundw
      case rel => exact ⟨d + 1, HQD.out.1, by rw [HQD.out.2], S8.out⟩
      case measure => simp [intOf]
    · obtain rfl : d = M.wait.length - k := by omega
      have hstop : ¬ (k : Int) ≤ (M.wait.length : Int) - 1 - ((M.wait.length - k : Nat) : Int) := by omega
      have hu96 := undo_96 (S := M.slots) (fun u hu => (HOK.out.wlen u hu).1) HOK.out.len (M.wait.length - k) (by omega)
      have hlu := undo_len M.wait M.slots (M.wait.length - k)
      have HLU := Lib.hid hlu
      have HU96 := Lib.hid hu96
      clear hu96 hlu hd hlt
      generalize undo M.wait M.slots (M.wait.length - k) = L at *
      by_cases hkw : k < M.wait.length
      · have hkI : (k : Int) < (M.wait.length : Int) := by omega
        have hkc : (k : Int) < (c2 : Int) := by omega
        have e : M.wait.getD k ⟨0, [], []⟩ = M.wait[k] := by simp [List.getD_eq_getElem?_getD, hkw]
        have hfin := HCR.out
        rw [if_pos hkw, e] at hfin
        have HF := Lib.hid hfin
        have hsl : M.wait[k].slot < M.slots.length := HOK.out.wslot _ (List.getElem_mem _)
        have hw1 : M.wait[k].was.length = 96 := (HOK.out.wlen _ (List.getElem_mem _)).1
        have hw2 : M.wait[k].now.length = 96 := (HOK.out.wlen _ (List.getElem_mem _)).2
        obtain ⟨gw, cw, hv, -, -, -, -⟩ := (rdkO_w s).rowCells (by show 0 < M.wait.length; omega)
        obtain ⟨ha2, hc2⟩ : a2 = some ⟨gw, 0, none⟩ ∧ c2 = cw := by
          injection hv with e1 e2 e3
          exact ⟨e1, e3⟩
        subst ha2
        obtain ⟨gs, cs, hv2, -, -, -, -⟩ := (rdkO_s s).rowCells (by show 0 < L.length; rw [HLU.out]; omega)
        obtain ⟨ha1, hc1⟩ : a1 = some ⟨gs, 0, none⟩ ∧ c1 = cs := by
          injection hv2 with e1 e2 e3
          exact ⟨e1, e3⟩
        subst ha1
        obtain ⟨t00, t01, t02⟩ := wait_cell (q := k) rfl (by show k < M.wait.length; omega) (rdkO_w s)
        have t0 : wr.cell? ⟨gw, k * 3, none⟩ = some (.int .i64 (M.wait[k].slot : Int)) := t00
        have t1 : wr.cell? ⟨gw, k * 3 + 1, none⟩ = some (str M.wait[k].was) := t01
        have t2 : wr.cell? ⟨gw, k * 3 + 2, none⟩ = some (str M.wait[k].now) := t02
        clear s hv hv2 hfin e t00 t01 t02 HCR
        generalize M.wait[k] = u at *
        obtain ⟨us, uw, un⟩ := u
        simp only at hsl hw1 hw2 t0 t1 t2 HF
        have hslI : (us : Int) < (M.slots.length : Int) := by omega
        have hslc : (us : Int) < (c1 : Int) := by omega
        have HSL := Lib.hid hsl
        have hcut1 := fun w => run_strTo (P := Try.prog) Try.underlying9 w un .i64 t (by omega)
        have hcut2 := fun w => run_strFrom (P := Try.prog) Try.underlying9 w uw .i64 t (by omega)
        have H1 := Lib.hid hcut1
        have H2 := Lib.hid hcut2
        have S5 := Lib.hid ((S.out.alloc (.cells #[.int .i64 us, str uw, str un] 95)).eq (Q := rdkO p fv (.slice (some ⟨gs, 0, none⟩) M.slots.length c1) (.slice (some ⟨gw, 0, none⟩) M.wait.length c2) ⟨L, M.live, M.wait⟩ * (pts wr.heap.size (.cells #[.int .i64 us, str uw, str un] 95 (0, 0)) * R)) (by ac_rfl))
        clear S hcut1 hcut2 hsl
        go_wp2_with fail
        generalize wr.heap.size = bx at *
        refine wp_region_rx (TJ B w0 p fv (.slice (some ⟨gs, 0, none⟩) M.slots.length c1) (.slice (some ⟨gw, 0, none⟩) M.wait.length c2) L M.live M.wait us (un.take t ++ uw.drop t) (pts bx (.cells #[.int .i64 us, str uw, str un] 95 (0, 0)) * R)) [16] mixed (by kernel_rfl) (by kernel_rfl) (St.drew S5.out) ?_
        refine RXl.exact (.pointer (some ⟨p, 0, none⟩)) rfl rfl rfl rfl rfl (fun _ _ _ _ _ => rfl) ?_
        refine RXl.exact (.pointer (some ⟨p, 0, none⟩)) rfl rfl rfl rfl rfl (fun j τ w' hj hJ => by simp [rho, upd, Spec.val, execOp, go_sem]) ?_
        refine RXl.exact (.pointer (some ⟨p, 0, none⟩)) rfl rfl rfl rfl rfl (fun j τ w' hj hJ => by simp [rho, upd, Spec.val, execOp, go_sem]) ?_
        refine RXl.exact (.slice (some ⟨gs, 0, none⟩) M.slots.length c1) rfl rfl rfl rfl rfl (fun j τ w' hj hJ => by obtain ⟨L', z⟩ := TJ.st hJ; have c := (rdkO_d z).cell 0; simp at c; simp [rho, upd, Spec.val, execOp, go_sem, c]) ?_
        refine RXl.exact (.pointer (some ⟨bx, 0, none⟩)) rfl rfl rfl rfl rfl (fun j τ w' hj hJ => by simp [rho, upd, Spec.val, execOp, go_sem]) ?_
        refine RXl.exact (.int .i64 us) rfl rfl rfl rfl rfl (fun j τ w' hj hJ => by obtain ⟨L', z⟩ := TJ.st hJ; have c := (z.right).cell 0; simp at c; simp [rho, upd, Spec.val, execOp, go_sem, c]) ?_
        refine RXl.exact (.pointer (some ⟨bx, 2, none⟩)) rfl rfl rfl rfl rfl (fun j τ w' hj hJ => by simp [rho, upd, Spec.val, execOp, go_sem]) ?_
        refine RXl.exact (str un) rfl rfl rfl rfl rfl (fun j τ w' hj hJ => by obtain ⟨L', z⟩ := TJ.st hJ; have c := (z.right).cell 2; simp at c; simp [rho, upd, Spec.val, execOp, go_sem, c]) ?_
        refine RXl.exact (.int .i64 t) rfl rfl rfl rfl rfl (fun _ _ _ _ _ => rfl) ?_
        refine RXl.exact (str (un.take t)) rfl rfl rfl rfl rfl (fun j τ w' hj hJ => exec_slice rfl (H1.out w')) ?_
        refine RXl.exact (.pointer (some ⟨bx, 1, none⟩)) rfl rfl rfl rfl rfl (fun j τ w' hj hJ => by simp [rho, upd, Spec.val, execOp, go_sem]) ?_
        refine RXl.exact (str uw) rfl rfl rfl rfl rfl (fun j τ w' hj hJ => by obtain ⟨L', z⟩ := TJ.st hJ; have c := (z.right).cell 1; simp at c; simp [rho, upd, Spec.val, execOp, go_sem, c]) ?_
        refine RXl.exact (.int .i64 t) rfl rfl rfl rfl rfl (fun _ _ _ _ _ => rfl) ?_
        refine RXl.exact (str (uw.drop t)) rfl rfl rfl rfl rfl (fun j τ w' hj hJ => exec_slice rfl (H2.out w')) ?_
        refine RXl.exact (str (un.take t ++ uw.drop t)) rfl rfl rfl rfl rfl (fun j τ w' hj hJ => by simp [rho, upd, Spec.val, execOp, go_sem, str, hw1, hw2]; rw [if_neg (by omega)]; rfl) ?_
        refine RXl.exact (.pointer (some ⟨gs, us, none⟩)) rfl rfl rfl rfl rfl (fun j τ w' hj hJ => by simp [rho, upd, Spec.val, execOp, go_sem, hslI, hslc]) ?_
        refine RXl.effj 0 rfl rfl rfl rfl rfl rfl (fun w' hJ => (let z := rdkO_s (show St B w0 w' (rdkO p fv (.slice (some ⟨gs, 0, none⟩) M.slots.length c1) (.slice (some ⟨gw, 0, none⟩) M.wait.length c2) ⟨L, M.live, M.wait⟩ * (pts bx (.cells #[.int .i64 us, str uw, str un] 95 (0, 0)) * R)) from hJ); ⟨_, exec_store rfl rfl rfl rfl (by kernel_rfl) (slot_cell HLU.out HSL.out z).choose_spec (slot_set HLU.out HSL.out z (str (un.take t ++ uw.drop t))).1, slot_back HLU.out (slot_set HLU.out HSL.out z (str (un.take t ++ uw.drop t))).2⟩)) ?_
        refine RXl.nilx _ (Agr.upd _ _ (Agr.upd _ _ (Agr.upd _ _ (Agr.upd _ _ (Agr.upd _ _ (Agr.upd _ _ (Agr.upd _ _ (Agr.upd _ _ (Agr.upd _ _ (Agr.upd _ _ (Agr.upd _ _ (Agr.upd _ _ (Agr.upd _ _ (Agr.upd _ _ (Agr.upd _ _ (Agr.upd _ _ (Agr.base _))))))))))))))))) fun w8 hJ => ?_
        obtain ⟨_, hJ⟩ := hJ
        simp only [Act.put, List.setIfInBounds_toArray, List.set_cons_succ, List.set_cons_zero]
        have S8 := Lib.hid ((show St B w0 w8 (rdkO p fv (.slice (some ⟨gs, 0, none⟩) M.slots.length c1) (.slice (some ⟨gw, 0, none⟩) M.wait.length c2) ⟨L.set us (un.take t ++ uw.drop t), M.live, M.wait⟩ * (pts bx (.cells #[.int .i64 us, str uw, str un] 95 (0, 0)) * R)) from hJ).eq (Q := pts bx (.cells #[.int .i64 us, str uw, str un] 95 (0, 0)) * (rdkO p fv (.slice (some ⟨gs, 0, none⟩) M.slots.length c1) (.slice (some ⟨gw, 0, none⟩) M.wait.length c2) ⟨L.set us (un.take t ++ uw.drop t), M.live, M.wait⟩ * R)) (by ac_rfl)).right
        clear hJ S5 t0 t1 t2 d2
        have e2 := (rdkO_d S8.out).cell 2
        have f2 := (rdkO_d S8.out).free 2
        simp at e2
        go_wp2_with fail
        go_end0
        rw [HF.out]
        refine ⟨rfl, fin_wait (by rw [List.length_set, HLU.out]; exact HOK.out.few) ?_ S8.out⟩
        intro b hb
        rcases List.mem_or_eq_of_mem_set hb with h | rfl
        · exact HU96.out _ h
        · rw [List.length_append, List.length_take, List.length_drop]; omega
      · have hfin := HCR.out
        rw [if_neg hkw] at hfin
        have HF := Lib.hid hfin
        have hkI : ¬ (k : Int) < (M.wait.length : Int) := by omega
        have f2 := (rdkO_d s).free 2
        clear s hfin HCR
        go_wp2_with fail
        go_end0
        rw [HF.out]
        exact ⟨rfl, fin_wait (by rw [HLU.out]; exact HOK.out.few) HU96.out S.out⟩
end
end Go.Proofs.Yteikpbangjpilaa.DskR
