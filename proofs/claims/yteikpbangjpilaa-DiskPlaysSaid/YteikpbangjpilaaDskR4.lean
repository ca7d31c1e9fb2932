/- The document's disk, walked: NewDisk, Rot. No condition. -/
import Derived.Test.YteikpbangjpilaaDskR3
set_option linter.unusedSimpArgs false
set_option linter.unusedVariables false
namespace Go.Proofs.Yteikpbangjpilaa.DskR
open Go Go.RowKit Go.Proofs.Yteikpbangjpilaa Go.Proofs.Yteikpbangjpilaa.Sp Go.Proofs.Yteikpbangjpilaa.Reg Go.Proofs.Yteikpbangjpilaa.SlW Go.Proofs.Yteikpbangjpilaa.Fus Go.Proofs.Yteikpbangjpilaa.TapR Go.Proofs.Yteikpbangjpilaa.DskN Go.Proofs.Yteikpbangjpilaa.DskW
section
variable {B : Nat} {w0 w : World} {R : HP} {p : Nat} {fv : Value} {M : Rk}
/-- Where d.Slots = append(d.Slots, Blank()) stands. -/
def NJ (B : Nat) (w0 : World) (p : Nat) (fv sv wv : Value) (L : List (List UInt8)) (R : HP) (j : Nat) (vs : Nat → Value) (w : World) : Prop := match j with
  | 0 => St B w0 w (rdkO p fv sv wv ⟨L, true, []⟩ * R)
  | 1 => vs 0 = str blk0 ∧ St B w0 w (rdkO p fv sv wv ⟨L, true, []⟩ * R)
  | 2 => ∃ g, vs 1 = .slice (some ⟨g, 0, none⟩) 1 1 ∧ St B w0 w (pts g (.cells #[str blk0] 9 (0, 0)) * (rdkO p fv sv wv ⟨L, true, []⟩ * R))
  | 3 => ∃ sv', vs 2 = sv' ∧ sv'.oneCell' = true ∧ St B w0 w (pts p (.cells #[sv, .bool true, wv, fv] 75 (0, 0)) * (row 9 1 sv' (L.length + 1) (L.map str ++ [str blk0]) * (row 95 3 wv 0 [] * R)))
  | _ => ∃ sv', St B w0 w (pts p (.cells #[sv', .bool true, wv, fv] 75 (0, 0)) * (row 9 1 sv' (L.length + 1) (L.map str ++ [str blk0]) * (row 95 3 wv 0 [] * R)))
section
variable {sv wv : Value} {L : List (List UInt8)}
theorem NJ.d : ∀ {j : Nat} {vs : Nat → Value} {w : World}, j < 4 → NJ B w0 p fv sv wv L R j vs w → ∃ Z, St B w0 w (pts p (.cells #[sv, .bool true, wv, fv] 75 (0, 0)) * Z)
  | 0, _, _, _, h => ⟨_, rdkO_d h⟩
  | 1, _, _, _, ⟨_, h⟩ => ⟨_, rdkO_d h⟩
  | 2, _, _, _, ⟨_, _, h⟩ => ⟨_, rdkO_d h.right⟩
  | 3, _, _, _, ⟨_, _, _, h⟩ => ⟨_, h⟩
  | j + 4, _, _, hj, _ => absurd hj (by omega)
theorem tSS : SlT Try.prog 72 9 1 16 (.string ⟨#[]⟩) := ⟨Try.underlying72, info_parts (by kernel_rfl), rfl, by decide⟩
theorem NJ.blank {vs : Nat → Value} {w : World} {ρ : Operand → Value} (hJ : NJ B w0 p fv sv wv L R 0 vs w) :
    ∃ args, ([] : List Operand).map ρ = args ∧ (callFunc 41 args.toArray).run Try.prog w = .ok (.enter 41 args.toArray) w ∧ Calls Try.prog 41 args.toArray w fun e w' => ∃ v, e = .returned v ∧ NJ B w0 p fv sv wv L R 1 (updv vs 0 v) w' := by
  refine ⟨[], rfl, rfl, (DskL.blank_calls w).mono ?_⟩
  rintro e w' ⟨rfl, a⟩
  exact ⟨_, rfl, by simp [updv], St.keep hJ a⟩
theorem NJ.lit {ρ : Operand → Value} {o : Oper} {vs : Nat → Value} {w : World} {q : Operand} (hop : o.op = .buildSlice 72 1 #[(0, q)]) (hq : ρ q = vs 0) (hJ : NJ B w0 p fv sv wv L R 1 vs w) :
    ∃ v w', (execOp ρ o).run Try.prog w = .ok (.value v) w' ∧ NJ B w0 p fv sv wv L R 2 (updv vs 1 v) w' := by
  obtain ⟨e, h⟩ := hJ
  refine ⟨.slice (some ⟨w.heap.size, 0, none⟩) 1 1, w.alloc (.cells #[str blk0] 9), ?_, w.heap.size, by simp [updv], h.alloc _⟩
  simp [execOp, hop, hq, e, go_sem, str]
theorem NJ.app {ρ : Operand → Value} {o : Oper} {vs : Nat → Value} {w : World} {q q2 : Operand} (hop : o.op = .call { callee := .builtin .append, args := #[q, q2], argTypes := #[72, 72] })
    (hx : ρ q = sv) (hy : ρ q2 = vs 1) (hl : L.length ≤ 1000) (hJ : NJ B w0 p fv sv wv L R 2 vs w) :
    ∃ v w', (execOp ρ o).run Try.prog w = .ok (.value v) w' ∧ NJ B w0 p fv sv wv L R 3 (updv vs 2 v) w' := by
  obtain ⟨g, e, h⟩ := hJ
  have hrd : Rd w (some ⟨g, 0, none⟩) [str blk0] := h.rd 0 1
  have s1 := h.eq (Q := row 9 1 sv L.length (L.map str) * (pts g (.cells #[str blk0] 9 (0, 0)) * (pts p (.cells #[sv, .bool true, wv, fv] 75 (0, 0)) * (row 95 3 wv 0 [] * R)))) (by unfold rdkO; simp only [List.length_nil, List.flatMap_nil]; ac_rfl)
  obtain ⟨v', w', hr, s2, -⟩ := run_append_st (P := Try.prog) tSS o.type s1 (some ⟨g, 0, none⟩) 1 1 [str blk0] hrd (fun e => by cases e) rfl (by intro u hu; simp at hu; subst hu; rfl) (by unfold maxLen; omega) (by omega)
  have h1 : v'.oneCell' = true := by
    obtain ⟨a, c, rfl, -⟩ := s2.rowSlice
    rfl
  refine ⟨v', w', ?_, v', by simp [updv], h1, (s2.eq (Q := pts g (.cells #[str blk0] 9 (0, 0)) * (pts p (.cells #[sv, .bool true, wv, fv] 75 (0, 0)) * (row 9 1 v' (L.length + 1) (L.map str ++ [str blk0]) * (row 95 3 wv 0 [] * R)))) (by ac_rfl)).right⟩
  simp [execOp, hop, resolve, invoke, builtin, hx, hy, e, hr, Result.andThen]
theorem NJ.sto {ρ : Operand → Value} {o : Oper} {vs : Nat → Value} {w : World} {q q2 : Operand} (hop : o.op = .store 72 q q2) (hx : ρ q = .pointer (some ⟨p, 0, none⟩)) (hy : ρ q2 = vs 2) (hJ : NJ B w0 p fv sv wv L R 3 vs w) :
    ∃ w', (execOp ρ o).run Try.prog w = .ok .skip w' ∧ NJ B w0 p fv sv wv L R 4 vs w' := by
  obtain ⟨sv', e, h1, h⟩ := hJ
  exact ⟨_, exec_store hop hx (hy.trans e) h1 (by kernel_rfl) (h.cell 0) (h.free 0), sv', h.set 0 sv'⟩
end
set_option maxRecDepth 100000 in
set_option maxHeartbeats 4000000 in
theorem rdnew_calls (n : Int) (x : Option Addr) (w : World) (s : St B w0 w R) :
    Calls Try.prog 48 #[.int .i64 n, .pointer x] w fun e w' => ∃ p, e = .returned (.pointer (some ⟨p, 0, none⟩)) ∧ St B w0 w' (rdk p (.pointer x) (Rk.new n) * R) := by
  have s1 := (s.rowNil 95 3).rowNil 9 1
  have s2 := (s1.alloc (.cells #[.slice none 0 0, .bool true, .slice none 0 0, .pointer x] 75)).eq (Q := rdkO w.heap.size (.pointer x) (.slice none 0 0) (.slice none 0 0) ⟨[], true, []⟩ * R) (by unfold rdkO; simp only [List.length_nil, List.flatMap_nil, List.map_nil]; ac_rfl)
  have S2 := Lib.hid s2
  clear s s1 s2
  obtain ⟨m, hm, hm64⟩ : ∃ m : Nat, m = min n.toNat 64 ∧ m ≤ 64 := ⟨_, rfl, by omega⟩
  have HM := Lib.hid hm
  go_enter Try.func48, Try.ntmps48
  go_wp2_with fail
  go_loopw [6] (fun i wr => ∃ k : Nat, k ≤ m ∧ i = .int .i64 k ∧ ∃ sv, St B w0 wr (rdkO w.heap.size (.pointer x) sv (.slice none 0 0) ⟨List.replicate k blk0, true, []⟩ * R)) (fun i => fun _ => m - (intOf i).toNat)
  case atStart => exact ⟨0, Nat.zero_le _, rfl, _, S2.out⟩
  case round =>
    obtain ⟨k, hk, rfl, sv, s⟩ := hrel
    clear S2
    generalize w.heap.size = p at *
    by_cases hlt : k < m
    · have hi1 : (k : Int) < n := by omega
      have hi2 : (k : Int) < 64 := by omega
      have S := Lib.hid s
      have hL : (List.replicate k blk0).length ≤ 1000 := by rw [List.length_replicate]; omega
      have hrep : List.replicate (k + 1) blk0 = List.replicate k blk0 ++ [blk0] := List.replicate_succ'
      have HREP := Lib.hid hrep
      clear s hrep hm
      generalize List.replicate k blk0 = L at *
      go_wp2_with fail
      refine wp_region_rv [24, 25, 26] (NJ B w0 p (.pointer x) sv (.slice none 0 0) L R) [5, 6, 7, 10] mixed (by kernel_rfl) (by kernel_rfl) rfl (fun _ => St.drew S.out) ?_
      refine RXl.exact (.pointer (some ⟨p, 0, none⟩)) rfl rfl rfl rfl rfl (fun _ _ _ _ _ => rfl) ?_
      refine RXl.exact (.pointer (some ⟨p, 0, none⟩)) rfl rfl rfl rfl rfl (fun _ _ _ _ _ => rfl) ?_
      refine RXl.exact (.pointer (some ⟨p, 0, none⟩)) rfl rfl rfl rfl rfl (fun j τ w' hj hJ => (by obtain ⟨vs, hv, hJ⟩ := hJ; exact (by simp [rho, upd, Spec.val, execOp, go_sem]))) ?_
      refine RXl.exact (.pointer (some ⟨p, 0, none⟩)) rfl rfl rfl rfl rfl (fun j τ w' hj hJ => (by obtain ⟨vs, hv, hJ⟩ := hJ; exact (by simp [rho, upd, Spec.val, execOp, go_sem]))) ?_
      refine RXl.exactB 3 10 rfl (by kernel_rfl) (sv) rfl rfl rfl rfl rfl (fun j τ w' hj hJ => (by obtain ⟨vs, hv, hJ⟩ := hJ; exact (by obtain ⟨Z, z⟩ := NJ.d (by omega) hJ; have c := z.cell 0; simp at c; simp [rho, upd, Spec.val, execOp, go_sem, c]))) ?_
      refine RXl.callV 0 24 rfl rfl rfl (Nat.le_of_ble_eq_true rfl) _ [] _ rfl rfl rfl rfl rfl (fun ρ vs w hv hJ hag => NJ.blank hJ) ?_
      refine RXl.effV 1 25 rfl rfl rfl (Nat.le_of_ble_eq_true rfl) rfl rfl rfl rfl (fun ρ vs w hv hJ hag => NJ.lit rfl (hv 0 24 (by decide) rfl) hJ) ?_
      refine RXl.effV 2 26 rfl rfl rfl (Nat.le_of_ble_eq_true rfl) rfl rfl rfl rfl (fun ρ vs w hv hJ hag => NJ.app rfl (hag.ex 23 _ rfl rfl rfl) (hv 1 25 (by decide) rfl) hL hJ) ?_
      refine RXl.exact (.pointer (some ⟨p, 0, none⟩)) rfl rfl rfl rfl rfl (fun j τ w' hj hJ => (by obtain ⟨vs, hv, hJ⟩ := hJ; exact (by simp [rho, upd, Spec.val, execOp, go_sem]))) ?_
      refine RXl.exact (.pointer (some ⟨p, 0, none⟩)) rfl rfl rfl rfl rfl (fun j τ w' hj hJ => (by obtain ⟨vs, hv, hJ⟩ := hJ; exact (by simp [rho, upd, Spec.val, execOp, go_sem]))) ?_
      refine RXl.effS 3 rfl rfl rfl rfl rfl rfl (fun ρ vs w hv hJ hag => NJ.sto rfl (hag.ex 28 _ rfl rfl rfl) (hv 2 26 (by decide) rfl) hJ) ?_
      refine RXl.nilV _ (AgrL.upd _ _ (AgrL.upd _ _ (AgrL.unk 26 _ rfl (AgrL.unk 25 _ rfl (AgrL.unk 24 _ rfl (AgrL.upd _ _ (AgrL.upd _ _ (AgrL.upd _ _ (AgrL.upd _ _ (AgrL.upd _ _ (AgrL.base _))))))))))) (by decide) (by decide) fun vs w8 hJ => ?_
      simp only [puts, Act.put, List.setIfInBounds_toArray, List.set_cons_succ, List.set_cons_zero]
      obtain ⟨sv', s8⟩ := hJ
      have S8 := Lib.hid (show ∃ sv, St B w0 w8 (rdkO p (.pointer x) sv (.slice none 0 0) ⟨List.replicate (k + 1) blk0, true, []⟩ * R) from ⟨sv', s8.eq (by
        rw [HREP.out]
        unfold rdkO
        simp only [List.length_append, List.length_singleton, List.map_append, List.map_cons, List.map_nil, List.length_nil, List.flatMap_nil]
        ac_rfl)⟩)
      clear s8 S
      go_wp2_with fail
      go_roundw
      case rel => exact ⟨k + 1, by omega, by go_num, S8.out⟩
      case measure => simp [intOf]; omega
    · obtain rfl : k = m := by omega
      have S := Lib.hid s
      have hne : ¬ ((k : Int) < n ∧ (k : Int) < 64) := by omega
      have hfin : Rk.new n = ⟨List.replicate k blk0, true, []⟩ := by unfold Rk.new; rw [← hm]
      have HF := Lib.hid hfin
      clear s hfin
      by_cases hi1 : (k : Int) < n
      · have hi2 : ¬ (k : Int) < 64 := by omega
        clear hne hm
        go_wp2_with fail
        go_ret
        rw [HF.out]
        exact ⟨p, rfl, rdk_mk ⟨by simp; omega, by intro b hb; rw [List.eq_of_mem_replicate hb]; rfl, by simp, by simp, by simp⟩ S.out⟩
      · clear hne hm
        go_wp2_with fail
        go_ret
        rw [HF.out]
        exact ⟨p, rfl, rdk_mk ⟨by simp; omega, by intro b hb; rw [List.eq_of_mem_replicate hb]; rfl, by simp, by simp, by simp⟩ S.out⟩
end
end Go.Proofs.Yteikpbangjpilaa.DskR
