/- Package bay, walked: Used, Free. No condition. -/
import Derived.Test.YtmilfilmhkpjoaaBayW
import Derived.Test.YtmilfilmhkpjoaaRey
namespace Go.Proofs.Ytmilfilmhkpjoaa.BayW
open Go Go.RowKit Go.Proofs.Ytmilfilmhkpjoaa Go.Proofs.Ytmilfilmhkpjoaa.Sp Go.Proofs.Ytmilfilmhkpjoaa.Reg Go.Proofs.Ytmilfilmhkpjoaa.SlW Go.Proofs.Ytmilfilmhkpjoaa.Fus Go.Proofs.Ytmilfilmhkpjoaa.Rd Go.Proofs.Ytmilfilmhkpjoaa.DskW
/-- The slots that are used, of the first so many. -/
def usd (us : List Bool) (n : Nat) : List Int := ((List.range n).filter fun k => us.getD k false).map fun k : Nat => (k : Int)
theorem usd_yes {us : List Bool} {k : Nat} (h : us.getD k false = true) : usd us (k + 1) = usd us k ++ [(k : Int)] := by
  unfold usd
  rw [List.range_succ, List.filter_append, List.map_append, List.filter_cons, if_pos h, List.filter_nil]
  rfl
theorem usd_no {us : List Bool} {k : Nat} (h : us.getD k false = false) : usd us (k + 1) = usd us k := by
  unfold usd
  rw [List.range_succ, List.filter_append, List.map_append, List.filter_cons, if_neg (by rw [h]; decide), List.filter_nil]
  exact List.append_nil _
theorem usd_le (us : List Bool) (n : Nat) : (usd us n).length ≤ n := by
  unfold usd
  rw [List.length_map]
  refine Nat.le_trans (List.length_filter_le _ _) ?_
  rw [List.length_range]
  exact Nat.le_refl _
section
variable {B : Nat} {w0 : World} {R : HP}
/-- What Used hands back. -/
def UsP (B : Nat) (w0 : World) (H : HP) (zs : List Int) (e : Ending) (w' : World) : Prop := ∃ v, e = .returned v ∧ St B w0 w' (row 3 1 v zs.length (ivs zs) * H)
set_option maxRecDepth 100000 in
set_option maxHeartbeats 4000000 in
theorem used_calls (b g c : Nat) (p : Value) (us : List Bool) (hl : us.length ≤ 64) (w : World) (s : St B w0 w (bay b p g c us * R)) :
    Calls Try.prog 17 #[.pointer (some ⟨b, 0, none⟩)] w (UsP B w0 (bay b p g c us * R) (usd us us.length)) := by
  obtain ⟨-, c1, -⟩ := bay_cells s
  have s0 := s.rowNil 3 1
  have S := Lib.hid s0
  clear s s0
  go_enter Try.func17, Try.ntmps17
  go_wp2_with fail
  clear c1
  go_loopw [3, 11] (fun v i wr => ∃ (k : Nat) (v' : Value), k ≤ us.length ∧ i = .int .i64 k ∧ v = v' ∧ St B w0 wr (row 3 1 v' (usd us k).length (ivs (usd us k)) * (bay b p g c us * R))) (fun _ i _ => us.length - (intOf i).toNat)
  case atStart => exact ⟨0, _, Nat.zero_le _, rfl, rfl, S.out⟩
  case round =>
    obtain ⟨k, v, hk, rfl, rfl, s⟩ := hrel
    clear S
    obtain ⟨av, cv, rfl, -⟩ := s.rowSlice
    by_cases hlt : k < us.length
    · obtain ⟨-, -, c2, -⟩ := bay_cells (s.eq (sep_left_comm _ _ _))
      have c3 := c2 k hlt
      have h2 : (k : Int) < (us.length : Int) := by omega
      clear c2
      cases hu : us.getD k false with
      | false =>
        rw [hu] at c3
        simp only [uz, if_false, Bool.false_eq_true] at c3
        rw [← usd_no hu] at s
        have HL := Lib.hid (usd_no hu)
        have S := Lib.hid s
        clear s hu
        rw [← HL.out]
        go_wp2_with fail
        go_roundw
        case rel => exact ⟨k + 1, _, by omega, by go_num, rfl, S.out⟩
        case measure => simp [intOf]; omega
      | true =>
        rw [hu] at c3
        simp only [uz, if_true] at c3
        have HL := Lib.hid (usd_yes hu)
        have S := Lib.hid s
        clear s hu
        have hbd := usd_le us k
        obtain ⟨m, hm⟩ : ∃ m, (usd us k).length = m := ⟨_, rfl⟩
        rw [hm] at S hbd
        have S4 := Lib.hid ((S.out.alloc (.cells #[.int .i64 (k : Int)] 3)).eq (Q := row 3 1 (.slice av m cv) m (ivs (usd us k)) * (pts wr.heap.size (.cells #[.int .i64 (k : Int)] 3) * (bay b p g c us * R))) (sep_left_comm _ _ _))
        have hrd := Lib.hid (Rd.new wr #[.int .i64 (k : Int)] 3)
        have HX := Lib.hid (show ivs (usd us k) ++ [.int .i64 (k : Int)] = ivs (usd us (k + 1)) from by rw [HL.out]; simp [ivs])
        have HM := Lib.hid (show (usd us (k + 1)).length = m + 1 from by rw [HL.out, List.length_append, hm]; rfl)
        rw [hm]
        clear S hm
        go_wp2_with (at_builtin; go_must (refine wpl_append rfl _ _ rfl tI S4.out (some ⟨wr.heap.size, 0, none⟩) 1 1 [.int .i64 (k : Int)] rfl rfl hrd.out (fun e => by cases e) (by simp) (by simp [Value.oneCell']) (by unfold maxLen; omega) (by omega) ?_); intro v5 w5 s5 _; rw [HX.out, ← HM.out] at s5; have S6 := Lib.hid (s5.eq (Q := row 3 1 v5 (usd us (k + 1)).length (ivs (usd us (k + 1))) * (bay b p g c us * R) * _) (by rw [show ∀ a b c : HP, a * (b * c) = a * c * b from fun a b c => by ac_rfl])).left; clear s5)
        go_roundw
        case rel => exact ⟨k + 1, _, by omega, by go_num, rfl, S6.out⟩
        case measure => simp [intOf]; omega
    · obtain rfl : k = us.length := by omega
      have S := Lib.hid s
      clear s
      go_wp2_with fail
      go_ret
      exact ⟨_, rfl, S.out⟩
/-- What is drawn in Free: the row that Used makes. -/
def FF (n : Nat) (_ : Nat) (a : Option Addr × Nat) : Value := .slice a.1 n a.2
def FH (zs : List Int) (X : HP) (_ : Nat) (a : Option Addr × Nat) : HP := row 3 1 (.slice a.1 zs.length a.2) zs.length (ivs zs) * X
theorem FH_y {zs : List Int} {X : HP} (j : Nat) (a : Option Addr × Nat) : ∃ Z, FH zs X j a = X * Z := ⟨_, sep_comm _ _⟩
set_option maxRecDepth 100000 in
set_option maxHeartbeats 4000000 in
theorem free_calls (b g c : Nat) (p : Value) (us : List Bool) (hl : us.length ≤ 64) (w : World) (s : St B w0 w (bay b p g c us * R)) :
    Calls Try.prog 16 #[.pointer (some ⟨b, 0, none⟩)] w (RetS B w0 (bay b p g c us * R) (.int .i64 ((us.length : Int) - ((usd us us.length).length : Int)))) := by
  have hle := usd_le us us.length
  have LC := Lib.hid fun (j : Nat) (vs : Nat → Value) (w' : World) (h : PJ B w0 (bay b p g c us * R) (FF (usd us us.length).length) (FH (usd us us.length) (bay b p g c us * R)) j vs w') =>
    show _ from by
      obtain ⟨Z, ⟨Z', rfl⟩, s⟩ := PJ.any (Y := fun Z => ∃ Z', Z = (bay b p g c us * R) * Z') ⟨emp, (sep_emp _).symm⟩ FH_y h
      exact (bay_cells (s.eq (sep_assoc _ _ _))).2.1
  have S := Lib.hid s
  clear s
  go_enter Try.func16, Try.ntmps16
  go_wp2_with fail
  refine wp_region_rv [9] (PJ B w0 (bay b p g c us * R) (FF (usd us us.length).length) (FH (usd us us.length) (bay b p g c us * R))) [6] mixed (by kernel_rfl) (by kernel_rfl) (by kernel_rfl) (fun _ => S.out.drew) ?_
  refine RXl.exact (.pointer (some ⟨b, 0, none⟩)) rfl rfl rfl rfl rfl (fun _ _ _ _ _ => rfl) ?_
  refine RXl.exact (.pointer (some ⟨b, 0, none⟩)) rfl rfl rfl rfl rfl (fun j τ w' hj hJ => (by obtain ⟨vs, hv, hJ⟩ := hJ; exact (by simp [rho, upd, Spec.val, execOp, go_sem]))) ?_
  refine RXl.exact (.pointer (some ⟨b, 1, none⟩)) rfl rfl rfl rfl rfl (fun j τ w' hj hJ => (by obtain ⟨vs, hv, hJ⟩ := hJ; exact (by simp [rho, upd, Spec.val, execOp, go_sem]))) ?_
  refine RXl.exact (.slice (some ⟨g, 0, none⟩) us.length c) rfl rfl rfl rfl rfl (fun j τ w' hj hJ => (by obtain ⟨vs, hv, hJ⟩ := hJ; exact (by have c := LC.out _ _ _ hJ; simp [rho, upd, Spec.val, execOp, go_sem, c]))) ?_
  refine RXl.exact (.int .i64 (us.length : Int)) rfl rfl rfl rfl rfl (fun j τ w' hj hJ => (by obtain ⟨vs, hv, hJ⟩ := hJ; exact (by simp [rho, upd, Spec.val, execOp, go_sem]))) ?_
  refine RXl.exact (.pointer (some ⟨b, 0, none⟩)) rfl rfl rfl rfl rfl (fun _ _ _ _ _ => rfl) ?_
  refine RXl.callV 0 9 rfl rfl rfl (Nat.le_of_ble_eq_true rfl) _ [.tmp 8] _ rfl rfl rfl rfl rfl (PJ.first [.pointer (some ⟨b, 0, none⟩)] (fun ρ w hag => by simp [hag.ex 8 _ rfl rfl rfl]) (fun _ => rfl) (fun w s => (used_calls b g c p us hl w s).mono fun e w1 ⟨v, h1, s1⟩ => by obtain ⟨a, cc, rfl, -⟩ := s1.rowSlice; exact ⟨(a, cc), h1, s1⟩)) ?_
  refine RXl.value (.ex (.int .i64 ((usd us us.length).length : Int))) (Free.ex _) rfl rfl rfl rfl (fun ρ w' j hj hI hag => ⟨_, (by obtain ⟨a, e⟩ := PJ.val (hag.so 9 _ rfl rfl rfl); simp [execOp, go_sem, e, FF]), rfl⟩) ?_
  refine RXl.exact (.int .i64 ((us.length : Int) - ((usd us us.length).length : Int))) rfl rfl rfl rfl rfl (fun j τ w' hj hJ => (by obtain ⟨vs, hv, hJ⟩ := hJ; exact (by have c : IntKind.i64.wrap ((us.length : Int) - ((usd us us.length).length : Int)) = (us.length : Int) - ((usd us us.length).length : Int) := (by rw [IntKind.wrap_i64]; omega); simp [rho, upd, Spec.val, execOp, go_sem, c]))) ?_
  refine RXl.exact (.int .i64 ((us.length : Int) - ((usd us us.length).length : Int))) rfl rfl rfl rfl rfl (fun _ _ _ _ _ => rfl) ?_
  refine RXl.nilV _ (AgrL.upd _ _ (AgrL.upd _ _ (AgrL.upd _ _ (AgrL.unk 9 _ rfl (AgrL.upd _ _ (AgrL.upd _ _ (AgrL.upd _ _ (AgrL.upd _ _ (AgrL.upd _ _ (AgrL.upd _ _ (AgrL.base _))))))))))) (by decide) (by decide) fun vs w8 hJ => ?_
  simp only [puts, Act.put, List.setIfInBounds_toArray, List.set_cons_succ, List.set_cons_zero]
  obtain ⟨a, hv, s9⟩ := hJ
  rw [show vs 0 = FF (usd us us.length).length 0 a from hv 0 (by decide)]
  clear S LC hv
  have S := Lib.hid (show St B w0 w8 (bay b p g c us * R) from St.right s9)
  clear s9
  go_wp2_with fail
  go_ret
  exact ⟨rfl, S.out⟩
end
end Go.Proofs.Ytmilfilmhkpjoaa.BayW
