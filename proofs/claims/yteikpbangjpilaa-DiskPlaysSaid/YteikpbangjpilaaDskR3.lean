/- The document's disk, walked: Replace, NewDisk. No condition. -/
import Derived.Test.YteikpbangjpilaaDskR2
set_option linter.unusedSimpArgs false
set_option linter.unusedVariables false
namespace Go.Proofs.Yteikpbangjpilaa.DskR
open Go Go.RowKit Go.Proofs.Yteikpbangjpilaa Go.Proofs.Yteikpbangjpilaa.Sp Go.Proofs.Yteikpbangjpilaa.Reg Go.Proofs.Yteikpbangjpilaa.SlW Go.Proofs.Yteikpbangjpilaa.Fus Go.Proofs.Yteikpbangjpilaa.TapR Go.Proofs.Yteikpbangjpilaa.DskN Go.Proofs.Yteikpbangjpilaa.DskW
section
variable {B : Nat} {w0 w : World} {R : HP} {p : Nat} {fv : Value} {M : Rk}
theorem blank_set (L : List (List UInt8)) (b : List UInt8) (k : Nat) (hk : k < L.length) : (List.replicate k b ++ L.drop k).set k b = List.replicate (k + 1) b ++ L.drop (k + 1) := by
  rw [List.set_append_right _ _ (by simp), List.length_replicate, Nat.sub_self, List.drop_eq_getElem_cons hk, List.set_cons_zero, List.replicate_succ', List.append_assoc]
  rfl
/-- Where d.Slots[i] = Blank() stands. -/
def BJ (B : Nat) (w0 : World) (p : Nat) (fv sv wv : Value) (L : List (List UInt8)) (k : Nat) (x : List UInt8) (R : HP) (j : Nat) (w : World) : Prop := match j with
  | 0 => St B w0 w (rdkO p fv sv wv ⟨L, true, []⟩ * R)
  | _ => St B w0 w (rdkO p fv sv wv ⟨L.set k x, true, []⟩ * R)
theorem BJ.d {sv wv : Value} {L : List (List UInt8)} {k : Nat} {x : List UInt8} : ∀ {j : Nat} {w : World}, BJ B w0 p fv sv wv L k x R j w → ∃ Z, St B w0 w (pts p (.cells #[sv, .bool true, wv, fv] 75 (0, 0)) * Z)
  | 0, _, h => ⟨_, rdkO_d h⟩
  | _ + 1, _, h => ⟨_, rdkO_d (show St B w0 _ (rdkO p fv sv wv ⟨L.set k x, true, []⟩ * R) from h)⟩
theorem BJ.keep {sv wv : Value} {L : List (List UInt8)} {k : Nat} {x : List UInt8} : ∀ {j : Nat} {w w' : World}, BJ B w0 p fv sv wv L k x R j w → Add w w' → BJ B w0 p fv sv wv L k x R j w'
  | 0, _, _, h, a => St.keep h a
  | _ + 1, _, _, h, a => St.keep (show St B w0 _ (rdkO p fv sv wv ⟨L.set k x, true, []⟩ * R) from h) a
section
variable {g n c k : Nat} {L : List (List UInt8)} {Y : HP}
theorem slot_cell (hL : L.length = n) (hk : k < n) (z : St B w0 w (row 9 1 (.slice (some ⟨g, 0, none⟩) n c) L.length (L.map str) * Y)) : ∃ u, w.cell? ⟨g, k, none⟩ = some u := by
  obtain ⟨g', c', hv, -, -, -, hcl⟩ := z.rowCells (by omega)
  cases hv
  refine ⟨str (L[k]'(by omega)), (hcl k (by omega)).trans ?_⟩
  rw [List.getElem?_map, List.getElem?_eq_getElem (by omega)]
  rfl
theorem slot_set (hL : L.length = n) (hk : k < n) (z : St B w0 w (row 9 1 (.slice (some ⟨g, 0, none⟩) n c) L.length (L.map str) * Y)) (v : Value) :
    w.frozen? ⟨g, k, none⟩ = false ∧ St B w0 (w.setCell ⟨g, k, none⟩ v) (row 9 1 (.slice (some ⟨g, 0, none⟩) n c) L.length ((L.map str).set k v) * Y) := by
  subst hL
  exact row_set z (by omega) v
theorem slot_back {wv : Value} {x : List UInt8} {lv : Bool} {W : List Wt} {w' : World} (hL : L.length = n)
    (z : St B w0 w' (row 9 1 (.slice (some ⟨g, 0, none⟩) n c) L.length ((L.map str).set k (str x)) * (pts p (.cells #[.slice (some ⟨g, 0, none⟩) n c, .bool lv, wv, fv] 75 (0, 0)) * (row 95 3 wv W.length (W.flatMap wtC) * R)))) :
    St B w0 w' (rdkO p fv (.slice (some ⟨g, 0, none⟩) n c) wv ⟨L.set k x, lv, W⟩ * R) := z.eq (by
  unfold rdkO
  simp only [List.length_set, List.map_set]
  ac_rfl)
end
set_option maxRecDepth 100000 in
set_option maxHeartbeats 4000000 in
theorem rdreplace_calls (w : World) (s : St B w0 w (rdk p fv M * R)) : Calls Try.prog 53 #[.pointer (some ⟨p, 0, none⟩)] w (RetS B w0 (rdk p fv (rkReplace M) * R) (.tuple #[])) := by
  obtain ⟨a1, c1, a2, c2, hok, h1, h2, h3, h4, s1⟩ := rdk_open s
  have d0 := (rdkO_d s1).cell 0
  have d1 := (rdkO_d s1).cell 1
  have d2 := (rdkO_d s1).cell 2
  have f1 := (rdkO_d s1).free 1
  have f2 := (rdkO_d s1).free 2
  simp at d0 d1 d2
  have s2 := ((rdkO_d s1).set 1 (.bool true)).set 2 (.slice none 0 0)
  have s3 := s2.eq (Q := row 95 3 (.slice a2 M.wait.length c2) M.wait.length (M.wait.flatMap wtC) * (pts p (.cells #[.slice a1 M.slots.length c1, .bool true, .slice none 0 0, fv] 75 (0, 0)) * (row 9 1 (.slice a1 M.slots.length c1) M.slots.length (M.slots.map str) * R))) (by
    show pts p (.cells #[.slice a1 M.slots.length c1, .bool true, .slice none 0 0, fv] 75 (0, 0)) * _ = _
    ac_rfl)
  have s4 := (s3.right.rowNil 95 3).eq (Q := rdkO p fv (.slice a1 M.slots.length c1) (.slice none 0 0) ⟨M.slots, true, []⟩ * R) (by unfold rdkO; simp only [List.length_nil, List.flatMap_nil]; ac_rfl)
  have S4 := Lib.hid s4
  have HOK := Lib.hid hok
  have hml : M.slots.length ≤ 9223372036854775807 := by have := hok.few; omega
  clear s s1 s2 s3 s4 hok h3 h4
  go_enter Try.func53, Try.ntmps53
  go_wp2_with fail
  go_loopw [2] (fun i wr => ∃ k : Nat, k ≤ M.slots.length ∧ i = .int .i64 k ∧ St B w0 wr (rdkO p fv (.slice a1 M.slots.length c1) (.slice none 0 0) ⟨List.replicate k blk0 ++ M.slots.drop k, true, []⟩ * R)) (fun i => fun _ => M.slots.length - (intOf i).toNat)
  case atStart => exact ⟨0, Nat.zero_le _, rfl, S4.out⟩
  case round =>
    obtain ⟨k, hk, rfl, s⟩ := hrel
    clear S4 d0 d1 d2 f1 f2
    have d0 := (rdkO_d s).cell 0
    simp at d0
    have hL : (List.replicate k blk0 ++ M.slots.drop k).length = M.slots.length := by simp; omega
    by_cases hlt : k < M.slots.length
    · have hltI : (k : Int) < (M.slots.length : Int) := by omega
      have hset := blank_set M.slots blk0 k hlt
      generalize List.replicate k blk0 ++ M.slots.drop k = L at *
      have hkc : (k : Int) < (c1 : Int) := by omega
      obtain ⟨g, c, hv, -, -, -, -⟩ := (rdkO_s s).rowCells (by show 0 < L.length; omega)
      obtain ⟨ha1, hc1⟩ : a1 = some ⟨g, 0, none⟩ ∧ c1 = c := by
        simp at hv
        exact ⟨hv.1, hv.2.2⟩
      subst ha1
      have S := Lib.hid s
      have HS := Lib.hid hset
      have HL := Lib.hid hL
      clear s hset hv hL
      go_wp2_with fail
      refine wp_region_rx (BJ B w0 p fv (.slice (some ⟨g, 0, none⟩) M.slots.length c1) (.slice none 0 0) L k blk0 R) [7] mixed (by kernel_rfl) (by kernel_rfl) (St.drew S.out) ?_
      refine RXl.exact (.pointer (some ⟨p, 0, none⟩)) rfl rfl rfl rfl rfl (fun _ _ _ _ _ => rfl) ?_
      refine RXl.exact (.pointer (some ⟨p, 0, none⟩)) rfl rfl rfl rfl rfl (fun j τ w' hj hJ => by simp [rho, upd, Spec.val, execOp, go_sem]) ?_
      refine RXl.exact (.pointer (some ⟨p, 0, none⟩)) rfl rfl rfl rfl rfl (fun j τ w' hj hJ => by simp [rho, upd, Spec.val, execOp, go_sem]) ?_
      refine RXl.exact (.slice (some ⟨g, 0, none⟩) M.slots.length c1) rfl rfl rfl rfl rfl (fun j τ w' hj hJ => by obtain ⟨Z, z⟩ := BJ.d hJ; have c := z.cell 0; simp at c; simp [rho, upd, Spec.val, execOp, go_sem, c]) ?_
      refine RXl.exact (.int .i64 k) rfl rfl rfl rfl rfl (fun _ _ _ _ _ => rfl) ?_
      refine RXl.callr (str blk0) _ [] [] _ rfl rfl rfl rfl rfl rfl (fun _ => rfl) (fun j τ w' hj hJ => (DskL.blank_calls w').mono fun _ _ h => ⟨h.1, BJ.keep hJ h.2⟩) ?_
      refine RXl.exact (.pointer (some ⟨g, k, none⟩)) rfl rfl rfl rfl rfl (fun j τ w' hj hJ => by simp [rho, upd, Spec.val, execOp, go_sem, hltI, hkc]) ?_
      refine RXl.effj 0 rfl rfl rfl rfl rfl rfl (fun w' hJ => (let z := rdkO_s (show St B w0 w' (rdkO p fv (.slice (some ⟨g, 0, none⟩) M.slots.length c1) (.slice none 0 0) ⟨L, true, []⟩ * R) from hJ); ⟨_, exec_store rfl rfl rfl rfl (by kernel_rfl) (slot_cell HL.out hlt z).choose_spec (slot_set HL.out hlt z (str blk0)).1, slot_back HL.out (slot_set HL.out hlt z (str blk0)).2⟩)) ?_
      refine RXl.nilx _ (Agr.upd _ _ (Agr.upd _ _ (Agr.upd _ _ (Agr.upd _ _ (Agr.upd _ _ (Agr.upd _ _ (Agr.upd _ _ (Agr.base _)))))))) fun w8 hJ => ?_
      obtain ⟨_, hJ⟩ := hJ
      simp only [Act.put, List.setIfInBounds_toArray, List.set_cons_succ, List.set_cons_zero]
      have S8 := Lib.hid (show St B w0 w8 (rdkO p fv (.slice (some ⟨g, 0, none⟩) M.slots.length c1) (.slice none 0 0) ⟨L.set k blk0, true, []⟩ * R) from hJ)
      clear hJ S
      go_wp2_with fail
      go_roundw
      case rel => exact ⟨k + 1, by omega, by go_num, by rw [← HS.out]; exact S8.out⟩
      case measure => simp [intOf]; omega
    · obtain rfl : k = M.slots.length := by omega
      have hnl : ¬ (M.slots.length : Int) < (M.slots.length : Int) := by omega
      rw [List.drop_of_length_le (Nat.le_refl _), List.append_nil] at s
      have S := Lib.hid s
      clear s hL
      go_wp2_with fail
      go_end0
      refine ⟨rfl, rdk_mk (sv := .slice a1 M.slots.length c1) (wv := .slice none 0 0) ⟨by unfold rkReplace; simpa using HOK.out.few, ?_, by unfold rkReplace; simp, by unfold rkReplace; simp, by unfold rkReplace; simp⟩ S.out⟩
      intro b hb
      rw [List.eq_of_mem_replicate hb]
      rfl
end
end Go.Proofs.Yteikpbangjpilaa.DskR
