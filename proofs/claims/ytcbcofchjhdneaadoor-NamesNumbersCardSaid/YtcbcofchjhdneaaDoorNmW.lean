/- NamesNumbers, walked. -/
import Derived.Test.YtcbcofchjhdneaaDoorRows
import Derived.Test.YtcbcofchjhdneaaDoorRex
import Derived.WalkKit
import Derived.WalkSpells
import Derived.WalkLawsBesides
import Derived.OpenShut
import Derived.Great.BuildSlice
namespace Go.Proofs.YtcbcofchjhdneaaDoor.Nm
open Go Go.RowKit Go.Proofs.YtcbcofchjhdneaaDoor Go.Proofs.YtcbcofchjhdneaaDoor.Sp Go.Proofs.YtcbcofchjhdneaaDoor.Reg
set_option maxRecDepth 100000 in
set_option maxHeartbeats 4000000 in
theorem small20 (w : World) : Calls Tryd.prog 9 #[.int .i64 20] w fun e w' => e = .returned (.string ⟨#[50, 48]⟩) ∧ w' = w := by
  go_enter Tryd.func9, Tryd.ntmps9
  go_wp2_with fail
  go_ret
  exact ⟨by kernel_rfl, rfl⟩
set_option maxRecDepth 100000 in
set_option maxHeartbeats 4000000 in
theorem small0 (w : World) : Calls Tryd.prog 9 #[.int .i64 0] w fun e w' => e = .returned (.string ⟨#[48]⟩) ∧ w' = w := by
  go_enter Tryd.func9, Tryd.ntmps9
  go_wp2_with fail
  go_ret
  exact ⟨by kernel_rfl, rfl⟩
set_option maxRecDepth 100000 in
set_option maxHeartbeats 4000000 in
theorem fmt_small (n : Int) (s : ByteArray) (h0 : 0 ≤ n) (h1 : n < 100) (hs : ∀ w : World, Calls Tryd.prog 9 #[.int .i64 n] w fun e w' => e = .returned (.string s) ∧ w' = w) (w : World) :
    Calls Tryd.prog 8 #[.int .i64 n, .int .i64 10] w fun e w' => e = .returned (.string s) ∧ w' = w := by
  go_enter Tryd.func8, Tryd.ntmps8
  go_wp2_with fail
  refine (hs _).mono ?_
  rintro e w1 ⟨rfl, rfl⟩
  go_wp2_with fail
  go_ret
  exact ⟨rfl, rfl⟩
theorem itoa_small (n : Int) (s : ByteArray) (h0 : 0 ≤ n) (h1 : n < 100) (hs : ∀ w : World, Calls Tryd.prog 9 #[.int .i64 n] w fun e w' => e = .returned (.string s) ∧ w' = w) (w : World) :
    Calls Tryd.prog 7 #[.int .i64 n] w fun e w' => e = .returned (.string s) ∧ w' = w := by
  go_enter Tryd.func7, Tryd.ntmps7
  go_wp2_with fail
  refine (fmt_small n s h0 h1 hs _).mono ?_
  rintro e w1 ⟨rfl, rfl⟩
  go_wp2_with fail
  go_ret
  exact ⟨rfl, rfl⟩
theorem Itoa_small (n : Int) (s : ByteArray) (h0 : 0 ≤ n) (h1 : n < 100) (hs : ∀ w : World, Calls Tryd.prog 9 #[.int .i64 n] w fun e w' => e = .returned (.string s) ∧ w' = w) (w : World) :
    Calls Tryd.prog 6 #[.int .i64 n] w fun e w' => e = .returned (.string s) ∧ w' = w := by
  go_enter Tryd.func6, Tryd.ntmps6
  go_wp2_with fail
  refine (itoa_small n s h0 h1 hs _).mono ?_
  rintro e w1 ⟨rfl, rfl⟩
  go_wp2_with fail
  go_ret
  exact ⟨rfl, rfl⟩
theorem error20 (w : World) : Calls Tryd.prog 5 #[.int .i64 20] w fun e w' => e = .returned (.string ⟨#[101, 114, 114, 111, 114, 32, 50, 48]⟩) ∧ w' = w := by
  go_enter Tryd.func5, Tryd.ntmps5
  go_wp2_with fail
  refine (Itoa_small 20 _ (by omega) (by omega) small20 _).mono ?_
  rintro e w1 ⟨rfl, rfl⟩
  go_wp2_with fail
  go_ret
  exact ⟨by kernel_rfl, rfl⟩
theorem error0 (w : World) : Calls Tryd.prog 5 #[.int .i64 0] w fun e w' => e = .returned (.string ⟨#[101, 114, 114, 111, 114, 32, 48]⟩) ∧ w' = w := by
  go_enter Tryd.func5, Tryd.ntmps5
  go_wp2_with fail
  refine (Itoa_small 0 _ (by omega) (by omega) small0 _).mono ?_
  rintro e w1 ⟨rfl, rfl⟩
  go_wp2_with fail
  go_ret
  exact ⟨by kernel_rfl, rfl⟩
/-- The numbers. -/
def nums : List Nat := [0, 1, 2, 3, 4, 5, 6, 7, 8, 9, 10, 11, 12, 13, 14, 15, 16, 17, 18, 19, 20, 64, 16, 40, 24, 64, 96, 65536, 250, 1000000, 400, 10000, 1, 2, 3, 1, 2, 3, 4, 5, 6, 7, 8, 1, 2, 3, 4, 1, 2, 3, 4, 5, 6, 7, 8, 9, 10, 11, 12, 13, 14, 15, 16, 17, 18]
def cs : Array Value := (nums.flatMap fun n : Nat => [Value.int .i64 (n : Int), Value.int .i64 (n : Int)]).toArray
theorem info_pr : ∃ ie z, Tryd.prog.info? 25 = some ie ∧ ie.zero = some z ∧ ie.size = 2 ∧ z.cells = #[.int .i64 0, .int .i64 0] := by
  have h : ((Tryd.prog.info? 25).bind fun ie => ie.zero.map fun z => (ie.size, z.cells)) = some (2, #[.int .i64 0, .int .i64 0]) := by kernel_rfl
  cases h1 : Tryd.prog.info? 25 with
  | none => rw [h1] at h; cases h
  | some ie =>
    rw [h1] at h
    cases h2 : ie.zero with
    | none => simp [h2] at h
    | some z => simp [h2] at h; exact ⟨ie, z, rfl, h2, h.1, h.2⟩
set_option maxRecDepth 100000 in
set_option maxHeartbeats 4000000 in
theorem all_calls (w : World) : Calls Tryd.prog 4 #[] w fun e w' => e = .returned (.slice (some ⟨w.heap.size, 0, none⟩) 65 65) ∧ w' = w.alloc (.cells cs 25) := by
  obtain ⟨ie, z, h1, h2, h3, h4⟩ := info_pr
  go_enter Tryd.func4, Tryd.ntmps4
  go_wp2_with fail
  refine wp_buildSlice 22 25 65 _ rfl cs ie z Tryd.underlying22 h1 h2 (by rw [h3]; decide) (by rw [h3]; decide) (by rw [h3, h4]; kernel_rfl) ?_
  go_wp2_with fail
  go_ret
  exact ⟨rfl, rfl⟩
theorem fm_at : ∀ (l : List Nat) (k : Nat), k < l.length → (l.flatMap fun n : Nat => [Value.int .i64 (n : Int), Value.int .i64 (n : Int)])[k * 2]? = some (.int .i64 ((l.getD k 0 : Nat) : Int)) ∧ (l.flatMap fun n : Nat => [Value.int .i64 (n : Int), Value.int .i64 (n : Int)])[k * 2 + 1]? = some (.int .i64 ((l.getD k 0 : Nat) : Int))
  | [], k, h => absurd h (Nat.not_lt_zero k)
  | x :: l, 0, _ => ⟨rfl, rfl⟩
  | x :: l, k + 1, h => by
    have q := fm_at l k (Nat.lt_of_succ_lt_succ h)
    rw [show (k + 1) * 2 = k * 2 + 1 + 1 by omega]
    exact q
theorem cs_at {k : Nat} (h : k < 65) : cs[k * 2]? = some (.int .i64 ((nums.getD k 0 : Nat) : Int)) ∧ cs[k * 2 + 1]? = some (.int .i64 ((nums.getD k 0 : Nat) : Int)) := by
  have q := fm_at nums k h
  unfold cs
  rw [List.getElem?_toArray, List.getElem?_toArray]
  exact q
theorem mixed : Tryd.prog.follows .mixedOrders = true := by kernel_rfl
set_option maxRecDepth 100000 in
set_option maxHeartbeats 4000000 in
theorem names_walk (w0 : World) : Calls Tryd.prog 3 #[] w0 fun e w' => e = .returned (.bool true) ∧ Below w0.heap.size w0 w' := by
  go_enter Tryd.func3, Tryd.ntmps3
  go_wp2_with fail
  refine (all_calls w0).mono ?_
  rintro e w1 ⟨rfl, rfl⟩
  have S := Lib.hid ((St.init w0).alloc (.cells cs 25))
  generalize w0.alloc (.cells cs 25) = w1 at *
  have S2 := S
  clear S
  go_wp2_with fail
  go_loopw [2] (fun i wr => ∃ k : Nat, k ≤ 65 ∧ i = .int .i64 k ∧ St w0.heap.size w0 wr (pts w0.heap.size (.cells cs 25) * emp)) (fun i _ => 65 - (intOf i).toNat)
  case atStart => exact ⟨0, Nat.zero_le _, rfl, S2.out⟩
  case round =>
    obtain ⟨k, hk, rfl, s⟩ := hrel
    clear S2
    have S := Lib.hid s
    clear s
    by_cases hlt : k < 65
    · have HC := Lib.hid (cs_at hlt)
      go_wp2_with fail
      refine wp_region_rx (fun _ w' => St w0.heap.size w0 w' (pts w0.heap.size (.cells cs 25) * emp)) [] mixed (by kernel_rfl) (by kernel_rfl) S.out.drew ?_
      refine RXl.exact (.slice (some ⟨w0.heap.size, 0, none⟩) 65 65) rfl rfl rfl rfl rfl (fun _ _ _ _ _ => rfl) ?_
      refine RXl.exact (.int .i64 (k : Int)) rfl rfl rfl rfl rfl (fun _ _ _ _ _ => rfl) ?_
      refine RXl.exact (.pointer (some ⟨w0.heap.size, k * 2, none⟩)) rfl rfl rfl rfl rfl (fun j τ w' hj hJ => by have h9 : (k : Int) < 65 := (by omega); simp [rho, upd, Spec.val, execOp, go_sem, h9]) ?_
      refine RXl.exact (.pointer (some ⟨w0.heap.size, k * 2, none⟩)) rfl rfl rfl rfl rfl (fun j τ w' hj hJ => by simp [rho, upd, Spec.val, execOp, go_sem]) ?_
      refine RXl.exact (.int .i64 ((nums.getD k 0 : Nat) : Int)) rfl rfl rfl rfl rfl (fun j τ w' hj hJ => by have c := St.cell hJ (k * 2); rw [HC.out.1] at c; simp [rho, upd, Spec.val, execOp, go_sem, c]) ?_
      refine RXl.exact (.slice (some ⟨w0.heap.size, 0, none⟩) 65 65) rfl rfl rfl rfl rfl (fun _ _ _ _ _ => rfl) ?_
      refine RXl.exact (.int .i64 (k : Int)) rfl rfl rfl rfl rfl (fun _ _ _ _ _ => rfl) ?_
      refine RXl.exact (.pointer (some ⟨w0.heap.size, k * 2, none⟩)) rfl rfl rfl rfl rfl (fun j τ w' hj hJ => by have h9 : (k : Int) < 65 := (by omega); simp [rho, upd, Spec.val, execOp, go_sem, h9]) ?_
      refine RXl.exact (.pointer (some ⟨w0.heap.size, k * 2 + 1, none⟩)) rfl rfl rfl rfl rfl (fun j τ w' hj hJ => by simp [rho, upd, Spec.val, execOp, go_sem]) ?_
      refine RXl.exact (.int .i64 ((nums.getD k 0 : Nat) : Int)) rfl rfl rfl rfl rfl (fun j τ w' hj hJ => by have c := St.cell hJ (k * 2 + 1); rw [HC.out.2] at c; simp [rho, upd, Spec.val, execOp, go_sem, c]) ?_
      refine RXl.exact (.bool false) rfl rfl rfl rfl rfl (fun j τ w' hj hJ => by simp [rho, upd, Spec.val, execOp, go_sem]) ?_
      refine RXl.nilx _ (Agr.upd _ _ (Agr.upd _ _ (Agr.upd _ _ (Agr.upd _ _ (Agr.upd _ _ (Agr.upd _ _ (Agr.upd _ _ (Agr.upd _ _ (Agr.upd _ _ (Agr.upd _ _ (Agr.upd _ _ (Agr.base _)))))))))))) fun w8 hJ => ?_
      obtain ⟨_, hJ⟩ := hJ
      simp only [Act.put, List.setIfInBounds_toArray, List.set_cons_succ, List.set_cons_zero]
      clear S
      have S := Lib.hid (show St w0.heap.size w0 w8 (pts w0.heap.size (.cells cs 25) * emp) from hJ)
      clear hJ
      go_wp2_with fail
      go_roundw
      case rel => exact ⟨k + 1, by omega, by go_num, S.out⟩
      case measure => simp [intOf]; omega
    · obtain rfl : k = 65 := by omega
      go_wp2_with fail
      refine (error20 _).mono ?_
      rintro e w3 ⟨rfl, rfl⟩
      go_wp2_with fail
      refine (error0 _).mono ?_
      rintro e w4 ⟨rfl, rfl⟩
      go_wp2_with fail
      go_ret
      exact ⟨rfl, S.out.below⟩
end Go.Proofs.YtcbcofchjhdneaaDoor.Nm
