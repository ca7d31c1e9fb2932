/- mat's scale, add, swap, walked. -/
import Derived.Test.YtjnfhppjkadlpaaMtW4
namespace Go.Proofs.Ytjnfhppjkadlpaa.Mt
open Go Go.RowKit Go.Proofs.Ytjnfhppjkadlpaa Go.Proofs.Ytjnfhppjkadlpaa.Sp Go.Proofs.Ytjnfhppjkadlpaa.Reg Go.Proofs.Ytjnfhppjkadlpaa.Rd Go.Proofs.Ytjnfhppjkadlpaa.Gf
/-- Row operations. -/
def rsc (f : Mx) (i : Nat) (t : UInt8) : Mx := fun a b => if a = i then gmul (f i b) t else f a b
def rad (f : Mx) (i k : Nat) (t : UInt8) : Mx := fun a b => if a = k then f k b ^^^ gmul (f i b) t else f a b
def sw (i k a : Nat) : Nat := if a = i then k else if a = k then i else a
def rsw (f : Mx) (i k : Nat) : Mx := fun a b => f (sw i k a) b
/-- A row turned up to a column. -/
def upto (f h : Mx) (k : Nat) : Mx := fun a b => if b < k then h a b else f a b
theorem upto_zero (f h : Mx) : upto f h 0 = f := by funext a b; simp [upto]
theorem upto_end (f h : Mx) (r c : Nat) : cl r c (upto f h c) = cl r c h := cl_congr fun _ _ _ hb => if_pos hb
theorem upto_sc (f : Mx) (i k : Nat) (t : UInt8) : upm (upto f (rsc f i t) k) i k (gmul (f i k) t) = upto f (rsc f i t) (k + 1) := by
  funext a b
  unfold upm upto
  by_cases h : a = i ∧ b = k
  · obtain ⟨rfl, rfl⟩ := h
    rw [if_pos ⟨rfl, rfl⟩, if_pos (by omega)]
    simp [rsc]
  · rw [if_neg h]
    by_cases h2 : b < k
    · rw [if_pos h2, if_pos (by omega)]
    · rw [if_neg h2]
      by_cases h3 : b = k
      · subst h3
        rw [if_pos (by omega)]
        simp only [rsc]
        rw [if_neg (fun e => h ⟨e, rfl⟩)]
      · rw [if_neg (by omega)]
theorem upto_ad (f : Mx) (i m k : Nat) (t : UInt8) : upm (upto f (rad f i m t) k) m k (f m k ^^^ gmul (f i k) t) = upto f (rad f i m t) (k + 1) := by
  funext a b
  unfold upm upto
  by_cases h : a = m ∧ b = k
  · obtain ⟨rfl, rfl⟩ := h
    rw [if_pos ⟨rfl, rfl⟩, if_pos (by omega)]
    simp [rad]
  · rw [if_neg h]
    by_cases h2 : b < k
    · rw [if_pos h2, if_pos (by omega)]
    · rw [if_neg h2]
      by_cases h3 : b = k
      · subst h3
        rw [if_pos (by omega)]
        simp only [rad]
        rw [if_neg (fun e => h ⟨e, rfl⟩)]
      · rw [if_neg (by omega)]
theorem upto_sw (f : Mx) (i m k : Nat) : upm (upm (upto f (rsw f i m) k) i k (f m k)) m k (f i k) = upto f (rsw f i m) (k + 1) := by
  funext a b
  unfold upm upto
  by_cases hb : b = k
  · subst hb
    simp only [Nat.lt_irrefl, if_false, and_true, Nat.lt_succ_self, if_true]
    unfold rsw sw
    by_cases h1 : a = m
    · subst h1
      by_cases h2 : a = i
      · subst h2; simp
      · simp [h2]
    · by_cases h2 : a = i
      · subst h2; simp [h1]
      · simp [h1, h2]
  · simp only [hb, and_false, if_false]
    by_cases h2 : b < k
    · rw [if_pos h2, if_pos (by omega)]
    · rw [if_neg h2, if_neg (by omega)]
section
variable {B : Nat} {w0 : World} {R : HP}
set_option maxRecDepth 100000 in
set_option maxHeartbeats 8000000 in
theorem scale_calls (b g cap fb r c : Nat) (f : Mx) (i : Nat) (t : UInt8) (li : i < r) (hr : r ≤ 32) (hc : 1 ≤ c ∧ c ≤ 32) (w : World) (s : St B w0 w (fx fb * (mo b g cap fb r c f * R))) :
    Calls Try.prog 91 #[.pointer (some ⟨b, 0, none⟩), .int .i64 (i : Int), bv t] w fun e w' => e = .returned (.tuple #[]) ∧ St B w0 w' (fx fb * (mo b g cap fb r c (rsc f i t) * R)) := by
  have hrc : r * c ≤ 32 * 32 := Nat.mul_le_mul hr hc.2
  have S := Lib.hid s
  clear s
  go_enter Try.func91, Try.ntmps91
  go_wp2_with fail
  refine (row_calls b g cap fb r c f i li (by omega) (by omega) w (S.out.eq (sep_left_comm _ _ _))).mono ?_
  rintro e w1 ⟨rfl, s⟩
  clear S
  have S := Lib.hid (s.eq (sep_left_comm _ _ _))
  clear s
  go_wp2_with fail
  go_loopw [12] (fun j wr => ∃ k : Nat, k ≤ c ∧ j = .int .i64 k ∧ St B w0 wr (fx fb * (mo b g cap fb r c (upto f (rsc f i t) k) * R))) (fun j _ => c - (intOf j).toNat)
  case atStart => exact ⟨0, Nat.zero_le _, rfl, by rw [upto_zero]; exact S.out⟩
  case round =>
    obtain ⟨k, hk, rfl, s⟩ := hrel
    clear S
    by_cases hlt : k < c
    · have c4 := mo_at (s.eq (sep_left_comm _ _ _)) li hlt
      rw [show upto f (rsc f i t) k i k = f i k from if_neg (Nat.lt_irrefl k)] at c4
      have S := Lib.hid s
      have HU := Lib.hid (upto_sc f i k t)
      clear s
      go_wp2_with fail
      refine wp_region_rx (fun p w' => St B w0 w' (fx fb * (mo b g cap fb r c (upto f (rsc f i t) (if p = 0 then k else k + 1)) * R))) [12] mixed (by kernel_rfl) (by kernel_rfl) S.out.drew ?_
      refine RXl.exact (.pointer (some ⟨b, 0, none⟩)) rfl rfl rfl rfl rfl (fun _ _ _ _ _ => rfl) ?_
      refine RXl.exact (.int .i64 (i : Int)) rfl rfl rfl rfl rfl (fun _ _ _ _ _ => rfl) ?_
      refine RXl.callr (.slice (some ⟨g, i * c, none⟩) c (cap - i * c)) _ [.pointer (some ⟨b, 0, none⟩), .int .i64 (i : Int)] [.tmp 17, .tmp 18] _ rfl rfl rfl rfl rfl rfl (fun _ => rfl) (fun j τ w' hj hJ => via (by ac_rfl) hJ (row_calls b g cap fb r c (upto f (rsc f i t) (if j = 0 then k else k + 1)) i li (by omega) (by omega) w' (R := fx fb * R))) ?_
      refine RXl.exact (.int .i64 (k : Int)) rfl rfl rfl rfl rfl (fun _ _ _ _ _ => rfl) ?_
      refine RXl.exact (.pointer (some ⟨b, 0, none⟩)) rfl rfl rfl rfl rfl (fun _ _ _ _ _ => rfl) ?_
      refine RXl.exact (.pointer (some ⟨b, 0, none⟩)) rfl rfl rfl rfl rfl (fun j τ w' hj hJ => by simp [rho, upd, Spec.val, execOp, go_sem]) ?_
      refine RXl.exact (.pointer (some ⟨b, 0, none⟩)) rfl rfl rfl rfl rfl (fun j τ w' hj hJ => by simp [rho, upd, Spec.val, execOp, go_sem]) ?_
      refine RXl.exact (.pointer (some ⟨fb, 0, none⟩)) rfl rfl rfl rfl rfl (fun j τ w' hj hJ => by have c := (mo_cells (St.eq (sep_left_comm _ _ _) hJ)).1; simp [rho, upd, Spec.val, execOp, go_sem, c]) ?_
      refine RXl.exact (bv (f i k)) rfl rfl rfl rfl rfl (fun _ _ _ _ _ => rfl) ?_
      refine RXl.exact (bv t) rfl rfl rfl rfl rfl (fun _ _ _ _ _ => rfl) ?_
      refine RXl.callr (bv (gmul (f i k) t)) _ [.pointer (some ⟨fb, 0, none⟩), bv (f i k), bv t] [.tmp 24, .tmp 25, .tmp 26] _ rfl rfl rfl rfl rfl rfl (fun _ => rfl) (fun j τ w' hj hJ => mulx fb (f i k) t w' hJ) ?_
      refine RXl.exact (.pointer (some ⟨g, i * c + k, none⟩)) rfl rfl rfl rfl rfl (fun j τ w' hj hJ => by have t1 : (k : Int) < (c : Int) := (by omega); simp [rho, upd, Spec.val, execOp, go_sem, t1]) ?_
      refine RXl.effj 0 rfl rfl rfl rfl rfl rfl (fun w' hJ => (let h := mo_set (St.eq (sep_left_comm _ _ _) hJ) li hlt (gmul (f i k) t); ⟨_, exec_store rfl rfl rfl rfl (by kernel_rfl) (mo_at (St.eq (sep_left_comm _ _ _) hJ) li hlt) h.1, by have q := h.2; rw [if_pos rfl, HU.out] at q; exact q.eq (sep_left_comm _ _ _)⟩)) ?_
      refine RXl.nilx _ (Agr.upd _ _ (Agr.upd _ _ (Agr.upd _ _ (Agr.upd _ _ (Agr.upd _ _ (Agr.upd _ _ (Agr.upd _ _ (Agr.upd _ _ (Agr.upd _ _ (Agr.upd _ _ (Agr.upd _ _ (Agr.upd _ _ (Agr.base _))))))))))))) fun w8 hJ => ?_
      obtain ⟨_, hJ⟩ := hJ
      simp only [Act.put, List.setIfInBounds_toArray, List.set_cons_succ, List.set_cons_zero]
      have S9 := Lib.hid (show St B w0 w8 (fx fb * (mo b g cap fb r c (upto f (rsc f i t) (k + 1)) * R)) from hJ)
      clear hJ S HU c4
      go_wp2_with fail
      go_roundw
      case rel => exact ⟨k + 1, by omega, by go_num, S9.out⟩
      case measure => simp [intOf]; omega
    · obtain rfl : k = c := by omega
      have S := Lib.hid ((mo_congr (s.eq (sep_left_comm _ _ _)) (upto_end f _ r k)).eq (sep_left_comm _ _ _))
      clear s
      go_wp2_with fail
      go_end0
      exact ⟨rfl, S.out⟩
set_option maxRecDepth 100000 in
set_option maxHeartbeats 8000000 in
theorem add_calls (b g cap fb r c : Nat) (f : Mx) (i m : Nat) (t : UInt8) (li : i < r) (lm : m < r) (hr : r ≤ 32) (hc : 1 ≤ c ∧ c ≤ 32) (w : World) (s : St B w0 w (fx fb * (mo b g cap fb r c f * R))) :
    Calls Try.prog 92 #[.pointer (some ⟨b, 0, none⟩), .int .i64 (i : Int), .int .i64 (m : Int), bv t] w fun e w' => e = .returned (.tuple #[]) ∧ St B w0 w' (fx fb * (mo b g cap fb r c (rad f i m t) * R)) := by
  have hrc : r * c ≤ 32 * 32 := Nat.mul_le_mul hr hc.2
  have S := Lib.hid s
  clear s
  go_enter Try.func92, Try.ntmps92
  go_wp2_with fail
  refine (row_calls b g cap fb r c f i li (by omega) (by omega) w (S.out.eq (sep_left_comm _ _ _))).mono ?_
  rintro e w1 ⟨rfl, s⟩
  clear S
  have S := Lib.hid (s.eq (sep_left_comm _ _ _))
  clear s
  go_wp2_with fail
  go_loopw [14] (fun j wr => ∃ k : Nat, k ≤ c ∧ j = .int .i64 k ∧ St B w0 wr (fx fb * (mo b g cap fb r c (upto f (rad f i m t) k) * R))) (fun j _ => c - (intOf j).toNat)
  case atStart => exact ⟨0, Nat.zero_le _, rfl, by rw [upto_zero]; exact S.out⟩
  case round =>
    obtain ⟨k, hk, rfl, s⟩ := hrel
    clear S
    by_cases hlt : k < c
    · have c4 := mo_at (s.eq (sep_left_comm _ _ _)) li hlt
      rw [show upto f (rad f i m t) k i k = f i k from if_neg (Nat.lt_irrefl k)] at c4
      have S := Lib.hid s
      have HU := Lib.hid (upto_ad f i m k t)
      have HX := Lib.hid (bits_xor_u8' (f m k) (gmul (f i k) t))
      clear s
      go_wp2_with fail
      refine wp_region_rx (fun p w' => St B w0 w' (fx fb * (mo b g cap fb r c (upto f (rad f i m t) (if p = 0 then k else k + 1)) * R))) [15] mixed (by kernel_rfl) (by kernel_rfl) S.out.drew ?_
      refine RXl.exact (.pointer (some ⟨b, 0, none⟩)) rfl rfl rfl rfl rfl (fun _ _ _ _ _ => rfl) ?_
      refine RXl.exact (.int .i64 (m : Int)) rfl rfl rfl rfl rfl (fun _ _ _ _ _ => rfl) ?_
      refine RXl.callr (.slice (some ⟨g, m * c, none⟩) c (cap - m * c)) _ [.pointer (some ⟨b, 0, none⟩), .int .i64 (m : Int)] [.tmp 19, .tmp 20] _ rfl rfl rfl rfl rfl rfl (fun _ => rfl) (fun j τ w' hj hJ => via (by ac_rfl) hJ (row_calls b g cap fb r c (upto f (rad f i m t) (if j = 0 then k else k + 1)) m lm (by omega) (by omega) w' (R := fx fb * R))) ?_
      refine RXl.exact (.int .i64 (k : Int)) rfl rfl rfl rfl rfl (fun _ _ _ _ _ => rfl) ?_
      refine RXl.exact (.pointer (some ⟨g, m * c + k, none⟩)) rfl rfl rfl rfl rfl (fun j τ w' hj hJ => by have t1 : (k : Int) < (c : Int) := (by omega); simp [rho, upd, Spec.val, execOp, go_sem, t1]) ?_
      refine RXl.exactB 0 15 rfl (by kernel_rfl) (bv (f m k)) rfl rfl rfl rfl rfl (fun j τ w' hj hJ => by obtain rfl : j = 0 := (by omega); have c := mo_at (St.eq (sep_left_comm _ _ _) hJ) lm hlt; rw [if_pos rfl, show upto f (rad f i m t) k m k = f m k from if_neg (Nat.lt_irrefl k)] at c; simp [rho, upd, Spec.val, execOp, go_sem, c]) ?_
      refine RXl.exact (.pointer (some ⟨b, 0, none⟩)) rfl rfl rfl rfl rfl (fun _ _ _ _ _ => rfl) ?_
      refine RXl.exact (.pointer (some ⟨b, 0, none⟩)) rfl rfl rfl rfl rfl (fun j τ w' hj hJ => by simp [rho, upd, Spec.val, execOp, go_sem]) ?_
      refine RXl.exact (.pointer (some ⟨b, 0, none⟩)) rfl rfl rfl rfl rfl (fun j τ w' hj hJ => by simp [rho, upd, Spec.val, execOp, go_sem]) ?_
      refine RXl.exactB 0 15 rfl (by kernel_rfl) (.pointer (some ⟨fb, 0, none⟩)) rfl rfl rfl rfl rfl (fun j τ w' hj hJ => by have c := (mo_cells (St.eq (sep_left_comm _ _ _) hJ)).1; simp [rho, upd, Spec.val, execOp, go_sem, c]) ?_
      refine RXl.exact (bv (f i k)) rfl rfl rfl rfl rfl (fun _ _ _ _ _ => rfl) ?_
      refine RXl.exact (bv t) rfl rfl rfl rfl rfl (fun _ _ _ _ _ => rfl) ?_
      refine RXl.callr (bv (gmul (f i k) t)) _ [.pointer (some ⟨fb, 0, none⟩), bv (f i k), bv t] [.tmp 28, .tmp 29, .tmp 30] _ rfl rfl rfl rfl rfl rfl (fun _ => rfl) (fun j τ w' hj hJ => mulx fb (f i k) t w' hJ) ?_
      refine RXl.exact (bv (f m k ^^^ gmul (f i k) t)) rfl rfl rfl rfl rfl (fun j τ w' hj hJ => by have c := HX.out; simp [rho, upd, Spec.val, execOp, go_sem, c]) ?_
      refine RXl.exact (.pointer (some ⟨g, m * c + k, none⟩)) rfl rfl rfl rfl rfl (fun j τ w' hj hJ => by have t1 : (k : Int) < (c : Int) := (by omega); simp [rho, upd, Spec.val, execOp, go_sem, t1]) ?_
      refine RXl.effj 0 rfl rfl rfl rfl rfl rfl (fun w' hJ => (let h := mo_set (St.eq (sep_left_comm _ _ _) hJ) lm hlt (f m k ^^^ gmul (f i k) t); ⟨_, exec_store rfl rfl rfl rfl (by kernel_rfl) (mo_at (St.eq (sep_left_comm _ _ _) hJ) lm hlt) h.1, by have q := h.2; rw [if_pos rfl, HU.out] at q; exact q.eq (sep_left_comm _ _ _)⟩)) ?_
      refine RXl.nilx _ (Agr.upd _ _ (Agr.upd _ _ (Agr.upd _ _ (Agr.upd _ _ (Agr.upd _ _ (Agr.upd _ _ (Agr.upd _ _ (Agr.upd _ _ (Agr.upd _ _ (Agr.upd _ _ (Agr.upd _ _ (Agr.upd _ _ (Agr.upd _ _ (Agr.upd _ _ (Agr.upd _ _ (Agr.base _)))))))))))))))) fun w8 hJ => ?_
      obtain ⟨_, hJ⟩ := hJ
      simp only [Act.put, List.setIfInBounds_toArray, List.set_cons_succ, List.set_cons_zero]
      have S9 := Lib.hid (show St B w0 w8 (fx fb * (mo b g cap fb r c (upto f (rad f i m t) (k + 1)) * R)) from hJ)
      clear hJ S HU HX c4
      go_wp2_with fail
      go_roundw
      case rel => exact ⟨k + 1, by omega, by go_num, S9.out⟩
      case measure => simp [intOf]; omega
    · obtain rfl : k = c := by omega
      have S := Lib.hid ((mo_congr (s.eq (sep_left_comm _ _ _)) (upto_end f _ r k)).eq (sep_left_comm _ _ _))
      clear s
      go_wp2_with fail
      go_end0
      exact ⟨rfl, S.out⟩
/-- While two cells are exchanged. -/
def sj (f : Mx) (i m k j : Nat) : Mx := match j with
  | 0 => upto f (rsw f i m) k
  | 1 => upm (upto f (rsw f i m) k) i k (f m k)
  | _ => upto f (rsw f i m) (k + 1)
set_option maxRecDepth 100000 in
set_option maxHeartbeats 8000000 in
theorem swap_calls (b g cap fb r c : Nat) (f : Mx) (i m : Nat) (li : i < r) (lm : m < r) (hr : r ≤ 32) (hc : 1 ≤ c ∧ c ≤ 32) (w : World) (s : St B w0 w (mo b g cap fb r c f * R)) :
    Calls Try.prog 90 #[.pointer (some ⟨b, 0, none⟩), .int .i64 (i : Int), .int .i64 (m : Int)] w fun e w' => e = .returned (.tuple #[]) ∧ St B w0 w' (mo b g cap fb r c (rsw f i m) * R) := by
  have hrc : r * c ≤ 32 * 32 := Nat.mul_le_mul hr hc.2
  have c2 := (mo_cells s).2.2.1
  have S := Lib.hid s
  clear s
  go_enter Try.func90, Try.ntmps90
  go_wp2_with fail
  clear c2
  go_loopw [11] (fun j wr => ∃ k : Nat, k ≤ c ∧ j = .int .i64 k ∧ St B w0 wr (mo b g cap fb r c (upto f (rsw f i m) k) * R)) (fun j _ => c - (intOf j).toNat)
  case atStart => exact ⟨0, Nat.zero_le _, rfl, by rw [upto_zero]; exact S.out⟩
  case round =>
    obtain ⟨k, hk, rfl, s⟩ := hrel
    clear S
    by_cases hlt : k < c
    · have S := Lib.hid s
      have HU := Lib.hid (upto_sw f i m k)
      have u1 : ∀ a, upto f (rsw f i m) k a k = f a k := fun a => if_neg (Nat.lt_irrefl k)
      have U1 := Lib.hid u1
      clear s u1
      go_wp2_with fail
      refine wp_region_rx (fun p w' => St B w0 w' (mo b g cap fb r c (sj f i m k p) * R)) [21, 23] mixed (by kernel_rfl) (by kernel_rfl) S.out.drew ?_
      refine RXl.exact (.pointer (some ⟨b, 0, none⟩)) rfl rfl rfl rfl rfl (fun _ _ _ _ _ => rfl) ?_
      refine RXl.exact (.int .i64 (i : Int)) rfl rfl rfl rfl rfl (fun _ _ _ _ _ => rfl) ?_
      refine RXl.callr (.slice (some ⟨g, i * c, none⟩) c (cap - i * c)) _ [.pointer (some ⟨b, 0, none⟩), .int .i64 (i : Int)] [.tmp 14, .tmp 15] _ rfl rfl rfl rfl rfl rfl (fun _ => rfl) (fun j τ w' hj hJ => row_calls b g cap fb r c (sj f i m k j) i li (by omega) (by omega) w' hJ) ?_
      refine RXl.exact (.int .i64 (k : Int)) rfl rfl rfl rfl rfl (fun _ _ _ _ _ => rfl) ?_
      refine RXl.exact (.pointer (some ⟨b, 0, none⟩)) rfl rfl rfl rfl rfl (fun _ _ _ _ _ => rfl) ?_
      refine RXl.exact (.int .i64 (m : Int)) rfl rfl rfl rfl rfl (fun _ _ _ _ _ => rfl) ?_
      refine RXl.callr (.slice (some ⟨g, m * c, none⟩) c (cap - m * c)) _ [.pointer (some ⟨b, 0, none⟩), .int .i64 (m : Int)] [.tmp 18, .tmp 19] _ rfl rfl rfl rfl rfl rfl (fun _ => rfl) (fun j τ w' hj hJ => row_calls b g cap fb r c (sj f i m k j) m lm (by omega) (by omega) w' hJ) ?_
      refine RXl.exact (.int .i64 (k : Int)) rfl rfl rfl rfl rfl (fun _ _ _ _ _ => rfl) ?_
      refine RXl.exact (.pointer (some ⟨b, 0, none⟩)) rfl rfl rfl rfl rfl (fun _ _ _ _ _ => rfl) ?_
      refine RXl.exact (.int .i64 (m : Int)) rfl rfl rfl rfl rfl (fun _ _ _ _ _ => rfl) ?_
      refine RXl.callr (.slice (some ⟨g, m * c, none⟩) c (cap - m * c)) _ [.pointer (some ⟨b, 0, none⟩), .int .i64 (m : Int)] [.tmp 22, .tmp 23] _ rfl rfl rfl rfl rfl rfl (fun _ => rfl) (fun j τ w' hj hJ => row_calls b g cap fb r c (sj f i m k j) m lm (by omega) (by omega) w' hJ) ?_
      refine RXl.exact (.int .i64 (k : Int)) rfl rfl rfl rfl rfl (fun _ _ _ _ _ => rfl) ?_
      refine RXl.exact (.pointer (some ⟨g, m * c + k, none⟩)) rfl rfl rfl rfl rfl (fun j τ w' hj hJ => by have t1 : (k : Int) < (c : Int) := (by omega); simp [rho, upd, Spec.val, execOp, go_sem, t1]) ?_
      refine RXl.exactB 0 21 rfl (by kernel_rfl) (bv (f m k)) rfl rfl rfl rfl rfl (fun j τ w' hj hJ => by obtain rfl : j = 0 := (by omega); have c := mo_at hJ lm hlt; rw [show sj f i m k 0 m k = f m k from U1.out m] at c; simp [rho, upd, Spec.val, execOp, go_sem, c]) ?_
      refine RXl.exact (.pointer (some ⟨b, 0, none⟩)) rfl rfl rfl rfl rfl (fun _ _ _ _ _ => rfl) ?_
      refine RXl.exact (.int .i64 (i : Int)) rfl rfl rfl rfl rfl (fun _ _ _ _ _ => rfl) ?_
      refine RXl.callr (.slice (some ⟨g, i * c, none⟩) c (cap - i * c)) _ [.pointer (some ⟨b, 0, none⟩), .int .i64 (i : Int)] [.tmp 28, .tmp 29] _ rfl rfl rfl rfl rfl rfl (fun _ => rfl) (fun j τ w' hj hJ => row_calls b g cap fb r c (sj f i m k j) i li (by omega) (by omega) w' hJ) ?_
      refine RXl.exact (.int .i64 (k : Int)) rfl rfl rfl rfl rfl (fun _ _ _ _ _ => rfl) ?_
      refine RXl.exact (.pointer (some ⟨g, i * c + k, none⟩)) rfl rfl rfl rfl rfl (fun j τ w' hj hJ => by have t1 : (k : Int) < (c : Int) := (by omega); simp [rho, upd, Spec.val, execOp, go_sem, t1]) ?_
      refine RXl.exactB 0 21 rfl (by kernel_rfl) (bv (f i k)) rfl rfl rfl rfl rfl (fun j τ w' hj hJ => by obtain rfl : j = 0 := (by omega); have c := mo_at hJ li hlt; rw [show sj f i m k 0 i k = f i k from U1.out i] at c; simp [rho, upd, Spec.val, execOp, go_sem, c]) ?_
      refine RXl.exact (.pointer (some ⟨g, i * c + k, none⟩)) rfl rfl rfl rfl rfl (fun j τ w' hj hJ => by have t1 : (k : Int) < (c : Int) := (by omega); simp [rho, upd, Spec.val, execOp, go_sem, t1]) ?_
      refine RXl.effj 0 rfl rfl rfl rfl rfl rfl (fun w' hJ => (let h := mo_set hJ li hlt (f m k); ⟨_, exec_store rfl rfl rfl rfl (by kernel_rfl) (mo_at hJ li hlt) h.1, h.2⟩)) ?_
      refine RXl.exact (.pointer (some ⟨g, m * c + k, none⟩)) rfl rfl rfl rfl rfl (fun j τ w' hj hJ => by have t1 : (k : Int) < (c : Int) := (by omega); simp [rho, upd, Spec.val, execOp, go_sem, t1]) ?_
      refine RXl.effj 1 rfl rfl rfl rfl rfl rfl (fun w' hJ => (let h := mo_set hJ lm hlt (f i k); ⟨_, exec_store rfl rfl rfl rfl (by kernel_rfl) (mo_at hJ lm hlt) h.1, by have q := h.2; rw [show upm (sj f i m k 1) m k (f i k) = sj f i m k 2 from HU.out] at q; exact q⟩)) ?_
      refine RXl.nilx _ (Agr.upd _ _ (Agr.upd _ _ (Agr.upd _ _ (Agr.upd _ _ (Agr.upd _ _ (Agr.upd _ _ (Agr.upd _ _ (Agr.upd _ _ (Agr.upd _ _ (Agr.upd _ _ (Agr.upd _ _ (Agr.upd _ _ (Agr.upd _ _ (Agr.upd _ _ (Agr.upd _ _ (Agr.upd _ _ (Agr.upd _ _ (Agr.upd _ _ (Agr.upd _ _ (Agr.upd _ _ (Agr.upd _ _ (Agr.upd _ _ (Agr.base _))))))))))))))))))))))) fun w8 hJ => ?_
      obtain ⟨_, hJ⟩ := hJ
      simp only [Act.put, List.setIfInBounds_toArray, List.set_cons_succ, List.set_cons_zero]
      have S9 := Lib.hid (show St B w0 w8 (mo b g cap fb r c (upto f (rsw f i m) (k + 1)) * R) from hJ)
      clear hJ S HU U1
      go_wp2_with fail
      go_roundw
      case rel => exact ⟨k + 1, by omega, by go_num, S9.out⟩
      case measure => simp [intOf]; omega
    · obtain rfl : k = c := by omega
      have S := Lib.hid (mo_congr s (upto_end f _ r k))
      clear s
      go_wp2_with fail
      go_end0
      exact ⟨rfl, S.out⟩
end
end Go.Proofs.Ytjnfhppjkadlpaa.Mt
