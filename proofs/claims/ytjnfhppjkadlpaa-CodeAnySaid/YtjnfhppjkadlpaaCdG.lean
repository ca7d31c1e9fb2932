/- Codes: row, walked. No condition. -/
import Derived.Test.YtjnfhppjkadlpaaCdC
set_option linter.unusedSimpArgs false
set_option linter.unusedVariables false
namespace Go.Proofs.Ytjnfhppjkadlpaa.Cd
open Go Go.RowKit Go.Proofs.Ytjnfhppjkadlpaa Go.Proofs.Ytjnfhppjkadlpaa.Sp Go.Proofs.Ytjnfhppjkadlpaa.Reg Go.Proofs.Ytjnfhppjkadlpaa.Rd Go.Proofs.Ytjnfhppjkadlpaa.Obr Go.Proofs.Ytjnfhppjkadlpaa.Gf Go.Proofs.Ytjnfhppjkadlpaa.Mt
section
variable {B : Nat} {w0 : World} {R : HP}
theorem cd_cells {p fb : Nat} {xs ys : List UInt8} {w : World} (s : St B w0 w (cd p fb xs ys * R)) : ∃ a1 c1 a2 c2, w.cell? ⟨p, 0, none⟩ = some (pp fb) ∧ w.cell? ⟨p, 1, none⟩ = some (.slice a1 xs.length c1) ∧ w.cell? ⟨p, 2, none⟩ = some (.slice a2 ys.length c2) := by
  obtain ⟨a1, c1, a2, c2, s1⟩ := cd_open s
  exact ⟨a1, c1, a2, c2, cdo_cells s1⟩
set_option maxRecDepth 100000 in
set_option maxHeartbeats 8000000 in
theorem row_calls (p fb : Nat) (xs ys : List UInt8) (m : Nat) (hm : m < xs.length + ys.length) (hx : xs.length ≤ 14) (hy : ys.length ≤ 4) (w : World) (s : St B w0 w (fx fb * (cd p fb xs ys * R))) :
    Calls Try.prog 70 #[pp p, .int .i64 (m : Int)] w fun e w' => ∃ g, e = .returned (.slice (some ⟨g, 0, none⟩) xs.length xs.length) ∧ St B w0 w' (br g xs.length (rwf xs ys m) * (fx fb * (cd p fb xs ys * R))) := by
  obtain ⟨a1, c1, a2, c2, k0, k1, k2⟩ := cd_cells (s.eq (sep_left_comm _ _ _))
  obtain ⟨n, hn⟩ : ∃ n, xs.length = n := ⟨_, rfl⟩
  have HN := Lib.hid hn
  rw [hn] at k1
  by_cases hlt : m < n
  · have hltI : (m : Int) < (n : Int) := by omega
    have HR := Lib.hid (show ∀ q, (if q = m then (1 : UInt8) else 0) = rwf xs ys m q from fun q => by unfold rwf; rw [if_pos (show m < xs.length by omega)])
    rw [hn] at hm hx ⊢
    clear hn k0 k2
    have S := Lib.hid s
    clear s
    go_enter Try.func70, Try.ntmps70
    go_wp2_with (at_make; go_must (refine wpl_make1 rfl _ _ rfl tB rfl S.out .i64 .i64 n n rfl rfl (Nat.le_refl _) (by unfold maxLen; omega) (by omega) ?_); intro g w1 s1; clear k1; have S1 := Lib.hid (br_made s1); clear s1 S; obtain ⟨a3, c3, a4, c4, k0, k1, k2⟩ := cd_cells (S1.out.eq (Q := cd p fb xs ys * (br g n (fun _ => 0) * (fx fb * R))) (by ac_rfl)); rw [HN.out] at k1; have c0 := br_at S1.out hlt; have f0 := (br_set S1.out hlt 1).1; have S2 := Lib.hid (br_set S1.out hlt 1).2; clear k0 k2 S1)
    go_ret
    exact ⟨g, rfl, by rw [br_congr fun q _ => (HR.out q).symm]; exact S2.out⟩
  · have hltI : ¬ (m : Int) < (n : Int) := by omega
    have HR := Lib.hid (show ∀ q, cf xs ys (m - n) q = rwf xs ys m q from fun q => by unfold rwf; rw [if_neg (show ¬ m < xs.length by omega), hn])
    rw [hn] at hm hx ⊢
    clear hn k0 k2
    have S := Lib.hid s
    clear s
    go_enter Try.func70, Try.ntmps70
    go_wp2_with (at_make; go_must (refine wpl_make1 rfl _ _ rfl tB rfl S.out .i64 .i64 n n rfl rfl (Nat.le_refl _) (by unfold maxLen; omega) (by omega) ?_); intro g w1 s1; clear k1; have S1 := Lib.hid (br_made s1); clear s1 S; obtain ⟨a3, c3, a4, c4, k0, k1, k2⟩ := cd_cells (S1.out.eq (Q := cd p fb xs ys * (br g n (fun _ => 0) * (fx fb * R))) (by ac_rfl)); rw [HN.out] at k1; clear k0 k2)
    clear k1
    go_loopw [26] (fun i wr => ∃ k : Nat, k ≤ n ∧ i = .int .i64 (k : Int) ∧ St B w0 wr (br g n (fun q => if q < k then cf xs ys (m - n) q else 0) * (fx fb * (cd p fb xs ys * R)))) (fun i _ => n - (intOf i).toNat)
    case atStart => exact ⟨0, Nat.zero_le _, rfl, by rw [br_congr fun q _ => if_neg (Nat.not_lt_zero q)]; exact S1.out⟩
    case round =>
      obtain ⟨k, hkl, rfl, s2⟩ := hrel
      clear S1
      by_cases hk : k < n
      · have hkI : (k : Int) < (n : Int) := by omega
        obtain ⟨a3, c3, a4, c4, k0, k1, k2⟩ := cd_cells (s2.eq (Q := cd p fb xs ys * (br g n (fun q => if q < k then cf xs ys (m - n) q else 0) * (fx fb * R))) (by ac_rfl))
        rw [HN.out] at k1
        clear k0 k2
        have hsub : (m : Int) - (n : Int) = ((m - n : Nat) : Int) := by omega
        have S2 := Lib.hid s2
        clear s2
        go_wp2_with fail
        refine (coef_in p fb xs ys (m - n) k (by have := HN.out; omega) (by rw [HN.out]; exact hk) wr (S2.out.eq (Q := fx fb * (cd p fb xs ys * (br g n (fun q => if q < k then cf xs ys (m - n) q else 0) * R))) (by ac_rfl))).mono ?_
        rintro e w3 ⟨rfl, s3⟩
        have s4 := s3.eq (Q := br g n (fun q => if q < k then cf xs ys (m - n) q else 0) * (fx fb * (cd p fb xs ys * R))) (by ac_rfl)
        have c0 := br_at s4 hk
        rw [if_neg (Nat.lt_irrefl k)] at c0
        have f0 := (br_set s4 hk (cf xs ys (m - n) k)).1
        have s5 := (br_set s4 hk (cf xs ys (m - n) k)).2
        rw [br_congr (f' := fun q => if q < k + 1 then cf xs ys (m - n) q else 0) (fun q _ => by
          by_cases h1 : q = k
          · subst h1; simp
          · by_cases h2 : q < k
            · rw [if_neg h1, if_pos h2, if_pos (by omega)]
            · rw [if_neg h1, if_neg h2, if_neg (by omega)])] at s5
        have S5 := Lib.hid s5
        clear s3 s4 s5 S2 k1
        generalize cf xs ys (m - n) k = z at *
        go_wp2_with fail
        go_roundw
        case rel => exact ⟨k + 1, by omega, by go_num, S5.out⟩
        case measure => simp [intOf]; omega
      · obtain rfl : k = n := by omega
        have S2 := Lib.hid s2
        clear s2
        go_wp2_with fail
        go_ret
        exact ⟨g, rfl, by rw [br_congr fun q hq => (by rw [if_pos hq]; exact HR.out q : (if q < k then cf xs ys (m - k) q else 0) = rwf xs ys m q).symm]; exact S2.out⟩
end
end Go.Proofs.Ytjnfhppjkadlpaa.Cd
