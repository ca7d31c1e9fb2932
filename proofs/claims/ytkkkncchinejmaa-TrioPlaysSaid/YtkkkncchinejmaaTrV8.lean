/- The document's trio, walked: Mend. No condition. -/
import Derived.Test.YtkkkncchinejmaaTrV6
import Derived.Test.YtkkkncchinejmaaTrN
set_option linter.unusedSimpArgs false
set_option linter.unusedVariables false
namespace Go.Proofs.Ytkkkncchinejmaa.TrV
open Go Go.RowKit Go.Proofs.Ytkkkncchinejmaa Go.Proofs.Ytkkkncchinejmaa.Sp Go.Proofs.Ytkkkncchinejmaa.Reg Go.Proofs.Ytkkkncchinejmaa.SlW Go.Proofs.Ytkkkncchinejmaa.Fus Go.Proofs.Ytkkkncchinejmaa.TrM Go.Proofs.Ytkkkncchinejmaa.TapW Go.Proofs.Ytkkkncchinejmaa.TapR Go.Proofs.Ytkkkncchinejmaa.TrW Go.Proofs.Ytkkkncchinejmaa.Str Go.Proofs.Ytkkkncchinejmaa.TrR
/-- The first other live tape from the k-th on, or -1. -/
def mfr (Ts : List Tp) (i k : Nat) : Int := match (List.range' k (3 - k)).find? (fun j => decide (j ≠ i) && !(Ts.getD j Tp.new).gone) with | some j => j | none => -1
theorem mfr_three (Ts : List Tp) (i : Nat) : mfr Ts i 3 = -1 := rfl
theorem mfr_step (Ts : List Tp) (i k : Nat) (hk : k < 3) : mfr Ts i k = if (decide (k ≠ i) && !(Ts.getD k Tp.new).gone) = true then (k : Int) else mfr Ts i (k + 1) := by
  unfold mfr
  rw [show 3 - k = (3 - (k + 1)) + 1 by omega, List.range'_succ, List.find?_cons]
  cases h : (decide (k ≠ i) && !(Ts.getD k Tp.new).gone) <;> simp
theorem mfr_zero (Ts : List Tp) (i : Nat) : mfr Ts i 0 = match mendFrom Ts i with | some j => (j : Int) | none => -1 := rfl
theorem mend_mem {Ts : List Tp} {i m : Nat} (h : mendFrom Ts i = some m) : m < 3 ∧ m ≠ i ∧ (Ts.getD m Tp.new).gone = false := by
  have h1 := List.mem_of_find?_eq_some h
  have h2 := List.find?_some h
  simp at h1 h2
  exact ⟨by omega, h2.1, h2.2⟩
section
variable {B : Nat} {w0 : World} {R : HP}
set_option maxRecDepth 100000 in
set_option maxHeartbeats 16000000 in
theorem rmend_calls (fb b p0 p1 p2 n : Nat) (Ts : List Tp) (F : Fu) (i : Int) (hok : Rok Ts F) (w : World) (s : St B w0 w (Hr fb b p0 p1 p2 n Ts F R)) :
    Calls Try.prog 34 #[pp b, .int .i64 i] w (RetS B w0 (Hr fb b p0 p1 p2 n (trMend (some F) Ts i).2.2 ((trMend (some F) Ts i).2.1.getD F) R) (.int .i64 (trMend (some F) Ts i).1)) := by
  by_cases hi : i < 0 ∨ 3 ≤ i
  · have E := Lib.hid (show trMend (some F) Ts i = (1, some F, Ts) by unfold trMend; rw [if_pos (by omega)])
    have hi' : i < 0 ∨ ¬ i < 0 ∧ 2 < i := by omega
    have S := Lib.hid s
    have Hok := Lib.hid hok
    clear s hok
    clear hi
    rcases hi' with h | ⟨h, h2⟩
    all_goals
      go_enter Try.func34, Try.ntmps34
      go_wp2_with fail
      go_ret
      rw [E.out]
      exact ⟨rfl, S.out⟩
  · obtain ⟨k0, rfl⟩ : ∃ k : Nat, i = k := ⟨i.toNat, by omega⟩
    have hk0 : k0 < 3 := by omega
    have hi1 : ¬ (k0 : Int) < 0 := by omega
    have hi2 : ¬ (2 : Int) < (k0 : Int) := by omega
    have hi3 : (k0 : Int) < 3 := by omega
    have c1 := hr_p s k0 hk0
    have c3 := (hr_c hok.len s k0 hk0).2
    cases hg : (Ts.getD k0 Tp.new).gone with
    | true =>
      have E := Lib.hid (show trMend (some F) Ts k0 = (1, some F, Ts) by unfold trMend; rw [if_pos (.inr (.inr (by simpa using hg)))])
      rw [hg] at c3
      generalize [p0, p1, p2].getD k0 0 = pk at *
      simp at c3
      have S := Lib.hid s
      have Hok := Lib.hid hok
      clear s hok
      clear hi hg
      go_enter Try.func34, Try.ntmps34
      go_wp2_with fail
      go_ret
      rw [E.out]
      exact ⟨rfl, S.out⟩
    | false =>
      have E0 := Lib.hid (show trMend (some F) Ts k0 = match mendFrom Ts k0 with | none => (8, some F, Ts) | some k => ((tWrite (some F) (Ts.getD k0 Tp.new) 0 (Ts.getD k Tp.new).b).1, (tWrite (some F) (Ts.getD k0 Tp.new) 0 (Ts.getD k Tp.new).b).2.1, Ts.set k0 (tWrite (some F) (Ts.getD k0 Tp.new) 0 (Ts.getD k Tp.new).b).2.2) by
        unfold trMend; rw [if_neg (by rintro (h | h | h); omega; omega; rw [Int.toNat_natCast, hg] at h; cases h)]; rfl)
      rw [hg] at c3
      have hc1 := fun w' T' F' (s : St B w0 w' (Hr fb b p0 p1 p2 n T' F' R)) => hr_p s k0 hk0
      have hcut := fun w' (s : St B w0 w' (Hr fb b p0 p1 p2 n Ts F R)) => hr_cut w' k0 hk0 hok 0 s
      have happ := fun w' T' F' (h : Rok T' F') bs hn (s : St B w0 w' (Hr fb b p0 p1 p2 n T' F' R)) => hr_app w' k0 hk0 h bs hn s
      have hsyn := fun w' T' F' (h : Rok T' F') (s : St B w0 w' (Hr fb b p0 p1 p2 n T' F' R)) => hr_sync w' k0 hk0 h s
      have hne0 : ∀ j, j < 3 → j ≠ k0 → True := fun _ _ _ => trivial
      generalize hpk : [p0, p1, p2].getD k0 0 = pk at *
      simp at c3
      have HC1 := Lib.hid hc1
      have HCUT := Lib.hid hcut
      have HAPP := Lib.hid happ
      have HSYN := Lib.hid hsyn
      have S := Lib.hid s
      have Hok := Lib.hid hok
      clear s hok
      clear hi hg hc1 hcut happ hsyn hne0 hpk
      go_enter Try.func34, Try.ntmps34
      go_wp2_with fail
      go_loopw [5, 6] (fun v5 v6 wr => ∃ (k : Nat) (z : Int), k ≤ 3 ∧ z = (k : Int) - 1 ∧ v5 = .int .i64 (mfr Ts k0 k) ∧ v6 = .int .i64 z ∧ St B w0 wr (Hr fb b p0 p1 p2 n Ts F R)) (fun _ i _ => (intOf i + 1).toNat)
      case atStart => exact ⟨3, 2, Nat.le_refl _, rfl, rfl, rfl, S.out⟩
      case round =>
        obtain ⟨k, z, hk, hz, rfl, rfl, s1⟩ := hrel
        clear S c1 c3
        cases k with
        | zero =>
          obtain rfl : z = -1 := by omega
          clear hz
          have hm0 := mfr_zero Ts k0
          have E1 := E0.out
          cases hm : mendFrom Ts k0 with
          | none =>
            rw [hm] at hm0 E1
            simp only at hm0 E1
            rw [hm0]
            have E := Lib.hid E1
            have S1 := Lib.hid s1
            clear s1 E1 hm0 hm E0
            go_wp2_with fail
            go_ret
            rw [E.out]
            exact ⟨rfl, S1.out⟩
          | some m =>
            obtain ⟨hm1, hm2, hm3⟩ := mend_mem hm
            rw [hm] at hm0 E1
            simp only at hm0 E1
            rw [hm0]
            have hmi : ¬ (m : Int) < 0 := by omega
            have hmi3 : (m : Int) < 3 := by omega
            have q := HCUT.out _ s1
            have c1 := HC1.out _ _ _ s1
            have hr1 := Hok.out.cut k0 hk0 0
            have hso := cut_some F (Ts.getD k0 Tp.new) 0
            have hlen := Hok.out.len
            have hbl := (Hok.out.ok m).2
            have hwc := fun e F1 T1 (h : tCut (some F) (Ts.getD k0 Tp.new) (0 : Nat) = (e, F1, T1)) => write_cut (b := (Ts.getD m Tp.new).b) h
            generalize hW : tCut (some F) (Ts.getD k0 Tp.new) 0 = W at *
            obtain ⟨e1, F1, T1⟩ := W
            obtain ⟨F2, rfl⟩ : ∃ F2, F1 = some F2 := ⟨_, hso⟩
            have hwc := hwc _ _ _ rfl
            rw [List.drop_zero] at hwc
            rw [hwc] at E1
            simp only [Option.getD_some] at q hr1
            have hmk : (Ts.set k0 T1).getD m Tp.new = Ts.getD m Tp.new := by rw [set_at (by rw [hlen]; exact hk0), if_neg hm2]
            have hkk : (Ts.set k0 T1).getD k0 Tp.new = T1 := set_self (by rw [hlen]; exact hk0) T1
            have Q := Lib.hid q
            have E := Lib.hid E1
            have HR := Lib.hid hr1
            have S1 := Lib.hid s1
            clear E0 E1 s1 q hW hwc hso hr1 hm0 hm
            by_cases he : e1 = 0
            · subst he
              have E1 := E.out
              simp only [if_true] at E1
              have Hmk := Lib.hid hmk
              have Hkk := Lib.hid hkk
              clear hmk hkk
              clear E S1
              have E := Lib.hid E1
              clear E1
              go_wp2_with fail
              refine Q.out.mono ?_
              rintro e w2 ⟨rfl, s2⟩
              have S2 := Lib.hid s2
              clear s2 Q c1
              go_wp2_with fail
              have HCM := Lib.hid (fun w' (s : St B w0 w' (Hr fb b p0 p1 p2 n (Ts.set k0 T1) F2 R)) => show w'.cell? ⟨b, m, none⟩ = some (pp ([p0, p1, p2].getD m 0)) ∧ w'.cell? ⟨[p0, p1, p2].getD m 0, 0, none⟩ = some (str (Ts.getD m Tp.new).b) from ⟨hr_p s m hm1, by have q := (hr_c HR.out.len s m hm1).1; rw [Hmk.out] at q; exact q⟩)
              have q := fun w' s => HAPP.out w' _ _ HR.out (Ts.getD m Tp.new).b (by omega) s
              have hr2 := HR.out.app k0 hk0 (Ts.getD m Tp.new).b
              have hso := app_some F2 ((Ts.set k0 T1).getD k0 Tp.new) (Ts.getD m Tp.new).b
              rw [Hkk.out] at hr2 hso
              simp only [Hkk.out, List.set_set] at q hr2
              have E1 := E.out
              generalize hW : tApp (some F2) T1 (Ts.getD m Tp.new).b = W at *
              obtain ⟨e2, F3, T2⟩ := W
              obtain ⟨F4, rfl⟩ : ∃ F4, F3 = some F4 := ⟨_, hso⟩
              simp only [Option.getD_some] at q hr2 E1
              generalize [p0, p1, p2].getD m 0 = pm at *
              generalize (Ts.getD m Tp.new).b = bm at *
              have HQ := Lib.hid q
              have HR2 := Lib.hid hr2
              have E2 := Lib.hid E1
              clear q hr2 hso E1 E hW
              refine wp_region_rx (fun j w => St B w0 w (Hr fb b p0 p1 p2 n (if j = 0 then Ts.set k0 T1 else Ts.set k0 T2) (if j = 0 then F2 else F4) R)) [15] mixed (by kernel_rfl) (by kernel_rfl) S2.out.drew ?_
              refine RXl.exact (.pointer (some ⟨b, 0, none⟩)) rfl rfl rfl rfl rfl (fun _ _ _ _ _ => rfl) ?_
              refine RXl.exact (.int .i64 ↑k0) rfl rfl rfl rfl rfl (fun _ _ _ _ _ => rfl) ?_
              refine RXl.exact (.pointer (some ⟨b, 0, none⟩)) rfl rfl rfl rfl rfl (fun j τ w' hj hJ => by simp [rho, upd, Spec.val, execOp, go_sem]) ?_
              refine RXl.exact (.pointer (some ⟨b, 0, none⟩)) rfl rfl rfl rfl rfl (fun j τ w' hj hJ => by simp [rho, upd, Spec.val, execOp, go_sem]) ?_
              refine RXl.exact (.pointer (some ⟨b, k0, none⟩)) rfl rfl rfl rfl rfl (fun j τ w' hj hJ => by simp [rho, upd, Spec.val, execOp, go_sem, hi3]) ?_
              refine RXl.exact (pp pk) rfl rfl rfl rfl rfl (fun j τ w' hj hJ => by have c := HC1.out _ _ _ hJ; simp [rho, upd, Spec.val, execOp, go_sem, c]) ?_
              refine RXl.exact (.pointer (some ⟨b, 0, none⟩)) rfl rfl rfl rfl rfl (fun _ _ _ _ _ => rfl) ?_
              refine RXl.exact (.int .i64 ↑m) rfl rfl rfl rfl rfl (fun _ _ _ _ _ => rfl) ?_
              refine RXl.exact (.pointer (some ⟨b, 0, none⟩)) rfl rfl rfl rfl rfl (fun j τ w' hj hJ => by simp [rho, upd, Spec.val, execOp, go_sem]) ?_
              refine RXl.exact (.pointer (some ⟨b, 0, none⟩)) rfl rfl rfl rfl rfl (fun j τ w' hj hJ => by simp [rho, upd, Spec.val, execOp, go_sem]) ?_
              refine RXl.exact (.pointer (some ⟨b, m, none⟩)) rfl rfl rfl rfl rfl (fun j τ w' hj hJ => by simp [rho, upd, Spec.val, execOp, go_sem, hmi3]) ?_
              refine RXl.exactB 0 15 rfl (by kernel_rfl) (.pointer (some ⟨pm, 0, none⟩)) rfl rfl rfl rfl rfl (fun j τ w' hj hJ => by (obtain rfl : j = 0 := by omega); have c := (HCM.out _ hJ).1; simp [rho, upd, Spec.val, execOp, go_sem, c]) ?_
              refine RXl.exact (.pointer (some ⟨pm, 0, none⟩)) rfl rfl rfl rfl rfl (fun j τ w' hj hJ => by simp [rho, upd, Spec.val, execOp, go_sem]) ?_
              refine RXl.exact (.pointer (some ⟨pm, 0, none⟩)) rfl rfl rfl rfl rfl (fun j τ w' hj hJ => by simp [rho, upd, Spec.val, execOp, go_sem]) ?_
              refine RXl.exactB 0 15 rfl (by kernel_rfl) (str bm) rfl rfl rfl rfl rfl (fun j τ w' hj hJ => by (obtain rfl : j = 0 := by omega); have c := (HCM.out _ hJ).2; simp [rho, upd, Spec.val, execOp, go_sem, c]) ?_
              refine RXl.callj 0 (.int .i64 e2) _ [pp pk, str bm] [.tmp 63, .tmp 72] _ rfl rfl rfl rfl rfl rfl (fun _ => rfl) (fun w' hJ => HQ.out w' hJ) ?_
              refine RXl.exact (.int .i64 e2) rfl rfl rfl rfl rfl (fun _ _ _ _ _ => rfl) ?_
              refine RXl.nilx _ (Agr.upd _ _ (Agr.upd _ _ (Agr.upd _ _ (Agr.upd _ _ (Agr.upd _ _ (Agr.upd _ _ (Agr.upd _ _ (Agr.upd _ _ (Agr.upd _ _ (Agr.upd _ _ (Agr.upd _ _ (Agr.upd _ _ (Agr.upd _ _ (Agr.upd _ _ (Agr.upd _ _ (Agr.upd _ _ (Agr.upd _ _ (Agr.base _)))))))))))))))))) fun w3 hJ => ?_
              obtain ⟨_, hJ⟩ := hJ
              simp only [Act.put, List.setIfInBounds_toArray, List.set_cons_succ, List.set_cons_zero]
              have S3 := Lib.hid (show St B w0 w3 (Hr fb b p0 p1 p2 n (Ts.set k0 T2) F4 R) from hJ)
              clear hJ S2 HQ HCM Hmk Hkk
              by_cases he : e2 = 0
              · subst he
                have E1 := E2.out
                simp only [if_true] at E1
                have c1 := HC1.out _ _ _ S3.out
                have hkk : (Ts.set k0 T2).getD k0 Tp.new = T2 := set_self (by rw [hlen]; exact hk0) T2
                have q := HSYN.out _ _ _ HR2.out S3.out
                rw [hkk, List.set_set] at q
                have Q := Lib.hid q
                have E := Lib.hid E1
                clear q E1 E2 hkk S3
                go_wp2_with fail
                refine Q.out.mono ?_
                rintro e w4 ⟨rfl, s4⟩
                have S4 := Lib.hid s4
                clear s4 Q c1
                go_wp2_with fail
                go_ret
                rw [E.out]
                exact ⟨rfl, S4.out⟩
              · have E1 := E2.out
                simp only [if_neg he] at E1
                have hne : (e2 != 0) = true := by simpa using he
                have E := Lib.hid E1
                clear E1 E2 he
                go_wp2_with fail
                go_ret
                rw [E.out]
                exact ⟨rfl, S3.out⟩
            · have E1 := E.out
              simp only [if_neg he] at E1
              have hne : (e1 != 0) = true := by simpa using he
              have Hmk := Lib.hid hmk
              have Hkk := Lib.hid hkk
              clear hmk hkk
              clear E he S1
              have E := Lib.hid E1
              clear E1
              go_wp2_with fail
              refine Q.out.mono ?_
              rintro e w2 ⟨rfl, s2⟩
              have S2 := Lib.hid s2
              clear s2 Q c1
              go_wp2_with fail
              go_ret
              rw [E.out]
              exact ⟨rfl, S2.out⟩
        | succ j =>
          obtain rfl : z = (j : Int) := by omega
          clear hz
          have hj : j < 3 := by omega
          have hj0 : (0 : Int) ≤ (j : Int) := by omega
          have hj3 : (j : Int) < 3 := by omega
          have hst := mfr_step Ts k0 j hj
          have c1 := hr_p s1 j hj
          have c3 := (hr_c Hok.out.len s1 j hj).2
          generalize [p0, p1, p2].getD j 0 = pj at *
          by_cases hjk : j = k0
          · subst hjk
            rw [if_neg (by simp)] at hst
            have HST := Lib.hid hst
            have S1 := Lib.hid s1
            clear s1 hst c1 c3 hk E0
            go_wp2_with fail
            go_roundw
            case rel => exact ⟨j, (j : Int) - 1, by omega, rfl, by rw [HST.out], rfl, S1.out⟩
            case measure => (simp [intOf] <;> omega)
          · have hne : ((j : Int) != (k0 : Int)) = true := by simp only [bne_iff_ne, ne_eq]; omega
            cases hg : (Ts.getD j Tp.new).gone with
            | true =>
              rw [hg] at hst c3
              rw [if_neg (by simp)] at hst
              simp at c3
              have HST := Lib.hid hst
              have S1 := Lib.hid s1
              clear s1 hst hk hg hjk E0
              go_wp2_with fail
              go_roundw
              case rel => exact ⟨j, (j : Int) - 1, by omega, rfl, by rw [HST.out], rfl, S1.out⟩
              case measure => (simp [intOf] <;> omega)
            | false =>
              rw [hg] at hst c3
              rw [if_pos (by simp [hjk])] at hst
              simp at c3
              have HST := Lib.hid hst
              have S1 := Lib.hid s1
              clear s1 hst hk hg hjk E0
              go_wp2_with fail
              go_roundw
              case rel => exact ⟨j, (j : Int) - 1, by omega, rfl, by rw [HST.out], rfl, S1.out⟩
              case measure => (simp [intOf] <;> omega)
end
end Go.Proofs.Ytkkkncchinejmaa.TrV
