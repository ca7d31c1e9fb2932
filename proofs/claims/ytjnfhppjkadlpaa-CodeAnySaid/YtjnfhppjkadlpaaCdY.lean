/- CodeWhole, walked. No condition. -/
import Derived.Test.YtjnfhppjkadlpaaCdK
set_option linter.unusedSimpArgs false
set_option linter.unusedVariables false
namespace Go.Proofs.Ytjnfhppjkadlpaa.Cd
open Go Go.RowKit Go.Proofs.Ytjnfhppjkadlpaa Go.Proofs.Ytjnfhppjkadlpaa.Sp Go.Proofs.Ytjnfhppjkadlpaa.Reg Go.Proofs.Ytjnfhppjkadlpaa.Rd Go.Proofs.Ytjnfhppjkadlpaa.Obr Go.Proofs.Ytjnfhppjkadlpaa.Gf Go.Proofs.Ytjnfhppjkadlpaa.Mt
theorem nn_one {vs : List Value} (h : NN vs) : ∀ u ∈ vs, u.oneCell' = true := fun u hu => by obtain ⟨g, n, c, rfl⟩ := h u hu; rfl
/-- Two rows of texts, and whether they are the same, as they lie behind four calls. -/
def WF (k : Nat) (a : Value × Value) : Value := match k with
  | 0 => a.1
  | 1 => a.2
  | _ => .bool true
def WH (l : List (List UInt8)) (X : HP) (k : Nat) (a : Value × Value) : HP := match k with
  | 0 => row 9 1 a.1 l.length (Str.sv l) * X
  | _ => row 9 1 a.2 l.length (Str.sv l) * (row 9 1 a.1 l.length (Str.sv l) * X)
section
variable {B : Nat} {w0 : World} {R : HP}
theorem WH_x {l : List (List UInt8)} {X : HP} (j : Nat) (a : Value × Value) : ∃ Q, WH l X j a = X * Q := by
  match j with
  | 0 => exact ⟨_, sep_comm _ _⟩
  | _ + 1 => exact ⟨row 9 1 a.2 l.length (Str.sv l) * row 9 1 a.1 l.length (Str.sv l), by unfold WH; ac_rfl⟩
theorem WJ_x {l : List (List UInt8)} {X : HP} {j : Nat} {vs : Nat → Value} {w : World} (h : PJ B w0 X WF (WH l X) j vs w) : ∃ Z, St B w0 w (X * Z) := by
  obtain ⟨Z, ⟨Z', rfl⟩, s⟩ := PJ.any (Y := fun Z => ∃ Z', Z = X * Z') ⟨emp, (sep_emp _).symm⟩ WH_x h
  exact ⟨Z', s⟩
theorem odd_srd {g N c gn cn m : Nat} {va : Value} {vsa : List Value} {L : List (List UInt8)} {i0 : Nat} {L1 : List UInt8} {Z : HP} (hnn : NN vsa) (hl : vsa.length = L.length) (hi : i0 < L.length) (h9 : L1.length = m) (hN : L.length = N) (hc : N ≤ c) (hc2 : c ≤ maxLen) :
    SRd B w0 (row 5 1 (.slice (some ⟨gn, 0, none⟩) m cn) m (bvs L1) * (row 32 1 (.slice (some ⟨g, 0, none⟩) N c) N (vsa.set i0 (.slice (some ⟨gn, 0, none⟩) m cn)) * (Z * ob va vsa L))) (.slice (some ⟨g, 0, none⟩) N c) ((L.set i0 L1).map some) := by
  subst hN
  subst h9
  have h := BRd.srd (B := B) (w0 := w0) (R := row 5 1 (.slice (some ⟨gn, 0, none⟩) L1.length cn) L1.length (bvs L1) * (row 32 1 (.slice (some ⟨g, 0, none⟩) L.length c) L.length (vsa.set i0 (.slice (some ⟨gn, 0, none⟩) L1.length cn)) * (Z * ob va vsa L)))
    (d := L.set i0 L1) (vs := vsa.set i0 (.slice (some ⟨gn, 0, none⟩) L1.length cn)) (A := some ⟨g, 0, none⟩) (c := c) (fun j hj => ?_) (by rw [List.length_set, List.length_set]; exact hl) (by rw [List.length_set]; exact hc) hc2 (fun e => by cases e) (fun w H s => ?_)
  · rw [List.length_set] at h
    exact h
  · rw [List.length_set] at hj
    by_cases e : i0 = j
    · subst e
      refine ⟨_, List.getElem?_set_self (by omega), ⟨_, _, _, _, rfl⟩, ?_⟩
      rw [List.getElem_set_self]
      exact Reads.of (sep_comm _ _) reads_row
    · have hu : vsa[j]? = some (vsa[j]'(by omega)) := List.getElem?_eq_getElem (by omega)
      obtain ⟨g1, n1, c1, e1⟩ := hnn _ (List.getElem_mem (show j < vsa.length by omega))
      refine ⟨vsa[j]'(by omega), by rw [List.getElem?_set_ne e]; exact hu, ⟨g1, 0, n1, c1, e1⟩, ?_⟩
      rw [List.getElem_set_ne e]
      exact Reads.of (X := row 5 1 (.slice (some ⟨gn, 0, none⟩) L1.length cn) L1.length (bvs L1) * (row 32 1 (.slice (some ⟨g, 0, none⟩) L.length c) L.length (vsa.set i0 (.slice (some ⟨gn, 0, none⟩) L1.length cn)) * Z)) (by ac_rfl) (ob_reads hl hj hu)
  · exact (s.eq (Q := row 32 1 (.slice (some ⟨g, 0, none⟩) L.length c) L.length (vsa.set i0 (.slice (some ⟨gn, 0, none⟩) L1.length cn)) * (H * (row 5 1 (.slice (some ⟨gn, 0, none⟩) L1.length cn) L1.length (bvs L1) * (Z * ob va vsa L)))) (by ac_rfl)).rowRd
end
set_option maxRecDepth 100000 in
set_option maxHeartbeats 32000000 in
theorem whole_in (a0 a1 at_ : Int) (K r : Nat) (hK : 1 ≤ K ∧ K ≤ 14) (hr : 1 ≤ r ∧ r ≤ 4) (e0 : (bits .and .i64 a0 255).tmod 14 = (K : Int) - 1) (e1 : bits .and .i64 a1 3 = (r : Int) - 1)
    (ab : Option Addr) (cb_ : Nat) (lb : List UInt8) (i : Int) (w0 : World) (HB : Hid (BS w0 (.slice ab lb.length cb_) lb)) (lb1 : (lb.length : Int) ≤ 500) :
    Calls Try.prog 11 #[.int .i64 a0, .int .i64 a1, .int .i64 at_, .slice ab lb.length cb_, .int .i64 i] w0 fun e w' => e = .returned (.bool true) ∧ Below w0.heap.size w0 w' := by
  go_enter Try.func11, Try.ntmps11
  go_wp2_with fail
  refine (made_calls a0 a1 at_ K r hK hr e0 e1 w0 (St.init w0)).mono ?_
  rintro e w1 ⟨v1, v2, rfl, s1⟩
  obtain ⟨ax, cx, rfl, -⟩ := s1.rowSlice
  obtain ⟨ay, cy, rfl, -⟩ := s1.right.rowSlice
  have HG := Lib.hid (good_m at_ hK hr)
  clear e0 e1
  have l1 := ms_len at_ 0 K
  have l2 := ms_len at_ K r
  generalize ms at_ K r = ys at *
  generalize ms at_ 0 K = xs at *
  subst l1
  subst l2
  go_wp2_with fail
  have s2 := (s1.alloc (.cells #[.slice ax xs.length cx, .slice ay ys.length cy] 51)).eq (Q := mc w1.heap.size ax cx ay cy xs ys) (by unfold mc; rw [sep_emp])
  generalize w1.alloc (.cells #[.slice ax xs.length cx, .slice ay ys.length cy] 51) = w2 at *
  generalize w1.heap.size = bw at *
  clear s1
  have S := Lib.hid s2
  clear s2
  refine wp_region_rv [38, 43, 37, 44, 12] (PJ w0.heap.size w0 (mc bw ax cx ay cy xs ys) CF (CH xs ys (mc bw ax cx ay cy xs ys))) [0, 5, 6, 7, 9] Gf.mixed (by kernel_rfl) (by kernel_rfl) (by kernel_rfl) (fun _ => S.out.drew) ?_
  refine RXl.callV 0 38 rfl rfl rfl (Nat.le_of_ble_eq_true rfl) _ [] _ rfl rfl rfl rfl rfl (PJ.first [] (fun ρ w hag => rfl) (fun _ => rfl) (fun w s => (newx w s).mono fun e w1 ⟨fb, h1, s1⟩ => ⟨(fb, 0), h1, s1⟩)) ?_
  refine RXl.exact (.pointer (some ⟨bw, 0, none⟩)) rfl rfl rfl rfl rfl (fun j τ w' hj hJ => (by obtain ⟨vs, hv, hJ⟩ := hJ; exact (by simp [rho, upd, Spec.val, execOp, go_sem]))) ?_
  refine RXl.exact (.slice ax xs.length cx) rfl rfl rfl rfl rfl (fun j τ w' hj hJ => (by obtain ⟨vs, hv, hJ⟩ := hJ; exact (by obtain ⟨Z, q⟩ := CJ_x hJ; have c := (mc_cells q).1; simp [rho, upd, Spec.val, execOp, go_sem, c]))) ?_
  refine RXl.exact (.pointer (some ⟨bw, 1, none⟩)) rfl rfl rfl rfl rfl (fun j τ w' hj hJ => (by obtain ⟨vs, hv, hJ⟩ := hJ; exact (by simp [rho, upd, Spec.val, execOp, go_sem]))) ?_
  refine RXl.exact (.slice ay ys.length cy) rfl rfl rfl rfl rfl (fun j τ w' hj hJ => (by obtain ⟨vs, hv, hJ⟩ := hJ; exact (by obtain ⟨Z, q⟩ := CJ_x hJ; have c := (mc_cells q).2; simp [rho, upd, Spec.val, execOp, go_sem, c]))) ?_
  refine RXl.callV 1 43 rfl rfl rfl (Nat.le_of_ble_eq_true rfl) _ [.tmp 38, .tmp 40, .tmp 42] _ rfl rfl rfl rfl rfl (CJ_new ax ay cx cy HG.out mc_x mc_y (fun ρ a w h hag => by simp [h 0 38 (by decide) rfl, hag.ex 40 _ rfl rfl rfl, hag.ex 42 _ rfl rfl rfl, CF])) ?_
  refine RXl.effV 2 37 rfl rfl rfl (Nat.le_of_ble_eq_true rfl) rfl rfl rfl rfl (PJ.pass rfl (fun ρ a w h hag s => by have e := h 1 43 (by decide) rfl; exact (exec_move rfl).trans (by rw [e]; rfl))) ?_
  refine RXl.effV 3 44 rfl rfl rfl (Nat.le_of_ble_eq_true rfl) rfl rfl rfl rfl (PJ.pass rfl (fun ρ a w h hag s => by have e := h 2 37 (by decide) rfl; exact exec_extract rfl e rfl)) ?_
  refine RXl.value (.ex (.int .i64 0)) (Free.ex _) rfl rfl rfl rfl (fun ρ w' j hj hI hag => ⟨_, (by obtain ⟨a, e⟩ := PJ.val (hag.so 37 _ rfl rfl rfl); exact exec_extract rfl e rfl), rfl⟩) ?_
  refine RXl.effV 4 12 rfl rfl rfl (Nat.le_of_ble_eq_true rfl) rfl rfl rfl rfl (PJ.pass rfl (fun ρ a w h hag s => by have e := h 3 44 (by decide) rfl; exact (exec_assign rfl).trans (by rw [e]; rfl))) ?_
  refine RXl.exact (.int .i64 0) rfl rfl rfl rfl rfl (fun _ _ _ _ _ => rfl) ?_
  refine RXl.nilV _ (AgrL.upd _ _ (AgrL.unk 12 _ rfl (AgrL.upd _ _ (AgrL.unk 44 _ rfl (AgrL.unk 37 _ rfl (AgrL.unk 43 _ rfl (AgrL.upd _ _ (AgrL.upd _ _ (AgrL.upd _ _ (AgrL.upd _ _ (AgrL.unk 38 _ rfl (AgrL.base _)))))))))))) (by decide) (by decide) fun vs w8 hJ => ?_
  simp only [puts, Act.put, List.setIfInBounds_toArray, List.set_cons_succ, List.set_cons_zero]
  obtain ⟨⟨fb, p⟩, hv, s9⟩ := hJ
  rw [show vs 0 = CF 0 (fb, p) from hv 0 (by decide), show vs 1 = CF 1 (fb, p) from hv 1 (by decide), show vs 2 = CF 2 (fb, p) from hv 2 (by decide), show vs 3 = pp p from hv 3 (by decide), show vs 4 = pp p from hv 4 (by decide)]
  generalize CF 0 (fb, p) = y0
  generalize CF 1 (fb, p) = y1
  generalize CF 2 (fb, p) = y2
  clear S hv vs
  have S := Lib.hid (show St w0.heap.size w0 w8 (fx fb * (cd p fb xs ys * mc bw ax cx ay cy xs ys)) from s9.eq (sep_left_comm _ _ _))
  clear s9
  obtain ⟨hK1, hK2⟩ := hK
  obtain ⟨hr1, hr2⟩ := hr
  have lb2 : lb.length ≤ 1000000 := by omega
  obtain ⟨k5, k6⟩ := mc_cells (S.out.eq (Q := mc bw ax cx ay cy xs ys * (fx fb * cd p fb xs ys)) (by ac_rfl))
  go_wp2_with fail
  refine (dat_x xs.length 9 (by omega) (by omega) ab lb.length cb_ lb rfl lb2 (reads_arg _ HB.out) S.out).mono ?_
  rintro e w9 ⟨vx, rfl, s9⟩
  have HX1 := Lib.hid (dl_each lb 9 xs.length)
  have HX2 := Lib.hid (dl_len lb 9 xs.length)
  generalize dl lb 9 xs.length = X at *
  clear S k5 k6
  obtain ⟨ax2, cx2, rfl⟩ := obx_slice s9
  rw [HX2.out] at s9 ⊢
  have S := Lib.hid (s9.eq (Q := fx fb * (cd p fb xs ys * (obx (.slice ax2 xs.length cx2) X * mc bw ax cx ay cy xs ys))) (by ac_rfl))
  clear s9
  go_wp2_with fail
  refine (encode_x p fb xs ys 9 (.slice ax2 xs.length cx2) X HG.out HX2.out (by omega) HX1.out S.out).mono ?_
  rintro e w10 ⟨vp, rfl, s10⟩
  clear S
  obtain ⟨ap, cp, rfl⟩ := obx_slice s10
  rw [enc_len] at s10 ⊢
  obtain ⟨k5, k6⟩ := mc_cells (s10.eq (Q := mc bw ax cx ay cy xs ys * (obx (.slice ap ys.length cp) (enc xs ys 9 X) * (fx fb * (cd p fb xs ys * obx (.slice ax2 xs.length cx2) X)))) (by ac_rfl))
  obtain ⟨vsp, hp1, hp2, s11⟩ := obx_open s10
  rw [enc_len] at hp1
  obtain ⟨vsx, hx1, hx2, s12⟩ := obx_open (s11.eq (Q := obx (.slice ax2 xs.length cx2) X * (ob (.slice ap ys.length cp) vsp (enc xs ys 9 X) * (fx fb * (cd p fb xs ys * mc bw ax cx ay cy xs ys)))) (by ac_rfl))
  rw [HX2.out] at hx1
  have HPP := Lib.hid (And.intro hp1 hp2)
  have HXX := Lib.hid (And.intro hx1 hx2)
  have S := Lib.hid ((s12.alloc (.cells #[] 32)).rowMk (size := 1) (n := 0) (cap := 0) (xs := []) (Nat.le_refl _) (Nat.zero_le _) (by simp) rfl)
  clear s10 s11 s12 hp1 hp2 hx1 hx2
  have HR1 := Lib.hid (show ∀ w H, St w0.heap.size w0 w (H * (ob (.slice ax2 xs.length cx2) vsx X * (ob (.slice ap ys.length cp) vsp (enc xs ys 9 X) * (fx fb * (cd p fb xs ys * mc bw ax cx ay cy xs ys))))) → Rd w ax2 vsx ∧ Rd w ap vsp from fun w H s =>
    ⟨(ob_row (s.eq (Q := ob (.slice ax2 xs.length cx2) vsx X * (H * (ob (.slice ap ys.length cp) vsp (enc xs ys 9 X) * (fx fb * (cd p fb xs ys * mc bw ax cx ay cy xs ys))))) (by ac_rfl))).eq (by rw [HX2.out]) |>.rowRd, (ob_row (s.eq (Q := ob (.slice ap ys.length cp) vsp (enc xs ys 9 X) * (H * (ob (.slice ax2 xs.length cx2) vsx X * (fx fb * (cd p fb xs ys * mc bw ax cx ay cy xs ys))))) (by ac_rfl))).eq (by rw [enc_len]) |>.rowRd⟩)
  have HNA := Lib.hid (show (ax2 = none → cx2 = 0) ∧ (ap = none → cp = 0) from by
    have s := S.out.right
    obtain ⟨a1, c1, e1, -, -, h1, -⟩ := ((ob_row s).eq (Q := row 32 1 (.slice ax2 xs.length cx2) xs.length vsx * _) (by rw [HX2.out])).rowSlice
    obtain ⟨a2, c2, e2, -, -, h2, -⟩ := ((ob_row (s.eq (Q := ob (.slice ap ys.length cp) vsp (enc xs ys 9 X) * (ob (.slice ax2 xs.length cx2) vsx X * (fx fb * (cd p fb xs ys * mc bw ax cx ay cy xs ys)))) (by ac_rfl))).eq (Q := row 32 1 (.slice ap ys.length cp) ys.length vsp * _) (by rw [enc_len])).rowSlice
    cases e1
    cases e2
    exact ⟨h1, h2⟩)
  obtain ⟨N, hN⟩ : ∃ N, xs.length + ys.length = N := ⟨_, rfl⟩
  have HN := Lib.hid hN
  have hN1 : 2 ≤ N ∧ N ≤ 18 := by omega
  go_wp2_with (first
    | (((have q := S); clear q); at_builtin; go_must (refine wpl_append rfl _ _ rfl tBB S.out ax2 xs.length cx2 vsx rfl rfl (HR1.out _ _ S.out).1 HNA.out.1 (by rw [Nat.mul_one]; exact HXX.out.1) (nn_one HXX.out.2) (by unfold maxLen; omega) (by omega) ?_); intro v11 w11 s11 _; rw [List.nil_append, Nat.zero_add] at s11; have S1 := Lib.hid s11; clear s11 S)
    | (((have q := S1); clear q); at_builtin; go_must (refine wpl_append rfl _ _ rfl tBB S1.out ap ys.length cp vsp rfl rfl (HR1.out _ _ S1.out).2 HNA.out.2 (by rw [Nat.mul_one]; exact HPP.out.1) (nn_one HPP.out.2) (by unfold maxLen; omega) (by omega) ?_); intro v12 w12 s12 _; rw [HN.out] at s12; obtain ⟨ga, ca, rfl, -⟩ := s12.rowCells (by omega); have S2 := Lib.hid s12; clear s12 S1))
  have hnn : NN (vsx ++ vsp) := HXX.out.2.app HPP.out.2
  have hal : (all xs ys 9 X).length = N := by rw [all_len HX2.out]; exact hN
  have hvl : (vsx ++ vsp).length = (all xs ys 9 X).length := by rw [List.length_append, HXX.out.1, HPP.out.1, hal]; exact hN
  have s13 := (S2.out.eq (Q := (row 32 1 (.slice ax2 xs.length cx2) xs.length vsx * row 32 1 (.slice ap ys.length cp) ys.length vsp) * (ob (.slice (some ⟨ga, 0, none⟩) N ca) (vsx ++ vsp) (all xs ys 9 X) * (fx fb * (cd p fb xs ys * mc bw ax cx ay cy xs ys)))) (by
    unfold ob
    rw [hal, HX2.out, enc_len]
    unfold all
    rw [rows_app _ _ _ _ _ (by rw [HX2.out]; exact HXX.out.1)]
    ac_rfl)).right
  have HALL := Lib.hid (And.intro hnn (And.intro hvl hal))
  have HEA := Lib.hid (all_each (xs := xs) (ys := ys) HX2.out HX1.out)
  have HAX := Lib.hid (show ∀ s, (all xs ys 9 X).getD s [] = (all xs ys 9 X).getD s [] from fun _ => rfl)
  generalize vsx ++ vsp = vsa at *
  obtain ⟨i0, hi0, e5⟩ : ∃ i0 : Nat, i0 < N ∧ (bits .and .i64 i 255).tmod (N : Int) = (i0 : Int) := by
    refine ⟨(i % 256 % (N : Int)).toNat, ?_, ?_⟩
    · have := Int.emod_lt_of_pos (i % 256) (show (0 : Int) < (N : Int) by omega)
      have := Int.emod_nonneg (i % 256) (show (N : Int) ≠ 0 by omega)
      omega
    · rw [and_m8, Int.tmod_eq_emod_of_nonneg (by omega)]
      have := Int.emod_nonneg (i % 256) (show (N : Int) ≠ 0 by omega)
      omega
  have hNz : ¬ (N : Int) = 0 := by omega
  have hiN : (i0 : Int) < (N : Int) := by omega
  have HSR := Lib.hid (show SRd w0.heap.size w0 (ob (.slice (some ⟨ga, 0, none⟩) N ca) vsa (all xs ys 9 X) * mc bw ax cx ay cy xs ys) (.slice (some ⟨ga, 0, none⟩) N ca) ((all xs ys 9 X).map some) from (ob_srd hnn hvl s13).of (X := mc bw ax cx ay cy xs ys) (sep_comm _ _))
  have HOF := Lib.hid (show Of xs ys 9 X (((all xs ys 9 X).map some).set i0 none) from of_one HX2.out HX1.out (by rw [hal]; exact hN.symm) (by rw [hal]; exact hi0) (fun _ _ => rfl))
  have HTH := Lib.hid (show xs.length ≤ (thr (((all xs ys 9 X).map some).set i0 none) (((all xs ys 9 X).map some).set i0 none).length).length from by
    have := thr_one (L := all xs ys 9 X) (i := i0) (by rw [hal]; exact hi0)
    omega)
  have HOA := Lib.hid (show okx xs ys 9 (all xs ys 9 X) ys.length = true from okx_all HX2.out)
  clear hnn hvl hal S2 hN
  have S := Lib.hid (s13.eq (Q := fx fb * (cd p fb xs ys * (ob (.slice (some ⟨ga, 0, none⟩) N ca) vsa (all xs ys 9 X) * mc bw ax cx ay cy xs ys))) (by ac_rfl))
  clear s13
  have HMS := Lib.hid (show ∀ (l : List (List UInt8)), (∀ b ∈ l, b.length = 9) → l.length = N → lgb (l.map some) = true ∧ lgb ((l.map some).set i0 none) = true ∧ lgn ((l.map some).set i0 none) = ((9 : Nat) : Int) ∧ (l.map some).length = xs.length + ys.length from fun l hl hN2 => by
    have h1 : ∀ b, some b ∈ l.map some → b.length = 9 := fun b hb => by
      obtain ⟨c, h1, h2⟩ := List.mem_map.1 hb
      cases h2
      exact hl b h1
    have h2 : ∀ b, some b ∈ (l.map some).set i0 none → b.length = 9 := fun b hb => by
      rcases List.mem_or_eq_of_mem_set hb with h | h
      · exact h1 b h
      · cases h
    refine ⟨lgb_all (by omega) h1, lgb_all (by omega) h2, ?_, by rw [List.length_map, hN2]; exact HN.out.symm⟩
    obtain ⟨j, hj, hne⟩ : ∃ j, j < l.length ∧ j ≠ i0 := by
      by_cases h : i0 = 0
      · exact ⟨1, by omega, by omega⟩
      · exact ⟨0, by omega, by omega⟩
    refine lgn_all h2 (b := l[j]) (List.mem_iff_getElem.2 ⟨j, by simpa using hj, ?_⟩)
    rw [List.getElem_set_ne (Ne.symm hne)]
    simp)
  go_wp2_with fail
  refine (check_calls p fb xs ys HG.out (.slice (some ⟨ga, 0, none⟩) N ca) (all xs ys 9 X) 9 (by rw [HALL.out.2.2]; exact HN.out.symm) HEA.out (by omega) w12 HSR.out S.out).mono ?_
  rintro e w13 ⟨rfl, s13⟩
  rw [HOA.out]
  clear S
  have S13 := Lib.hid s13
  clear s13
  go_wp2_with fail
  obtain ⟨m1, m2, m3, m4⟩ := HMS.out (all xs ys 9 X) HEA.out HALL.out.2.2
  refine (rebuild_ok p fb xs ys HG.out (.slice (some ⟨ga, 0, none⟩) N ca) ((all xs ys 9 X).map some) i0 (by rw [HN.out]; exact hi0) m4 m1 9 m2 m3 (by omega) HOF.out.len HTH.out w13 HSR.out S13.out).mono ?_
  rintro e w14 ⟨A, Bk, v14, vs14, u14, hgj, rfl, hv14, hn14, hu14, s14⟩
  rw [dec_right HOF.out HTH.out hgj] at s14
  have hi14 : i0 < (all xs ys 9 X).length := by rw [HALL.out.2.2]; exact hi0
  have hv14' : vs14.length = (all xs ys 9 X).length := by rw [HALL.out.2.2, hv14]; exact HN.out
  have hr14 := ob_reads (B := w0.heap.size) (w0 := w0) (v := v14) hv14' hi14 hu14
  obtain ⟨gu, nu, cu, rfl⟩ := hn14 u14 (List.mem_of_getElem? hu14)
  have h9 : (all xs ys 9 X)[i0].length = 9 := HEA.out _ (List.getElem_mem _)
  obtain rfl : nu = 9 := by
    have := (hr14 w14 (fx fb * (cd p fb xs ys * (ob (.slice (some ⟨ga, 0, none⟩) N ca) vsa (all xs ys 9 X) * mc bw ax cx ay cy xs ys))) (s14.eq (sep_comm _ _))).rd.1
    omega
  obtain ⟨_, _, gw, cw, -, huw, hrw⟩ := ob_head HALL.out.2.1 HALL.out.1 i0 hi14 (s14.eq (Q := ob (.slice (some ⟨ga, 0, none⟩) N ca) vsa (all xs ys 9 X) * (ob v14 vs14 (all xs ys 9 X) * (fx fb * (cd p fb xs ys * mc bw ax cx ay cy xs ys)))) (by ac_rfl))
  rw [h9] at huw hrw
  have HCW := Lib.hid (show ∀ w H, St w0.heap.size w0 w (H * ob (.slice (some ⟨ga, 0, none⟩) N ca) vsa (all xs ys 9 X)) → w.cell? ⟨ga, i0, none⟩ = some (.slice (some ⟨gw, 0, none⟩) 9 cw) ∧ BS w (.slice (some ⟨gw, 0, none⟩) 9 cw) (all xs ys 9 X)[i0] from fun w H s => ⟨ob_cell (s.eq (sep_comm _ _)) hi14 huw, hrw w H s⟩)
  have HRU := Lib.hid hr14
  have HI14 := Lib.hid (And.intro hi14 h9)
  have HUW := Lib.hid huw
  have S := Lib.hid (s14.eq (Q := ob v14 vs14 (all xs ys 9 X) * (fx fb * (cd p fb xs ys * (mc bw ax cx ay cy xs ys * ob (.slice (some ⟨ga, 0, none⟩) N ca) vsa (all xs ys 9 X))))) (by ac_rfl))
  clear S13 s14 hgj hv14 hn14 hu14 hv14' hr14 hrw huw m1 m2 m3 m4 h9
  go_wp2_with fail
  refine wp_region_rx (fun _ w' => St w0.heap.size w0 w' (ob v14 vs14 (all xs ys 9 X) * (fx fb * (cd p fb xs ys * (mc bw ax cx ay cy xs ys * ob (.slice (some ⟨ga, 0, none⟩) N ca) vsa (all xs ys 9 X)))))) [] Gf.mixed (by kernel_rfl) (by kernel_rfl) S.out.drew ?_
  refine RXl.exact (.bool true) rfl rfl rfl rfl rfl (fun _ _ _ _ _ => rfl) ?_
  refine RXl.exact (.bool false) rfl rfl rfl rfl rfl (fun j τ w' hj hJ => by simp [rho, upd, Spec.val, execOp, go_sem]) ?_
  refine RXl.exact (.bool false) rfl rfl rfl rfl rfl (fun _ _ _ _ _ => rfl) ?_
  refine RXl.exact (.int .i64 0) rfl rfl rfl rfl rfl (fun _ _ _ _ _ => rfl) ?_
  refine RXl.exact (.bool false) rfl rfl rfl rfl rfl (fun j τ w' hj hJ => by simp [rho, upd, Spec.val, execOp, go_sem]) ?_
  refine RXl.exact (.bool false) rfl rfl rfl rfl rfl (fun _ _ _ _ _ => rfl) ?_
  refine RXl.exact (.bool false) rfl rfl rfl rfl rfl (fun _ _ _ _ _ => rfl) ?_
  refine RXl.exact (.int .i64 0) rfl rfl rfl rfl rfl (fun _ _ _ _ _ => rfl) ?_
  refine RXl.exact (.bool false) rfl rfl rfl rfl rfl (fun j τ w' hj hJ => by simp [rho, upd, Spec.val, execOp, go_sem]) ?_
  refine RXl.exact (.bool false) rfl rfl rfl rfl rfl (fun _ _ _ _ _ => rfl) ?_
  refine RXl.exact (.bool false) rfl rfl rfl rfl rfl (fun _ _ _ _ _ => rfl) ?_
  refine RXl.exact (.slice (some ⟨gu, 0, none⟩) 9 cu) rfl rfl rfl rfl rfl (fun _ _ _ _ _ => rfl) ?_
  refine RXl.exact (str (all xs ys 9 X)[i0]) rfl rfl rfl rfl rfl (fun j τ w' hj hJ => exec_convert rfl (run_str Try.underlying32 Try.underlying5 Try.underlying9 (HRU.out _ (fx fb * (cd p fb xs ys * (mc bw ax cx ay cy xs ys * ob (.slice (some ⟨ga, 0, none⟩) N ca) vsa (all xs ys 9 X)))) (St.eq (sep_comm _ _) hJ)))) ?_
  refine RXl.exact (.slice (some ⟨ga, 0, none⟩) N ca) rfl rfl rfl rfl rfl (fun _ _ _ _ _ => rfl) ?_
  refine RXl.exact (.int .i64 (i0 : Int)) rfl rfl rfl rfl rfl (fun _ _ _ _ _ => rfl) ?_
  refine RXl.exact (.pointer (some ⟨ga, i0, none⟩)) rfl rfl rfl rfl rfl (fun j τ w' hj hJ => by have t1 : (i0 : Int) < (N : Int) := (by omega); simp [rho, upd, Spec.val, execOp, go_sem, t1]) ?_
  refine RXl.exact (.slice (some ⟨gw, 0, none⟩) 9 cw) rfl rfl rfl rfl rfl (fun j τ w' hj hJ => by have c := (HCW.out _ (ob v14 vs14 (all xs ys 9 X) * (fx fb * (cd p fb xs ys * mc bw ax cx ay cy xs ys))) (St.eq (by ac_rfl) hJ)).1; simp [rho, upd, Spec.val, execOp, go_sem, c]) ?_
  refine RXl.exact (str (all xs ys 9 X)[i0]) rfl rfl rfl rfl rfl (fun j τ w' hj hJ => exec_convert rfl (run_str Try.underlying32 Try.underlying5 Try.underlying9 (HCW.out _ (ob v14 vs14 (all xs ys 9 X) * (fx fb * (cd p fb xs ys * mc bw ax cx ay cy xs ys))) (St.eq (by ac_rfl) hJ)).2)) ?_
  refine RXl.exact (.bool false) rfl rfl rfl rfl rfl (fun j τ w' hj hJ => by simp [rho, upd, Spec.val, execOp, go_sem]) ?_
  refine RXl.exact (.bool false) rfl rfl rfl rfl rfl (fun _ _ _ _ _ => rfl) ?_
  refine RXl.nilx _ (Agr.upd _ _ (Agr.upd _ _ (Agr.upd _ _ (Agr.upd _ _ (Agr.upd _ _ (Agr.upd _ _ (Agr.upd _ _ (Agr.upd _ _ (Agr.upd _ _ (Agr.upd _ _ (Agr.upd _ _ (Agr.upd _ _ (Agr.upd _ _ (Agr.upd _ _ (Agr.upd _ _ (Agr.upd _ _ (Agr.upd _ _ (Agr.upd _ _ (Agr.upd _ _ (Agr.upd _ _ (Agr.base _))))))))))))))))))))) fun w15 hJ => ?_
  obtain ⟨_, hJ⟩ := hJ
  simp only [Act.put, List.setIfInBounds_toArray, List.set_cons_succ, List.set_cons_zero]
  have S9 := Lib.hid (St.right (show St w0.heap.size w0 w15 (ob v14 vs14 (all xs ys 9 X) * (fx fb * (cd p fb xs ys * (mc bw ax cx ay cy xs ys * ob (.slice (some ⟨ga, 0, none⟩) N ca) vsa (all xs ys 9 X))))) from hJ))
  clear hJ S HRU
  obtain ⟨L0, hL0⟩ : ∃ L0, (all xs ys 9 X)[i0]'HI14.out.1 = L0 := ⟨_, rfl⟩
  have HL9 := Lib.hid (show L0.length = 9 from by rw [← hL0]; exact HI14.out.2)
  rw [hL0] at HCW
  have HL0 := Lib.hid hL0
  clear hL0
  obtain ⟨x3, hx3⟩ : ∃ x3, L0[3]'(by rw [HL9.out]; omega) = x3 := ⟨_, rfl⟩
  have hxv := bits_xor_u8' x3 5
  obtain ⟨xv, hv0⟩ : ∃ xv, x3 ^^^ 5 = xv := ⟨_, rfl⟩
  rw [hv0] at hxv
  have hxv5 : bits .xor .u8 (x3.toNat : Int) 5 = (xv.toNat : Int) := hxv
  have HX3 := Lib.hid (And.intro hx3 hv0)
  clear hv0 hxv hx3
  have S0 := Lib.hid ((S9.out.alloc (.cells #[] 32)).rowMk (size := 1) (n := 0) (cap := 0) (xs := []) (Nat.le_refl _) (Nat.zero_le _) (by simp) rfl)
  have HRA := Lib.hid (show ∀ w H, St w0.heap.size w0 w (H * ob (.slice (some ⟨ga, 0, none⟩) N ca) vsa (all xs ys 9 X)) → Rd w (some ⟨ga, 0, none⟩) vsa from fun w H s => by
    have h := (ob_row (s.eq (sep_comm _ _))).eq (Q := row 32 1 (.slice (some ⟨ga, 0, none⟩) N ca) N vsa * _) (by rw [HALL.out.2.2])
    exact h.rowRd)
  have hNm : N ≤ 1000 := by omega
  clear S9
  go_wp2_with (first
    | (((have q := S0); clear q); at_builtin; go_must (refine wpl_append rfl _ _ rfl tBB S0.out (some ⟨ga, 0, none⟩) N ca vsa rfl rfl (HRA.out _ (row 32 1 (.slice (some ⟨w15.heap.size, 0, none⟩) 0 0) 0 [] * (fx fb * (cd p fb xs ys * mc bw ax cx ay cy xs ys))) (S0.out.eq (by ac_rfl))) (fun e => by cases e) (by rw [Nat.mul_one, HALL.out.2.1, HALL.out.2.2]) (nn_one HALL.out.1) (by unfold maxLen; omega) (by omega) ?_); intro v16 w16 s16 _; rw [List.nil_append, Nat.zero_add] at s16; obtain ⟨go, co, rfl, -⟩ := s16.rowCells (by omega); have s17 := (s16.alloc (.cells #[] 5)).rowMk (size := 1) (n := 0) (cap := 0) (xs := []) (Nat.le_refl _) (Nat.zero_le _) (by simp) rfl; have q17 := HCW.out _ (row 5 1 (.slice (some ⟨w16.heap.size, 0, none⟩) 0 0) 0 [] * (row 32 1 (.slice (some ⟨go, 0, none⟩) N co) N vsa * (fx fb * (cd p fb xs ys * mc bw ax cx ay cy xs ys)))) (s17.eq (by ac_rfl)); have cw1 := q17.1; have BW1 := Lib.hid q17.2; have S1 := Lib.hid s17; clear s16 s17 S0 q17)
    | (((have q := S1); clear q); at_builtin; go_must (refine wpl_append rfl _ _ rfl tB S1.out (some ⟨gw, 0, none⟩) 9 cw (bvs L0) rfl rfl BW1.out.rd.2.2.2.2 (fun e => by cases e) (by simp [HL9.out]) (bvs_one _) (by unfold maxLen; omega) (by omega) ?_); intro v17 w17 s18 _; rw [List.nil_append, Nat.zero_add] at s18; obtain ⟨gn, cn, rfl, -⟩ := s18.rowCells (by omega); have s19 := s18.eq (sep_left_comm _ _ _); obtain ⟨-, -, -, -, hc, hf, hs⟩ := s19.row1; have co1 := hc i0 hi0; rw [HUW.out] at co1; have fo1 := hf i0; have s20 := hs i0 (.slice (some ⟨gn, 0, none⟩) 9 cn) hi0; obtain ⟨-, -, -, -, hc2, -, -⟩ := s20.row1; have co2 := hc2 i0 hi0; rw [List.getElem?_set_self (by rw [HALL.out.2.1, HALL.out.2.2]; exact hi0)] at co2; obtain ⟨-, -, -, -, -, hb1, hb2, -, hb3⟩ := (s20.eq (sep_left_comm _ _ _)).rowB'; have cb1 := hb1 3 (by rw [HL9.out]; omega); rw [HX3.out.1] at cb1; have fb1 := hb2 3; have S2 := Lib.hid (hb3 3 xv (by rw [HL9.out]; omega)); clear s18 s19 s20 hc hf hs hc2 hb1 hb2 hb3 S1 BW1 cw1))
  obtain ⟨L1, hL1⟩ : ∃ L1, L0.set 3 xv = L1 := ⟨_, rfl⟩
  rw [hL1] at S2
  have hl19 : L1.length = 9 := by rw [← hL1, List.length_set]; exact HL9.out
  obtain ⟨LO, hLO⟩ : ∃ LO, (all xs ys 9 X).set i0 L1 = LO := ⟨_, rfl⟩
  have HLOD := Lib.hid (show okx xs ys 9 LO ys.length = false from by
    rw [← hLO]
    refine okx_odd HG.out HX2.out HX1.out (by rw [HN.out]; exact hi0) (q := 3) (by omega) (by_ := 5) (by decide) ?_
    have e1 : (all xs ys 9 X).getD i0 [] = L0 := by rw [← HL0.out]; simp [List.getD, HI14.out.1]
    have e2 : L0.getD 3 0 = x3 := by rw [← HX3.out.1]; simp [List.getD, show 3 < L0.length by rw [HL9.out]; omega]
    rw [e1, e2, HX3.out.2, hL1])
  have HLO1 := Lib.hid (show LO.length = N ∧ ∀ b ∈ LO, b.length = 9 from ⟨by rw [← hLO, List.length_set]; exact HALL.out.2.2, fun b hb => by
    rw [← hLO] at hb
    rcases List.mem_or_eq_of_mem_set hb with h | h
    · exact HEA.out b h
    · rw [h]; exact hl19⟩)
  have hcap := S2.out.right.row1.2.2.1
  have hcap2 := S2.out.right.row1.2.2.2.1
  have HSO := Lib.hid (show SRd w0.heap.size w0 (row 5 1 (.slice (some ⟨gn, 0, none⟩) 9 cn) 9 (bvs L1) * (row 32 1 (.slice (some ⟨go, 0, none⟩) N co) N (vsa.set i0 (.slice (some ⟨gn, 0, none⟩) 9 cn)) * (mc bw ax cx ay cy xs ys * ob (.slice (some ⟨ga, 0, none⟩) N ca) vsa (all xs ys 9 X)))) (.slice (some ⟨go, 0, none⟩) N co) (LO.map some) from by
    rw [← hLO]
    exact odd_srd HALL.out.1 HALL.out.2.1 HI14.out.1 hl19 HALL.out.2.2 hcap hcap2)
  have HOF2 := Lib.hid (show Of xs ys 9 X ((LO.map some).set i0 none) from of_one HX2.out HX1.out (by rw [HLO1.out.1]; exact HN.out.symm) (by rw [HLO1.out.1]; exact hi0) (fun s hs => by
    rw [← hLO]
    simp only [List.getD, List.getElem?_set_ne (Ne.symm hs)]))
  have HTH2 := Lib.hid (show xs.length ≤ (thr ((LO.map some).set i0 none) ((LO.map some).set i0 none).length).length from by
    have := thr_one (L := LO) (i := i0) (by rw [HLO1.out.1]; exact hi0)
    have := HLO1.out.1
    have := HN.out
    omega)
  have HTH3 := Lib.hid (show xs.length ≤ (thr (LO.map some) (LO.map some).length).length from by
    rw [List.length_map, thr_all, List.length_range, HLO1.out.1]
    have := HN.out
    omega)
  generalize hOD : (row 5 1 (.slice (some ⟨gn, 0, none⟩) 9 cn) 9 (bvs L1) * (row 32 1 (.slice (some ⟨go, 0, none⟩) N co) N (vsa.set i0 (.slice (some ⟨gn, 0, none⟩) 9 cn)) * (mc bw ax cx ay cy xs ys * ob (.slice (some ⟨ga, 0, none⟩) N ca) vsa (all xs ys 9 X))) : Sp.HP) = OD at HSO
  have HCW2 := Lib.hid (show ∀ w H, St w0.heap.size w0 w (H * OD) → w.cell? ⟨ga, i0, none⟩ = some (.slice (some ⟨gw, 0, none⟩) 9 cw) ∧ BS w (.slice (some ⟨gw, 0, none⟩) 9 cw) L0 from fun w H s => by
    subst hOD
    exact HCW.out w (H * (row 5 1 (.slice (some ⟨gn, 0, none⟩) 9 cn) 9 (bvs L1) * (row 32 1 (.slice (some ⟨go, 0, none⟩) N co) N (vsa.set i0 (.slice (some ⟨gn, 0, none⟩) 9 cn)) * mc bw ax cx ay cy xs ys))) (s.eq (by ac_rfl)))
  have s22 := S2.out.eq (Q := fx fb * (cd p fb xs ys * OD)) (by rw [← hOD]; ac_rfl)
  generalize (w17.setCell ⟨go, i0, none⟩ _).setCell ⟨gn, 3, none⟩ _ = w22 at s22 ⊢
  clear S2 hLO hL1 hl19 hOD hcap hcap2 HCW co1 co2 fo1 cb1 fb1 hxv5
  refine (check_calls p fb xs ys HG.out (.slice (some ⟨go, 0, none⟩) N co) LO 9 (by rw [HLO1.out.1]; exact HN.out.symm) HLO1.out.2 (by omega) w22 HSO.out s22).mono ?_
  rintro e w23 ⟨rfl, s23⟩
  rw [HLOD.out]
  clear s22
  have S23 := Lib.hid s23
  clear s23
  go_wp2_with fail
  obtain ⟨m1, m2, m3, m4⟩ := HMS.out LO HLO1.out.2 HLO1.out.1
  refine (decode_ok p fb xs ys HG.out (.slice (some ⟨go, 0, none⟩) N co) (LO.map some) m4 m1 9 (by
    have hj : 0 < LO.length := by rw [HLO1.out.1]; omega
    exact lgn_all (fun b hb => by
      obtain ⟨c, h1, h2⟩ := List.mem_map.1 hb
      cases h2
      exact HLO1.out.2 b h1) (b := LO[0]) (List.mem_map.2 ⟨_, List.getElem_mem hj, rfl⟩)) (by omega) (fun s b e => HLO1.out.2 b (by
      rw [sat_all] at e
      exact List.mem_of_getElem? e)) HTH3.out w23 HSO.out S23.out).mono ?_
  rintro e w24 ⟨A2, Bk2, v24, vs24, -, rfl, hv24, hn24, s24⟩
  rw [dec_full (by rw [HLO1.out.1]; exact HN.out.symm)] at s24
  have hv24' : vs24.length = LO.length := by rw [HLO1.out.1, hv24]; exact HN.out
  obtain ⟨g24, c24, e24, -⟩ := (ob_row s24).rowCells (by rw [HLO1.out.1]; omega)
  rw [HLO1.out.1] at e24
  subst e24
  have HV24 := Lib.hid (And.intro hv24' hn24)
  have S24 := Lib.hid (s24.eq (Q := fx fb * (cd p fb xs ys * (ob (.slice (some ⟨g24, 0, none⟩) N c24) vs24 LO * OD))) (by ac_rfl))
  clear S23 s24 hv24 hn24 hv24'
  go_wp2_with fail
  refine (rebuild_ok p fb xs ys HG.out (.slice (some ⟨go, 0, none⟩) N co) (LO.map some) i0 (by rw [HN.out]; exact hi0) m4 m1 9 m2 m3 (by omega) HOF2.out.len HTH2.out w24 (HSO.out.of (X := ob (.slice (some ⟨g24, 0, none⟩) N c24) vs24 LO) rfl) S24.out).mono ?_
  rintro e w25 ⟨A3, Bk3, v25, vs25, u25, hgj3, rfl, hv25, hn25, hu25, s25⟩
  rw [dec_right HOF2.out HTH2.out hgj3] at s25
  have hv25' : vs25.length = (all xs ys 9 X).length := by rw [HALL.out.2.2, hv25]; exact HN.out
  have hr25 := ob_reads (B := w0.heap.size) (w0 := w0) (v := v25) hv25' HI14.out.1 hu25
  obtain ⟨gt, nt, ct, rfl⟩ := hn25 u25 (List.mem_of_getElem? hu25)
  rw [HL0.out] at hr25
  obtain rfl : nt = 9 := by
    have := (hr25 w25 (fx fb * (cd p fb xs ys * (ob (.slice (some ⟨g24, 0, none⟩) N c24) vs24 LO * OD))) (s25.eq (sep_comm _ _))).rd.1
    rw [HL9.out] at this
    exact this
  have HR25 := Lib.hid hr25
  have S25 := Lib.hid s25
  clear S24 s25 hgj3 hv25 hn25 hu25 hv25' hr25 m1 m2 m3 m4
  have HBO := Lib.hid (show ∀ w H, St w0.heap.size w0 w (H * (ob v25 vs25 (all xs ys 9 X) * (fx fb * (cd p fb xs ys * (ob (.slice (some ⟨g24, 0, none⟩) N c24) vs24 LO * OD))))) → BSS w (.slice (some ⟨go, 0, none⟩) N co) LO from fun w H s => by
    have h := HSO.out.brd
    have e : ((LO.map some).map fun o => o.getD []) = LO := by rw [List.map_map]; exact List.map_id _
    rw [e] at h
    exact h.bss (H := H * (ob v25 vs25 (all xs ys 9 X) * (fx fb * (cd p fb xs ys * ob (.slice (some ⟨g24, 0, none⟩) N c24) vs24 LO)))) (s.eq (by ac_rfl)))
  have HBD := Lib.hid (show ∀ w H, St w0.heap.size w0 w (H * (ob v25 vs25 (all xs ys 9 X) * (fx fb * (cd p fb xs ys * (ob (.slice (some ⟨g24, 0, none⟩) N c24) vs24 LO * OD))))) → BSS w (.slice (some ⟨g24, 0, none⟩) N c24) LO from fun w H s =>
    ob_bss (s.eq (Q := ob (.slice (some ⟨g24, 0, none⟩) N c24) vs24 LO * (H * (ob v25 vs25 (all xs ys 9 X) * (fx fb * (cd p fb xs ys * OD))))) (by ac_rfl)))
  have HBU := Lib.hid (show ∀ w Z, St w0.heap.size w0 w ((ob v25 vs25 (all xs ys 9 X) * (fx fb * (cd p fb xs ys * (ob (.slice (some ⟨g24, 0, none⟩) N c24) vs24 LO * OD)))) * Z) → BS w (.slice (some ⟨gt, 0, none⟩) 9 ct) L0 ∧ w.cell? ⟨ga, i0, none⟩ = some (.slice (some ⟨gw, 0, none⟩) 9 cw) ∧ BS w (.slice (some ⟨gw, 0, none⟩) 9 cw) L0 from fun w Z s =>
    ⟨HR25.out w (Z * (fx fb * (cd p fb xs ys * (ob (.slice (some ⟨g24, 0, none⟩) N c24) vs24 LO * OD)))) (s.eq (by ac_rfl)), HCW2.out w (Z * (ob v25 vs25 (all xs ys 9 X) * (fx fb * (cd p fb xs ys * ob (.slice (some ⟨g24, 0, none⟩) N c24) vs24 LO)))) (s.eq (by ac_rfl))⟩)
  have hLN : LO.length ≤ 1000000 := by rw [HLO1.out.1]; omega
  generalize hXX : ((ob v25 vs25 (all xs ys 9 X) * (fx fb * (cd p fb xs ys * (ob (.slice (some ⟨g24, 0, none⟩) N c24) vs24 LO * OD)))) : Sp.HP) = XH at *
  clear HCW2 HR25
  go_wp2_with fail
  refine wp_region_rv [167, 169, 170, 187] (PJ w0.heap.size w0 XH WF (WH LO XH)) [12, 14, 15, 32] Gf.mixed (by kernel_rfl) (by kernel_rfl) (by kernel_rfl) (fun _ => S25.out.drew) ?_
  refine RXl.exact (.bool false) rfl rfl rfl rfl rfl (fun _ _ _ _ _ => rfl) ?_
  refine RXl.exact (.bool true) rfl rfl rfl rfl rfl (fun j τ w' hj hJ => (by obtain ⟨vs, hv, hJ⟩ := hJ; exact (by simp [rho, upd, Spec.val, execOp, go_sem]))) ?_
  refine RXl.exact (.bool true) rfl rfl rfl rfl rfl (fun _ _ _ _ _ => rfl) ?_
  refine RXl.exact (.int .i64 0) rfl rfl rfl rfl rfl (fun _ _ _ _ _ => rfl) ?_
  refine RXl.exact (.bool true) rfl rfl rfl rfl rfl (fun j τ w' hj hJ => (by obtain ⟨vs, hv, hJ⟩ := hJ; exact (by simp [rho, upd, Spec.val, execOp, go_sem]))) ?_
  refine RXl.exact (.bool true) rfl rfl rfl rfl rfl (fun _ _ _ _ _ => rfl) ?_
  refine RXl.exact (.bool true) rfl rfl rfl rfl rfl (fun _ _ _ _ _ => rfl) ?_
  refine RXl.exact (.int .i64 0) rfl rfl rfl rfl rfl (fun _ _ _ _ _ => rfl) ?_
  refine RXl.exact (.bool true) rfl rfl rfl rfl rfl (fun j τ w' hj hJ => (by obtain ⟨vs, hv, hJ⟩ := hJ; exact (by simp [rho, upd, Spec.val, execOp, go_sem]))) ?_
  refine RXl.exact (.bool true) rfl rfl rfl rfl rfl (fun _ _ _ _ _ => rfl) ?_
  refine RXl.exact (.bool true) rfl rfl rfl rfl rfl (fun _ _ _ _ _ => rfl) ?_
  refine RXl.exact (.slice (some ⟨g24, 0, none⟩) N c24) rfl rfl rfl rfl rfl (fun _ _ _ _ _ => rfl) ?_
  refine RXl.callV 0 167 rfl rfl rfl (Nat.le_of_ble_eq_true rfl) _ [.tmp 166] _ rfl rfl rfl rfl rfl (PJ.first [.slice (some ⟨g24, 0, none⟩) N c24] (fun ρ w hag => by simp [hag.ex 166 _ rfl rfl rfl]) (fun _ => rfl) (fun w s => (Str.strings_calls (.slice (some ⟨g24, 0, none⟩) N c24) LO w HBD.out hLN s).mono fun e w1 ⟨v, h1, s1⟩ => ⟨(v, v), h1, s1⟩)) ?_
  refine RXl.exact (.slice (some ⟨go, 0, none⟩) N co) rfl rfl rfl rfl rfl (fun _ _ _ _ _ => rfl) ?_
  refine RXl.callV 1 169 rfl rfl rfl (Nat.le_of_ble_eq_true rfl) _ [.tmp 168] _ rfl rfl rfl rfl rfl (PJ.call (fun a => [.slice (some ⟨go, 0, none⟩) N co]) (fun ρ a w h hag => by simp [hag.ex 168 _ rfl rfl rfl]) (fun _ _ => rfl) (fun a w s => (Str.strings_calls (R := row 9 1 a.1 LO.length (Str.sv LO) * XH) (.slice (some ⟨go, 0, none⟩) N co) LO w (fun w' H s => HBO.out w' (H * row 9 1 a.1 LO.length (Str.sv LO)) (s.eq (sep_assoc _ _ _).symm)) hLN s).mono fun e w1 ⟨v, h1, s1⟩ => ⟨(a.1, v), h1, fun k hk => (by match k, hk with | 0, _ => rfl), s1⟩)) ?_
  refine RXl.callV 2 170 rfl rfl rfl (Nat.le_of_ble_eq_true rfl) _ [.tmp 167, .tmp 169] _ rfl rfl rfl rfl rfl (PJ.call (fun a => [a.1, a.2]) (fun ρ a w h hag => by have e1 := h 0 167 (by decide) rfl; have e2 := h 1 169 (by decide) rfl; simp [e1, e2, WF]) (fun _ _ => rfl) (fun a w s => (Str.same_calls a.1 a.2 LO LO w (Str.St.sl LO (St.right (show St w0.heap.size w0 w (row 9 1 a.2 LO.length (Str.sv LO) * (row 9 1 a.1 LO.length (Str.sv LO) * XH)) from s))) (Str.St.sl LO (show St w0.heap.size w0 w (row 9 1 a.2 LO.length (Str.sv LO) * (row 9 1 a.1 LO.length (Str.sv LO) * XH)) from s))).mono fun e w1 ⟨h1, h2⟩ => ⟨a, by rw [h1]; simp [WF], fun k hk => rfl, St.keep s h2⟩)) ?_
  refine RXl.value (.ex (.bool true)) (Free.ex _) rfl rfl rfl rfl (fun ρ w' j hj hI hag => ⟨_, (by obtain ⟨a, e⟩ := PJ.val (hag.so 170 _ rfl rfl rfl); simp [execOp, go_sem, e, WF, hag.ex 165 _ rfl rfl rfl]), rfl⟩) ?_
  refine RXl.exact (.bool true) rfl rfl rfl rfl rfl (fun _ _ _ _ _ => rfl) ?_
  refine RXl.exact (.int .i64 0) rfl rfl rfl rfl rfl (fun _ _ _ _ _ => rfl) ?_
  refine RXl.exact (.bool true) rfl rfl rfl rfl rfl (fun j τ w' hj hJ => (by obtain ⟨vs, hv, hJ⟩ := hJ; exact (by simp [rho, upd, Spec.val, execOp, go_sem]))) ?_
  refine RXl.exact (.bool true) rfl rfl rfl rfl rfl (fun _ _ _ _ _ => rfl) ?_
  refine RXl.exact (.bool true) rfl rfl rfl rfl rfl (fun _ _ _ _ _ => rfl) ?_
  refine RXl.exact (.slice (some ⟨gt, 0, none⟩) 9 ct) rfl rfl rfl rfl rfl (fun _ _ _ _ _ => rfl) ?_
  refine RXl.exact (str L0) rfl rfl rfl rfl rfl (fun j τ w' hj hJ => (by obtain ⟨vs, hv, hJ⟩ := hJ; exact (exec_convert rfl (run_str Try.underlying32 Try.underlying5 Try.underlying9 (by obtain ⟨Z, q⟩ := WJ_x hJ; exact (HBU.out _ Z q).1))))) ?_
  refine RXl.exact (.slice (some ⟨ga, 0, none⟩) N ca) rfl rfl rfl rfl rfl (fun _ _ _ _ _ => rfl) ?_
  refine RXl.exact (.int .i64 (i0 : Int)) rfl rfl rfl rfl rfl (fun _ _ _ _ _ => rfl) ?_
  refine RXl.exact (.pointer (some ⟨ga, i0, none⟩)) rfl rfl rfl rfl rfl (fun j τ w' hj hJ => (by obtain ⟨vs, hv, hJ⟩ := hJ; exact (by have t1 : (i0 : Int) < (N : Int) := (by omega); simp [rho, upd, Spec.val, execOp, go_sem, t1]))) ?_
  refine RXl.exact (.slice (some ⟨gw, 0, none⟩) 9 cw) rfl rfl rfl rfl rfl (fun j τ w' hj hJ => (by obtain ⟨vs, hv, hJ⟩ := hJ; exact (by obtain ⟨Z, q⟩ := WJ_x hJ; have c := (HBU.out _ Z q).2.1; simp [rho, upd, Spec.val, execOp, go_sem, c]))) ?_
  refine RXl.exact (str L0) rfl rfl rfl rfl rfl (fun j τ w' hj hJ => (by obtain ⟨vs, hv, hJ⟩ := hJ; exact (exec_convert rfl (run_str Try.underlying32 Try.underlying5 Try.underlying9 (by obtain ⟨Z, q⟩ := WJ_x hJ; exact (HBU.out _ Z q).2.2))))) ?_
  refine RXl.exact (.bool true) rfl rfl rfl rfl rfl (fun j τ w' hj hJ => (by obtain ⟨vs, hv, hJ⟩ := hJ; exact (by simp [rho, upd, Spec.val, execOp, go_sem]))) ?_
  refine RXl.exact (.bool true) rfl rfl rfl rfl rfl (fun _ _ _ _ _ => rfl) ?_
  refine RXl.exact (.bool true) rfl rfl rfl rfl rfl (fun _ _ _ _ _ => rfl) ?_
  refine RXl.callV 3 187 rfl rfl rfl (Nat.le_of_ble_eq_true rfl) _ [] _ rfl rfl rfl rfl rfl (PJ.call (fun a => []) (fun ρ a w h hag => rfl) (fun _ _ => rfl) (fun a w s => (awake4_calls w s).mono fun e w1 ⟨h1, s1⟩ => ⟨a, h1, fun k hk => rfl, s1⟩)) ?_
  refine RXl.value (.ex (.bool true)) (Free.ex _) rfl rfl rfl rfl (fun ρ w' j hj hI hag => ⟨_, (by obtain ⟨a, e⟩ := PJ.val (hag.so 187 _ rfl rfl rfl); simp [execOp, go_sem, e, WF, hag.ex 186 _ rfl rfl rfl]), rfl⟩) ?_
  refine RXl.exact (.bool true) rfl rfl rfl rfl rfl (fun _ _ _ _ _ => rfl) ?_
  refine RXl.nilV _ (AgrL.upd _ _ (AgrL.upd _ _ (AgrL.unk 187 _ rfl (AgrL.upd _ _ (AgrL.upd _ _ (AgrL.upd _ _ (AgrL.upd _ _ (AgrL.upd _ _ (AgrL.upd _ _ (AgrL.upd _ _ (AgrL.upd _ _ (AgrL.upd _ _ (AgrL.upd _ _ (AgrL.upd _ _ (AgrL.upd _ _ (AgrL.upd _ _ (AgrL.upd _ _ (AgrL.upd _ _ (AgrL.upd _ _ (AgrL.unk 170 _ rfl (AgrL.unk 169 _ rfl (AgrL.upd _ _ (AgrL.unk 167 _ rfl (AgrL.upd _ _ (AgrL.upd _ _ (AgrL.upd _ _ (AgrL.upd _ _ (AgrL.upd _ _ (AgrL.upd _ _ (AgrL.upd _ _ (AgrL.upd _ _ (AgrL.upd _ _ (AgrL.upd _ _ (AgrL.upd _ _ (AgrL.upd _ _ (AgrL.base _)))))))))))))))))))))))))))))))))))) (by decide) (by decide) fun vs w26 hJ => ?_
  simp only [puts, Act.put, List.setIfInBounds_toArray, List.set_cons_succ, List.set_cons_zero]
  obtain ⟨⟨z1, z2⟩, hv, s26⟩ := hJ
  have S26 := Lib.hid s26
  clear s26 S25
  rw [show vs 0 = z1 from hv 0 (by decide), show vs 1 = z2 from hv 1 (by decide), show vs (0 + 1 + 1) = .bool true from hv 2 (by decide), show vs (0 + 1 + 1 + 1) = .bool true from hv 3 (by decide)]
  clear hv
  go_wp2_with fail
  go_ret
  exact ⟨rfl, S26.out.below⟩
set_option maxRecDepth 100000 in
set_option maxHeartbeats 8000000 in
theorem whole_walk (a0 a1 at_ : Int) (ab : Option Addr) (cb_ : Nat) (lb : List UInt8) (i : Int) (w0 : World) (_h0 : (Lit.int .i64 a0).wf = true) (_h1 : (Lit.int .i64 a1).wf = true) (_h2 : (Lit.int .i64 at_).wf = true)
    (hB : BS w0 (.slice ab lb.length cb_) lb) (_hB2 : lb.length * 1 ≤ 140737488351232) (_h5 : (Lit.int .i64 i).wf = true) :
    Calls Try.prog 11 #[.int .i64 a0, .int .i64 a1, .int .i64 at_, .slice ab lb.length cb_, .int .i64 i] w0 fun e w' => e = .returned (.bool true) ∧ Below w0.heap.size w0 w' := by
  by_cases h2 : (lb.length : Int) ≤ 500
  · obtain ⟨K, hK, e0⟩ := k_of a0
    obtain ⟨r, hr, e1⟩ := r_of a1
    exact whole_in a0 a1 at_ K r hK hr e0 e1 ab cb_ lb i w0 (Lib.hid hB) h2
  · have h2' : (500 : Int) < (lb.length : Int) := by omega
    clear hB h2
    go_enter Try.func11, Try.ntmps11
    go_wp2_with fail
    refine (awake4_calls w0 (St.init w0)).mono ?_
    rintro e w1 ⟨rfl, s1⟩
    have S1 := Lib.hid s1
    clear s1
    go_wp2_with fail
    go_ret
    exact ⟨rfl, S1.out.below⟩
end Go.Proofs.Ytjnfhppjkadlpaa.Cd
